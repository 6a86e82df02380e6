/- Laws and walks that a claim of this seat leans on: Base, Data, Make, Lists, Model, Meas. -/
import Derived.WalkKit
import Derived.Handy
import Derived.Lib.Hide
import Derived.Deep.WholeRow
import Derived.Test.YtpngepnfinbaoaaGreatProg
import Derived.Laws.MakeOwn
import Derived.Lib.ItoaNum
import Derived.Test.YtpngepnfinbaoaaGreatC00
set_option maxRecDepth 100000
set_option maxHeartbeats 8000000
set_option linter.all false
namespace Go.Proofs.YtpngepnfinbaoaaGreat
open Go.RowKit
/-! ### the world grows: nothing that was there has turned -/
abbrev Ext (w w':World):Prop:=Below w.heap.size w w'
theorem Ext.trans {w w' w'':World} (h:Ext w w') (k:Ext w' w''):Ext w w'':=Below.trans h (Below.mono k h.size)
theorem ext_alloc (w:World) (o:Obj):Ext w (w.alloc o):=(Below.refl _ _).alloc (Nat.le_refl _) o
theorem Ext.alloc {w w':World} (h:Ext w w') (o:Obj):Ext w (w'.alloc o):=h.trans (ext_alloc w' o)
theorem Ext.drew {w w':World} (h:Ext w w'):Ext w w'.drew:=Below.drew h
def Has (w:World) (b o:Nat) (cs:List Value):Prop:=∀ j u,cs[j]? = some u->w.cell? ⟨b,o+j,none⟩=some u
theorem Has.ext {w w':World} {b o:Nat} {cs:List Value} (h:Has w b o cs) (hx:Ext w w'):Has w' b o cs:=by
 intro j u hj
 have:=h j u hj
 exact (hx.cell (p:=⟨b,o+j,none⟩) (World.block_lt_of_cell? w _ this)).trans this
theorem Has.alloc (w:World) (cs:List Value) (t:TypeId):Has (w.alloc (.cells cs.toArray t)) w.heap.size 0 cs:=by
 intro j u hj
 rw [cell_of_row _ w.heap.size _ cs.toArray t (0,0) (heap_alloc_new w _)]
 simpa using hj
def Hd (s:Value) (n b o:Nat):Prop:=∃ a cap,s=.slice a n cap/\n<=cap/\cap<=maxLen/\(0<n->a=some ⟨b,o,none⟩)
/-! ### one block may be written: all others stay -/
theorem Has.grown {w w':World} {B b o:Nat} {cs:List Value} (h:Has w b o cs) (hg:w.grownBy w' (some B)) (hne:b≠B):Has w' b o cs :=
 fun j u hj=>hg.cell (h j u hj) (by simpa using hne)
theorem Ext.grown {w0 w w':World} {B:Nat} (h:Ext w0 w) (hg:w.grownBy w' (some B)) (hB:w0.heap.size<=B):Ext w0 w' :=
 Below.grown h hg h.size (fun k hk=>by cases hk;exact hB)
theorem ret_bool {a b:Bool} (h:a=b):Ending.returned (.bool a)=.returned (.bool b):=by rw [h]
theorem ret_int {k:IntKind} {a b:Int} (h:a=b):Ending.returned (.int k a)=.returned (.int k b):=by rw [h]
def Blk (w:World) (B:Nat) (cs:Array Value) (T:TypeId):Prop:=w.heap[B]? = some (.cells cs T (0,0))
theorem Blk.lt {w:World} {B:Nat} {cs:Array Value} {T:TypeId} (h:Blk w B cs T):B<w.heap.size:=(Array.getElem?_eq_some_iff.1 h).1
theorem Blk.cell {w:World} {B:Nat} {cs:Array Value} {T:TypeId} (h:Blk w B cs T) (j:Nat):w.cell? ⟨B,j,none⟩=cs[j]?:=cell_of_row w B j _ _ _ h
theorem Blk.frozen {w:World} {B:Nat} {cs:Array Value} {T:TypeId} (h:Blk w B cs T) (j:Nat):w.frozen? ⟨B,j,none⟩=false:=by
 unfold Blk at h;simp [World.frozen?,h]
theorem Blk.ext {w w':World} {B:Nat} {cs:Array Value} {T:TypeId} (h:Blk w B cs T) (hx:Ext w w'):Blk w' B cs T:=(hx.block B h.lt).trans h
theorem Blk.grown {w w':World} {B B':Nat} {cs:Array Value} {T:TypeId} (h:Blk w B cs T) (hg:w.grownBy w' (some B')) (hne:B≠B'):Blk w' B cs T :=
 (hg.block B h.lt (by simpa using hne)).trans h
theorem Blk.new (w:World) (cs:Array Value) (T:TypeId):Blk (w.alloc (.cells cs T)) w.heap.size cs T:=heap_alloc_new w _
theorem Blk.alloc {w:World} {B:Nat} {cs:Array Value} {T:TypeId} (h:Blk w B cs T) (o:Obj):Blk (w.alloc o) B cs T:=h.ext (ext_alloc w o)
theorem Blk.drew {w:World} {B:Nat} {cs:Array Value} {T:TypeId} (h:Blk w B cs T):Blk w.drew B cs T:=h
theorem Blk.set {w:World} {B:Nat} {cs:Array Value} {T:TypeId} (h:Blk w B cs T) (j:Nat) (v:Value):Blk (w.setCell ⟨B,j,none⟩ v) B (cs.setIfInBounds j v) T:=by
 unfold Blk at *
 simp [World.setCell,Array.getElem?_modify,h]
theorem Blk.has {w:World} {B:Nat} {cs:List Value} {T:TypeId} (h:Blk w B cs.toArray T):Has w B 0 cs:=by
 intro j u hj
 rw [h.cell];simpa using hj
theorem gb_refl (w:World) (B:Nat):w.grownBy w (some B):=⟨rfl,rfl,rfl,Nat.le_refl _,fun _ _ _=>rfl⟩
theorem gb_trans {a b c:World} {B:Nat} (h:a.grownBy b (some B)) (k:b.grownBy c (some B)):a.grownBy c (some B) :=
 ⟨k.os.trans h.os,k.tape.trans h.tape,k.output.trans h.output,Nat.le_trans h.size k.size,fun j hj hne=>(k.block j (Nat.lt_of_lt_of_le hj h.size) hne).trans (h.block j hj hne)⟩
theorem gb_set (w:World) (B j:Nat) (v:Value):w.grownBy (w.setCell ⟨B,j,none⟩ v) (some B) :=
 ⟨rfl,rfl,rfl,by simp [World.setCell],fun k hk hne=>Below.heap_setCell _ _ _ _ (by intro e;subst e;simp at hne)⟩
theorem gb_ext {w w':World} (h:Ext w w') (B:Nat):w.grownBy w' (some B):=⟨h.os,h.tape,h.output,h.size,fun k hk _=>h.block k hk⟩
theorem gb_alloc {a w:World} {B:Nat} (h:a.grownBy w (some B)) (o:Obj):a.grownBy (w.alloc o) (some B):=gb_trans h (gb_ext (ext_alloc w o) B)
theorem gb_drew {a w:World} {B:Nat} (h:a.grownBy w (some B)):a.grownBy w.drew (some B):=⟨h.os,h.tape,h.output,h.size,h.block⟩
def Rows {α:Type} (size:Nat) (R:α->Nat->Nat->Prop):List α->Nat->Nat->Prop
 | [],_,_=>True
 | x::l,b,o=>R x b o/\Rows size R l b (o+size)
theorem Rows.get {α:Type} {size:Nat} {R:α->Nat->Nat->Prop} {l:List α}:∀ {b o:Nat},Rows size R l b o->∀ {k:Nat} {x:α},l[k]? = some x->R x b (o+k*size):=by
 induction l with
 | nil=>intro b o _ k x h;simp at h
 | cons y l ih =>
  intro b o h k x hk
  cases k with
  | zero=>simp at hk;subst hk;simpa using h.1
  | succ k =>
   have:=ih h.2 (k:=k) (x:=x) (by simpa using hk)
   rw [show o+(k+1)*size=o+size+k*size by rw [Nat.add_mul];omega];exact this
theorem Rows.mono {α:Type} {size:Nat} {R R':α->Nat->Nat->Prop} {l:List α} (hr:∀ x∈l,∀ b o,R x b o->R' x b o):∀ {b o:Nat},Rows size R l b o->Rows size R' l b o:=by
 induction l with
 | nil=>intro b o _;trivial
 | cons y l ih=>intro b o h;exact ⟨hr y (by simp) _ _ h.1,ih (fun x hx=>hr x (by simp [hx])) h.2⟩
def Sl {α:Type} (size:Nat) (R:α->Nat->Nat->Prop) (s:Value) (l:List α):Prop:=∃ b o,Hd s l.length b o/\Rows size R l b o
theorem Sl.mono {α:Type} {size:Nat} {R R':α->Nat->Nat->Prop} {s:Value} {l:List α} (h:Sl size R s l) (hr:∀ x∈l,∀ b o,R x b o->R' x b o):Sl size R' s l:=by
 obtain ⟨b,o,h1,h2⟩:=h
 exact ⟨b,o,h1,h2.mono hr⟩
theorem Sl.open {α:Type} {size:Nat} {R:α->Nat->Nat->Prop} {s:Value} {l:List α} (h:Sl size R s l) :
  ∃ a b o cap,s=.slice a l.length cap/\l.length<=cap/\cap<=9223372036854775807/\(0<l.length->a=some ⟨b,o,none⟩)/\Rows size R l b o:=by
 obtain ⟨b,o,⟨a,cap,h1,h2,h3,h4⟩,h5⟩:=h
 exact ⟨a,b,o,cap,h1,h2,by simpa [maxLen] using h3,h4,h5⟩
theorem Sl.nil {α:Type} (size:Nat) (R:α->Nat->Nat->Prop):Sl size R (.slice none 0 0) ([]:List α):=⟨0,0,⟨none,0,by simp,by simp,by simp [maxLen],by simp⟩,trivial⟩
/-! ### a struct is read whole -/
def aggB:TypeDesc->Bool
 | .struct _ | .array _ _=>true
 | _=>false
def Agg (P:Program) (ty:TypeId) (n:Nat):Prop:=(P.underlying ty).map aggB=some true/\(P.info? ty).map (·.size)=some n
theorem run_loadVar_has {P:Program} (w:World) (b o:Nat) (ty:TypeId) (cs:List Value) (h:Has w b o cs) (hu:Agg P ty cs.length) :
  (loadVar ty ⟨b,o,none⟩).run P w=.ok (.agg cs.toArray) w:=by
 obtain ⟨hd,hi⟩:=hu
 have hl:(loadCells ⟨b,o,none⟩ cs.length).run P w=.ok cs.toArray w :=
  run_loadCells_list (P:=P) w ⟨b,o,none⟩ cs (fun j v hv=>by
   have hadd:(⟨b,o,none⟩:Addr).add j=⟨b,o+j,none⟩:=by unfold Addr.add;split<;>simp_all
   rw [hadd];exact h j v hv)
 cases hq:P.info? ty with
 | none=>simp [hq] at hi
 | some i =>
  have hs:i.size=cs.length:=by simpa [hq] using hi
  have hagg:(isAgg ty).run P w=.ok true w:=by
   cases hu:P.underlying ty with
   | none=>simp [hu] at hd
   | some d =>
    unfold isAgg
    rw [Sem.run_bind,run_underlying hu w]
    rw [hu] at hd
    cases d<;>simp_all [aggB]
  simp [loadVar,Sem.run_bind,hagg,sizeOf,typeInfo,hq,hs,hl]
theorem wpList_load_has {P:Program} {ops:Array Oper} {rest:List Oper} {o:Oper} {a:Act} {w:World} {Q:Exit->Act->World->Prop} (hw:Region.wanted o (yielded ops a.tmps)=true) (ty:TypeId) (x:Operand) (ho:o.op=.load ty x)
  {b off:Nat} (hx:a.eval x=.pointer (some ⟨b,off,none⟩)) {cs:List Value} {n:Nat} (hg:Has w b off cs) (hu:Agg P ty n) (hn:cs.length=n)
  (h:wpList P ops Q rest (a.put o.dst (.agg cs.toArray)) w):wpList P ops Q (o::rest) a w :=
 BigFrame.wpList_want hw fun _ hK=>by
  subst hn
  unfold Oper.wp execOp
  simp only [ho,hx,Instr.loadAt,Instr.sureAddr,Sem.run_bind,Sem.run_pure,Result.andThen_ok,run_loadVar_has w b off ty cs hg hu]
  exact hK _ _ h
def Leads (P:Program) (g:FuncId):Prop:=∀ (args:Array Value) (w:World),(callFunc g args).run P w=.ok (.enter g args) w
theorem leads_of {P : Program} {f : FuncId} {fn : Func} {c : Code} (hf : P.funcs[f]? = some fn) (hname : (fn.name == "runtime.NumGoroutine") = false) (hb : fn.body = some c) : Leads P f :=
 fun args w=>by
  have h1 : fn.name ≠ "runtime.NumGoroutine" := by simpa using hname
  simp [callFunc,hf,h1,hb,mark]
theorem wpList_call_fv {P:Program} {ops:Array Oper} {rest:List Oper} {o:Oper} {a:Act} {w:World} {Q:Exit->Act->World->Prop} (hw:Region.wanted o (yielded ops a.tmps)=true)
  (x:Operand) (l:List Operand) (ats:Array TypeId) (ho:o.op=.call { callee:=.value x,args:=l.toArray,argTypes:=ats })
  {g:FuncId} {lb:Array Value} (hx:a.eval x=.func (.func g) #[] lb) (eg:Leads P g) {args:List Value} (hargs:l.map a.eval=args) {v:Value} {R:World->Prop}
  (hc:Calls P g (args.toArray++lb) w fun r w'=>r=.returned v/\R w') (h:∀ w',R w'->wpList P ops Q rest (a.put o.dst v) w'):wpList P ops Q (o::rest) a w :=
 BigFrame.wpList_want hw fun K hK=>by
  obtain ⟨dst,op,ty,pos,after,guard⟩:=o
  simp only at ho
  subst ho
  subst hargs
  rw [<-List.map_toArray] at hc
  generalize l.toArray=xs at *
  have hrun:(execOp a.eval { dst,op:=.call { callee:=.value x,args:=xs,argTypes:=ats },type:=ty,pos,after,guard }).run P w=.ok (.enter g (xs.map a.eval++lb)) w:=by
   have h1:execOp a.eval { dst,op:=.call { callee:=.value x,args:=xs,argTypes:=ats },type:=ty,pos,after,guard } = (Deferred.ofValue (a.eval x) (xs.map a.eval) >>= fun d=>invoke d.target d.args):=rfl
   have h2:(Deferred.ofValue (.func (.func g) #[] lb) (xs.map a.eval) >>= fun d=>invoke d.target d.args)=callFunc g (#[]++xs.map a.eval++lb):=rfl
   rw [h1,hx,h2,eg,Array.empty_append]
  unfold Oper.wp
  rw [hrun]
  exact hc.mono fun r w' ⟨hr,hR⟩=>by subst hr;exact hK _ _ (h w' hR)
theorem wpList_store_new {P:Program} {ops:Array Oper} {rest:List Oper} {o:Oper} {a:Act} {w:World} {Q:Exit->Act->World->Prop} (hw:Region.wanted o (yielded ops a.tmps)=true)
  (ty:TypeId) (x y:Operand) (ho:o.op=.store ty x y) {c:Array Value} {B:Nat} (hx:a.eval x=.pointer (some ⟨B,0,none⟩)) (hB:w.heap.size=B) {cs:List Value} (hy:a.eval y=.agg cs.toArray) {n:Nat}
  (hu:Agg P ty n) (hn:cs.length=n) (hc:c.size=n) (h1:cs.all (·.oneCell')=true)
  (h:wpList P ops Q rest (a.put o.dst undef) (w.alloc (.cells cs.toArray ty))):wpList P ops Q (o::rest) a (w.alloc (.cells c ty)) :=
 BigFrame.wpList_want hw fun _ hK=>by
  subst hB
  unfold Oper.wp execOp
  simp only [ho,hx,hy]
  have:=run_storeAt_new (P:=P) w ty c cs.toArray (by rw [hu.2];simp [hn]) (by simp [hn,hc]) (by simpa using h1)
  simp only [Sem.run_bind,this,Result.andThen_ok,Sem.run_pure]
  exact hK _ _ h
theorem setRow_blk {w:World} {B:Nat} {c cs:Array Value} {T:TypeId} (h:Blk w B c T):Blk (w.setRow B cs) B cs T:=by
 unfold Blk at *
 simp [World.setRow,Array.getElem?_modify,h]
theorem gb_setRow (w:World) (B:Nat) (cs:Array Value):w.grownBy (w.setRow B cs) (some B) :=
 ⟨rfl,rfl,rfl,by simp [World.setRow],fun k hk hne=>by
  simp only [World.setRow,Array.getElem?_modify]
  rw [if_neg (by intro e;subst e;simp at hne)]⟩
theorem wpList_store_blk {P:Program} {ops:Array Oper} {rest:List Oper} {o:Oper} {a:Act} {w:World} {Q:Exit->Act->World->Prop} (hw:Region.wanted o (yielded ops a.tmps)=true)
  (ty:TypeId) (x y:Operand) (ho:o.op=.store ty x y) {c:Array Value} {B:Nat} (hb:Blk w B c ty) (hx:a.eval x=.pointer (some ⟨B,0,none⟩)) {cs:List Value} (hy:a.eval y=.agg cs.toArray) {n:Nat}
  (hu:Agg P ty n) (hn:cs.length=n) (hc:c.size=n) (h1:cs.all (·.oneCell')=true)
  (h:∀ w',Blk w' B cs.toArray ty->w.grownBy w' (some B)->wpList P ops Q rest (a.put o.dst undef) w'):wpList P ops Q (o::rest) a w :=
 BigFrame.wpList_want hw fun _ hK=>by
  unfold Oper.wp execOp
  simp only [ho,hx,hy]
  have:=run_storeVar_row (P:=P) w B ty ty c cs.toArray hb (by rw [hu.2];simp [hn]) (by simp [hn,hc]) (by simpa using h1)
  simp only [Instr.storeAt,Instr.sureAddr,Sem.run_bind,Sem.run_pure,Result.andThen_ok,this]
  exact hK _ _ (h _ (setRow_blk hb) (gb_setRow w B _))
theorem post_ret_blk {P:Program} {fn:Func} {R:Ending->World->Prop} {a:Act} {w:World} {p:Tmp} {ty:TypeId} {B:Nat} {cs:List Value} {n:Nat} (hf:fn.results = #[.cell p ty])
  (hp:a.tmps.getD p undef=.pointer (some ⟨B,0,none⟩)) (hb:Has w B 0 cs) (hu:Agg P ty n) (hn:cs.length=n) (hd:a.defers=[]) (h:R (.returned (.agg cs.toArray)) w):bodyPost P fn R .ret a w:=by
 subst hn
 refine bodyPost_ret ?_ hd h
 have hp':a.tmps[p]?.getD undef=.pointer (some ⟨B,0,none⟩):=by simpa using hp
 simp [results,hf,hp',asAddr,run_loadVar_has w B 0 ty cs hb hu]
theorem Jg {P:Program} {ops:Array Oper} {Q:Exit->Act->World->Prop} (w0:World) {id:Nat} {a:Act} (h:Ext w0 w0.drew->wpAnyH P .any ops Q (fun W=>Ext w0 W) ops.size (Array.replicate ops.size false) a w0.drew) (hm:P.follows .mixedOrders=true:=by kernel_rfl):(Code.region id ops true).wp P Q a w0:=wp_region_held_drew (S:=fun W=>Ext w0 W) hm (Below.drew (Below.refl _ _)) h
theorem Jm {P:Program} {ops:Array Oper} {rest:List Oper} {o:Oper} {a:Act} {w:World} {Q:Exit->Act->World->Prop} (ty:TypeId) {x:Operand} {b off:Nat} {cs:List Value} {n:Nat} (hg:Has w b off cs) (hu:Agg P ty n) (hn:cs.length=n)
  (h:wpList P ops Q rest (a.put o.dst (.agg cs.toArray)) w) (hw:Region.wanted o (yielded ops a.tmps)=true:=by rfl) (ho:o.op=.load ty x:=by rfl) (hx:a.eval x=.pointer (some ⟨b,off,none⟩):=by rfl):wpList P ops Q (o::rest) a w:=wpList_load_has hw ty x ho hx hg hu hn h
/-! ### a design, as data -/
structure E where
 op:Int
 w:Int
 v:Int
 sig:Int
 hi:Int
 lo:Int
 n:Int
 l:List E
structure T where
 op:Int
 sig:Int
 hi:Int
 lo:Int
 e:List E
 l:List T
structure Signal where
 name:ByteArray
 w:Int
 kind:Int
 init:Int
structure Proc where
 clocked:Bool
 l:List T
structure Chk where
 name:ByteArray
 e:E
structure Flat where
 signals:List Signal
 procs:List Proc
 checks:List Chk
theorem E.ind {P:E->Prop} (h:∀ e,(∀ x∈e.l,P x)->P e) (e:E):P e:=by
 refine E.rec (motive_1:=P) (motive_2:=fun l=>∀ x∈l,P x) ?_ ?_ ?_ e
 ·exact fun op w v sig hi lo n l ih=>h _ ih
 ·intro x hx;cases hx
 ·intro x l h1 h2 y hy
  cases hy with
  | head=>exact h1
  | tail _ hy=>exact h2 y hy
theorem T.ind {P:T->Prop} (h:∀ t,(∀ x∈t.l,P x)->P t) (t:T):P t:=by
 refine T.rec (motive_1:=P) (motive_2:=fun l=>∀ x∈l,P x) ?_ ?_ ?_ t
 ·exact fun op sig hi lo e l ih=>h _ ih
 ·intro x hx;cases hx
 ·intro x l h1 h2 y hy
  cases hy with
  | head=>exact h1
  | tail _ hy=>exact h2 y hy
/-! ### its cells -/
abbrev E.cells (e:E) (s:Value):List Value :=
 [.int .i64 e.op,.int .i64 e.w,.int .u64 e.v,.int .i64 e.sig,.int .i64 e.hi,.int .i64 e.lo,.int .i64 e.n,s]
abbrev T.cells (t:T) (s s':Value):List Value:=[.int .i64 t.op,.int .i64 t.sig,.int .i64 t.hi,.int .i64 t.lo,s,s']
abbrev Signal.cells (x:Signal):List Value:=[.string x.name,.int .i64 x.w,.int .i64 x.kind,.int .u64 x.init]
abbrev Proc.cells (p:Proc) (s:Value):List Value:=[.bool p.clocked,s]
abbrev Chk.cells (c:Chk) (s:Value):List Value:=.string c.name::c.e.cells s
/-! ### how it lies in memory -/
def EAt (w:World):E->Nat->Nat->Prop
 | ⟨op,wd,v,sig,hi,lo,n,l⟩,b,o=>∃ s b' o',Has w b o [.int .i64 op,.int .i64 wd,.int .u64 v,.int .i64 sig,.int .i64 hi,.int .i64 lo,.int .i64 n,s]/\Hd s l.length b' o'/\rows l b' o'
where rows:List E->Nat->Nat->Prop
 | [],_,_=>True
 | e::l,b,o=>EAt w e b o/\rows l b (o+8)
theorem EAt.rows_iff {w:World} (l:List E):∀ b o,EAt.rows w l b o↔Rows 8 (EAt w) l b o:=by
 induction l with
 | nil=>intro b o;simp [EAt.rows,Rows]
 | cons e l ih=>intro b o;simp [EAt.rows,Rows,ih]
abbrev Es (w:World) (s:Value) (l:List E):Prop:=Sl 8 (EAt w) s l
theorem EAt_iff {w:World} {e:E} {b o:Nat}:EAt w e b o↔∃ s,Has w b o (e.cells s)/\Es w s e.l:=by
 obtain ⟨op,wd,v,sig,hi,lo,n,l⟩:=e
 constructor
 ·rintro ⟨s,b',o',h1,h2,h3⟩
  exact ⟨s,h1,b',o',h2,(EAt.rows_iff l b' o').1 h3⟩
 ·rintro ⟨s,h1,b',o',h2,h3⟩
  exact ⟨s,b',o',h1,h2,(EAt.rows_iff l b' o').2 h3⟩
def TAt (w:World):T->Nat->Nat->Prop
 | ⟨op,sig,hi,lo,e,l⟩,b,o=>∃ s s' b' o',Has w b o [.int .i64 op,.int .i64 sig,.int .i64 hi,.int .i64 lo,s,s']/\Es w s e/\Hd s' l.length b' o'/\rows l b' o'
where rows:List T->Nat->Nat->Prop
 | [],_,_=>True
 | e::l,b,o=>TAt w e b o/\rows l b (o+6)
theorem TAt.rows_iff {w:World} (l:List T):∀ b o,TAt.rows w l b o↔Rows 6 (TAt w) l b o:=by
 induction l with
 | nil=>intro b o;simp [TAt.rows,Rows]
 | cons e l ih=>intro b o;simp [TAt.rows,Rows,ih]
abbrev Ts (w:World) (s:Value) (l:List T):Prop:=Sl 6 (TAt w) s l
theorem TAt_iff {w:World} {t:T} {b o:Nat}:TAt w t b o↔∃ s s',Has w b o (t.cells s s')/\Es w s t.e/\Ts w s' t.l:=by
 obtain ⟨op,sig,hi,lo,e,l⟩:=t
 constructor
 ·rintro ⟨s,s',b',o',h1,h0,h2,h3⟩
  exact ⟨s,s',h1,h0,b',o',h2,(TAt.rows_iff l b' o').1 h3⟩
 ·rintro ⟨s,s',h1,h0,b',o',h2,h3⟩
  exact ⟨s,s',b',o',h1,h0,h2,(TAt.rows_iff l b' o').2 h3⟩
abbrev SigAt (w:World) (x:Signal) (b o:Nat):Prop:=Has w b o x.cells
abbrev Sigs (w:World) (s:Value) (l:List Signal):Prop:=Sl 4 (SigAt w) s l
def ProcAt (w:World) (p:Proc) (b o:Nat):Prop:=∃ s,Has w b o (p.cells s)/\Ts w s p.l
abbrev Procs (w:World) (s:Value) (l:List Proc):Prop:=Sl 2 (ProcAt w) s l
def ChkAt (w:World) (c:Chk) (b o:Nat):Prop:=∃ s,Has w b o (c.cells s)/\Es w s c.e.l
abbrev Chks (w:World) (s:Value) (l:List Chk):Prop:=Sl 9 (ChkAt w) s l
def FlatV (w:World) (v:Value) (d:Flat):Prop:=∃ s p c,v=.agg #[s,p,c]/\Sigs w s d.signals/\Procs w p d.procs/\Chks w c d.checks
/-! ### the world may grow -/
theorem EAt.ext {w w':World} (hx:Ext w w') (e:E):∀ b o,EAt w e b o->EAt w' e b o:=by
 induction e using E.ind with
 | h e ih =>
  intro b o h
  obtain ⟨s,h1,h2⟩:=EAt_iff.1 h
  exact EAt_iff.2 ⟨s,h1.ext hx,h2.mono ih⟩
theorem Es.ext {w w':World} {s:Value} {l:List E} (h:Es w s l) (hx:Ext w w'):Es w' s l:=h.mono fun _ _ _ _=>EAt.ext hx _ _ _
theorem TAt.ext {w w':World} (hx:Ext w w') (t:T):∀ b o,TAt w t b o->TAt w' t b o:=by
 induction t using T.ind with
 | h t ih =>
  intro b o h
  obtain ⟨s,s',h1,h2,h3⟩:=TAt_iff.1 h
  exact TAt_iff.2 ⟨s,s',h1.ext hx,h2.ext hx,h3.mono ih⟩
theorem Ts.ext {w w':World} {s:Value} {l:List T} (h:Ts w s l) (hx:Ext w w'):Ts w' s l:=h.mono fun _ _ _ _=>TAt.ext hx _ _ _
theorem Sigs.ext {w w':World} {s:Value} {l:List Signal} (h:Sigs w s l) (hx:Ext w w'):Sigs w' s l:=h.mono fun _ _ _ _ h=>Has.ext h hx
theorem ProcAt.ext {w w':World} {p:Proc} {b o:Nat} (h:ProcAt w p b o) (hx:Ext w w'):ProcAt w' p b o:=by
 obtain ⟨s,h1,h2⟩:=h
 exact ⟨s,h1.ext hx,h2.ext hx⟩
theorem Procs.ext {w w':World} {s:Value} {l:List Proc} (h:Procs w s l) (hx:Ext w w'):Procs w' s l:=h.mono fun _ _ _ _ h=>ProcAt.ext h hx
theorem ChkAt.ext {w w':World} {p:Chk} {b o:Nat} (h:ChkAt w p b o) (hx:Ext w w'):ChkAt w' p b o:=by
 obtain ⟨s,h1,h2⟩:=h
 exact ⟨s,h1.ext hx,h2.ext hx⟩
theorem Chks.ext {w w':World} {s:Value} {l:List Chk} (h:Chks w s l) (hx:Ext w w'):Chks w' s l:=h.mono fun _ _ _ _ h=>ChkAt.ext h hx
theorem FlatV.ext {w w':World} {v:Value} {d:Flat} (h:FlatV w v d) (hx:Ext w w'):FlatV w' v d:=by
 obtain ⟨s,p,c,h0,h1,h2,h3⟩:=h
 exact ⟨s,p,c,h0,h1.ext hx,h2.ext hx,h3.ext hx⟩
theorem Es.get {w:World} {l:List E} {b o k:Nat} (h:Rows 8 (EAt w) l b o) (hk:k<l.length):∃ s,Has w b (o+k*8) (l[k].cells s)/\Es w s l[k].l :=
 EAt_iff.1 (h.get (List.getElem?_eq_getElem hk))
theorem Ts.get {w:World} {l:List T} {b o k:Nat} (h:Rows 6 (TAt w) l b o) (hk:k<l.length):∃ s s',Has w b (o+k*6) (l[k].cells s s')/\Es w s l[k].e/\Ts w s' l[k].l :=
 TAt_iff.1 (h.get (List.getElem?_eq_getElem hk))
/-! ### the types of the translation -/
theorem agg_E:Agg Tryz.prog 31 8:=by unfold Agg;exact ⟨by kernel_rfl,by kernel_rfl⟩
theorem agg_T:Agg Tryz.prog 39 6:=by unfold Agg;exact ⟨by kernel_rfl,by kernel_rfl⟩
theorem agg_Signal:Agg Tryz.prog 50 4:=by unfold Agg;exact ⟨by kernel_rfl,by kernel_rfl⟩
theorem agg_Proc:Agg Tryz.prog 36 2:=by unfold Agg;exact ⟨by kernel_rfl,by kernel_rfl⟩
theorem agg_Check:Agg Tryz.prog 99 9:=by unfold Agg;exact ⟨by kernel_rfl,by kernel_rfl⟩
theorem agg_Flat:Agg Tryz.prog 26 3:=by unfold Agg;exact ⟨by kernel_rfl,by kernel_rfl⟩
theorem madeCells_one (z:Value) (n:Nat):madeCells #[z] n=(List.replicate n z).toArray:=by
 apply Array.ext_getElem?
 intro i
 simp only [madeCells,Array.getElem?_map,Array.getElem?_range]
 by_cases h:i<n
 ·simp [h,Nat.mod_one,List.getElem?_replicate]
 ·simp [h,List.getElem?_replicate]
theorem wpList_mk {P:Program} {ops:Array Oper} {rest:List Oper} {o:Oper} {a:Act} {w:World} {Q:Exit->Act->World->Prop} (hw:Region.wanted o (yielded ops a.tmps)=true)
  (T:TypeId) (x y:Operand) (ho:o.op=.makeSlice T x y) {n:Nat} (hx:a.eval x=.int .i64 (n:Int)) (hy:a.eval y=.int .i64 (n:Int)) {e:TypeId} {z:Value} {size bytes:Nat}
  (ht:P.underlying T=some (.slice e)) (hi:(P.info? e).map (fun i=>(i.zero,i.size,i.bytes))=some (some z,size,bytes)) (hb:(bytes:Int)*(n:Int)<=281474976710656) (h63:(n:Int)<=9223372036854775807)
  (h:wpList P ops Q rest (a.put o.dst (.slice (some ⟨w.heap.size,0,none⟩) n n)) (w.alloc (.cells (madeCells z.cells (n*size)) e))):wpList P ops Q (o::rest) a w :=
 BigFrame.wpList_want hw fun _ hK=>by
  cases hq:P.info? e with
  | none=>simp [hq] at hi
  | some i =>
   simp only [hq,Option.map_some,Option.some.injEq,Prod.mk.injEq] at hi
   obtain ⟨hz,hs,hbb⟩:=hi
   subst hs
   subst hbb
   have:=run_make (P:=P) w T e i z ht hq hz .i64 .i64 n n (by omega) (by omega) hb h63
   unfold Oper.wp execOp
   simp only [Int.toNat_natCast] at this
   simp only [ho,hx,hy,Sem.run_bind,this,Result.andThen_ok,Sem.run_pure]
   exact hK _ _ h
theorem info_int:(Tryz.prog.info? 3).map (fun i=>(i.zero,i.size,i.bytes))=some (some (.int .i64 0),1,8):=by kernel_rfl
theorem info_E:(Tryz.prog.info? 31).map (fun i=>(i.zero,i.size,i.bytes))=some (some (.agg #[.int .i64 0,.int .i64 0,.int .u64 0,.int .i64 0,.int .i64 0,.int .i64 0,.int .i64 0,.slice none 0 0]),8,80):=by kernel_rfl
/-! ### slices of ints -/
abbrev ints (l:List Int):List Value:=l.map (Value.int .i64)
def IntAt (w:World) (x:Int) (b o:Nat):Prop:=w.cell? ⟨b,o,none⟩=some (.int .i64 x)
abbrev Is (w:World) (s:Value) (l:List Int):Prop:=Sl 1 (IntAt w) s l
theorem IntAt.ext {w w':World} {x:Int} {b o:Nat} (h:IntAt w x b o) (hx:Ext w w'):IntAt w' x b o :=
 (hx.cell (p:=⟨b,o,none⟩) (World.block_lt_of_cell? w _ h)).trans h
theorem Is.ext {w w':World} {s:Value} {l:List Int} (h:Is w s l) (hx:Ext w w'):Is w' s l:=h.mono fun _ _ _ _ h=>IntAt.ext h hx
theorem Is.get {w:World} {l:List Int} {b o k:Nat} (h:Rows 1 (IntAt w) l b o) (hk:k<l.length):w.cell? ⟨b,o+k,none⟩=some (.int .i64 l[k]):=by
 have:=h.get (List.getElem?_eq_getElem hk)
 simpa [IntAt] using this
theorem rows_ints {w:World} {b:Nat} (l:List Int):∀ (o:Nat),(∀ k (hk:k<l.length),w.cell? ⟨b,o+k,none⟩=some (.int .i64 l[k]))->Rows 1 (IntAt w) l b o:=by
 induction l with
 | nil=>intro o _;trivial
 | cons x l ih =>
  intro o h
  refine ⟨by have:=h 0 (by simp);simpa [IntAt] using this,ih _ fun k hk=>?_⟩
  have:=h (k+1) (by simpa using hk)
  rw [show o+1+k=o+(k+1) by omega]
  simpa using this
theorem Blk.ints {w:World} {B:Nat} {l:List Int} {T:TypeId} (h:Blk w B (ints l).toArray T) (cap:Nat) (hc:l.length<=cap) (hm:cap<=maxLen):Is w (.slice (some ⟨B,0,none⟩) l.length cap) l :=
 ⟨B,0,⟨_,cap,rfl,hc,hm,fun _=>rfl⟩,rows_ints l 0 fun k hk=>by rw [h.cell];simp [hk]⟩
def sumBy {α:Type} (f:α->Nat):List α->Nat
 | []=>0
 | x::l=>f x+sumBy f l
def maxBy {α:Type} (f:α->Nat):List α->Nat
 | []=>0
 | x::l=>max (f x) (maxBy f l)
theorem sumBy_snoc {α:Type} (f:α->Nat) (l:List α) (x:α):sumBy f (l++[x])=sumBy f l+f x:=by
 induction l with
 | nil=>simp [sumBy]
 | cons y l ih=>simp [sumBy,ih];omega
theorem maxBy_snoc {α:Type} (f:α->Nat) (l:List α) (x:α):maxBy f (l++[x])=max (maxBy f l) (f x):=by
 induction l with
 | nil=>simp [maxBy]
 | cons y l ih=>rw [List.cons_append,maxBy,maxBy,ih];omega
theorem take_snoc {α:Type} (l:List α) (k:Nat) (h:k<l.length):l.take (k+1)=l.take k++[l[k]]:=by
 rw [List.take_succ_eq_append_getElem h]
theorem sumBy_take {α:Type} (f:α->Nat) (l:List α) (k:Nat) (h:k<l.length):sumBy f (l.take (k+1))=sumBy f (l.take k)+f l[k]:=by
 rw [take_snoc l k h,sumBy_snoc]
theorem maxBy_take {α:Type} (f:α->Nat) (l:List α) (k:Nat) (h:k<l.length):maxBy f (l.take (k+1))=max (maxBy f (l.take k)) (f l[k]):=by
 rw [take_snoc l k h,maxBy_snoc]
theorem sumBy_append {α:Type} (f:α->Nat) (l r:List α):sumBy f (l++r)=sumBy f l+sumBy f r:=by
 induction l with
 | nil=>simp [sumBy]
 | cons y l ih=>simp [sumBy,ih];omega
theorem sumBy_take_le {α:Type} (f:α->Nat) (l:List α) (k:Nat):sumBy f (l.take k)<=sumBy f l:=by
 have:=sumBy_append f (l.take k) (l.drop k)
 rw [List.take_append_drop] at this
 omega
theorem maxBy_append {α:Type} (f:α->Nat) (l r:List α):maxBy f (l++r)=max (maxBy f l) (maxBy f r):=by
 induction l with
 | nil=>simp [maxBy]
 | cons y l ih=>rw [List.cons_append,maxBy,maxBy,ih];omega
theorem maxBy_take_le {α:Type} (f:α->Nat) (l:List α) (k:Nat):maxBy f (l.take k)<=maxBy f l:=by
 have:=maxBy_append f (l.take k) (l.drop k)
 rw [List.take_append_drop] at this
 omega
theorem le_sumBy {α:Type} (f:α->Nat) (l:List α) (x:α) (h:x∈l):f x<=sumBy f l:=by
 induction l with
 | nil=>cases h
 | cons y l ih =>
  simp only [sumBy]
  cases h with
  | head=>omega
  | tail _ h=>have:=ih h;omega
theorem maxBy_le_sumBy {α:Type} (f g:α->Nat) (l:List α) (h:∀ x∈l,f x<=g x):maxBy f l<=sumBy g l:=by
 induction l with
 | nil=>simp [maxBy]
 | cons y l ih =>
  have h1:=h y (by simp)
  have h2:=ih (fun x hx=>h x (by simp [hx]))
  simp only [maxBy,sumBy]
  omega
theorem length_le_sumBy {α:Type} (f:α->Nat) (l:List α) (h:∀ x∈l,1<=f x):l.length<=sumBy f l:=by
 induction l with
 | nil=>simp
 | cons y l ih =>
  have h1:=h y (by simp)
  have h2:=ih (fun x hx=>h x (by simp [hx]))
  simp only [sumBy,List.length_cons]
  omega
/-! ### nodes, and how deep they stand -/
def nodes:E->Nat
 | ⟨_,_,_,_,_,_,_,l⟩=>1+sum l
where sum:List E->Nat
 | []=>0
 | e::l=>nodes e+sum l
def deep:E->Nat
 | ⟨_,_,_,_,_,_,_,l⟩=>mx l+1
where mx:List E->Nat
 | []=>0
 | e::l=>max (deep e) (mx l)
theorem nodes_eq (e:E):nodes e=1+sumBy nodes e.l:=by
 have h:∀ l,nodes.sum l=sumBy nodes l:=by
  intro l;induction l with
  | nil=>rfl
  | cons x l ih=>simp [nodes.sum,sumBy,ih]
 cases e;simp [nodes,h]
theorem deep_eq (e:E):deep e=maxBy deep e.l+1:=by
 have h:∀ l,deep.mx l=maxBy deep l:=by
  intro l;induction l with
  | nil=>rfl
  | cons x l ih=>simp [deep.mx,maxBy,ih]
 cases e;simp [deep,h]
theorem nodes_pos (e:E):1<=nodes e:=by rw [nodes_eq];omega
theorem deep_le_nodes (e:E):deep e<=nodes e:=by
 induction e using E.ind with
 | h e ih=>rw [nodes_eq,deep_eq];have:=maxBy_le_sumBy deep nodes e.l ih;omega
def nodesT:T->Nat
 | ⟨_,_,_,_,e,l⟩=>1+sum l+sumBy nodes e
where sum:List T->Nat
 | []=>0
 | e::l=>nodesT e+sum l
def deepT:T->Nat
 | ⟨_,_,_,_,e,l⟩=>1+max (mx l) (maxBy deep e)
where mx:List T->Nat
 | []=>0
 | e::l=>max (deepT e) (mx l)
theorem nodesT_eq (t:T):nodesT t=1+sumBy nodesT t.l+sumBy nodes t.e:=by
 have h:∀ l,nodesT.sum l=sumBy nodesT l:=by
  intro l;induction l with
  | nil=>rfl
  | cons x l ih=>simp [nodesT.sum,sumBy,ih]
 cases t;simp [nodesT,h]
theorem deepT_eq (t:T):deepT t=1+max (maxBy deepT t.l) (maxBy deep t.e):=by
 have h:∀ l,deepT.mx l=maxBy deepT l:=by
  intro l;induction l with
  | nil=>rfl
  | cons x l ih=>simp [deepT.mx,maxBy,ih]
 cases t;simp [deepT,h]
theorem nodesT_pos (t:T):1<=nodesT t:=by rw [nodesT_eq];omega
theorem deepT_le_nodesT (t:T):deepT t<=nodesT t:=by
 induction t using T.ind with
 | h t ih =>
  rw [nodesT_eq,deepT_eq]
  have h1:=maxBy_le_sumBy deepT nodesT t.l ih
  have h2:=maxBy_le_sumBy deep nodes t.e (fun e _=>deep_le_nodes e)
  omega
/-! ### ranges of numbers -/
def i64r (n:Int):Prop:=-9223372036854775808<=n/\n<=9223372036854775807
def u64r (n:Int):Prop:=0<=n/\n<=18446744073709551615
def E.wf:E->Prop
 | ⟨op,w,v,sig,hi,lo,n,l⟩=>i64r op/\i64r w/\u64r v/\i64r sig/\i64r hi/\i64r lo/\i64r n/\wfs l
where wfs:List E->Prop
 | []=>True
 | e::l=>E.wf e/\wfs l
theorem E.wfs_iff (l:List E):E.wf.wfs l↔∀ e∈l,e.wf:=by
 induction l with
 | nil=>simp [E.wf.wfs]
 | cons e l ih=>simp [E.wf.wfs,ih]
theorem E.wf_iff (e:E):e.wf↔i64r e.op/\i64r e.w/\u64r e.v/\i64r e.sig/\i64r e.hi/\i64r e.lo/\i64r e.n/\∀ x∈e.l,x.wf:=by
 cases e;simp [E.wf,E.wfs_iff]
def T.wf:T->Prop
 | ⟨op,sig,hi,lo,e,l⟩=>i64r op/\i64r sig/\i64r hi/\i64r lo/\(∀ x∈e,x.wf)/\wfs l
where wfs:List T->Prop
 | []=>True
 | e::l=>T.wf e/\wfs l
theorem T.wfs_iff (l:List T):T.wf.wfs l↔∀ e∈l,e.wf:=by
 induction l with
 | nil=>simp [T.wf.wfs]
 | cons e l ih=>simp [T.wf.wfs,ih]
theorem T.wf_iff (t:T):t.wf↔i64r t.op/\i64r t.sig/\i64r t.hi/\i64r t.lo/\(∀ x∈t.e,x.wf)/\∀ x∈t.l,x.wf:=by
 cases t;simp [T.wf,T.wfs_iff]
def Signal.wf (x:Signal):Prop:=i64r x.w/\i64r x.kind/\u64r x.init/\x.name.size<=9223372036854775807
structure Flat.wf (d:Flat):Prop where
 signals:∀ x∈d.signals,x.wf
 procs:∀ p∈d.procs,∀ t∈p.l,t.wf
 checks:∀ c∈d.checks,c.e.wf
/-! ### shapes -/
def holds (w v:Int):Bool:=decide ((Lib.bitLen v.toNat:Int)<=w)
def sigW (ls:List Signal) (sig:Int):Int:=match ls[sig.toNat]? with | some s=>s.w | none=>0
def slice (ls:List Signal) (sig hi lo:Int):Bool :=
 decide (0<=sig)&&decide (sig<ls.length)&&decide (0<=lo)&&decide (lo<=hi)&&decide (hi<sigW ls sig)
def shape0 (ls:List Signal) (op w v sig hi lo n:Int) (len:Nat):Bool :=
 if op=1 then decide (len=0)&&decide (0<=w)&&decide (w<=64)&&(decide (w=0)||holds w v)&&(decide (sig=0)&&decide (hi=0)&&decide (lo=0)&&decide (n=0))
 else if op=2 then decide (len=0)&&slice ls sig hi lo&&(decide (v=0)&&decide (n=0))
 else if op=3 then decide (len=1)&&decide (0<=sig)&&decide (sig<ls.length)&&(decide (v=0)&&decide (hi=0)&&decide (lo=0)&&decide (n=0))
 else if op=4 then decide (len=1)&&decide (1<=n)&&decide (n<=6)&&(decide (v=0)&&decide (sig=0)&&decide (hi=0)&&decide (lo=0))
 else if op=5 then decide (len=2)&&decide (11<=n)&&decide (n<=26)&&(decide (v=0)&&decide (sig=0)&&decide (hi=0)&&decide (lo=0))
 else if op=6 then decide (len=3)&&(decide (v=0)&&decide (sig=0)&&decide (hi=0)&&decide (lo=0)&&decide (n=0))
 else if op=7 then decide (0<len)&&(decide (v=0)&&decide (sig=0)&&decide (hi=0)&&decide (lo=0)&&decide (n=0))
 else if op=8 then decide (len=1)&&decide (31<=n)&&decide (n<=33)&&decide (1<=w)&&decide (w<=64)&&(decide (v=0)&&decide (sig=0)&&decide (hi=0)&&decide (lo=0))
 else false
def shape (ls:List Signal):E->Bool
 | ⟨op,w,v,sig,hi,lo,n,l⟩=>shape0 ls op w v sig hi lo n l.length&&all l
where all:List E->Bool
 | []=>true
 | e::l=>shape ls e&&all l
theorem shape_eq (ls:List Signal) (e:E):shape ls e=(shape0 ls e.op e.w e.v e.sig e.hi e.lo e.n e.l.length&&e.l.all (shape ls)):=by
 have h:∀ l,shape.all ls l=l.all (shape ls):=by
  intro l;induction l with
  | nil=>rfl
  | cons x l ih=>simp [shape.all,ih]
 cases e;simp [shape,h]
/-! ### own widths -/
def own:E->Int
 | ⟨op,w,_,_,hi,lo,n,l⟩ =>
  if op=1\/op=8 then w
  else if op=2 then hi-lo+1
  else if op=7 then cat l 0
  else if op=6 then fst2 l
  else if op=4 then (if n<=2 then hd l else 1)
  else if op=5 then (if n<=16 then fst l else if n<=18 then hd l else 1)
  else 1
where
 cat:List E->Int->Int
  | [],n=>n
  | e::l,n=>if own e=0 then 0 else cat l (n+own e)
 fst:List E->Int
  | []=>0
  | e::l=>if own e=0 then fst l else own e
 fst2:List E->Int
  | []=>0
  | _::l=>fst l
 hd:List E->Int
  | []=>0
  | e::_=>own e
theorem Nodes_calls (e:E):∀ (s:Value) (w:World) (_:Es w s e.l) (_:nodes e<=1048576),
  Calls Tryz.prog 73 #[.agg (e.cells s).toArray] w fun r w'=>r=.returned (.int .i64 (nodes e))/\Ext w w':=by
 induction e using E.ind with
 | h e ih =>
 intro s w h hb
 have IH:=Jh ih
 clear ih
 obtain ⟨op,wd,v,sig,hi,lo,n,l⟩:=e
 obtain ⟨a,b,o,cap,hs,hc1,hc2,ha,hr⟩:=h.open
 subst hs
 rw [nodes_eq] at hb
 simp only at hc1 hc2 ha hr IH hb
 have HN:=Jh (nodes_eq ⟨op,wd,v,sig,hi,lo,n,l⟩)
 have hbx:=Has.alloc w (E.cells ⟨op,wd,v,sig,hi,lo,n,l⟩ (.slice a l.length cap)) 31
 have hx0:=ext_alloc w (.cells (E.cells ⟨op,wd,v,sig,hi,lo,n,l⟩ (.slice a l.length cap)).toArray 31)
 go_enter Tryz.func73,Tryz.ntmps73
 go_wp2_with fail
 generalize w.alloc _=w0 at *
 go_loopw [3,4] (fun x i wr=>∃ k:Nat,k<=l.length/\i=.int .i64 k/\x=.int .i64 ((1+sumBy nodes (l.take k):Nat):Int)/\Ext w0 wr) (fun _ i _=>l.length-(intOf i).toNat)
 case atStart=>exact ⟨0,Nat.zero_le _,rfl,by simp [sumBy],Below.refl _ _⟩
 case round =>
  obtain ⟨k,hk,rfl,rfl,hB⟩:=hrel
  have hc:=(hbx.ext hB) 7 _ rfl
  by_cases hlt:k<l.length
  ·obtain ⟨s1,he1,he2⟩:=Es.get (hr.mono fun x _ b o=>EAt.ext (hx0.trans hB) x b o) hlt
   have ht:=Jh (sumBy_take nodes l k hlt)
   have hle:=sumBy_take_le nodes l (k+1)
   rw [ht.out] at hle
   have hmem:l[k]∈l:=List.getElem_mem hlt
   obtain rfl:=ha (by omega)
   generalize l[k]=ek at *
   go_wp2_with (first | ((with_reducible show Jl 31);refine Jm 31 (he1) agg_E rfl ?_) | (go_at_call 73;refine (IH.out _ hmem _ _ he2 (by omega)).mono ?_;rintro r w1 ⟨rfl,hx1⟩))
   go_roundw
   case rel=>exact ⟨k+1,by omega,by go_num,by rw [ht.out];congr 1;omega,hB.trans hx1⟩
   case measure=>simp [intOf];omega
  ·go_wp2_with fail
   go_ret
   obtain rfl:k=l.length:=by omega
   exact ⟨by rw [HN.out,List.take_length];rfl,hx0.trans hB⟩
theorem Deep_calls (e:E):∀ (s:Value) (w:World) (_:Es w s e.l) (_:deep e<=1048576),
  Calls Tryz.prog 74 #[.agg (e.cells s).toArray] w fun r w'=>r=.returned (.int .i64 (deep e))/\Ext w w':=by
 induction e using E.ind with
 | h e ih =>
 intro s w h hb
 have IH:=Jh ih
 clear ih
 obtain ⟨op,wd,v,sig,hi,lo,n,l⟩:=e
 obtain ⟨a,b,o,cap,hs,hc1,hc2,ha,hr⟩:=h.open
 subst hs
 rw [deep_eq] at hb
 simp only at hc1 hc2 ha hr IH hb
 have HN:=Jh (deep_eq ⟨op,wd,v,sig,hi,lo,n,l⟩)
 have hbx:=Has.alloc w (E.cells ⟨op,wd,v,sig,hi,lo,n,l⟩ (.slice a l.length cap)) 31
 have hx0:=ext_alloc w (.cells (E.cells ⟨op,wd,v,sig,hi,lo,n,l⟩ (.slice a l.length cap)).toArray 31)
 have hml:=maxBy_take_le deep l l.length
 rw [List.take_length] at hml
 go_enter Tryz.func74,Tryz.ntmps74
 go_wp2_with fail
 generalize w.alloc _=w0 at *
 go_loopw [3,4] (fun x i wr=>∃ k:Nat,k<=l.length/\i=.int .i64 k/\x=.int .i64 ((maxBy deep (l.take k):Nat):Int)/\Ext w0 wr) (fun _ i _=>l.length-(intOf i).toNat)
 case atStart=>exact ⟨0,Nat.zero_le _,rfl,by simp [maxBy],Below.refl _ _⟩
 case round =>
  obtain ⟨k,hk,rfl,rfl,hB⟩:=hrel
  have hc:=(hbx.ext hB) 7 _ rfl
  by_cases hlt:k<l.length
  ·obtain ⟨s1,he1,he2⟩:=Es.get (hr.mono fun x _ b o=>EAt.ext (hx0.trans hB) x b o) hlt
   have ht:=Jh (maxBy_take deep l k hlt)
   have hle:=maxBy_take_le deep l (k+1)
   rw [ht.out] at hle
   have hmem:l[k]∈l:=List.getElem_mem hlt
   obtain rfl:=ha (by omega)
   generalize l[k]=ek at *
   go_wp2_with (first | ((with_reducible show Jl 31);refine Jm 31 (he1) agg_E rfl ?_) | (go_at_call 74;refine (IH.out _ hmem _ _ he2 (by omega)).mono ?_;rintro r w1 ⟨rfl,hx1⟩))
   go_roundw
   case rel=>exact ⟨k+1,by omega,by go_num,by rw [ht.out];congr 1;split<;>omega,hB.trans hx1⟩
   case measure=>simp [intOf];omega
  ·have hle:=maxBy_take_le deep l k
   go_wp2_with fail
   go_ret
   obtain rfl:k=l.length:=by omega
   exact ⟨by rw [HN.out,List.take_length];rfl,hx0.trans hB⟩
theorem NodesT_step (l:List T) (ih:∀ t∈l,∀ (s:Value) (w:World) (_:Ts w s t.l) (_:sumBy nodesT t.l<=1048576),
   Calls Tryz.prog 71 #[s] w fun r w'=>r=.returned (.int .i64 (sumBy nodesT t.l))/\Ext w w') :
  ∀ (s:Value) (w:World) (_:Ts w s l) (_:sumBy nodesT l<=1048576),
   Calls Tryz.prog 71 #[s] w fun r w'=>r=.returned (.int .i64 (sumBy nodesT l))/\Ext w w':=by
 intro s w h hb
 have IH:=Jh ih
 clear ih
 obtain ⟨a,b,o,cap,hs,hc1,hc2,ha,hr⟩:=h.open
 subst hs
 go_enter Tryz.func71,Tryz.ntmps71
 go_wp2_with fail
 go_loopw [3,4] (fun x i wr=>∃ k:Nat,k<=l.length/\i=.int .i64 k/\x=.int .i64 ((sumBy nodesT (l.take k):Nat):Int)/\Ext w wr) (fun _ i _=>l.length-(intOf i).toNat)
 case atStart=>exact ⟨0,Nat.zero_le _,rfl,by simp [sumBy],Below.refl _ _⟩
 case round =>
  obtain ⟨k,hk,rfl,rfl,hB⟩:=hrel
  by_cases hlt:k<l.length
  ·obtain ⟨s1,s2,he1,he2,he3⟩:=Ts.get (hr.mono fun x _ b o=>TAt.ext hB x b o) hlt
   have ht:=Jh (sumBy_take nodesT l k hlt)
   have hle:=sumBy_take_le nodesT l (k+1)
   rw [ht.out] at hle
   have hmem:l[k]∈l:=List.getElem_mem hlt
   obtain rfl:=ha (by omega)
   generalize l[k]=t at *
   have HT:=Jh (nodesT_eq t)
   rw [nodesT_eq] at hle
   obtain ⟨a1,b1,o1,cap1,hs1,hd1,hd2,hda,hdr⟩:=he2.open
   subst hs1
   have hc4:=he1 4 _ rfl
   have hc5:=he1 5 _ rfl
   go_wp2_with (first | (go_at_call 71;refine (IH.out _ hmem _ _ he3 (by omega)).mono ?_;rintro r w1 ⟨rfl,hx1⟩))
   have hx2:=hB.trans hx1
   have hdr2:=Jh (hdr.mono fun x _ b o=>EAt.ext hx1 x b o)
   have hc4':=(he1.ext hx1) 4 _ rfl
   clear hc4 hc5 hdr
   go_loopw [3,5] (fun x i wr=>∃ j:Nat,j<=t.e.length/\i=.int .i64 j/\x=.int .i64 ((sumBy nodesT (l.take k)+1+sumBy nodesT t.l+sumBy nodes (t.e.take j):Nat):Int)/\Ext w1 wr) (fun _ i _=>t.e.length-(intOf i).toNat)
   case atStart=>exact ⟨0,Nat.zero_le _,rfl,by simp [sumBy],Below.refl _ _⟩
   case round =>
    obtain ⟨j,hj,rfl,rfl,hB2⟩:=hrel
    have hc4:=((he1.ext hx1).ext hB2) 4 _ rfl
    by_cases hjt:j<t.e.length
    ·obtain ⟨s3,hf1,hf2⟩:=Es.get (hdr2.out.mono fun x _ b o=>EAt.ext hB2 x b o) hjt
     have ht2:=Jh (sumBy_take nodes t.e j hjt)
     have hle2:=sumBy_take_le nodes t.e (j+1)
     rw [ht2.out] at hle2
     obtain rfl:=hda (by omega)
     generalize t.e[j]=ej at *
     go_wp2_with (first | ((with_reducible show Jl 31);refine Jm 31 (hf1) agg_E rfl ?_) | (go_at_call 73;refine (Nodes_calls ej _ _ hf2 (by omega)).mono ?_;rintro r w2 ⟨rfl,hx3⟩))
     go_roundw
     case rel=>exact ⟨j+1,by omega,by go_num,by rw [ht2.out];congr 1;omega,hB2.trans hx3⟩
     case measure=>simp [intOf];omega
    ·go_wp2_with fail
     obtain rfl:j=t.e.length:=by omega
     go_roundw
     case rel=>exact ⟨k+1,by omega,by go_num,by rw [ht.out,HT.out,List.take_length];congr 1;omega,hx2.trans hB2⟩
     case measure=>simp [intOf];omega
  ·go_wp2_with fail
   go_ret
   obtain rfl:k=l.length:=by omega
   exact ⟨by rw [List.take_length];rfl,hB⟩
theorem NodesT_calls (l:List T):∀ (s:Value) (w:World) (_:Ts w s l) (_:sumBy nodesT l<=1048576),
   Calls Tryz.prog 71 #[s] w fun r w'=>r=.returned (.int .i64 (sumBy nodesT l))/\Ext w w' :=
 NodesT_step l fun t _=>T.ind (P:=fun t=>∀ (s:Value) (w:World) (_:Ts w s t.l) (_:sumBy nodesT t.l<=1048576),
   Calls Tryz.prog 71 #[s] w fun r w'=>r=.returned (.int .i64 (sumBy nodesT t.l))/\Ext w w') (fun t ih=>NodesT_step t.l ih) t
theorem deepT_step (l:List T) (ih:∀ t∈l,∀ (s:Value) (w:World) (_:Ts w s t.l) (_:maxBy deepT t.l<=1048576),
   Calls Tryz.prog 72 #[s] w fun r w'=>r=.returned (.int .i64 (maxBy deepT t.l))/\Ext w w') :
  ∀ (s:Value) (w:World) (_:Ts w s l) (_:maxBy deepT l<=1048576),
   Calls Tryz.prog 72 #[s] w fun r w'=>r=.returned (.int .i64 (maxBy deepT l))/\Ext w w':=by
 intro s w h hb
 have IH:=Jh ih
 clear ih
 obtain ⟨a,b,o,cap,hs,hc1,hc2,ha,hr⟩:=h.open
 subst hs
 go_enter Tryz.func72,Tryz.ntmps72
 go_wp2_with fail
 go_loopw [3,4] (fun x i wr=>∃ k:Nat,k<=l.length/\i=.int .i64 k/\x=.int .i64 ((maxBy deepT (l.take k):Nat):Int)/\Ext w wr) (fun _ i _=>l.length-(intOf i).toNat)
 case atStart=>exact ⟨0,Nat.zero_le _,rfl,by simp [maxBy],Below.refl _ _⟩
 case round =>
  obtain ⟨k,hk,rfl,rfl,hB⟩:=hrel
  by_cases hlt:k<l.length
  ·obtain ⟨s1,s2,he1,he2,he3⟩:=Ts.get (hr.mono fun x _ b o=>TAt.ext hB x b o) hlt
   have ht:=Jh (maxBy_take deepT l k hlt)
   have hle:=maxBy_take_le deepT l (k+1)
   rw [ht.out] at hle
   have hmem:l[k]∈l:=List.getElem_mem hlt
   obtain rfl:=ha (by omega)
   generalize l[k]=t at *
   have HT:=Jh (deepT_eq t)
   rw [deepT_eq] at hle
   obtain ⟨a1,b1,o1,cap1,hs1,hd1,hd2,hda,hdr⟩:=he2.open
   subst hs1
   have hc4:=he1 4 _ rfl
   have hc5:=he1 5 _ rfl
   have hmx:(if ((maxBy deepT (l.take k):Nat):Int)<1+((maxBy deepT t.l:Nat):Int) then 1+((maxBy deepT t.l:Nat):Int) else ((maxBy deepT (l.take k):Nat):Int))=((max (maxBy deepT (l.take k)) (1+maxBy deepT t.l):Nat):Int):=by split<;>omega
   go_wp2_with (first | (go_at_call 72;refine (IH.out _ hmem _ _ he3 (by omega)).mono ?_;rintro r w1 ⟨rfl,hx1⟩))
   have hx2:=hB.trans hx1
   have hdr2:=Jh (hdr.mono fun x _ b o=>EAt.ext hx1 x b o)
   have hc4':=(he1.ext hx1) 4 _ rfl
   clear hc4 hc5 hdr hmx
   go_loopw [3,5] (fun x i wr=>∃ j:Nat,j<=t.e.length/\i=.int .i64 j/\x=.int .i64 ((max (max (maxBy deepT (l.take k)) (1+maxBy deepT t.l)) (1+maxBy deep (t.e.take j)):Nat):Int)/\Ext w1 wr) (fun _ i _=>t.e.length-(intOf i).toNat)
   case atStart=>exact ⟨0,Nat.zero_le _,rfl,by simp [maxBy],Below.refl _ _⟩
   case round =>
    obtain ⟨j,hj,rfl,rfl,hB2⟩:=hrel
    have hc4:=((he1.ext hx1).ext hB2) 4 _ rfl
    by_cases hjt:j<t.e.length
    ·obtain ⟨s3,hf1,hf2⟩:=Es.get (hdr2.out.mono fun x _ b o=>EAt.ext hB2 x b o) hjt
     have ht2:=Jh (maxBy_take deep t.e j hjt)
     have hle2:=maxBy_take_le deep t.e (j+1)
     rw [ht2.out] at hle2
     obtain rfl:=hda (by omega)
     generalize t.e[j]=ej at *
     go_wp2_with (first | ((with_reducible show Jl 31);refine Jm 31 (hf1) agg_E rfl ?_) | (go_at_call 74;refine (Deep_calls ej _ _ hf2 (by omega)).mono ?_;rintro r w2 ⟨rfl,hx3⟩))
     go_roundw
     case rel=>exact ⟨j+1,by omega,by go_num,by rw [ht2.out];congr 1;split<;>omega,hB2.trans hx3⟩
     case measure=>simp [intOf];omega
    ·go_wp2_with fail
     obtain rfl:j=t.e.length:=by omega
     go_roundw
     case rel=>exact ⟨k+1,by omega,by go_num,by rw [ht.out,HT.out,List.take_length];congr 1;omega,hx2.trans hB2⟩
     case measure=>simp [intOf];omega
  ·go_wp2_with fail
   go_ret
   obtain rfl:k=l.length:=by omega
   exact ⟨by rw [List.take_length];rfl,hB⟩
theorem deepT_calls (l:List T):∀ (s:Value) (w:World) (_:Ts w s l) (_:maxBy deepT l<=1048576),
   Calls Tryz.prog 72 #[s] w fun r w'=>r=.returned (.int .i64 (maxBy deepT l))/\Ext w w' :=
 deepT_step l fun t _=>T.ind (P:=fun t=>∀ (s:Value) (w:World) (_:Ts w s t.l) (_:maxBy deepT t.l<=1048576),
   Calls Tryz.prog 72 #[s] w fun r w'=>r=.returned (.int .i64 (maxBy deepT t.l))/\Ext w w') (fun t ih=>deepT_step t.l ih) t
end Go.Proofs.YtpngepnfinbaoaaGreat
