/- Laws and walks that a claim of this seat leans on: Held, Row, Frame, Range. -/
import Derived.Test.YtpngepnfinbaoaaGreatCWant
import Derived.Deep.RegionHeld3
import Derived.Laws.AppendOwn
import Derived.Great.BuildSlice
import Derived.RangeFuncNested
import Derived.Test.YtpngepnfinbaoaaGreatC00
set_option maxRecDepth 100000
set_option maxHeartbeats 8000000
set_option linter.all false
namespace Go.Proofs.YtpngepnfinbaoaaGreat
open Go.RowKit
theorem yif_load {P:Program} {ops:Array Oper} {S:World->Prop} {o:Oper} {a:Act} (hw:Region.wanted o (yielded ops a.tmps)=true) (ty:TypeId) (x:Operand) (ho:o.op=.load ty x)
  {b off:Nat} (hx:a.eval x=.pointer (some ⟨b,off,none⟩)) {cs:List Value} {n:Nat} (hg:∀ w,S w->Has w b off cs) (hu:Agg P ty n) (hn:cs.length=n):YieldsIf P ops S o (.agg cs.toArray) a :=
 .inl ⟨hw,fun w hS=>by
  subst hn
  unfold execOp
  simp only [ho,hx,Instr.loadAt,Instr.sureAddr,Sem.run_bind,Sem.run_pure,Result.andThen_ok,run_loadVar_has w b off ty cs (hg w hS) hu]⟩
theorem yif_load1 {P:Program} {ops:Array Oper} {S:World->Prop} {o:Oper} {a:Act} (hw:Region.wanted o (yielded ops a.tmps)=true) {v:Value} (h:∀ w,S w->(execOp a.eval o).run P w=.ok (.value v) w):YieldsIf P ops S o v a:=.inl ⟨hw,h⟩
theorem step_store_blk {P:Program} {ops:Array Oper} {o:Oper} {a:Act} {w:World} {Q:Exit->Act->World->Prop} {K:Act->World->Prop} (hw:Region.wanted o (yielded ops a.tmps)=true)
  (ty:TypeId) (x y:Operand) (ho:o.op=.store ty x y) {c:Array Value} {B:Nat} (hb:Blk w B c ty) (hx:a.eval x=.pointer (some ⟨B,0,none⟩)) {cs:List Value} (hy:a.eval y=.agg cs.toArray) {n:Nat}
  (hu:Agg P ty n) (hn:cs.length=n) (hc:c.size=n) (h1:cs.all (·.oneCell')=true)
  (h:∀ w',Blk w' B cs.toArray ty->w.grownBy w' (some B)->K (a.put o.dst undef) w'):if Region.wanted o (yielded ops a.tmps)=true then Oper.wp P o a w K Q else K (a.put o.dst undef) w:=by
 rw [if_pos hw]
 unfold Oper.wp execOp
 simp only [ho,hx,hy]
 have:=run_storeVar_row (P:=P) w B ty ty c cs.toArray hb (by rw [hu.2];simp [hn]) (by simp [hn,hc]) (by simpa using h1)
 simp only [Instr.storeAt,Instr.sureAddr,Sem.run_bind,Sem.run_pure,Result.andThen_ok,this]
 exact h _ (setRow_blk hb) (gb_setRow w B _)
/-! ### what a call has made stays when older blocks turn -/
def Since (N:Nat) (w w':World):Prop:=w.heap.size<=w'.heap.size/\∀ b,N<=b->b<w.heap.size->w'.heap[b]? = w.heap[b]?
theorem Since.refl (N:Nat) (w:World):Since N w w:=⟨Nat.le_refl _,fun _ _ _=>rfl⟩
theorem Since.trans {N:Nat} {a b c:World} (h:Since N a b) (k:Since N b c):Since N a c :=
 ⟨Nat.le_trans h.1 k.1,fun x h1 h2=>(k.2 x h1 (Nat.lt_of_lt_of_le h2 h.1)).trans (h.2 x h1 h2)⟩
theorem Since.mono {N M:Nat} {a b:World} (h:Since N a b) (hn:N<=M):Since M a b:=⟨h.1,fun x h1 h2=>h.2 x (Nat.le_trans hn h1) h2⟩
theorem Since.of_ext {N:Nat} {w w':World} (h:Ext w w'):Since N w w':=⟨h.size,fun b _ hb=>h.block b hb⟩
theorem Since.of_grown {N B:Nat} {w w':World} (h:w.grownBy w' (some B)) (hb:B<N):Since N w w':=⟨h.size,fun b h1 h2=>h.block b h2 (by intro e;injection e;omega)⟩
theorem Since.blk {N B:Nat} {w w':World} {c:Array Value} {T:TypeId} (h:Since N w w') (hb:Blk w B c T) (hn:N<=B):Blk w' B c T:=(h.2 B hn hb.lt).trans hb
def FE (N:Nat) (w:World) (cs:List Value) (x:E):Prop:=∀ W,Since N w W->VE W cs x
theorem FE.ve {N:Nat} {w:World} {cs:List Value} {x:E} (h:FE N w cs x):VE w cs x:=h w (Since.refl _ _)
theorem FE.since {N:Nat} {w w':World} {cs:List Value} {x:E} (h:FE N w cs x) (hs:Since N w w'):FE N w' cs x:=fun _ hW=>h _ (hs.trans hW)
theorem FE.mono {N M:Nat} {w:World} {cs:List Value} {x:E} (h:FE M w cs x) (hn:N<=M):FE N w cs x:=fun W hW=>h W (hW.mono hn)
theorem FE.ext {N:Nat} {w w':World} {cs:List Value} {x:E} (h:FE N w cs x) (hx:Ext w w'):FE N w' cs x:=h.since (Since.of_ext hx)
theorem es_of_blk (l:List E):∀ (css:List (List Value)) (pre:List Value) (w:World) (B:Nat) (post:List Value) (T:TypeId),Blk w B (pre++css.flatten++post).toArray T->css.length=l.length ->
  (∀ i (h:i<css.length) (h':i<l.length),VE w css[i] l[i])->Rows 8 (EAt w) l B pre.length:=by
 induction l with
 | nil=>intros;trivial
 | cons x l ih =>
  intro css pre w B post T hb hl hv
  cases css with
  | nil=>simp at hl
  | cons cs css =>
   obtain ⟨s,hcs,hs⟩:=hv 0 (by simp) (by simp)
   simp only [Jb] at hcs hs
   have h8:cs.length=8:=by rw [hcs];rfl
   refine ⟨EAt_iff.2 ⟨s,?_,hs⟩,?_⟩
   ·rw [<-hcs]
    intro j u hj
    rw [hb.cell]
    have hlt:j<cs.length:=(List.getElem?_eq_some_iff.1 hj).1
    rw [List.getElem?_toArray,List.append_assoc,List.getElem?_append_right (by omega),List.flatten_cons,List.append_assoc,List.getElem?_append_left (by omega)]
    rw [Nat.add_sub_cancel_left]
    exact hj
   ·have:=ih css (pre++cs) w B post T (by simpa [List.append_assoc] using hb) (by simpa using hl) (fun i h h'=>hv (i+1) (by simpa using h) (by simpa using h'))
    rw [List.length_append,h8] at this
    exact this
/-! ### a slice of structs that grows by append -/
def AppT (P:Program) (t e:TypeId) (size bytes:Nat):Prop :=
 P.underlying t=some (.slice e)/\(P.info? e).map (fun i=>(i.zero.map (·.cells.size),i.size,i.bytes))=some (some size,size,bytes)/\0<size/\bytes<=1000
theorem run_app {P:Program} {w:World} {base:Nat} {t ty e:TypeId} {size bytes:Nat} (hT:AppT P t e size bytes)
  {v:Value} {n:Nat} {xs:List Value} (hown:w.ownsRow base e size v n xs) {a:Addr} {m c:Nat} (hm:v=.slice none 0 0->0<m) {news:List Value} (hl:news.length=m*size)
  (hnews:∀ j u,news[j]? = some u->w.cell? (a.add j)=some u) (h1:news.all (·.oneCell')=true) (hn:n+m<=16777216) (hbase:base<=w.heap.size) :
  ∃ v' w',(Builtin.append_ #[t,t] ty #[v,.slice (some a) m c]).run P w=.ok v' w'/\w'.ownsRow base e size v' (n+m) (xs++news)/\w.grownBy w' v.ownBlock /\
   ∃ g cap,v'=.slice (some ⟨g,0,none⟩) (n+m) cap/\(v.ownBlock=some g\/w.heap.size<=g):=by
 obtain ⟨ht,hinfo,hsz,hby⟩:=hT
 cases hi:P.info? e with
 | none=>simp [hi] at hinfo
 | some i =>
  simp only [hi,Option.map_some,Option.some.injEq,Prod.mk.injEq] at hinfo
  obtain ⟨hz0,hs,hb⟩:=hinfo
  cases hz:i.zero with
  | none=>simp [hz] at hz0
  | some z =>
   simp only [hz,Option.map_some,Option.some.injEq] at hz0
   have hbb:(n+m)*bytes<=140737488355328:=Nat.le_trans (Nat.mul_le_mul hn hby) (by decide)
   have h1':∀ u∈news,u.oneCell'=true:=fun u hu=>by simpa using List.all_eq_true.1 h1 u hu
   obtain ⟨v',w',hr,h2,h3,h4⟩:=run_append_own (P:=P) w base t ty e i z size bytes ht hi hz hs hb hz0 hsz v n xs hown a m c news hl hnews h1' (by simp only [maxLen];omega) hbb hbase
   refine ⟨v',w',hr,h2,h3,?_⟩
   rcases hown.2 with ⟨rfl,rfl⟩ | ⟨g,cap,cur,rfl,hbg,hg,hnc,hcm,hcs,htake⟩
   ·have hr2:=run_append_nil (P:=P) w t ty e i z ht hi hz a m c news (by rw [hs];exact hl) hnews (hm rfl) (by omega) (by rw [hb];simp at hbb;omega)
    rw [hr] at hr2
    simp only [Result.ok.injEq] at hr2
    exact ⟨w.heap.size,_,by rw [hr2.1,Nat.zero_add],.inr (Nat.le_refl _)⟩
   ·by_cases hroom:n+m<=cap
    ·have hfit:n*i.size+news.length<=cur.size:=by rw [hs,hl,hcs,<-Nat.add_mul];exact Nat.mul_le_mul_right _ hroom
     have hr2:=run_append_room (P:=P) w t ty e i ht hi g n cap cur hg a m c news (by rw [hs];exact hl) hnews h1' hroom hfit
     rw [hr] at hr2
     simp only [Result.ok.injEq] at hr2
     exact ⟨g,cap,hr2.1,.inl rfl⟩
    ·have holds:∀ j u,xs[j]? = some u->w.cell? ((⟨g,0,none⟩:Addr).add j)=some u:=hown.cells (g:=g) rfl
     have hr2:=run_append_grow (P:=P) w t ty e i z ht hi hz ⟨g,0,none⟩ n cap xs (by rw [hs];exact hown.1) holds a m c news (by rw [hs];exact hl) hnews (by omega) (by omega)
      (growslice_fits (by omega) (by rw [hb];exact hbb))
     rw [hr] at hr2
     simp only [Result.ok.injEq] at hr2
     exact ⟨w.heap.size,_,hr2.1,.inr (Nat.le_refl _)⟩
theorem wpList_app {P:Program} {ops:Array Oper} {rest:List Oper} {o:Oper} {a:Act} {w:World} {Q:Exit->Act->World->Prop} (hw:Region.wanted o (yielded ops a.tmps)=true) (s x:Operand) (t:TypeId)
  (ho:o.op=.call { callee:=.builtin .append,args:=#[s,x],argTypes:=#[t,t] }) {base:Nat} {e:TypeId} {size bytes:Nat} (hT:AppT P t e size bytes)
  {v:Value} {n:Nat} {xs:List Value} (hs:a.eval s=v) (hown:w.ownsRow base e size v n xs) {ad:Addr} {m c:Nat} (hx:a.eval x=.slice (some ad) m c) (hm:v=.slice none 0 0->0<m) {news:List Value} (hl:news.length=m*size)
  (hnews:∀ j u,news[j]? = some u->w.cell? (ad.add j)=some u) (h1:news.all (·.oneCell')=true) (hn:n+m<=16777216) (hbase:base<=w.heap.size)
  (h:∀ g cap w',w'.ownsRow base e size (.slice (some ⟨g,0,none⟩) (n+m) cap) (n+m) (xs++news)->w.grownBy w' v.ownBlock->(v.ownBlock=some g\/w.heap.size<=g) ->
   wpList P ops Q rest (a.put o.dst (.slice (some ⟨g,0,none⟩) (n+m) cap)) w'):wpList P ops Q (o::rest) a w :=
 BigFrame.wpList_want hw fun _ hK=>by
  obtain ⟨v',w',hr,h2,h3,g,cap,rfl,hg⟩:=run_app (P:=P) (ty:=o.type) hT hown hm hl hnews h1 hn hbase
  unfold Oper.wp execOp
  simp only [ho,resolve,invoke,builtin,Sem.run_bind,Sem.run_pure,Result.andThen_ok,List.map_toArray,List.map_cons,List.map_nil,hs,hx]
  rw [hr]
  exact hK _ _ (h g cap w' h2 h3 hg)
theorem wpList_bs1 {P:Program} {ops:Array Oper} {rest:List Oper} {o:Oper} {a:Act} {w:World} {Q:Exit->Act->World->Prop} (hw:Region.wanted o (yielded ops a.tmps)=true) (t:TypeId) (x:Operand)
  (ho:o.op=.buildSlice t 1 #[(0,x)]) {e:TypeId} {size bytes:Nat} (hT:AppT P t e size bytes) {v:Value} (hx:a.eval x=v) {cs:List Value} (hv:v.cells=cs.toArray) (hl:cs.length=size) (hs:size<=1000)
  (h:wpList P ops Q rest (a.put o.dst (.slice (some ⟨w.heap.size,0,none⟩) 1 1)) (w.alloc (.cells cs.toArray e))):wpList P ops Q (o::rest) a w :=
 BigFrame.wpList_want hw fun _ hK=>by
  obtain ⟨ht,hinfo,hsz,hby⟩:=hT
  cases hi:P.info? e with
  | none=>simp [hi] at hinfo
  | some i =>
   simp only [hi,Option.map_some,Option.some.injEq,Prod.mk.injEq] at hinfo
   obtain ⟨hz0,hsi,hb⟩:=hinfo
   cases hz:i.zero with
   | none=>simp [hz] at hz0
   | some z =>
    have hv2:v.cells.size=size:=by rw [hv];simp [hl]
    have hf:=Great.fill_whole (s:=size) hsz [v] ((Array.range (1*size)).map (z.cells[·%z.cells.size]!)) (by simp [hv2]) (by simp)
    simp only [List.zipIdx_cons,List.zipIdx_nil,List.map_cons,List.map_nil,List.flatMap_cons,List.flatMap_nil,List.append_nil,hv] at hf
    have hr:=run_buildSlice (P:=P) w t e 1 #[(0,v)] cs.toArray i z ht hi hz (by rw [hsi];omega) (by rw [hsi];omega) (by rw [hsi];exact hf)
    unfold Oper.wp execOp
    simp only [ho,List.map_toArray,List.map_cons,List.map_nil,hx,Sem.run_bind,hr,Result.andThen_ok,Sem.run_pure]
    exact hK _ _ h
theorem wpList_bs0 {P:Program} {ops:Array Oper} {rest:List Oper} {o:Oper} {a:Act} {w:World} {Q:Exit->Act->World->Prop} (hw:Region.wanted o (yielded ops a.tmps)=true) (t:TypeId)
  (ho:o.op=.buildSlice t 0 #[]) {e:TypeId} {size bytes:Nat} (hT:AppT P t e size bytes)
  (h:wpList P ops Q rest (a.put o.dst (.slice (some ⟨w.heap.size,0,none⟩) 0 0)) (w.alloc (.cells #[] e))):wpList P ops Q (o::rest) a w :=
 BigFrame.wpList_want hw fun _ hK=>by
  obtain ⟨ht,hinfo,hsz,hby⟩:=hT
  cases hi:P.info? e with
  | none=>simp [hi] at hinfo
  | some i =>
   have hr:(Instr.buildSlice t 0 #[]).run P w=.ok (.slice (some ⟨w.heap.size,0,none⟩) 0 0) (w.alloc (.cells #[] e)):=by
    simp [Instr.buildSlice,run_underlying ht,sizeOf,typeInfo,hi,newRow,Instr.fill]
    congr 2
    apply Array.eq_empty_of_size_eq_zero;simp
   unfold Oper.wp execOp
   simp only [ho,List.map_toArray,List.map_nil,Sem.run_bind,hr,Result.andThen_ok,Sem.run_pure]
   exact hK _ _ h
def StV {α:Type} (V:World->List Value->α->Prop) (N:Nat) (R:Option Nat) (w:World) (cs:List Value) (x:α):Prop :=
 ∀ W,w.heap.size<=W.heap.size->(∀ b,N<=b->b<w.heap.size->some b≠R->W.heap[b]? = w.heap[b]?)->V W cs x
def FV {α:Type} (V:World->List Value->α->Prop) (N:Nat) (w:World) (cs:List Value) (x:α):Prop:=∀ W,Since N w W->V W cs x
def RowIs {α:Type} (V:World->List Value->α->Prop) (e:TypeId) (size N:Nat) (v:Value) (r:List α) (w:World):Prop :=
 ∃ css:List (List Value),w.ownsRow N e size v r.length css.flatten/\css.length=r.length/\(∀ cs∈css,cs.length=size) /\
  ∀ i (h:i<css.length) (h':i<r.length),StV V N v.ownBlock w css[i] r[i]
theorem RowIs.nil {α:Type} {V:World->List Value->α->Prop} {e:TypeId} {size N:Nat} {w:World}:RowIs V e size N (.slice none 0 0) ([]:List α) w :=
 ⟨[],World.ownsRow_nil _ _ _ _,rfl,by simp,fun i h=>by simp at h⟩
theorem RowIs.since {α:Type} {V:World->List Value->α->Prop} {e:TypeId} {size N:Nat} {v:Value} {r:List α} {w w':World} (h:RowIs V e size N v r w) (hs:Since N w w'):RowIs V e size N v r w':=by
 obtain ⟨css,h1,h2,h3,h4⟩:=h
 refine ⟨css,?_,h2,h3,fun i hi hi' W hW hb=>h4 i hi hi' W (Nat.le_trans hs.1 hW) fun b hN hlt hne=>(hb b hN (Nat.lt_of_lt_of_le hlt hs.1) hne).trans (hs.2 b hN hlt)⟩
 refine ⟨h1.1,?_⟩
 rcases h1.2 with hn | ⟨g,cap,cur,rfl,hb,hgg,rest⟩
 ·exact .inl hn
 ·exact .inr ⟨g,cap,cur,rfl,hb,(hs.2 g hb (Array.getElem?_eq_some_iff.1 hgg).1).trans hgg,rest⟩
theorem RowIs.lt {α:Type} {V:World->List Value->α->Prop} {e:TypeId} {size N:Nat} {v:Value} {r:List α} {w:World} (h:RowIs V e size N v r w):∀ k,v.ownBlock=some k->N<=k/\k<w.heap.size:=by
 obtain ⟨css,h1,-⟩:=h;exact h1.lt
theorem RowIs.snoc {α:Type} {V:World->List Value->α->Prop} {e:TypeId} {size N:Nat} {v:Value} {r:List α} {w:World} {css:List (List Value)}
  (h2:css.length=r.length) (h3:∀ cs∈css,cs.length=size) (h4:∀ i (h:i<css.length) (h':i<r.length),StV V N v.ownBlock w css[i] r[i])
  {cs:List Value} (hcs:cs.length=size) {x:α} (hx:StV V N v.ownBlock w cs x) {v':Value} {w':World} (hown:w'.ownsRow N e size v' (r.length+1) (css.flatten++cs)) (hg:w.grownBy w' v.ownBlock)
  (hv:∃ g cap,v'=.slice (some ⟨g,0,none⟩) (r.length+1) cap/\(v.ownBlock=some g\/w.heap.size<=g)):RowIs V e size N v' (r++[x]) w':=by
 have key:∀ cs x,StV V N v.ownBlock w cs x->StV V N v'.ownBlock w' cs x:=by
  intro cs x h W hW hb
  refine h W (Nat.le_trans hg.size hW) fun b hN hlt hne=>?_
  refine (hb b hN (Nat.lt_of_lt_of_le hlt hg.size) ?_).trans (hg.block b hlt hne)
  obtain ⟨g,cap,rfl,hvg⟩:=hv
  simp only [Value.ownBlock,ne_eq,Option.some.injEq]
  rintro rfl
  rcases hvg with hvg | hvg
  ·exact hne hvg.symm
  ·omega
 refine ⟨css++[cs],by simpa using hown,by simp [h2],?_,?_⟩
 ·intro c hc
  rcases List.mem_append.1 hc with hc | hc
  ·exact h3 c hc
  ·obtain rfl:=List.mem_singleton.1 hc
   exact hcs
 ·intro i hi hi'
  by_cases hik:i<r.length
  ·rw [List.getElem_append_left (by omega),List.getElem_append_left hik]
   exact key _ _ (h4 i (by omega) hik)
  ·have:i=r.length:=by simp at hi;omega
   rw [List.getElem_append_right (by omega),List.getElem_append_right (by omega)]
   simp only [h2,this,Nat.sub_self,Jb]
   exact key _ _ hx
theorem FV.st {α:Type} {V:World->List Value->α->Prop} {M N:Nat} {R:Option Nat} {w:World} {cs:List Value} {x:α} (h:FV V M w cs x) (hN:N<=M) (hR:∀ k,R=some k->k<M):StV V N R w cs x :=
 fun W hW hb=>h W ⟨hW,fun b hM hlt=>hb b (Nat.le_trans hN hM) hlt (by intro e;have:=hR b e.symm;omega)⟩
theorem FV.since {α:Type} {V:World->List Value->α->Prop} {N:Nat} {w w':World} {cs:List Value} {x:α} (h:FV V N w cs x) (hs:Since N w w'):FV V N w' cs x:=fun _ hW=>h _ (hs.trans hW)
theorem FV.mono {α:Type} {V:World->List Value->α->Prop} {N M:Nat} {w:World} {cs:List Value} {x:α} (h:FV V M w cs x) (hn:N<=M):FV V N w cs x:=fun W hW=>h W (hW.mono hn)
theorem FV.ext {α:Type} {V:World->List Value->α->Prop} {N:Nat} {w w':World} {cs:List Value} {x:α} (h:FV V N w cs x) (hx:Ext w w'):FV V N w' cs x:=h.since (Since.of_ext hx)
theorem FV.here {α:Type} {V:World->List Value->α->Prop} {N:Nat} {w:World} {cs:List Value} {x:α} (h:FV V N w cs x):V w cs x:=h w (Since.refl _ _)
theorem wpList_app1 {α:Type} {V:World->List Value->α->Prop} {P:Program} {ops:Array Oper} {rest:List Oper} {o:Oper} {a:Act} {w:World} {Q:Exit->Act->World->Prop} (hw:Region.wanted o (yielded ops a.tmps)=true) (s x:Operand) (t:TypeId)
  (ho:o.op=.call { callee:=.builtin .append,args:=#[s,x],argTypes:=#[t,t] }) {N:Nat} {e:TypeId} {size bytes:Nat} (hT:AppT P t e size bytes)
  {v:Value} {r:List α} (hs:a.eval s=v) (hown:RowIs V e size N v r w) {B c:Nat} (hx:a.eval x=.slice (some ⟨B,0,none⟩) 1 c) {cs:List Value} (hl:cs.length=size)
  (hcs:Has w B 0 cs) (h1:cs.all (·.oneCell')=true) {y:α} (hy:StV V N v.ownBlock w cs y) (hn:r.length+1<=16777216) (hbase:N<=w.heap.size)
  (h:∀ g cap w',RowIs V e size N (.slice (some ⟨g,0,none⟩) (r.length+1) cap) (r++[y]) w'->w.grownBy w' v.ownBlock ->
   wpList P ops Q rest (a.put o.dst (.slice (some ⟨g,0,none⟩) (r.length+1) cap)) w'):wpList P ops Q (o::rest) a w:=by
 obtain ⟨css,h1',h2,h3,h4⟩:=hown
 refine wpList_app hw s x t ho hT hs h1' hx (fun _=>Nat.lt_of_lt_of_le Nat.zero_lt_one (Nat.le_refl 1)) (by rw [hl,Nat.one_mul]) (fun j u hj=>?_) h1 hn hbase ?_
 ·have hadd:(⟨B,0,none⟩:Addr).add j=⟨B,j,none⟩:=by unfold Addr.add;split<;>simp_all
  rw [hadd]
  have:=hcs j u hj
  rwa [Nat.zero_add] at this
 ·intro g cap w' ho' hg hv
  exact h g cap w' (RowIs.snoc h2 h3 h4 hl hy ho' hg ⟨g,cap,rfl,hv⟩) hg
theorem rows_of_flat {α:Type} {V:World->List Value->α->Prop} {At:World->α->Nat->Nat->Prop} {size:Nat} (hV:∀ W cs x b o,Has W b o cs->V W cs x->At W x b o) (l:List α) :
  ∀ (css:List (List Value)) (W:World) (B o:Nat),Has W B o css.flatten->css.length=l.length->(∀ cs∈css,cs.length=size) ->
  (∀ i (h:i<css.length) (h':i<l.length),V W css[i] l[i])->Rows size (At W) l B o:=by
 induction l with
 | nil=>intros;trivial
 | cons x l ih =>
  intro css W B o hb hl h8 hv
  cases css with
  | nil=>simp at hl
  | cons cs css =>
   have hv0:=hv 0 (by simp) (by simp)
   simp only [Jb] at hv0
   have hc:cs.length=size:=h8 cs (by simp)
   rw [List.flatten_cons] at hb
   refine ⟨hV _ _ _ _ _ ?_ hv0,ih css W B (o+size) ?_ (by simpa using hl) (fun c hc=>h8 c (by simp [hc])) (fun i h h'=>hv (i+1) (by simpa using h) (by simpa using h'))⟩
   ·intro j u hj
    exact hb j u (by rw [List.getElem?_append_left (List.getElem?_eq_some_iff.1 hj).1];exact hj)
   ·intro j u hj
    have:=hb (size+j) u (by rw [List.getElem?_append_right (by omega),hc,Nat.add_sub_cancel_left];exact hj)
    rw [show o+size+j=o+(size+j) by omega];exact this
theorem RowIs.sl {α:Type} {V:World->List Value->α->Prop} {At:World->α->Nat->Nat->Prop} {e:TypeId} {size N:Nat} (hV:∀ W cs x b o,Has W b o cs->V W cs x->At W x b o)
  {v:Value} {r:List α} {w W:World} (h:RowIs V e size N v r w) (hs:Since N w W):Sl size (At W) v r:=by
 obtain ⟨css,h1,h2,h3,h4⟩:=h.since hs
 rcases h1.2 with ⟨rfl,h0⟩ | ⟨g,cap,cur,rfl,hb,hgg,hnc,hcm,hcs,htake⟩
 ·obtain rfl:r=[]:=List.eq_nil_of_length_eq_zero h0
  exact Sl.nil _ _
 ·refine ⟨g,0,⟨_,cap,rfl,hnc,hcm,fun _=>rfl⟩,rows_of_flat hV r css W g 0 ?_ h2 h3 (fun i hi hi'=>h4 i hi hi' W (Nat.le_refl _) (fun _ _ _ _=>rfl))⟩
  intro j u hj
  rw [<-htake] at hj
  rw [Nat.zero_add,cell_of_row W g j cur e (0,0) hgg]
  rw [List.getElem?_take] at hj
  split at hj
  ·simpa using hj
  ·cases hj
theorem RowIs.one {α:Type} {V:World->List Value->α->Prop} {e:TypeId} {size N:Nat} {v:Value} {r:List α} {w:World} (h:RowIs V e size N v r w):v.oneCell'=true:=by
 obtain ⟨css,h1,-⟩:=h
 rcases h1.2 with ⟨rfl,h0⟩ | ⟨g,cap,cur,rfl,-⟩<;>rfl
theorem RowIs.open {α:Type} {V:World->List Value->α->Prop} {e:TypeId} {size N:Nat} {v:Value} {r:List α} {w:World} (h:RowIs V e size N v r w):∃ a cap,v=.slice a r.length cap/\(0<r.length->∃ g,a=some ⟨g,0,none⟩):=by
 obtain ⟨css,h1,-⟩:=h
 rcases h1.2 with ⟨rfl,h0⟩ | ⟨g,cap,cur,rfl,-⟩
 ·exact ⟨none,0,by rw [h0],fun h=>by omega⟩
 ·exact ⟨_,cap,rfl,fun _=>⟨g,rfl⟩⟩
theorem VE.at {W:World} {cs:List Value} {x:E} {b o:Nat} (h:Has W b o cs) (hv:VE W cs x):EAt W x b o:=by
 obtain ⟨s,rfl,hs⟩:=hv;exact EAt_iff.2 ⟨s,h,hs⟩
theorem VT.at {W:World} {cs:List Value} {x:T} {b o:Nat} (h:Has W b o cs) (hv:VT W cs x):TAt W x b o:=by
 obtain ⟨s,s',rfl,hs,hs'⟩:=hv;exact TAt_iff.2 ⟨s,s',h,hs,hs'⟩
theorem VProc.at {W:World} {cs:List Value} {x:Proc} {b o:Nat} (h:Has W b o cs) (hv:VProc W cs x):ProcAt W x b o:=by
 obtain ⟨s,rfl,hs⟩:=hv;exact ⟨s,h,hs⟩
theorem VCheck.at {W:World} {cs:List Value} {x:Chk} {b o:Nat} (h:Has W b o cs) (hv:VCheck W cs x):ChkAt W x b o:=by
 obtain ⟨s,rfl,hs⟩:=hv;exact ⟨s,h,hs⟩
theorem appE:AppT Tryz.prog 29 31 8 80:=⟨Tryz.underlying29,by kernel_rfl,by decide,by decide⟩
theorem appT:AppT Tryz.prog 34 39 6 80:=⟨Tryz.underlying34,by kernel_rfl,by decide,by decide⟩
theorem appProc:AppT Tryz.prog 23 36 2 32:=⟨Tryz.underlying23,by kernel_rfl,by decide,by decide⟩
theorem appCheck:AppT Tryz.prog 24 99 9 96:=⟨Tryz.underlying24,by kernel_rfl,by decide,by decide⟩
theorem appInt:AppT Tryz.prog 53 3 1 8:=⟨Tryz.underlying53,by kernel_rfl,by decide,by decide⟩
structure Fr (C:Nat->Prop) (w w':World):Prop where
 os:w'.os=w.os
 tape:w'.tape=w.tape
 output:w'.output=w.output
 size:w.heap.size<=w'.heap.size
 block:∀ b,b<w.heap.size->¬ C b->w'.heap[b]? = w.heap[b]?
theorem Fr.refl (C:Nat->Prop) (w:World):Fr C w w:=⟨rfl,rfl,rfl,Nat.le_refl _,fun _ _ _=>rfl⟩
theorem Fr.trans {C:Nat->Prop} {a b c:World} (h:Fr C a b) (k:Fr C b c):Fr C a c :=
 ⟨k.os.trans h.os,k.tape.trans h.tape,k.output.trans h.output,Nat.le_trans h.size k.size,fun x h1 h2=>(k.block x (Nat.lt_of_lt_of_le h1 h.size) h2).trans (h.block x h1 h2)⟩
theorem Fr.mono {C D:Nat->Prop} {a b:World} (h:Fr C a b) (hC:∀ x,C x->D x):Fr D a b:=⟨h.os,h.tape,h.output,h.size,fun x h1 h2=>h.block x h1 fun h3=>h2 (hC x h3)⟩
theorem Fr.drew {C:Nat->Prop} {a b:World} (h:Fr C a b):Fr C a b.drew:=⟨h.os,h.tape,h.output,h.size,h.block⟩
theorem Fr.of_ext {C:Nat->Prop} {a b:World} (h:Ext a b):Fr C a b:=⟨h.os,h.tape,h.output,h.size,fun x h1 _=>h.block x h1⟩
theorem Fr.of_gb {C:Nat->Prop} {a b:World} {R:Option Nat} (h:a.grownBy b R) (hR:∀ k,R=some k->C k):Fr C a b :=
 ⟨h.os,h.tape,h.output,h.size,fun x h1 h2=>h.block x h1 fun e=>h2 (hR x e.symm)⟩
theorem Fr.ext {C:Nat->Prop} {w0 a b:World} (h:Fr C a b) (h0:Ext w0 a) (hC:∀ x,C x->w0.heap.size<=x):Ext w0 b :=
 ⟨h.os.trans h0.os,h.tape.trans h0.tape,h.output.trans h0.output,Nat.le_trans h0.size h.size,fun x hx=>(h.block x (Nat.lt_of_lt_of_le hx h0.size) fun hc=>by have:=hC x hc;omega).trans (h0.block x hx)⟩
theorem Fr.blk {C:Nat->Prop} {a b:World} {B:Nat} {cs:Array Value} {T:TypeId} (h:Fr C a b) (hb:Blk a B cs T) (hC:¬ C B):Blk b B cs T:=(h.block B hb.lt hC).trans hb
theorem Fr.has {C:Nat->Prop} {a b:World} {B o:Nat} {cs:List Value} (h:Fr C a b) (hb:Has a B o cs) (hC:¬ C B):Has b B o cs:=fun j u hj=>by
 have:=hb j u hj
 exact (World.cell?_of_block (a:=⟨B,o+j,none⟩) (h.block B (World.block_lt_of_cell? a _ this) hC)).trans this
theorem Fr.since {C:Nat->Prop} {a b:World} {N:Nat} (h:Fr C a b) (hC:∀ x,N<=x->x<a.heap.size->¬ C x):Since N a b:=⟨h.size,fun x h1 h2=>h.block x h2 (hC x h1 h2)⟩
theorem Has.grownR {w w':World} {b o:Nat} {cs:List Value} {R:Option Nat} (h:Has w b o cs) (hg:w.grownBy w' R) (hne:¬ R=some b):Has w' b o cs:=fun j u hj=>hg.cell (h j u hj) (fun e=>hne e.symm)
theorem Has.drew {w:World} {b o:Nat} {cs:List Value} (h:Has w b o cs):Has w.drew b o cs:=h
theorem World.heap_drew (w:World):w.drew.heap=w.heap:=rfl
theorem step_bs1 {P:Program} {ops:Array Oper} {o:Oper} {a:Act} {w:World} {K:Act->World->Prop} {Q:Exit->Act->World->Prop} {E:Prop} (hw:Region.wanted o (yielded ops a.tmps)=true) (t:TypeId) (x:Operand)
  (ho:o.op=.buildSlice t 1 #[(0,x)]) {e:TypeId} {size bytes:Nat} (hT:AppT P t e size bytes) {v:Value} (hx:a.eval x=v) {cs:List Value} (hv:v.cells=cs.toArray) (hl:cs.length=size) (hs:size<=1000)
  (h:K (a.put o.dst (.slice (some ⟨w.heap.size,0,none⟩) 1 1)) (w.alloc (.cells cs.toArray e))):if Region.wanted o (yielded ops a.tmps)=true then Oper.wp P o a w K Q else E:=by
 rw [if_pos hw]
 obtain ⟨ht,hinfo,hsz,hby⟩:=hT
 cases hi:P.info? e with
 | none=>simp [hi] at hinfo
 | some i =>
  simp only [hi,Option.map_some,Option.some.injEq,Prod.mk.injEq] at hinfo
  obtain ⟨hz0,hsi,hb⟩:=hinfo
  cases hz:i.zero with
  | none=>simp [hz] at hz0
  | some z =>
   have hv2:v.cells.size=size:=by rw [hv];simp [hl]
   have hf:=Great.fill_whole (s:=size) hsz [v] ((Array.range (1*size)).map (z.cells[·%z.cells.size]!)) (by simp [hv2]) (by simp)
   simp only [List.zipIdx_cons,List.zipIdx_nil,List.map_cons,List.map_nil,List.flatMap_cons,List.flatMap_nil,List.append_nil,hv] at hf
   have hr:=run_buildSlice (P:=P) w t e 1 #[(0,v)] cs.toArray i z ht hi hz (by rw [hsi];omega) (by rw [hsi];omega) (by rw [hsi];exact hf)
   unfold Oper.wp execOp
   simp only [ho,List.map_toArray,List.map_cons,List.map_nil,hx,Sem.run_bind,hr,Result.andThen_ok,Sem.run_pure]
   exact h
theorem step_app1 {α:Type} {V:World->List Value->α->Prop} {P:Program} {ops:Array Oper} {o:Oper} {a:Act} {w:World} {K:Act->World->Prop} {Q:Exit->Act->World->Prop} {E:Prop} (hw:Region.wanted o (yielded ops a.tmps)=true) (s x:Operand) (t:TypeId)
  (ho:o.op=.call { callee:=.builtin .append,args:=#[s,x],argTypes:=#[t,t] }) {N:Nat} {e:TypeId} {size bytes:Nat} (hT:AppT P t e size bytes)
  {v:Value} {r:List α} (hs:a.eval s=v) (hown:RowIs V e size N v r w) {B c:Nat} (hx:a.eval x=.slice (some ⟨B,0,none⟩) 1 c) {cs:List Value} (hl:cs.length=size)
  (hcs:Has w B 0 cs) (h1:cs.all (·.oneCell')=true) {y:α} (hy:StV V N v.ownBlock w cs y) (hn:r.length+1<=16777216) (hbase:N<=w.heap.size)
  (h:∀ g cap w',RowIs V e size N (.slice (some ⟨g,0,none⟩) (r.length+1) cap) (r++[y]) w'->w.grownBy w' v.ownBlock ->
   K (a.put o.dst (.slice (some ⟨g,0,none⟩) (r.length+1) cap)) w'):if Region.wanted o (yielded ops a.tmps)=true then Oper.wp P o a w K Q else E:=by
 rw [if_pos hw]
 obtain ⟨css,h1',h2,h3,h4⟩:=hown
 obtain ⟨v',w',hr,h5,h6,g,cap,rfl,hg⟩:=run_app (P:=P) (ty:=o.type) (a:=⟨B,0,none⟩) (m:=1) (c:=c) (news:=cs) hT h1' (fun _=>Nat.lt_of_lt_of_le Nat.zero_lt_one (Nat.le_refl 1)) (by rw [hl,Nat.one_mul]) (fun j u hj=>by
  have hadd:(⟨B,0,none⟩:Addr).add j=⟨B,j,none⟩:=by unfold Addr.add;split<;>simp_all
  rw [hadd]
  have:=hcs j u hj
  rwa [Nat.zero_add] at this) h1 hn hbase
 unfold Oper.wp execOp
 simp only [ho,resolve,invoke,builtin,Sem.run_bind,Sem.run_pure,Result.andThen_ok,List.map_toArray,List.map_cons,List.map_nil,hs,hx]
 rw [hr]
 exact h g cap w' (RowIs.snoc h2 h3 h4 hl hy h5 h6 ⟨g,cap,rfl,hg⟩) h6
/-! ### a range over an iterator whose rounds all run to their end -/
def soft (t:TypeId):Bool:=t==81||t==75
structure Hard (n0:Nat) (W W':World):Prop where
 below:Below n0 W W'
 hard:∀ (b:Nat) (c:Array Value) (t:TypeId) (f:Nat × Nat),W.heap[b]? = some (Obj.cells c t f)->soft t=false->W'.heap[b]? = some (Obj.cells c t f)
theorem Hard.refl (n0:Nat) (W:World):Hard n0 W W:=⟨Below.refl _ _,fun _ _ _ _ h _=>h⟩
theorem Hard.trans {n0:Nat} {a b c:World} (h:Hard n0 a b) (k:Hard n0 b c):Hard n0 a c:=⟨h.below.trans k.below,fun x y t f h1 h2=>k.hard x y t f (h.hard x y t f h1 h2) h2⟩
theorem Hard.of_ext {n0:Nat} {a b:World} (h:Ext a b) (hn:n0<=a.heap.size):Hard n0 a b :=
 ⟨Below.mono h hn,fun x _ _ _ h1 _=>(h.block x (Array.getElem?_eq_some_iff.1 h1).1).trans h1⟩
theorem Hard.drew {n0:Nat} (a:World):Hard n0 a a.drew:=⟨⟨rfl,rfl,rfl,Nat.le_refl _,fun _ _=>rfl⟩,fun _ _ _ _ h _=>h⟩
theorem Hard.of_gb {n0:Nat} {a b:World} {R:Option Nat} (h:a.grownBy b R) (hn:n0<=a.heap.size) (hR:∀ k,R=some k->n0<=k/\∀ (c:Array Value) (t:TypeId) (f:Nat × Nat),a.heap[k]? = some (Obj.cells c t f)->soft t=true):Hard n0 a b :=
 ⟨⟨h.os,h.tape,h.output,h.size,fun k hk=>h.block k (by omega) (by intro e;have:=(hR k e.symm).1;omega)⟩,fun x c t f h1 h2=>(h.block x (Array.getElem?_eq_some_iff.1 h1).1 (by
  intro e
  have:=(hR x e.symm).2 c t f h1
  rw [h2] at this;cases this)).trans h1⟩
theorem Hard.putObj {n0:Nat} {a:World} {l:Nat} {o:Obj} (o':Obj) (hl:a.heap[l]? = some o) (ho:o.isCells=false) (hn:n0<=l):Hard n0 a (a.putObj l o') :=
 ⟨⟨rfl,rfl,rfl,by simp,fun k hk=>World.putObj_heap_other (by omega)⟩,fun x c t f h1 _=>(World.putObj_heap_other (by rintro rfl;rw [hl] at h1;cases h1;cases ho)).trans h1⟩
theorem Hard.blk {n0:Nat} {a b:World} {B:Nat} {cs:Array Value} {T:TypeId} (h:Hard n0 a b) (hb:Blk a B cs T) (ht:soft T=false):Blk b B cs T:=h.hard B cs T (0,0) hb ht
theorem Hard.ext {n0:Nat} {w a b:World} (h:Hard n0 a b) (hx:Ext w a) (hn:w.heap.size<=n0):Ext w b:=Below.trans hx (Below.mono h.below hn)
def Yields (P:Program) (l:Nat) (x:Array Value) (W:World) (R:Ending->World->Prop):Prop:=∀ m,YieldAt Fence.wide m P l x W R
def Seq (P:Program) (n0:Nat) (g:FuncId) (lb:Array Value) (xs:List (List Value)) (w:World):Prop :=
 ∀ (l:Nat) (J:List (List Value)->World->Prop) (W:World),Hard n0 w W->n0<=W.heap.size->l<W.heap.size->OwnFrom W.heap.size J ->
  (∀ pre x W1,J pre W1->(∃ post,xs=pre++x::post)->W.heap.size<=W1.heap.size ->
   Yields P l #[.agg x.toArray] W1 fun e W'=>e=.returned (.bool true)/\J (pre++[x]) W'/\Hard n0 W1 W'/\KeepsFrom W.heap.size W1 W') ->
  J [] W->Calls P g (#[.func (.yield l) #[] #[]]++lb) W fun e W'=>(∃ v,e=.returned v)/\J xs W'/\Hard n0 W W'
def roundEnd (I:List (List Value)->World->Prop) (n0 B:Nat) (pre:List (List Value)) (W:World):Exit->Act->World->Prop
 | .normal,_,W'=>KeepsFrom B W W'/\Hard n0 W W'/\I pre W'
 | _,_,_=>False
theorem ownFrom_up {β:Type} {B B':Nat} {I:β->World->Prop} (h:OwnFrom B I) (hB:B<=B'):OwnFrom B' I:=fun s W W' row hs hg hr=>h s W W' row hs hg fun r e=>⟨Nat.le_trans hB (hr r e).1,(hr r e).2⟩
theorem keepsFrom_up {B B':Nat} {W W':World} (h:KeepsFrom B W W') (hB:B<=B'):KeepsFrom B' W W':=⟨h.size,fun k o hk=>h.same k o (Nat.le_trans hB hk)⟩
theorem keepsFrom_put {B:Nat} {W:World} {l:Nat} (o':Obj) (hl:l<B):KeepsFrom B W (W.putObj l o'):=⟨by simp,fun k o hk ho _=>(World.putObj_heap_other (by omega)).trans ho⟩
abbrev markOf (D:Nat):Deferred:={ target:=.collected D,args:=#[] }
theorem wp_range {P:Program} {g:Operand} {ps:Array Tmp} {assign body:Code} {Q:Exit->Act->World->Prop} {a:Act} {w:World} {n0:Nat} {gf:FuncId} {lb:Array Value}
  (hg:a.eval g=.func (.func gf) #[] lb) (eg:Leads P gf) {xs:List (List Value)} (hseq:Seq P n0 gf lb xs w) (hps:ps.size=1) (hn0:n0<=w.heap.size)
  (I:List (List Value)->World->Prop) (hI:OwnFrom w.heap.size I) (h0:I [] w) (Mid:List (List Value)->List Value->Act->World->Prop) (hMid:∀ pre x a',OwnFrom w.heap.size (fun (_:Unit) W=>Mid pre x a' W))
  (hassign:∀ (l m:Nat) (pre:List (List Value)) (x:List Value) (W:World),I pre W->(∃ post,xs=pre++x::post)->w.heap.size<=W.heap.size ->
   assign.wpIn (Fence.wide.inRound l) m P (Exit.then (fun a' W'=>KeepsFrom w.heap.size W W'/\Hard n0 W W'/\Mid pre x a' W') (fun _ _ _=>False)) { tmps:=(ps.zip #[.agg x.toArray]).foldl (fun t (p,v)=>t.setIfInBounds p v) a.tmps,defers:=[] } W)
  (hbody:∀ (l m:Nat) (pre:List (List Value)) (x:List Value) (a':Act) (W:World),Mid pre x a' W->(∃ post,xs=pre++x::post)->w.heap.size<=W.heap.size ->
   body.wpIn (Fence.wide.inRound l) m P (roundEnd I n0 w.heap.size (pre++[x]) W) a' W)
  (hdone:∀ (D:Nat) (W:World),w.heap.size<=D->I xs W->Hard n0 w W->W.heap[D]? = some (.deferred (some []))->Q .normal { a with defers:=markOf D::a.defers } W) :
  (Code.rangeFunc g ps assign body).wp P Q a w:=by
 rw [<-wpIn_wide (n:=1)]
 refine wpIn_rangeFunc ?_
 intro fn _
 obtain ⟨rec,hrec⟩:∃ rec:LoopState->Option Code->Loop,rec=fun st pe=>{ state:=st,pending:=pe,fn,tmps:=a.tmps,params:=ps,assign,body,defers:=w.heap.size }:=⟨_,rfl⟩
 obtain ⟨W1,hW1⟩:∃ W1,(w.alloc (.deferred (some []))).alloc (.loop (rec .ready none))=W1:=⟨_,rfl⟩
 have hx1:Ext w W1:=by rw [<-hW1];exact (ext_alloc _ _).alloc _
 have hsz:W1.heap.size=w.heap.size+1+1:=by rw [<-hW1];simp
 have hL1:W1.heap[w.heap.size+1]? = some (.loop (rec .ready none)):=by
  rw [<-hW1];have:=World.alloc_heap_new (w.alloc (.deferred (some []))) (.loop (rec .ready none));rwa [World.size_alloc] at this
 have hK1:W1.heap[w.heap.size]? = some (.deferred (some [])):=by
  rw [<-hW1];exact (Below.heap_alloc _ _ _ (by simp)).trans (World.alloc_heap_new w _)
 have hI1:I [] W1:=by rw [<-hW1];exact hI.alloc _ (hI.alloc _ h0)
 refine ⟨w.heap.size+1,[markOf w.heap.size],W1,{ target:=.fn (.func gf) lb,args:=#[.func (.yield (w.heap.size+1)) #[] #[]] },W1,gf,
  #[.func (.yield (w.heap.size+1)) #[] #[]]++lb,W1,?_,?_,fun _ _=>trivial,?_,fun h=>by simp [Fence.wide] at h,?_⟩
 ·rw [<-hW1,hrec];exact run_enterLoop_outer _ _ _ _ _
 ·simp only [resolve,hg]
  simp [go_sem]
 ·have h2:(invoke (.fn (.func gf) lb) #[.func (.yield (w.heap.size+1)) #[] #[]]).run P W1=(callFunc gf (#[.func (.yield (w.heap.size+1)) #[] #[]]++lb)).run P W1:=rfl
  rw [h2,eg]
 ·rw [callsIn_wide]
  have hdrop:∀ {s:List (List Value)} {A B:World} {row:Option Nat} {k:Nat} {o:Obj},k<W1.heap.size->A.heap[k]? = some o->A.grownBy B row->(∀ r,row=some r->W1.heap.size<=r/\∃ o:Obj,A.heap[r]? = some o/\o.isCells=false)->B.heap[k]? = some o :=
   fun {s A B row k o} hk ho hgb hr=>(hgb.block k (Array.getElem?_eq_some_iff.1 ho).1 (by intro e;have:=(hr k e.symm).1;omega)).trans ho
  refine (hseq (w.heap.size+1)
   (fun pre W=>I pre W/\W.heap[w.heap.size+1]? = some (.loop (rec .ready none))/\W.heap[w.heap.size]? = some (.deferred (some [])))
   W1 (Hard.of_ext hx1 hn0) (by omega) (by omega)
   (fun s A B row hs hgb hr=>⟨(ownFrom_up hI (by omega)) s A B row hs.1 hgb hr,hdrop (s:=s) (by omega) hs.2.1 hgb hr,hdrop (s:=s) (by omega) hs.2.2 hgb hr⟩)
   ?_ ⟨hI1,hL1,hK1⟩).mono ?_
  ·rintro pre x W ⟨hi,hl,hk⟩ hpost hsW m
   have hlt:w.heap.size+1<W.heap.size:=by omega
   have hy:=run_yield (P:=P) (args:=#[.agg x.toArray]) hl (by rw [hrec];simp [hps])
   rw [hrec] at hy
   refine ⟨fn,_,assign,body,hy,roundIn_of_wpIn trivial (wpIn_mono (hassign _ m pre x W hi hpost (by omega)) ?_)⟩
   rintro e a1 Wa he
   cases e with
   | normal =>
    obtain ⟨hka,hha,hmid⟩:=he
    have hla:=hka.same _ _ (by omega) hl rfl
    have hda:=hka.same _ _ (Nat.le_refl _) hk rfl
    have hlta:w.heap.size+1<Wa.heap.size:=(Array.getElem?_eq_some_iff.1 hla).1
    refine ⟨_,run_beginRound hla (by rw [hrec]),?_⟩
    have hl2:(Wa.putObj (w.heap.size+1) (.loop { rec .ready none with state:=.busy })).heap[w.heap.size+1]? = some (.loop { rec .ready none with state:=.busy }):=World.putObj_heap_same hlta
    have hk2:(Wa.putObj (w.heap.size+1) (.loop { rec .ready none with state:=.busy })).heap[w.heap.size]? = some (.deferred (some [])):=(World.putObj_heap_other (by omega)).trans hda
    have hm2:Mid pre x a1 (Wa.putObj (w.heap.size+1) (.loop { rec .ready none with state:=.busy })):=(hMid pre x a1).putObj (s:=()) _ hmid (by omega) hla rfl
    refine wpIn_mono (hbody _ m pre x a1 _ hm2 hpost (by simp;omega)) ?_
    rintro e a3 W3 hp
    cases e with
    | normal =>
     obtain ⟨hk3,hh3,hi3⟩:=hp
     have hl3:=hk3.same _ _ (by omega) hl2 rfl
     have hd3:=hk3.same _ _ (Nat.le_refl _) hk2 rfl
     have hr:=run_endRound (P:=P) none hl3
     refine ⟨_,_,hr,rfl,⟨hI.putObj _ hi3 (by omega) hl3 rfl,?_,(World.putObj_heap_other (by omega)).trans hd3⟩,?_,?_⟩
     ·rw [World.putObj_heap_same (Array.getElem?_eq_some_iff.1 hl3).1,hrec];rfl
     ·exact (hha.trans (Hard.putObj _ hla rfl (by omega))).trans (hh3.trans (Hard.putObj _ hl3 rfl (by omega)))
     ·exact ((keepsFrom_up hka (by omega)).trans (keepsFrom_put _ (by omega))).trans ((keepsFrom_up hk3 (by omega)).trans (keepsFrom_put _ (by omega)))
    | ret=>exact hp.elim
    | exit id=>exact hp.elim
    | goto t=>exact hp.elim
    | panic ch=>exact hp.elim
    | outgrown=>exact hp.elim
   | ret=>exact he.elim
   | exit id=>exact he.elim
   | goto t=>exact he.elim
   | panic ch=>exact he.elim
   | outgrown=>exact he.elim
  ·rintro e W2 ⟨⟨v,rfl⟩,⟨hi,hl,hk⟩,hh⟩
   have hr:=run_endLoop (P:=P) hl (by rw [hrec];simp)
   refine ⟨none,_,by rw [hrec] at hr;exact hr,hdone _ _ (Nat.le_refl _) (hI.putObj _ hi (by omega) hl rfl) ?_ ((World.putObj_heap_other (by omega)).trans hk)⟩
   exact ((Hard.of_ext hx1 hn0).trans hh).trans (Hard.putObj _ hl rfl (by omega))
end Go.Proofs.YtpngepnfinbaoaaGreat
