/- Laws and walks that a claim of this seat leans on: Held, Row, Frame, Range, Round. -/
import Derived.Test.YtemabheegnngdaaGreatVWant
import Derived.Deep.RegionHeld3
import Derived.Laws.AppendOwn
import Derived.Great.BuildSlice
import Derived.RangeFuncNested
import Derived.TacticsIn
import Derived.OrdersIn
import Derived.Test.YtemabheegnngdaaGreatV00
set_option linter.all false
namespace Go.Proofs.YtemabheegnngdaaGreat
open Go.RowKit
theorem yif_load {P:Program} {ops:Array Oper} {S:World→Prop} {o:Oper} {a:Act} (hw:Region.wanted o (yielded ops a.tmps)=true) (ty:TypeId) (x:Operand) (ho:o.op=.load ty x)
  {b off:Nat} (hx:a.eval x=.pointer (some ⟨b,off,none⟩)) {cs:List Value} {n:Nat} (hg:∀ w,S w→Has w b off cs) (hu:Agg P ty n) (hn:cs.length=n):YieldsIf P ops S o (.agg cs.toArray) a :=
 .inl ⟨hw,fun w hS=>by
  subst hn
  unfold execOp
  simp only [ho,hx,Instr.loadAt,Instr.sureAddr,Sem.run_bind,Sem.run_pure,Result.andThen_ok,run_loadVar_has w b off ty cs (hg w hS) hu]⟩
theorem yif_load1 {P:Program} {ops:Array Oper} {S:World→Prop} {o:Oper} {a:Act} (hw:Region.wanted o (yielded ops a.tmps)=true) {v:Value} (h:∀ w,S w→(execOp a.eval o).run P w=.ok (.value v) w):YieldsIf P ops S o v a:=.inl ⟨hw,h⟩
theorem step_store_blk {P:Program} {ops:Array Oper} {o:Oper} {a:Act} {w:World} {Q:Exit→Act→World→Prop} {K:Act→World→Prop} (hw:Region.wanted o (yielded ops a.tmps)=true)
  (ty:TypeId) (x y:Operand) (ho:o.op=.store ty x y) {c:Array Value} {B:Nat} (hb:Blk w B c ty) (hx:a.eval x=.pointer (some ⟨B,0,none⟩)) {cs:List Value} (hy:a.eval y=.agg cs.toArray) {n:Nat}
  (hu:Agg P ty n) (hn:cs.length=n) (hc:c.size=n) (h1:cs.all (·.oneCell')=true)
  (h:∀ w',Blk w' B cs.toArray ty→w.grownBy w' (some B)→K (a.put o.dst undef) w'):if Region.wanted o (yielded ops a.tmps)=true then Oper.wp P o a w K Q else K (a.put o.dst undef) w:=by
 rw [if_pos hw]
 unfold Oper.wp execOp
 simp only [ho,hx,hy]
 have:=run_storeVar_row (P:=P) w B ty ty c cs.toArray hb (by rw [hu.2];simp [hn]) (by simp [hn,hc]) (by simpa using h1)
 simp only [Instr.storeAt,Instr.sureAddr,Sem.run_bind,Sem.run_pure,Result.andThen_ok,this]
 exact h _ (setRow_blk hb) (gb_setRow w B _)
/-! ### what a call has made stays when older blocks turn -/
def Since (N:Nat) (w w':World):Prop:=w.heap.size ≤ w'.heap.size∧∀ b,N ≤ b→b < w.heap.size→w'.heap[b]? = w.heap[b]?
theorem Since.refl (N:Nat) (w:World):Since N w w:=⟨Nat.le_refl _,fun _ _ _=>rfl⟩
theorem Since.trans {N:Nat} {a b c:World} (h:Since N a b) (k:Since N b c):Since N a c :=
 ⟨Nat.le_trans h.1 k.1,fun x h1 h2=>(k.2 x h1 (Nat.lt_of_lt_of_le h2 h.1)).trans (h.2 x h1 h2)⟩
theorem Since.mono {N M:Nat} {a b:World} (h:Since N a b) (hn:N ≤ M):Since M a b:=⟨h.1,fun x h1 h2=>h.2 x (Nat.le_trans hn h1) h2⟩
theorem Since.of_ext {N:Nat} {w w':World} (h:Ext w w'):Since N w w':=⟨h.size,fun b _ hb=>h.block b hb⟩
theorem Since.of_grown {N B:Nat} {w w':World} (h:w.grownBy w' (some B)) (hb:B < N):Since N w w':=⟨h.size,fun b h1 h2=>h.block b h2 (by intro e;injection e;omega)⟩
theorem Since.blk {N B:Nat} {w w':World} {c:Array Value} {T:TypeId} (h:Since N w w') (hb:Blk w B c T) (hn:N ≤ B):Blk w' B c T:=(h.2 B hn hb.lt).trans hb
def FE (N:Nat) (w:World) (cs:List Value) (x:E):Prop:=∀ W,Since N w W→VE W cs x
theorem FE.ve {N:Nat} {w:World} {cs:List Value} {x:E} (h:FE N w cs x):VE w cs x:=h w (Since.refl _ _)
theorem FE.since {N:Nat} {w w':World} {cs:List Value} {x:E} (h:FE N w cs x) (hs:Since N w w'):FE N w' cs x:=fun _ hW=>h _ (hs.trans hW)
theorem FE.mono {N M:Nat} {w:World} {cs:List Value} {x:E} (h:FE M w cs x) (hn:N ≤ M):FE N w cs x:=fun W hW=>h W (hW.mono hn)
theorem FE.ext {N:Nat} {w w':World} {cs:List Value} {x:E} (h:FE N w cs x) (hx:Ext w w'):FE N w' cs x:=h.since (Since.of_ext hx)
theorem es_of_blk (l:List E):∀ (css:List (List Value)) (pre:List Value) (w:World) (B:Nat) (post:List Value) (T:TypeId),Blk w B (pre ++ css.flatten ++ post).toArray T→css.length=l.length →
  (∀ i (h:i < css.length) (h':i < l.length),VE w css[i] l[i])→Rows 8 (EAt w) l B pre.length:=by
 induction l with
 | nil=>intros;trivial
 | cons x l ih =>
  intro css pre w B post T hb hl hv
  cases css with
  | nil=>simp at hl
  | cons cs css =>
   obtain ⟨s,hcs,hs⟩:=hv 0 (by simp) (by simp)
   simp only [Jb] at hcs hs
   have h8:cs.length=8:=by rw [hcs];rfl
   refine ⟨EAt_iff.2 ⟨s,?_,hs⟩,?_⟩
   ·rw [← hcs]
    intro j u hj
    rw [hb.cell]
    have hlt:j < cs.length:=(List.getElem?_eq_some_iff.1 hj).1
    rw [List.getElem?_toArray,List.append_assoc,List.getElem?_append_right (by omega),List.flatten_cons,List.append_assoc,List.getElem?_append_left (by omega)]
    rw [Nat.add_sub_cancel_left]
    exact hj
   ·have:=ih css (pre ++ cs) w B post T (by simpa [List.append_assoc] using hb) (by simpa using hl) (fun i h h'=>hv (i + 1) (by simpa using h) (by simpa using h'))
    rw [List.length_append,h8] at this
    exact this
open Go.RowKit
/-! ### a slice of structs that grows by append -/
def AppT (P:Program) (t e:TypeId) (size bytes:Nat):Prop :=
 P.underlying t=some (.slice e)∧(P.info? e).map (fun i=>(i.zero.map (·.cells.size),i.size,i.bytes))=some (some size,size,bytes)∧0 < size∧bytes ≤ 1000
theorem run_app {P:Program} {w:World} {base:Nat} {t ty e:TypeId} {size bytes:Nat} (hT:AppT P t e size bytes)
  {v:Value} {n:Nat} {xs:List Value} (hown:w.ownsRow base e size v n xs) {a:Addr} {m c:Nat} (hm:v=.slice none 0 0→0 < m) {news:List Value} (hl:news.length=m * size)
  (hnews:∀ j u,news[j]? = some u→w.cell? (a.add j)=some u) (h1:news.all (·.oneCell')=true) (hn:n + m ≤ 16777216) (hbase:base ≤ w.heap.size) :
  ∃ v' w',(Builtin.append_ #[t,t] ty #[v,.slice (some a) m c]).run P w=.ok v' w'∧w'.ownsRow base e size v' (n + m) (xs ++ news)∧w.grownBy w' v.ownBlock ∧
   ∃ g cap,v'=.slice (some ⟨g,0,none⟩) (n + m) cap∧(v.ownBlock=some g ∨ w.heap.size ≤ g):=by
 obtain ⟨ht,hinfo,hsz,hby⟩:=hT
 cases hi:P.info? e with
 | none=>simp [hi] at hinfo
 | some i =>
  simp only [hi,Option.map_some,Option.some.injEq,Prod.mk.injEq] at hinfo
  obtain ⟨hz0,hs,hb⟩:=hinfo
  cases hz:i.zero with
  | none=>simp [hz] at hz0
  | some z =>
   simp only [hz,Option.map_some,Option.some.injEq] at hz0
   have hbb:(n + m) * bytes ≤ 140737488355328:=Nat.le_trans (Nat.mul_le_mul hn hby) (by decide)
   have h1':∀ u ∈ news,u.oneCell'=true:=fun u hu=>by simpa using List.all_eq_true.1 h1 u hu
   obtain ⟨v',w',hr,h2,h3,h4⟩:=run_append_own (P:=P) w base t ty e i z size bytes ht hi hz hs hb hz0 hsz v n xs hown a m c news hl hnews h1' (by simp only [maxLen];omega) hbb hbase
   refine ⟨v',w',hr,h2,h3,?_⟩
   rcases hown.2 with ⟨rfl,rfl⟩ | ⟨g,cap,cur,rfl,hbg,hg,hnc,hcm,hcs,htake⟩
   ·have hr2:=run_append_nil (P:=P) w t ty e i z ht hi hz a m c news (by rw [hs];exact hl) hnews (hm rfl) (by omega) (by rw [hb];simp at hbb;omega)
    rw [hr] at hr2
    simp only [Result.ok.injEq] at hr2
    exact ⟨w.heap.size,_,by rw [hr2.1,Nat.zero_add],.inr (Nat.le_refl _)⟩
   ·by_cases hroom:n + m ≤ cap
    ·have hfit:n * i.size + news.length ≤ cur.size:=by rw [hs,hl,hcs,← Nat.add_mul];exact Nat.mul_le_mul_right _ hroom
     have hr2:=run_append_room (P:=P) w t ty e i ht hi g n cap cur hg a m c news (by rw [hs];exact hl) hnews h1' hroom hfit
     rw [hr] at hr2
     simp only [Result.ok.injEq] at hr2
     exact ⟨g,cap,hr2.1,.inl rfl⟩
    ·have holds:∀ j u,xs[j]? = some u→w.cell? ((⟨g,0,none⟩ : Addr).add j)=some u:=hown.cells (g:=g) rfl
     have hr2:=run_append_grow (P:=P) w t ty e i z ht hi hz ⟨g,0,none⟩ n cap xs (by rw [hs];exact hown.1) holds a m c news (by rw [hs];exact hl) hnews (by omega) (by omega)
      (growslice_fits (by omega) (by rw [hb];exact hbb))
     rw [hr] at hr2
     simp only [Result.ok.injEq] at hr2
     exact ⟨w.heap.size,_,hr2.1,.inr (Nat.le_refl _)⟩
theorem wpList_app {P:Program} {ops:Array Oper} {rest:List Oper} {o:Oper} {a:Act} {w:World} {Q:Exit→Act→World→Prop} (hw:Region.wanted o (yielded ops a.tmps)=true) (s x:Operand) (t:TypeId)
  (ho:o.op=.call { callee:=.builtin .append,args:=#[s,x],argTypes:=#[t,t] }) {base:Nat} {e:TypeId} {size bytes:Nat} (hT:AppT P t e size bytes)
  {v:Value} {n:Nat} {xs:List Value} (hs:a.eval s=v) (hown:w.ownsRow base e size v n xs) {ad:Addr} {m c:Nat} (hx:a.eval x=.slice (some ad) m c) (hm:v=.slice none 0 0→0 < m) {news:List Value} (hl:news.length=m * size)
  (hnews:∀ j u,news[j]? = some u→w.cell? (ad.add j)=some u) (h1:news.all (·.oneCell')=true) (hn:n + m ≤ 16777216) (hbase:base ≤ w.heap.size)
  (h:∀ g cap w',w'.ownsRow base e size (.slice (some ⟨g,0,none⟩) (n + m) cap) (n + m) (xs ++ news)→w.grownBy w' v.ownBlock→(v.ownBlock=some g ∨ w.heap.size ≤ g) →
   wpList P ops Q rest (a.put o.dst (.slice (some ⟨g,0,none⟩) (n + m) cap)) w'):wpList P ops Q (o :: rest) a w :=
 BigFrame.wpList_want hw fun _ hK=>by
  obtain ⟨v',w',hr,h2,h3,g,cap,rfl,hg⟩:=run_app (P:=P) (ty:=o.type) hT hown hm hl hnews h1 hn hbase
  unfold Oper.wp execOp
  simp only [ho,resolve,invoke,builtin,Sem.run_bind,Sem.run_pure,Result.andThen_ok,List.map_toArray,List.map_cons,List.map_nil,hs,hx]
  rw [hr]
  exact hK _ _ (h g cap w' h2 h3 hg)
theorem wpList_bs1 {P:Program} {ops:Array Oper} {rest:List Oper} {o:Oper} {a:Act} {w:World} {Q:Exit→Act→World→Prop} (hw:Region.wanted o (yielded ops a.tmps)=true) (t:TypeId) (x:Operand)
  (ho:o.op=.buildSlice t 1 #[(0,x)]) {e:TypeId} {size bytes:Nat} (hT:AppT P t e size bytes) {v:Value} (hx:a.eval x=v) {cs:List Value} (hv:v.cells=cs.toArray) (hl:cs.length=size) (hs:size ≤ 1000)
  (h:wpList P ops Q rest (a.put o.dst (.slice (some ⟨w.heap.size,0,none⟩) 1 1)) (w.alloc (.cells cs.toArray e))):wpList P ops Q (o :: rest) a w :=
 BigFrame.wpList_want hw fun _ hK=>by
  obtain ⟨ht,hinfo,hsz,hby⟩:=hT
  cases hi:P.info? e with
  | none=>simp [hi] at hinfo
  | some i =>
   simp only [hi,Option.map_some,Option.some.injEq,Prod.mk.injEq] at hinfo
   obtain ⟨hz0,hsi,hb⟩:=hinfo
   cases hz:i.zero with
   | none=>simp [hz] at hz0
   | some z =>
    have hv2:v.cells.size=size:=by rw [hv];simp [hl]
    have hf:=Great.fill_whole (s:=size) hsz [v] ((Array.range (1 * size)).map (z.cells[· % z.cells.size]!)) (by simp [hv2]) (by simp)
    simp only [List.zipIdx_cons,List.zipIdx_nil,List.map_cons,List.map_nil,List.flatMap_cons,List.flatMap_nil,List.append_nil,hv] at hf
    have hr:=run_buildSlice (P:=P) w t e 1 #[(0,v)] cs.toArray i z ht hi hz (by rw [hsi];omega) (by rw [hsi];omega) (by rw [hsi];exact hf)
    unfold Oper.wp execOp
    simp only [ho,List.map_toArray,List.map_cons,List.map_nil,hx,Sem.run_bind,hr,Result.andThen_ok,Sem.run_pure]
    exact hK _ _ h
theorem wpList_bs0 {P:Program} {ops:Array Oper} {rest:List Oper} {o:Oper} {a:Act} {w:World} {Q:Exit→Act→World→Prop} (hw:Region.wanted o (yielded ops a.tmps)=true) (t:TypeId)
  (ho:o.op=.buildSlice t 0 #[]) {e:TypeId} {size bytes:Nat} (hT:AppT P t e size bytes)
  (h:wpList P ops Q rest (a.put o.dst (.slice (some ⟨w.heap.size,0,none⟩) 0 0)) (w.alloc (.cells #[] e))):wpList P ops Q (o :: rest) a w :=
 BigFrame.wpList_want hw fun _ hK=>by
  obtain ⟨ht,hinfo,hsz,hby⟩:=hT
  cases hi:P.info? e with
  | none=>simp [hi] at hinfo
  | some i =>
   have hr:(Instr.buildSlice t 0 #[]).run P w=.ok (.slice (some ⟨w.heap.size,0,none⟩) 0 0) (w.alloc (.cells #[] e)):=by
    simp [Instr.buildSlice,run_underlying ht,sizeOf,typeInfo,hi,newRow,Instr.fill]
    congr 2
    apply Array.eq_empty_of_size_eq_zero;simp
   unfold Oper.wp execOp
   simp only [ho,List.map_toArray,List.map_nil,Sem.run_bind,hr,Result.andThen_ok,Sem.run_pure]
   exact hK _ _ h
def StV {α : Type} (V:World→List Value→α→Prop) (N:Nat) (R:Option Nat) (w:World) (cs:List Value) (x : α):Prop :=
 ∀ W,w.heap.size ≤ W.heap.size→(∀ b,N ≤ b→b < w.heap.size→some b ≠ R→W.heap[b]? = w.heap[b]?)→V W cs x
def FV {α : Type} (V:World→List Value→α→Prop) (N:Nat) (w:World) (cs:List Value) (x : α):Prop:=∀ W,Since N w W→V W cs x
def RowIs {α : Type} (V:World→List Value→α→Prop) (e:TypeId) (size N:Nat) (v:Value) (r:List α) (w:World):Prop :=
 ∃ css:List (List Value),w.ownsRow N e size v r.length css.flatten∧css.length=r.length∧(∀ cs ∈ css,cs.length=size) ∧
  ∀ i (h:i < css.length) (h':i < r.length),StV V N v.ownBlock w css[i] r[i]
theorem RowIs.nil {α : Type} {V:World→List Value→α→Prop} {e:TypeId} {size N:Nat} {w:World}:RowIs V e size N (.slice none 0 0) ([]:List α) w :=
 ⟨[],World.ownsRow_nil _ _ _ _,rfl,by simp,fun i h=>by simp at h⟩
theorem RowIs.since {α : Type} {V:World→List Value→α→Prop} {e:TypeId} {size N:Nat} {v:Value} {r:List α} {w w':World} (h:RowIs V e size N v r w) (hs:Since N w w'):RowIs V e size N v r w':=by
 obtain ⟨css,h1,h2,h3,h4⟩:=h
 refine ⟨css,?_,h2,h3,fun i hi hi' W hW hb=>h4 i hi hi' W (Nat.le_trans hs.1 hW) fun b hN hlt hne=>(hb b hN (Nat.lt_of_lt_of_le hlt hs.1) hne).trans (hs.2 b hN hlt)⟩
 refine ⟨h1.1,?_⟩
 rcases h1.2 with hn | ⟨g,cap,cur,rfl,hb,hgg,rest⟩
 ·exact .inl hn
 ·exact .inr ⟨g,cap,cur,rfl,hb,(hs.2 g hb (Array.getElem?_eq_some_iff.1 hgg).1).trans hgg,rest⟩
theorem RowIs.lt {α : Type} {V:World→List Value→α→Prop} {e:TypeId} {size N:Nat} {v:Value} {r:List α} {w:World} (h:RowIs V e size N v r w):∀ k,v.ownBlock=some k→N ≤ k∧k < w.heap.size:=by
 obtain ⟨css,h1,-⟩:=h;exact h1.lt
theorem RowIs.snoc {α : Type} {V:World→List Value→α→Prop} {e:TypeId} {size N:Nat} {v:Value} {r:List α} {w:World} {css:List (List Value)}
  (h2:css.length=r.length) (h3:∀ cs ∈ css,cs.length=size) (h4:∀ i (h:i < css.length) (h':i < r.length),StV V N v.ownBlock w css[i] r[i])
  {cs:List Value} (hcs:cs.length=size) {x : α} (hx:StV V N v.ownBlock w cs x) {v':Value} {w':World} (hown:w'.ownsRow N e size v' (r.length + 1) (css.flatten ++ cs)) (hg:w.grownBy w' v.ownBlock)
  (hv:∃ g cap,v'=.slice (some ⟨g,0,none⟩) (r.length + 1) cap∧(v.ownBlock=some g ∨ w.heap.size ≤ g)):RowIs V e size N v' (r ++ [x]) w':=by
 have key:∀ cs x,StV V N v.ownBlock w cs x→StV V N v'.ownBlock w' cs x:=by
  intro cs x h W hW hb
  refine h W (Nat.le_trans hg.size hW) fun b hN hlt hne=>?_
  refine (hb b hN (Nat.lt_of_lt_of_le hlt hg.size) ?_).trans (hg.block b hlt hne)
  obtain ⟨g,cap,rfl,hvg⟩:=hv
  simp only [Value.ownBlock,ne_eq,Option.some.injEq]
  rintro rfl
  rcases hvg with hvg | hvg
  ·exact hne hvg.symm
  ·omega
 refine ⟨css ++ [cs],by simpa using hown,by simp [h2],?_,?_⟩
 ·intro c hc
  rcases List.mem_append.1 hc with hc | hc
  ·exact h3 c hc
  ·obtain rfl:=List.mem_singleton.1 hc
   exact hcs
 ·intro i hi hi'
  by_cases hik:i < r.length
  ·rw [List.getElem_append_left (by omega),List.getElem_append_left hik]
   exact key _ _ (h4 i (by omega) hik)
  ·have:i=r.length:=by simp at hi;omega
   rw [List.getElem_append_right (by omega),List.getElem_append_right (by omega)]
   simp only [h2,this,Nat.sub_self,Jb]
   exact key _ _ hx
theorem FV.st {α : Type} {V:World→List Value→α→Prop} {M N:Nat} {R:Option Nat} {w:World} {cs:List Value} {x : α} (h:FV V M w cs x) (hN:N ≤ M) (hR:∀ k,R=some k→k < M):StV V N R w cs x :=
 fun W hW hb=>h W ⟨hW,fun b hM hlt=>hb b (Nat.le_trans hN hM) hlt (by intro e;have:=hR b e.symm;omega)⟩
theorem FV.since {α : Type} {V:World→List Value→α→Prop} {N:Nat} {w w':World} {cs:List Value} {x : α} (h:FV V N w cs x) (hs:Since N w w'):FV V N w' cs x:=fun _ hW=>h _ (hs.trans hW)
theorem FV.mono {α : Type} {V:World→List Value→α→Prop} {N M:Nat} {w:World} {cs:List Value} {x : α} (h:FV V M w cs x) (hn:N ≤ M):FV V N w cs x:=fun W hW=>h W (hW.mono hn)
theorem FV.ext {α : Type} {V:World→List Value→α→Prop} {N:Nat} {w w':World} {cs:List Value} {x : α} (h:FV V N w cs x) (hx:Ext w w'):FV V N w' cs x:=h.since (Since.of_ext hx)
theorem FV.here {α : Type} {V:World→List Value→α→Prop} {N:Nat} {w:World} {cs:List Value} {x : α} (h:FV V N w cs x):V w cs x:=h w (Since.refl _ _)
theorem wpList_app1 {α : Type} {V:World→List Value→α→Prop} {P:Program} {ops:Array Oper} {rest:List Oper} {o:Oper} {a:Act} {w:World} {Q:Exit→Act→World→Prop} (hw:Region.wanted o (yielded ops a.tmps)=true) (s x:Operand) (t:TypeId)
  (ho:o.op=.call { callee:=.builtin .append,args:=#[s,x],argTypes:=#[t,t] }) {N:Nat} {e:TypeId} {size bytes:Nat} (hT:AppT P t e size bytes)
  {v:Value} {r:List α} (hs:a.eval s=v) (hown:RowIs V e size N v r w) {B c:Nat} (hx:a.eval x=.slice (some ⟨B,0,none⟩) 1 c) {cs:List Value} (hl:cs.length=size)
  (hcs:Has w B 0 cs) (h1:cs.all (·.oneCell')=true) {y : α} (hy:StV V N v.ownBlock w cs y) (hn:r.length + 1 ≤ 16777216) (hbase:N ≤ w.heap.size)
  (h:∀ g cap w',RowIs V e size N (.slice (some ⟨g,0,none⟩) (r.length + 1) cap) (r ++ [y]) w'→w.grownBy w' v.ownBlock →
   wpList P ops Q rest (a.put o.dst (.slice (some ⟨g,0,none⟩) (r.length + 1) cap)) w'):wpList P ops Q (o :: rest) a w:=by
 obtain ⟨css,h1',h2,h3,h4⟩:=hown
 refine wpList_app hw s x t ho hT hs h1' hx (fun _=>Nat.lt_of_lt_of_le Nat.zero_lt_one (Nat.le_refl 1)) (by rw [hl,Nat.one_mul]) (fun j u hj=>?_) h1 hn hbase ?_
 ·have hadd:(⟨B,0,none⟩ : Addr).add j=⟨B,j,none⟩:=by unfold Addr.add;split <;> simp_all
  rw [hadd]
  have:=hcs j u hj
  rwa [Nat.zero_add] at this
 ·intro g cap w' ho' hg hv
  exact h g cap w' (RowIs.snoc h2 h3 h4 hl hy ho' hg ⟨g,cap,rfl,hv⟩) hg
theorem rows_of_flat {α : Type} {V:World→List Value→α→Prop} {At:World→α→Nat→Nat→Prop} {size:Nat} (hV:∀ W cs x b o,Has W b o cs→V W cs x→At W x b o) (l:List α) :
  ∀ (css:List (List Value)) (W:World) (B o:Nat),Has W B o css.flatten→css.length=l.length→(∀ cs ∈ css,cs.length=size) →
  (∀ i (h:i < css.length) (h':i < l.length),V W css[i] l[i])→Rows size (At W) l B o:=by
 induction l with
 | nil=>intros;trivial
 | cons x l ih =>
  intro css W B o hb hl h8 hv
  cases css with
  | nil=>simp at hl
  | cons cs css =>
   have hv0:=hv 0 (by simp) (by simp)
   simp only [Jb] at hv0
   have hc:cs.length=size:=h8 cs (by simp)
   rw [List.flatten_cons] at hb
   refine ⟨hV _ _ _ _ _ ?_ hv0,ih css W B (o + size) ?_ (by simpa using hl) (fun c hc=>h8 c (by simp [hc])) (fun i h h'=>hv (i + 1) (by simpa using h) (by simpa using h'))⟩
   ·intro j u hj
    exact hb j u (by rw [List.getElem?_append_left (List.getElem?_eq_some_iff.1 hj).1];exact hj)
   ·intro j u hj
    have:=hb (size + j) u (by rw [List.getElem?_append_right (by omega),hc,Nat.add_sub_cancel_left];exact hj)
    rw [show o + size + j=o + (size + j) by omega];exact this
theorem RowIs.sl {α : Type} {V:World→List Value→α→Prop} {At:World→α→Nat→Nat→Prop} {e:TypeId} {size N:Nat} (hV:∀ W cs x b o,Has W b o cs→V W cs x→At W x b o)
  {v:Value} {r:List α} {w W:World} (h:RowIs V e size N v r w) (hs:Since N w W):Sl size (At W) v r:=by
 obtain ⟨css,h1,h2,h3,h4⟩:=h.since hs
 rcases h1.2 with ⟨rfl,h0⟩ | ⟨g,cap,cur,rfl,hb,hgg,hnc,hcm,hcs,htake⟩
 ·obtain rfl:r=[]:=List.eq_nil_of_length_eq_zero h0
  exact Sl.nil _ _
 ·refine ⟨g,0,⟨_,cap,rfl,hnc,hcm,fun _=>rfl⟩,rows_of_flat hV r css W g 0 ?_ h2 h3 (fun i hi hi'=>h4 i hi hi' W (Nat.le_refl _) (fun _ _ _ _=>rfl))⟩
  intro j u hj
  rw [← htake] at hj
  rw [Nat.zero_add,cell_of_row W g j cur e (0,0) hgg]
  rw [List.getElem?_take] at hj
  split at hj
  ·simpa using hj
  ·cases hj
theorem RowIs.one {α : Type} {V:World→List Value→α→Prop} {e:TypeId} {size N:Nat} {v:Value} {r:List α} {w:World} (h:RowIs V e size N v r w):v.oneCell'=true:=by
 obtain ⟨css,h1,-⟩:=h
 rcases h1.2 with ⟨rfl,h0⟩ | ⟨g,cap,cur,rfl,-⟩ <;> rfl
theorem RowIs.open {α : Type} {V:World→List Value→α→Prop} {e:TypeId} {size N:Nat} {v:Value} {r:List α} {w:World} (h:RowIs V e size N v r w):∃ a cap,v=.slice a r.length cap∧(0 < r.length→∃ g,a=some ⟨g,0,none⟩):=by
 obtain ⟨css,h1,-⟩:=h
 rcases h1.2 with ⟨rfl,h0⟩ | ⟨g,cap,cur,rfl,-⟩
 ·exact ⟨none,0,by rw [h0],fun h=>by omega⟩
 ·exact ⟨_,cap,rfl,fun _=>⟨g,rfl⟩⟩
theorem VE.at {W:World} {cs:List Value} {x:E} {b o:Nat} (h:Has W b o cs) (hv:VE W cs x):EAt W x b o:=by
 obtain ⟨s,rfl,hs⟩:=hv;exact EAt_iff.2 ⟨s,h,hs⟩
theorem VT.at {W:World} {cs:List Value} {x:T} {b o:Nat} (h:Has W b o cs) (hv:VT W cs x):TAt W x b o:=by
 obtain ⟨s,s',rfl,hs,hs'⟩:=hv;exact TAt_iff.2 ⟨s,s',h,hs,hs'⟩
theorem VProc.at {W:World} {cs:List Value} {x:Proc} {b o:Nat} (h:Has W b o cs) (hv:VProc W cs x):ProcAt W x b o:=by
 obtain ⟨s,rfl,hs⟩:=hv;exact ⟨s,h,hs⟩
theorem VCheck.at {W:World} {cs:List Value} {x:Chk} {b o:Nat} (h:Has W b o cs) (hv:VCheck W cs x):ChkAt W x b o:=by
 obtain ⟨s,rfl,hs⟩:=hv;exact ⟨s,h,hs⟩
theorem appE:AppT Tryz.prog 42 44 8 80:=⟨Tryz.underlying42,by kernel_rfl,by decide,by decide⟩
theorem appT:AppT Tryz.prog 37 99 6 80:=⟨Tryz.underlying37,by kernel_rfl,by decide,by decide⟩
theorem appProc:AppT Tryz.prog 23 39 2 32:=⟨Tryz.underlying23,by kernel_rfl,by decide,by decide⟩
theorem appCheck:AppT Tryz.prog 24 135 9 96:=⟨Tryz.underlying24,by kernel_rfl,by decide,by decide⟩
theorem appInt:AppT Tryz.prog 31 3 1 8:=⟨Tryz.underlying31,by kernel_rfl,by decide,by decide⟩
open Go.RowKit
structure Fr (C:Nat→Prop) (w w':World):Prop where
 os:w'.os=w.os
 tape:w'.tape=w.tape
 output:w'.output=w.output
 size:w.heap.size ≤ w'.heap.size
 block:∀ b,b < w.heap.size→¬ C b→w'.heap[b]? = w.heap[b]?
theorem Fr.refl (C:Nat→Prop) (w:World):Fr C w w:=⟨rfl,rfl,rfl,Nat.le_refl _,fun _ _ _=>rfl⟩
theorem Fr.trans {C:Nat→Prop} {a b c:World} (h:Fr C a b) (k:Fr C b c):Fr C a c :=
 ⟨k.os.trans h.os,k.tape.trans h.tape,k.output.trans h.output,Nat.le_trans h.size k.size,fun x h1 h2=>(k.block x (Nat.lt_of_lt_of_le h1 h.size) h2).trans (h.block x h1 h2)⟩
theorem Fr.mono {C D:Nat→Prop} {a b:World} (h:Fr C a b) (hC:∀ x,C x→D x):Fr D a b:=⟨h.os,h.tape,h.output,h.size,fun x h1 h2=>h.block x h1 fun h3=>h2 (hC x h3)⟩
theorem Fr.drew {C:Nat→Prop} {a b:World} (h:Fr C a b):Fr C a b.drew:=⟨h.os,h.tape,h.output,h.size,h.block⟩
theorem Fr.of_ext {C:Nat→Prop} {a b:World} (h:Ext a b):Fr C a b:=⟨h.os,h.tape,h.output,h.size,fun x h1 _=>h.block x h1⟩
theorem Fr.of_gb {C:Nat→Prop} {a b:World} {R:Option Nat} (h:a.grownBy b R) (hR:∀ k,R=some k→C k):Fr C a b :=
 ⟨h.os,h.tape,h.output,h.size,fun x h1 h2=>h.block x h1 fun e=>h2 (hR x e.symm)⟩
theorem Fr.ext {C:Nat→Prop} {w0 a b:World} (h:Fr C a b) (h0:Ext w0 a) (hC:∀ x,C x→w0.heap.size ≤ x):Ext w0 b :=
 ⟨h.os.trans h0.os,h.tape.trans h0.tape,h.output.trans h0.output,Nat.le_trans h0.size h.size,fun x hx=>(h.block x (Nat.lt_of_lt_of_le hx h0.size) fun hc=>by have:=hC x hc;omega).trans (h0.block x hx)⟩
theorem Fr.blk {C:Nat→Prop} {a b:World} {B:Nat} {cs:Array Value} {T:TypeId} (h:Fr C a b) (hb:Blk a B cs T) (hC : ¬ C B):Blk b B cs T:=(h.block B hb.lt hC).trans hb
theorem Fr.has {C:Nat→Prop} {a b:World} {B o:Nat} {cs:List Value} (h:Fr C a b) (hb:Has a B o cs) (hC : ¬ C B):Has b B o cs:=fun j u hj=>by
 have:=hb j u hj
 exact (World.cell?_of_block (a:=⟨B,o + j,none⟩) (h.block B (World.block_lt_of_cell? a _ this) hC)).trans this
theorem Fr.since {C:Nat→Prop} {a b:World} {N:Nat} (h:Fr C a b) (hC:∀ x,N ≤ x→x < a.heap.size→¬ C x):Since N a b:=⟨h.size,fun x h1 h2=>h.block x h2 (hC x h1 h2)⟩
theorem Has.grownR {w w':World} {b o:Nat} {cs:List Value} {R:Option Nat} (h:Has w b o cs) (hg:w.grownBy w' R) (hne : ¬ R=some b):Has w' b o cs:=fun j u hj=>hg.cell (h j u hj) (fun e=>hne e.symm)
theorem Has.drew {w:World} {b o:Nat} {cs:List Value} (h:Has w b o cs):Has w.drew b o cs:=h
theorem World.heap_drew (w:World):w.drew.heap=w.heap:=rfl
theorem step_bs1 {P:Program} {ops:Array Oper} {o:Oper} {a:Act} {w:World} {K:Act→World→Prop} {Q:Exit→Act→World→Prop} {E:Prop} (hw:Region.wanted o (yielded ops a.tmps)=true) (t:TypeId) (x:Operand)
  (ho:o.op=.buildSlice t 1 #[(0,x)]) {e:TypeId} {size bytes:Nat} (hT:AppT P t e size bytes) {v:Value} (hx:a.eval x=v) {cs:List Value} (hv:v.cells=cs.toArray) (hl:cs.length=size) (hs:size ≤ 1000)
  (h:K (a.put o.dst (.slice (some ⟨w.heap.size,0,none⟩) 1 1)) (w.alloc (.cells cs.toArray e))):if Region.wanted o (yielded ops a.tmps)=true then Oper.wp P o a w K Q else E:=by
 rw [if_pos hw]
 obtain ⟨ht,hinfo,hsz,hby⟩:=hT
 cases hi:P.info? e with
 | none=>simp [hi] at hinfo
 | some i =>
  simp only [hi,Option.map_some,Option.some.injEq,Prod.mk.injEq] at hinfo
  obtain ⟨hz0,hsi,hb⟩:=hinfo
  cases hz:i.zero with
  | none=>simp [hz] at hz0
  | some z =>
   have hv2:v.cells.size=size:=by rw [hv];simp [hl]
   have hf:=Great.fill_whole (s:=size) hsz [v] ((Array.range (1 * size)).map (z.cells[· % z.cells.size]!)) (by simp [hv2]) (by simp)
   simp only [List.zipIdx_cons,List.zipIdx_nil,List.map_cons,List.map_nil,List.flatMap_cons,List.flatMap_nil,List.append_nil,hv] at hf
   have hr:=run_buildSlice (P:=P) w t e 1 #[(0,v)] cs.toArray i z ht hi hz (by rw [hsi];omega) (by rw [hsi];omega) (by rw [hsi];exact hf)
   unfold Oper.wp execOp
   simp only [ho,List.map_toArray,List.map_cons,List.map_nil,hx,Sem.run_bind,hr,Result.andThen_ok,Sem.run_pure]
   exact h
theorem step_app1 {α : Type} {V:World→List Value→α→Prop} {P:Program} {ops:Array Oper} {o:Oper} {a:Act} {w:World} {K:Act→World→Prop} {Q:Exit→Act→World→Prop} {E:Prop} (hw:Region.wanted o (yielded ops a.tmps)=true) (s x:Operand) (t:TypeId)
  (ho:o.op=.call { callee:=.builtin .append,args:=#[s,x],argTypes:=#[t,t] }) {N:Nat} {e:TypeId} {size bytes:Nat} (hT:AppT P t e size bytes)
  {v:Value} {r:List α} (hs:a.eval s=v) (hown:RowIs V e size N v r w) {B c:Nat} (hx:a.eval x=.slice (some ⟨B,0,none⟩) 1 c) {cs:List Value} (hl:cs.length=size)
  (hcs:Has w B 0 cs) (h1:cs.all (·.oneCell')=true) {y : α} (hy:StV V N v.ownBlock w cs y) (hn:r.length + 1 ≤ 16777216) (hbase:N ≤ w.heap.size)
  (h:∀ g cap w',RowIs V e size N (.slice (some ⟨g,0,none⟩) (r.length + 1) cap) (r ++ [y]) w'→w.grownBy w' v.ownBlock →
   K (a.put o.dst (.slice (some ⟨g,0,none⟩) (r.length + 1) cap)) w'):if Region.wanted o (yielded ops a.tmps)=true then Oper.wp P o a w K Q else E:=by
 rw [if_pos hw]
 obtain ⟨css,h1',h2,h3,h4⟩:=hown
 obtain ⟨v',w',hr,h5,h6,g,cap,rfl,hg⟩:=run_app (P:=P) (ty:=o.type) (a:=⟨B,0,none⟩) (m:=1) (c:=c) (news:=cs) hT h1' (fun _=>Nat.lt_of_lt_of_le Nat.zero_lt_one (Nat.le_refl 1)) (by rw [hl,Nat.one_mul]) (fun j u hj=>by
  have hadd:(⟨B,0,none⟩ : Addr).add j=⟨B,j,none⟩:=by unfold Addr.add;split <;> simp_all
  rw [hadd]
  have:=hcs j u hj
  rwa [Nat.zero_add] at this) h1 hn hbase
 unfold Oper.wp execOp
 simp only [ho,resolve,invoke,builtin,Sem.run_bind,Sem.run_pure,Result.andThen_ok,List.map_toArray,List.map_cons,List.map_nil,hs,hx]
 rw [hr]
 exact h g cap w' (RowIs.snoc h2 h3 h4 hl hy h5 h6 ⟨g,cap,rfl,hg⟩) h6
open Go.RowKit
/-! ### a range over an iterator whose rounds all run to their end -/
def soft (t:TypeId):Bool:=t == 114 || t == 109
structure Hard (n0:Nat) (W W':World):Prop where
 below:Below n0 W W'
 hard:∀ (b:Nat) (c:Array Value) (t:TypeId) (f:Nat × Nat),W.heap[b]? = some (Obj.cells c t f)→soft t=false→W'.heap[b]? = some (Obj.cells c t f)
def Yields (P:Program) (l:Nat) (x:Array Value) (W:World) (R:Ending→World→Prop):Prop:=∀ m,YieldAt Fence.wide m P l x W R
def roundEnd (I:List (List Value)→World→Prop) (n0 B:Nat) (pre:List (List Value)) (W:World):Exit→Act→World→Prop
 | .normal,_,W'=>KeepsFrom B W W'∧Hard n0 W W'∧I pre W'
 | _,_,_=>False
theorem ownFrom_up {β : Type} {B B':Nat} {I : β→World→Prop} (h:OwnFrom B I) (hB:B ≤ B'):OwnFrom B' I:=fun s W W' row hs hg hr=>h s W W' row hs hg fun r e=>⟨Nat.le_trans hB (hr r e).1,(hr r e).2⟩
theorem keepsFrom_up {B B':Nat} {W W':World} (h:KeepsFrom B W W') (hB:B ≤ B'):KeepsFrom B' W W':=⟨h.size,fun k o hk=>h.same k o (Nat.le_trans hB hk)⟩
theorem keepsFrom_put {B:Nat} {W:World} {l:Nat} (o':Obj) (hl:l < B):KeepsFrom B W (W.putObj l o'):=⟨by simp,fun k o hk ho _=>(World.putObj_heap_other (by omega)).trans ho⟩
abbrev markOf (D:Nat):Deferred:={ target:=.collected D,args:=#[] }
open Go.RowKit
/-! ### what holds of a plain walk holds of one in a round -/
abbrev FW (r:Option Nat):Fence:={ Fence.wide with round:=r }
def isDefer:Op→Bool
 | .defer _=>true
 | _=>false
theorem semAt_fw {r:Option Nat} {o:Oper} (hd:isDefer o.op=false) (ρ : Operand→Value):Oper.semAt r ρ o=execOp ρ o :=
 Oper.semAt_eq r ρ o (fun c h=>by rw [h] at hd;cases hd)
theorem rowsIn_fw {r:Option Nat} {m:Nat} {P:Program} {row:String} {args:Array Value} {w:World} {R:Value→World→Prop} (h:Go.Rows P row args w R):RowsIn (FW r) m P row args w R :=
 fun c cs _=>let ⟨v,w',hr,hs⟩:=h c cs;⟨v,w',hr,(stepsIn_wide (P:=P)).2 hs⟩
theorem callsIn_fw {r:Option Nat} {m:Nat} {P:Program} {f:FuncId} {args:Array Value} {w:World} {R:Ending→World→Prop} (h:Calls P f args w R):CallsIn (FW r) m P f args w R :=
 (callsIn_wide (n:=m)).2 h
theorem opIn_of_op {r:Option Nat} {m:Nat} {P:Program} {o:Oper} {a:Act} {w:World} {K:Act→World→Prop} {Q:Exit→Act→World→Prop} (hd:isDefer o.op=false) (h:Oper.wp P o a w K Q):Oper.wpIn (FW r) m P o a w K Q:=by
 unfold Oper.wpIn
 refine ⟨fun _ _=>trivial,?_⟩
 rw [show (FW r).round=r from rfl,semAt_fw hd]
 unfold Oper.wp at h
 generalize (execOp a.eval o).run P w=q at *
 cases q with
 | ok x w' =>
  cases x <;> simp only [Oper.upon,Oper.uponIn] at h ⊢ <;>
   first
    | exact h
    | exact ⟨fun h=>(by simp [Fence.wide] at h),callsIn_fw h⟩
    | exact ⟨fun h=>(by simp [Fence.wide] at h),rowsIn_fw h⟩
    | exact h.elim
 | halt x w'=>cases x <;> simp only [Oper.upon,Oper.uponIn] at h ⊢ <;> first | exact h | exact h.elim
theorem listIn_of_list {r:Option Nat} {m:Nat} {P:Program} {ops:Array Oper} {Q:Exit→Act→World→Prop} (hQ : ¬ LetsOut Q):∀ (l:List Oper) (a:Act) (w:World),(l.all fun o=>!isDefer o.op)=true→wpList P ops Q l a w→wpListIn (FW r) m P ops Q l a w
 | [],_,_,_,h=>h
 | o :: rest,a,w,hd,h=>by
  simp only [List.all_cons,Bool.and_eq_true,Bool.not_eq_true'] at hd
  unfold wpListIn
  unfold wpList at h
  split
  ·rename_i hw
   rw [if_pos hw] at h
   rcases h with h | h
   ·exact Oper.wpIn_mono (fun a w h=>listIn_of_list hQ rest a w hd.2 h) (opIn_of_op hd.1 h)
   ·exact absurd h.2 hQ
  ·rename_i hw
   rw [if_neg hw] at h
   exact ⟨fun _ _=>trivial,listIn_of_list hQ rest _ w hd.2 h⟩
theorem regionIn_list {F:Fence} {m:Nat} {P:Program} {id:Nat} {ops:Array Oper} {Q:Exit→Act→World→Prop} {a:Act} {w:World} (h:wpListIn F m P ops Q ops.toList a w):(Code.region id ops false).wpIn F m P Q a w :=
 wpIn_region (by rw [List.range_eq_range',← Array.length_toList,wpOpsIn_eq_wpListIn ops.toList 0 (by simp)];exact h)
theorem regionIn_of_list {r:Option Nat} {m:Nat} {P:Program} {id:Nat} {ops:Array Oper} {Q:Exit→Act→World→Prop} {a:Act} {w:World} (hd:(ops.toList.all fun o=>!isDefer o.op)=true) (hQ : ¬ LetsOut Q)
  (h:wpList P ops Q ops.toList a w):(Code.region id ops false).wpIn (FW r) m P Q a w:=regionIn_list (listIn_of_list hQ _ _ _ hd h)
theorem listIn_op {r:Option Nat} {m:Nat} {P:Program} {ops:Array Oper} {Q:Exit→Act→World→Prop} {o:Oper} {rest:List Oper} {a:Act} {w:World} (hw:Region.wanted o (yielded ops a.tmps)=true) (hd:isDefer o.op=false)
  (h:∀ K:Act→World→Prop,(∀ a w,wpListIn (FW r) m P ops Q rest a w→K a w)→Oper.wp P o a w K Q):wpListIn (FW r) m P ops Q (o :: rest) a w:=by
 unfold wpListIn
 rw [if_pos hw]
 exact opIn_of_op hd (h _ fun _ _ h=>h)
theorem listIn_yield {r:Option Nat} {m:Nat} {P:Program} {ops:Array Oper} {Q:Exit→Act→World→Prop} {o:Oper} {rest:List Oper} {a:Act} {w:World} (hw:Region.wanted o (yielded ops a.tmps)=true)
  (x y:Operand) (ts:Array TypeId) (ho:o.op=.call { callee:=.value x,args:=#[y],argTypes:=ts }) {l:Nat} (hx:a.eval x=.func (.yield l) #[] #[]) {v:Value} (hy:a.eval y=v) {S:World→Prop}
  (hY:Yields P l #[v] w fun e W'=>e=.returned (.bool true)∧S W') (h:∀ W',S W'→wpListIn (FW r) m P ops Q rest (a.put o.dst (.bool true)) W'):wpListIn (FW r) m P ops Q (o :: rest) a w:=by
 unfold wpListIn
 rw [if_pos hw]
 unfold Oper.wpIn
 refine ⟨fun _ _=>trivial,?_⟩
 rw [show (FW r).round=r from rfl,semAt_fw (by rw [ho];rfl)]
 obtain ⟨fn,tmps,assign,body,hrun,hR⟩:=hY (m - 1)
 have hex:(execOp a.eval o).run P w=.ok (.round l fn tmps assign body) w:=by
  obtain ⟨dst,op,ty,pos,after,guard⟩:=o
  simp only at ho
  subst ho
  have h1:execOp a.eval { dst,op:=.call { callee:=.value x,args:=#[y],argTypes:=ts },type:=ty,pos,after,guard } = (Deferred.ofValue (a.eval x) (#[y].map a.eval) >>= fun d=>invoke d.target d.args):=rfl
  have h2:(Deferred.ofValue (.func (.yield l) #[] #[]) #[v] >>= fun d=>invoke d.target d.args)=Instr.yield l #[v]:=rfl
  rw [h1,hx]
  simp only [List.map_toArray,List.map_cons,List.map_nil,hy]
  rw [h2];exact hrun
 rw [hex,Oper.uponIn_round]
 refine ⟨fun h=>by simp [Fence.wide] at h,?_⟩
 have hR2:RoundIn (FW r) (m - 1) P l fn tmps assign body w _:=hR
 refine hR2.mono ?_
 rintro e W' ⟨rfl,hS⟩
 exact h W' hS
theorem wp_region_in {P:Program} {id:Nat} {ops:Array Oper} {Q:Exit→Act→World→Prop} {a:Act} {w:World} (h:wpListIn (FW none) 0 P ops Q ops.toList a w):(Code.region id ops false).wp P Q a w :=
 (wpIn_wide (n:=0)).1 (regionIn_list h)
/-! ### marks of loops that are over -/
def Marks (B:Nat) (ds:List Deferred) (W:World):Prop:=∃ Ds:List Nat,ds=Ds.map markOf∧Ds.Pairwise (· ≠ ·)∧∀ D ∈ Ds,B ≤ D∧W.heap[D]? = some (.deferred (some []))
theorem Marks.nil (B:Nat) (W:World):Marks B [] W:=⟨[],rfl,.nil,by simp⟩
theorem Marks.keep {B:Nat} {ds:List Deferred} {W W':World} (h:Marks B ds W) (hk:∀ (D:Nat),markOf D ∈ ds→B ≤ D→W.heap[D]? = some (.deferred (some []))→W'.heap[D]? = some (.deferred (some []))):Marks B ds W':=by
 obtain ⟨Ds,rfl,h2,h3⟩:=h
 exact ⟨Ds,rfl,h2,fun D hD=>⟨(h3 D hD).1,hk D (List.mem_map_of_mem hD) (h3 D hD).1 (h3 D hD).2⟩⟩
theorem Marks.cons {B D:Nat} {ds:List Deferred} {W:World} (h:Marks B ds W) {M:Nat} (hlt:∀ D',markOf D' ∈ ds→D' < M) (hD:M ≤ D) (hB:B ≤ D) (hw:W.heap[D]? = some (.deferred (some []))):Marks B (markOf D :: ds) W:=by
 obtain ⟨Ds,rfl,h2,h3⟩:=h
 refine ⟨D :: Ds,rfl,List.pairwise_cons.2 ⟨fun D' hD'=>?_,h2⟩,fun D' hD'=>?_⟩
 ·have:=hlt D' (List.mem_map_of_mem hD');omega
 ·cases hD' with
  | head=>exact ⟨hB,hw⟩
  | tail _ h=>exact h3 D' h
theorem Marks.lt {B D:Nat} {ds:List Deferred} {W:World} (h:Marks B ds W) (hD:markOf D ∈ ds):D < W.heap.size:=by
 obtain ⟨Ds,rfl,h2,h3⟩:=h
 obtain ⟨D',hD',e⟩:=List.mem_map.1 hD
 have:D'=D:=by injection e with e1;injection e1
 subst this
 exact (Array.getElem?_eq_some_iff.1 (h3 D' hD').2).1
theorem keepsFrom_ext {B:Nat} {W W':World} (h:Ext W W'):KeepsFrom B W W':=⟨h.size,fun k _ _ hk _=>(h.block k (Array.getElem?_eq_some_iff.1 hk).1).trans hk⟩
theorem own_blk {A B:World} {M Bk:Nat} {cs:Array Value} {T:TypeId} {row:Option Nat} (hb:Blk A Bk cs T) (hg:A.grownBy B row) (hr:∀ r,row=some r→M ≤ r∧∃ o:Obj,A.heap[r]? = some o∧o.isCells=false):Blk B Bk cs T :=
 (hg.block Bk hb.lt (by
  intro e
  obtain ⟨_,o,ho,hno⟩:=hr _ e.symm
  unfold Blk at hb
  rw [hb] at ho;cases ho;cases hno)).trans hb
theorem own_marks {A B:World} {M B0:Nat} {ds:List Deferred} {row:Option Nat} (h:Marks B0 ds A) (hlt:∀ D,markOf D ∈ ds→D < M) (hg:A.grownBy B row) (hr:∀ r,row=some r→M ≤ r∧∃ o:Obj,A.heap[r]? = some o∧o.isCells=false):Marks B0 ds B :=
 h.keep fun D hD _ hw=>(hg.block D (Array.getElem?_eq_some_iff.1 hw).1 (by intro e;have:=(hr D e.symm).1;have:=hlt D hD;omega)).trans hw
theorem own_size {A B:World} {row:Option Nat} {n:Nat} (h:n < A.heap.size) (hg:A.grownBy B row):n < B.heap.size:=Nat.lt_of_lt_of_le h hg.size
theorem Marks.ext {B:Nat} {ds:List Deferred} {W W':World} (h:Marks B ds W) (hx:Ext W W'):Marks B ds W':=h.keep fun D _ _ hw=>(hx.block D (Array.getElem?_eq_some_iff.1 hw).1).trans hw
theorem Marks.keeps {B:Nat} {ds:List Deferred} {W W':World} (h:Marks B ds W) (hk:KeepsFrom B W W'):Marks B ds W':=h.keep fun D _ hB hw=>hk.same D _ hB hw rfl
theorem leaves_marks {P:Program} {fn:Func} {tmps:Array Value} {R:Ending→World→Prop} {B:Nat} (I:Unit→World→Prop) (hI:OwnFrom B I) (hend:∀ W,I () W→LeavesInM Fence.wide 0 P fn tmps R [] .returning W) :
  ∀ (ds:List Deferred) (W:World),Marks B ds W→I () W→LeavesInM Fence.wide 0 P fn tmps R ds .returning W:=by
 intro ds W ⟨Ds,h1,h2,h3⟩
 subst h1
 induction Ds generalizing W with
 | nil=>intro hi;exact hend W hi
 | cons D Ds ih =>
  intro hi
  obtain ⟨hB,hD⟩:=h3 D (by simp)
  refine ⟨by simp,.inl ⟨D,_,rfl,run_takeDeferred hD,?_⟩⟩
  rw [List.pairwise_cons] at h2
  refine ih _ h2.2 (fun D' hD'=>⟨(h3 D' (by simp [hD'])).1,?_⟩) (hI.putObj _ hi hB hD rfl)
  exact (World.putObj_heap_other (Ne.symm (h2.1 D' hD'))).trans (h3 D' (by simp [hD'])).2
end Go.Proofs.YtemabheegnngdaaGreat
