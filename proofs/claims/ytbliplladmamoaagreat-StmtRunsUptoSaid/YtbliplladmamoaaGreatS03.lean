/- Laws and walks that a claim of this seat leans on: Held, Row, Frame, Range. -/
import Derived.Test.YtbliplladmamoaaGreatSWant
import Derived.Deep.RegionHeld3
import Derived.Laws.AppendOwn
import Derived.Great.BuildSlice
import Derived.RangeFuncNested
import Derived.Test.YtbliplladmamoaaGreatS00
set_option maxRecDepth 100000
set_option maxHeartbeats 8000000
set_option linter.all false
namespace Go.Proofs.YtbliplladmamoaaGreat
open Go.RowKit
theorem Ar {P:Program} {j:Array Oper} {S:World->Prop} {o:Oper} {a:Act} (hw:Region.wanted o (yielded j a.tmps)=true) (ty:TypeId) (x:Operand) (ho:o.op=.load ty x)
  {b off:Nat} (hx:a.eval x=.pointer (some ⟨b,off,none⟩)) {cs:List Value} {n:Nat} (hg:∀ w,S w->Has w b off cs) (hu:Agg P ty n) (hn:cs.length=n):YieldsIf P j S o (.agg cs.toArray) a :=
 .inl ⟨hw,fun w hS=>by
  subst hn
  unfold execOp
  simp only [ho,hx,Instr.loadAt,Instr.sureAddr,Sem.run_bind,Sem.run_pure,Result.andThen_ok,Dj w b off ty cs (hg w hS) hu]⟩
theorem yif_load1 {P:Program} {j:Array Oper} {S:World->Prop} {o:Oper} {a:Act} (hw:Region.wanted o (yielded j a.tmps)=true) {v:Value} (h:∀ w,S w->(execOp a.eval o).run P w=.ok (.value v) w):YieldsIf P j S o v a:=.inl ⟨hw,h⟩
theorem D2 {P:Program} {j:Array Oper} {o:Oper} {a:Act} {w:World} {Q:Exit->Act->World->Prop} {K:Act->World->Prop} (hw:Region.wanted o (yielded j a.tmps)=true)
  (ty:TypeId) (x y:Operand) (ho:o.op=.store ty x y) {c:Array Value} {B:Nat} (hb:Blk w B c ty) (hx:a.eval x=.pointer (some ⟨B,0,none⟩)) {cs:List Value} (hy:a.eval y=.agg cs.toArray) {n:Nat}
  (hu:Agg P ty n) (hn:cs.length=n) (hc:c.size=n) (h1:cs.all (·.oneCell')=true)
  (h:∀ w',Blk w' B cs.toArray ty->w.grownBy w' (some B)->K (a.put o.dst undef) w'):if Region.wanted o (yielded j a.tmps)=true then Oper.wp P o a w K Q else K (a.put o.dst undef) w:=by
 rw [if_pos hw]
 unfold Oper.wp execOp
 simp only [ho,hx,hy]
 have:=run_storeVar_row (P:=P) w B ty ty c cs.toArray hb (by rw [hu.2];simp [hn]) (by simp [hn,hc]) (by simpa using h1)
 simp only [Instr.storeAt,Instr.sureAddr,Sem.run_bind,Sem.run_pure,Result.andThen_ok,this]
 exact h _ (Kw hb) (Ml w B _)
/-! ### what a call has made stays when older blocks turn -/
def Al (N:Nat) (w w':World):Prop:=w.heap.size<=w'.heap.size/\∀ b,N<=b->b<w.heap.size->w'.heap[b]? = w.heap[b]?
theorem Al.refl (N:Nat) (w:World):Al N w w:=⟨Nat.le_refl _,fun _ _ _=>rfl⟩
theorem Al.trans {N:Nat} {a b c:World} (h:Al N a b) (k:Al N b c):Al N a c :=
 ⟨Nat.le_trans h.1 k.1,fun x h1 h2=>(k.2 x h1 (Nat.lt_of_lt_of_le h2 h.1)).trans (h.2 x h1 h2)⟩
theorem Al.mono {N M:Nat} {a b:World} (h:Al N a b) (hn:N<=M):Al M a b:=⟨h.1,fun x h1 h2=>h.2 x (Nat.le_trans hn h1) h2⟩
theorem Al.of_ext {N:Nat} {w w':World} (h:Ext w w'):Al N w w':=⟨h.size,fun b _ hb=>h.block b hb⟩
theorem Al.of_grown {N B:Nat} {w w':World} (h:w.grownBy w' (some B)) (hb:B<N):Al N w w':=⟨h.size,fun b h1 h2=>h.block b h2 (by intro e;injection e;omega)⟩
theorem Al.blk {N B:Nat} {w w':World} {c:Array Value} {T:TypeId} (h:Al N w w') (hb:Blk w B c T) (hn:N<=B):Blk w' B c T:=(h.2 B hn hb.lt).trans hb
def FE (N:Nat) (w:World) (cs:List Value) (x:E):Prop:=∀ W,Al N w W->VE W cs x
theorem FE.ve {N:Nat} {w:World} {cs:List Value} {x:E} (h:FE N w cs x):VE w cs x:=h w (Al.refl _ _)
theorem FE.since {N:Nat} {w w':World} {cs:List Value} {x:E} (h:FE N w cs x) (hs:Al N w w'):FE N w' cs x:=fun _ hW=>h _ (hs.trans hW)
theorem FE.mono {N M:Nat} {w:World} {cs:List Value} {x:E} (h:FE M w cs x) (hn:N<=M):FE N w cs x:=fun W hW=>h W (hW.mono hn)
theorem FE.ext {N:Nat} {w w':World} {cs:List Value} {x:E} (h:FE N w cs x) (hx:Ext w w'):FE N w' cs x:=h.since (Al.of_ext hx)
theorem Abv (l:List E):∀ (css:List (List Value)) (ab:List Value) (w:World) (B:Nat) (aa:List Value) (T:TypeId),Blk w B (ab++css.flatten++aa).toArray T->css.length=l.length ->
  (∀ i (h:i<css.length) (h':i<l.length),VE w css[i] l[i])->Rows 8 (EAt w) l B ab.length:=by
 induction l with
 | nil=>intros;trivial
 | cons x l ih =>
  intro css ab w B aa T hb hl hv
  cases css with
  | nil=>simp at hl
  | cons cs css =>
   obtain ⟨s,ac,hs⟩:=hv 0 (by simp) (by simp)
   simp only [Jb] at ac hs
   have h8:cs.length=8:=by rw [ac];rfl
   refine ⟨Kf.2 ⟨s,?_,hs⟩,?_⟩
   ·rw [<-ac]
    intro j u hj
    rw [hb.cell]
    have ae:j<cs.length:=(List.getElem?_eq_some_iff.1 hj).1
    rw [List.getElem?_toArray,List.append_assoc,List.getElem?_append_right (by omega),List.flatten_cons,List.append_assoc,List.getElem?_append_left (by omega)]
    rw [Nat.add_sub_cancel_left]
    exact hj
   ·have:=ih css (ab++cs) w B aa T (by simpa [List.append_assoc] using hb) (by simpa using hl) (fun i h h'=>hv (i+1) (by simpa using h) (by simpa using h'))
    rw [List.length_append,h8] at this
    exact this
theorem Ji {P:Program} {md:Region.Mode} {u:Array Oper} {Q:Exit->Act->World->Prop} {S:World->Prop} (i:Nat) (v:Value) {oi:Oper} {aa:Nat} {j:Array Bool} {a:Act} {w:World} (hi:u[i]? = some oi)
    (hS:S w) (h:wpAnyH P md u Q S aa (j.setIfInBounds i true) (a.put oi.dst v) w) (hy:YieldsIf P u S oi v a:=by exact yif_load1 rfl fun _ _=>rfl)
    (hs:Region.noSelect u=true:=by kernel_rfl) (hf:Region.free md u j i=true:=by kernel_rfl) (hr:(Region.ready md u j).contains i=true:=by kernel_rfl)
    (hQ:∀ c a w,Q (.panic c) (a.put oi.dst v) w->Q (.panic c) a w:=by exact fun _ _ _ h=>h):wpAnyH P md u Q S (aa+1) j a w:=wpAnyH_take hi hs hf hr hQ hy hS h
theorem Jk {P:Program} {md:Region.Mode} {u:Array Oper} {Q:Exit->Act->World->Prop} {S:World->Prop} (i:Nat) (v:Value) {oi:Oper} {aa:Nat} {j:Array Bool} {a:Act} {w:World} (hi:u[i]? = some oi)
    (hS:S w) (h:wpAnyH P md u Q S aa (j.setIfInBounds i true) (a.put oi.dst v) w) (hy:YieldsIf P u S oi v a:=by exact yif_load1 rfl (by intro W hW;clear hW;go_simp))
    (hs:Region.noSelect u=true:=by kernel_rfl) (hf:Region.free md u j i=true:=by kernel_rfl) (hr:(Region.ready md u j).contains i=true:=by kernel_rfl)
    (hQ:∀ c a w,Q (.panic c) (a.put oi.dst v) w->Q (.panic c) a w:=by exact fun _ _ _ h=>h):wpAnyH P md u Q S (aa+1) j a w:=wpAnyH_take hi hs hf hr hQ hy hS h
theorem Jp {P:Program} {md:Region.Mode} {u:Array Oper} {Q:Exit->Act->World->Prop} {S:World->Prop} (i:Nat) (v:Value) {oi:Oper} {aa:Nat} {j:Array Bool} {a:Act} {w:World} (hi:u[i]? = some oi)
    (hS:S w) (h:wpAnyH P md u Q S aa (j.setIfInBounds i true) (a.put oi.dst v) w) (hy:YieldsIf P u S oi v a:=by exact yif_load1 rfl (by intro W hW;clear hW;go_simp;try (intro h;omega)))
    (hs:Region.noSelect u=true:=by kernel_rfl) (hf:Region.free md u j i=true:=by kernel_rfl) (hr:(Region.ready md u j).contains i=true:=by kernel_rfl)
    (hQ:∀ c a w,Q (.panic c) (a.put oi.dst v) w->Q (.panic c) a w:=by exact fun _ _ _ h=>h):wpAnyH P md u Q S (aa+1) j a w:=wpAnyH_take hi hs hf hr hQ hy hS h
/-! ### a slice of structs that grows by append -/
def H7 (P:Program) (t e:TypeId) (size bytes:Nat):Prop :=
 P.underlying t=some (.slice e)/\(P.info? e).map (fun i=>(i.zero.map (·.cells.size),i.size,i.bytes))=some (some size,size,bytes)/\0<size/\bytes<=1000
theorem Vp {P:Program} {w:World} {base:Nat} {t ty e:TypeId} {size bytes:Nat} (hT:H7 P t e size bytes)
  {v:Value} {n:Nat} {xs:List Value} (ae:w.ownsRow base e size v n xs) {a:Addr} {m c:Nat} (hm:v=.slice none 0 0->0<m) {news:List Value} (hl:news.length=m*size)
  (ab:∀ j u,news[j]? = some u->w.cell? (a.add j)=some u) (h1:news.all (·.oneCell')=true) (hn:n+m<=16777216) (ag:base<=w.heap.size) :
  ∃ v' w',(Builtin.append_ #[t,t] ty #[v,.slice (some a) m c]).run P w=.ok v' w'/\w'.ownsRow base e size v' (n+m) (xs++news)/\w.grownBy w' v.ownBlock /\
   ∃ g cap,v'=.slice (some ⟨g,0,none⟩) (n+m) cap/\(v.ownBlock=some g\/w.heap.size<=g):=by
 obtain ⟨ht,ac,ap,an⟩:=hT
 cases hi:P.info? e with
 | none=>simp [hi] at ac
 | some i =>
  simp only [hi,Option.map_some,Option.some.injEq,Prod.mk.injEq] at ac
  obtain ⟨aj,hs,hb⟩:=ac
  cases hz:i.zero with
  | none=>simp [hz] at aj
  | some z =>
   simp only [hz,Option.map_some,Option.some.injEq] at aj
   have ai:(n+m)*bytes<=140737488355328:=Nat.le_trans (Nat.mul_le_mul hn an) (by decide)
   have al:∀ u∈news,u.oneCell'=true:=fun u hu=>by simpa using List.all_eq_true.1 h1 u hu
   obtain ⟨v',w',hr,h2,h3,h4⟩:=run_append_own (P:=P) w base t ty e i z size bytes ht hi hz hs hb aj ap v n xs ae a m c news hl ab al (by simp only [maxLen];omega) ai ag
   refine ⟨v',w',hr,h2,h3,?_⟩
   rcases ae.2 with ⟨rfl,rfl⟩ | ⟨g,cap,ak,rfl,ar,hg,av,au,ao,aq⟩
   ·have aa:=run_append_nil (P:=P) w t ty e i z ht hi hz a m c news (by rw [hs];exact hl) ab (hm rfl) (by omega) (by rw [hb];simp at ai;omega)
    rw [hr] at aa
    simp only [Result.ok.injEq] at aa
    exact ⟨w.heap.size,_,by rw [aa.1,Nat.zero_add],.inr (Nat.le_refl _)⟩
   ·by_cases af:n+m<=cap
    ·have am:n*i.size+news.length<=ak.size:=by rw [hs,hl,ao,<-Nat.add_mul];exact Nat.mul_le_mul_right _ af
     have aa:=run_append_room (P:=P) w t ty e i ht hi g n cap ak hg a m c news (by rw [hs];exact hl) ab al af am
     rw [hr] at aa
     simp only [Result.ok.injEq] at aa
     exact ⟨g,cap,aa.1,.inl rfl⟩
    ·have holds:∀ j u,xs[j]? = some u->w.cell? ((⟨g,0,none⟩:Addr).add j)=some u:=ae.cells (g:=g) rfl
     have aa:=run_append_grow (P:=P) w t ty e i z ht hi hz ⟨g,0,none⟩ n cap xs (by rw [hs];exact ae.1) holds a m c news (by rw [hs];exact hl) ab (by omega) (by omega)
      (growslice_fits (by omega) (by rw [hb];exact ai))
     rw [hr] at aa
     simp only [Result.ok.injEq] at aa
     exact ⟨w.heap.size,_,aa.1,.inr (Nat.le_refl _)⟩
theorem Nt {P:Program} {ac:Array Oper} {rest:List Oper} {o:Oper} {a:Act} {w:World} {Q:Exit->Act->World->Prop} (hw:Region.wanted o (yielded ac a.tmps)=true) (s x:Operand) (t:TypeId)
  (ho:o.op=.call { callee:=.builtin .append,args:=#[s,x],argTypes:=#[t,t] }) {base:Nat} {e:TypeId} {size bytes:Nat} (hT:H7 P t e size bytes)
  {v:Value} {n:Nat} {xs:List Value} (hs:a.eval s=v) (ae:w.ownsRow base e size v n xs) {ad:Addr} {m c:Nat} (hx:a.eval x=.slice (some ad) m c) (hm:v=.slice none 0 0->0<m) {news:List Value} (hl:news.length=m*size)
  (ab:∀ j u,news[j]? = some u->w.cell? (ad.add j)=some u) (h1:news.all (·.oneCell')=true) (hn:n+m<=16777216) (aa:base<=w.heap.size)
  (h:∀ g cap w',w'.ownsRow base e size (.slice (some ⟨g,0,none⟩) (n+m) cap) (n+m) (xs++news)->w.grownBy w' v.ownBlock->(v.ownBlock=some g\/w.heap.size<=g) ->
   wpList P ac Q rest (a.put o.dst (.slice (some ⟨g,0,none⟩) (n+m) cap)) w'):wpList P ac Q (o::rest) a w :=
 BigFrame.wpList_want hw fun _ hK=>by
  obtain ⟨v',w',hr,h2,h3,g,cap,rfl,hg⟩:=Vp (P:=P) (ty:=o.type) hT ae hm hl ab h1 hn aa
  unfold Oper.wp execOp
  simp only [ho,resolve,invoke,builtin,Sem.run_bind,Sem.run_pure,Result.andThen_ok,List.map_toArray,List.map_cons,List.map_nil,hs,hx]
  rw [hr]
  exact hK _ _ (h g cap w' h2 h3 hg)
theorem B9 {P:Program} {aa:Array Oper} {rest:List Oper} {o:Oper} {a:Act} {w:World} {Q:Exit->Act->World->Prop} (hw:Region.wanted o (yielded aa a.tmps)=true) (t:TypeId) (x:Operand)
  (ho:o.op=.buildSlice t 1 #[(0,x)]) {e:TypeId} {size bytes:Nat} (hT:H7 P t e size bytes) {v:Value} (hx:a.eval x=v) {cs:List Value} (hv:v.cells=cs.toArray) (hl:cs.length=size) (hs:size<=1000)
  (h:wpList P aa Q rest (a.put o.dst (.slice (some ⟨w.heap.size,0,none⟩) 1 1)) (w.alloc (.cells cs.toArray e))):wpList P aa Q (o::rest) a w :=
 BigFrame.wpList_want hw fun _ hK=>by
  obtain ⟨ht,j,ab,af⟩:=hT
  cases hi:P.info? e with
  | none=>simp [hi] at j
  | some i =>
   simp only [hi,Option.map_some,Option.some.injEq,Prod.mk.injEq] at j
   obtain ⟨ae,u,hb⟩:=j
   cases hz:i.zero with
   | none=>simp [hz] at ae
   | some z =>
    have ac:v.cells.size=size:=by rw [hv];simp [hl]
    have hf:=Great.fill_whole (s:=size) ab [v] ((Array.range (1*size)).map (z.cells[·%z.cells.size]!)) (by simp [ac]) (by simp)
    simp only [List.zipIdx_cons,List.zipIdx_nil,List.map_cons,List.map_nil,List.flatMap_cons,List.flatMap_nil,List.append_nil,hv] at hf
    have hr:=run_buildSlice (P:=P) w t e 1 #[(0,v)] cs.toArray i z ht hi hz (by rw [u];omega) (by rw [u];omega) (by rw [u];exact hf)
    unfold Oper.wp execOp
    simp only [ho,List.map_toArray,List.map_cons,List.map_nil,hx,Sem.run_bind,hr,Result.andThen_ok,Sem.run_pure]
    exact hK _ _ h
theorem Hz {P:Program} {u:Array Oper} {rest:List Oper} {o:Oper} {a:Act} {w:World} {Q:Exit->Act->World->Prop} (hw:Region.wanted o (yielded u a.tmps)=true) (t:TypeId)
  (ho:o.op=.buildSlice t 0 #[]) {e:TypeId} {size bytes:Nat} (hT:H7 P t e size bytes)
  (h:wpList P u Q rest (a.put o.dst (.slice (some ⟨w.heap.size,0,none⟩) 0 0)) (w.alloc (.cells #[] e))):wpList P u Q (o::rest) a w :=
 BigFrame.wpList_want hw fun _ hK=>by
  obtain ⟨ht,j,ab,aa⟩:=hT
  cases hi:P.info? e with
  | none=>simp [hi] at j
  | some i =>
   have hr:(Instr.buildSlice t 0 #[]).run P w=.ok (.slice (some ⟨w.heap.size,0,none⟩) 0 0) (w.alloc (.cells #[] e)):=by
    simp [Instr.buildSlice,run_underlying ht,sizeOf,typeInfo,hi,newRow,Instr.fill]
    congr 2
    apply Array.eq_empty_of_size_eq_zero;simp
   unfold Oper.wp execOp
   simp only [ho,List.map_toArray,List.map_nil,Sem.run_bind,hr,Result.andThen_ok,Sem.run_pure]
   exact hK _ _ h
def StV {α:Type} (V:World->List Value->α->Prop) (N:Nat) (R:Option Nat) (w:World) (cs:List Value) (x:α):Prop :=
 ∀ W,w.heap.size<=W.heap.size->(∀ b,N<=b->b<w.heap.size->some b≠R->W.heap[b]? = w.heap[b]?)->V W cs x
def FV {α:Type} (V:World->List Value->α->Prop) (N:Nat) (w:World) (cs:List Value) (x:α):Prop:=∀ W,Al N w W->V W cs x
def Bi {α:Type} (V:World->List Value->α->Prop) (e:TypeId) (size N:Nat) (v:Value) (r:List α) (w:World):Prop :=
 ∃ css:List (List Value),w.ownsRow N e size v r.length css.flatten/\css.length=r.length/\(∀ cs∈css,cs.length=size) /\
  ∀ i (h:i<css.length) (h':i<r.length),StV V N v.ownBlock w css[i] r[i]
theorem Bi.nil {α:Type} {V:World->List Value->α->Prop} {e:TypeId} {size N:Nat} {w:World}:Bi V e size N (.slice none 0 0) ([]:List α) w :=
 ⟨[],World.ownsRow_nil _ _ _ _,rfl,by simp,fun i h=>by simp at h⟩
theorem Bi.since {α:Type} {V:World->List Value->α->Prop} {e:TypeId} {size N:Nat} {v:Value} {r:List α} {w w':World} (h:Bi V e size N v r w) (hs:Al N w w'):Bi V e size N v r w':=by
 obtain ⟨css,h1,h2,h3,h4⟩:=h
 refine ⟨css,?_,h2,h3,fun i hi ab W hW hb=>h4 i hi ab W (Nat.le_trans hs.1 hW) fun b hN u ac=>(hb b hN (Nat.lt_of_lt_of_le u hs.1) ac).trans (hs.2 b hN u)⟩
 refine ⟨h1.1,?_⟩
 rcases h1.2 with hn | ⟨g,cap,aa,rfl,hb,j,rest⟩
 ·exact .inl hn
 ·exact .inr ⟨g,cap,aa,rfl,hb,(hs.2 g hb (Array.getElem?_eq_some_iff.1 j).1).trans j,rest⟩
theorem Bi.lt {α:Type} {V:World->List Value->α->Prop} {e:TypeId} {size N:Nat} {v:Value} {r:List α} {w:World} (h:Bi V e size N v r w):∀ k,v.ownBlock=some k->N<=k/\k<w.heap.size:=by
 obtain ⟨css,h1,-⟩:=h;exact h1.lt
theorem Bi.snoc {α:Type} {V:World->List Value->α->Prop} {e:TypeId} {size N:Nat} {v:Value} {r:List α} {w:World} {css:List (List Value)}
  (h2:css.length=r.length) (h3:∀ cs∈css,cs.length=size) (h4:∀ i (h:i<css.length) (h':i<r.length),StV V N v.ownBlock w css[i] r[i])
  {cs:List Value} (af:cs.length=size) {x:α} (hx:StV V N v.ownBlock w cs x) {v':Value} {w':World} (ac:w'.ownsRow N e size v' (r.length+1) (css.flatten++cs)) (hg:w.grownBy w' v.ownBlock)
  (hv:∃ g cap,v'=.slice (some ⟨g,0,none⟩) (r.length+1) cap/\(v.ownBlock=some g\/w.heap.size<=g)):Bi V e size N v' (r++[x]) w':=by
 have ae:∀ cs x,StV V N v.ownBlock w cs x->StV V N v'.ownBlock w' cs x:=by
  intro cs x h W hW hb
  refine h W (Nat.le_trans hg.size hW) fun b hN aa ab=>?_
  refine (hb b hN (Nat.lt_of_lt_of_le aa hg.size) ?_).trans (hg.block b aa ab)
  obtain ⟨g,cap,rfl,j⟩:=hv
  simp only [Value.ownBlock,ne_eq,Option.some.injEq]
  rintro rfl
  rcases j with j | j
  ·exact ab j.symm
  ·omega
 refine ⟨css++[cs],by simpa using ac,by simp [h2],?_,?_⟩
 ·intro c hc
  rcases List.mem_append.1 hc with hc | hc
  ·exact h3 c hc
  ·obtain rfl:=List.mem_singleton.1 hc
   exact af
 ·intro i hi ag
  by_cases u:i<r.length
  ·rw [List.getElem_append_left (by omega),List.getElem_append_left u]
   exact ae _ _ (h4 i (by omega) u)
  ·have:i=r.length:=by simp at hi;omega
   rw [List.getElem_append_right (by omega),List.getElem_append_right (by omega)]
   simp only [h2,this,Nat.sub_self,Jb]
   exact ae _ _ hx
theorem FV.st {α:Type} {V:World->List Value->α->Prop} {M N:Nat} {R:Option Nat} {w:World} {cs:List Value} {x:α} (h:FV V M w cs x) (hN:N<=M) (hR:∀ k,R=some k->k<M):StV V N R w cs x :=
 fun W hW hb=>h W ⟨hW,fun b hM j=>hb b (Nat.le_trans hN hM) j (by intro e;have:=hR b e.symm;omega)⟩
theorem FV.since {α:Type} {V:World->List Value->α->Prop} {N:Nat} {w w':World} {cs:List Value} {x:α} (h:FV V N w cs x) (hs:Al N w w'):FV V N w' cs x:=fun _ hW=>h _ (hs.trans hW)
theorem FV.mono {α:Type} {V:World->List Value->α->Prop} {N M:Nat} {w:World} {cs:List Value} {x:α} (h:FV V M w cs x) (hn:N<=M):FV V N w cs x:=fun W hW=>h W (hW.mono hn)
theorem FV.ext {α:Type} {V:World->List Value->α->Prop} {N:Nat} {w w':World} {cs:List Value} {x:α} (h:FV V N w cs x) (hx:Ext w w'):FV V N w' cs x:=h.since (Al.of_ext hx)
theorem FV.here {α:Type} {V:World->List Value->α->Prop} {N:Nat} {w:World} {cs:List Value} {x:α} (h:FV V N w cs x):V w cs x:=h w (Al.refl _ _)
theorem De {α:Type} {V:World->List Value->α->Prop} {P:Program} {ab:Array Oper} {rest:List Oper} {o:Oper} {a:Act} {w:World} {Q:Exit->Act->World->Prop} (hw:Region.wanted o (yielded ab a.tmps)=true) (s x:Operand) (t:TypeId)
  (ho:o.op=.call { callee:=.builtin .append,args:=#[s,x],argTypes:=#[t,t] }) {N:Nat} {e:TypeId} {size bytes:Nat} (hT:H7 P t e size bytes)
  {v:Value} {r:List α} (hs:a.eval s=v) (ae:Bi V e size N v r w) {B c:Nat} (hx:a.eval x=.slice (some ⟨B,0,none⟩) 1 c) {cs:List Value} (hl:cs.length=size)
  (ag:Has w B 0 cs) (h1:cs.all (·.oneCell')=true) {y:α} (hy:StV V N v.ownBlock w cs y) (hn:r.length+1<=16777216) (aa:N<=w.heap.size)
  (h:∀ g cap w',Bi V e size N (.slice (some ⟨g,0,none⟩) (r.length+1) cap) (r++[y]) w'->w.grownBy w' v.ownBlock ->
   wpList P ab Q rest (a.put o.dst (.slice (some ⟨g,0,none⟩) (r.length+1) cap)) w'):wpList P ab Q (o::rest) a w:=by
 obtain ⟨css,af,h2,h3,h4⟩:=ae
 refine Nt hw s x t ho hT hs af hx (fun _=>Nat.lt_of_lt_of_le Nat.zero_lt_one (Nat.le_refl 1)) (by rw [hl,Nat.one_mul]) (fun j u hj=>?_) h1 hn aa ?_
 ·have ac:(⟨B,0,none⟩:Addr).add j=⟨B,j,none⟩:=by unfold Addr.add;split<;>simp_all
  rw [ac]
  have:=ag j u hj
  rwa [Nat.zero_add] at this
 ·intro g cap w' ai hg hv
  exact h g cap w' (Bi.snoc h2 h3 h4 hl hy ai hg ⟨g,cap,rfl,hv⟩) hg
theorem Kv {α:Type} {V:World->List Value->α->Prop} {At:World->α->Nat->Nat->Prop} {size:Nat} (hV:∀ W cs x b o,Has W b o cs->V W cs x->At W x b o) (l:List α) :
  ∀ (css:List (List Value)) (W:World) (B o:Nat),Has W B o css.flatten->css.length=l.length->(∀ cs∈css,cs.length=size) ->
  (∀ i (h:i<css.length) (h':i<l.length),V W css[i] l[i])->Rows size (At W) l B o:=by
 induction l with
 | nil=>intros;trivial
 | cons x l ih =>
  intro css W B o hb hl h8 hv
  cases css with
  | nil=>simp at hl
  | cons cs css =>
   have aa:=hv 0 (by simp) (by simp)
   simp only [Jb] at aa
   have hc:cs.length=size:=h8 cs (by simp)
   rw [List.flatten_cons] at hb
   refine ⟨hV _ _ _ _ _ ?_ aa,ih css W B (o+size) ?_ (by simpa using hl) (fun c hc=>h8 c (by simp [hc])) (fun i h h'=>hv (i+1) (by simpa using h) (by simpa using h'))⟩
   ·intro j u hj
    exact hb j u (by rw [List.getElem?_append_left (List.getElem?_eq_some_iff.1 hj).1];exact hj)
   ·intro j u hj
    have:=hb (size+j) u (by rw [List.getElem?_append_right (by omega),hc,Nat.add_sub_cancel_left];exact hj)
    rw [show o+size+j=o+(size+j) by omega];exact this
theorem Bi.sl {α:Type} {V:World->List Value->α->Prop} {At:World->α->Nat->Nat->Prop} {e:TypeId} {size N:Nat} (hV:∀ W cs x b o,Has W b o cs->V W cs x->At W x b o)
  {v:Value} {r:List α} {w W:World} (h:Bi V e size N v r w) (hs:Al N w W):Sl size (At W) v r:=by
 obtain ⟨css,h1,h2,h3,h4⟩:=h.since hs
 rcases h1.2 with ⟨rfl,h0⟩ | ⟨g,cap,ab,rfl,hb,ae,ag,ac,ai,aa⟩
 ·obtain rfl:r=[]:=List.eq_nil_of_length_eq_zero h0
  exact Sl.nil _ _
 ·refine ⟨g,0,⟨_,cap,rfl,ag,ac,fun _=>rfl⟩,Kv hV r css W g 0 ?_ h2 h3 (fun i hi af=>h4 i hi af W (Nat.le_refl _) (fun _ _ _ _=>rfl))⟩
  intro j u hj
  rw [<-aa] at hj
  rw [Nat.zero_add,cell_of_row W g j ab e (0,0) ae]
  rw [List.getElem?_take] at hj
  split at hj
  ·simpa using hj
  ·cases hj
theorem Bi.one {α:Type} {V:World->List Value->α->Prop} {e:TypeId} {size N:Nat} {v:Value} {r:List α} {w:World} (h:Bi V e size N v r w):v.oneCell'=true:=by
 obtain ⟨css,h1,-⟩:=h
 rcases h1.2 with ⟨rfl,h0⟩ | ⟨g,cap,j,rfl,-⟩<;>rfl
theorem Bi.open {α:Type} {V:World->List Value->α->Prop} {e:TypeId} {size N:Nat} {v:Value} {r:List α} {w:World} (h:Bi V e size N v r w):∃ a cap,v=.slice a r.length cap/\(0<r.length->∃ g,a=some ⟨g,0,none⟩):=by
 obtain ⟨css,h1,-⟩:=h
 rcases h1.2 with ⟨rfl,h0⟩ | ⟨g,cap,j,rfl,-⟩
 ·exact ⟨none,0,by rw [h0],fun h=>by omega⟩
 ·exact ⟨_,cap,rfl,fun _=>⟨g,rfl⟩⟩
theorem VE.at {W:World} {cs:List Value} {x:E} {b o:Nat} (h:Has W b o cs) (hv:VE W cs x):EAt W x b o:=by
 obtain ⟨s,rfl,hs⟩:=hv;exact Kf.2 ⟨s,h,hs⟩
theorem VT.at {W:World} {cs:List Value} {x:T} {b o:Nat} (h:Has W b o cs) (hv:VT W cs x):TAt W x b o:=by
 obtain ⟨s,s',rfl,hs,j⟩:=hv;exact Mf.2 ⟨s,s',h,hs,j⟩
theorem C9.at {W:World} {cs:List Value} {x:C0} {b o:Nat} (h:Has W b o cs) (hv:C9 W cs x):Cy W x b o:=by
 obtain ⟨s,rfl,hs⟩:=hv;exact ⟨s,h,hs⟩
theorem Cf.at {W:World} {cs:List Value} {x:Chk} {b o:Nat} (h:Has W b o cs) (hv:Cf W cs x):Dr W x b o:=by
 obtain ⟨s,rfl,hs⟩:=hv;exact ⟨s,h,hs⟩
theorem Qt:H7 Tryz.prog 38 40 8 80:=⟨Tryz.underlying38,by kernel_rfl,by decide,by decide⟩
theorem Nh:H7 Tryz.prog 42 44 6 80:=⟨Tryz.underlying42,by kernel_rfl,by decide,by decide⟩
theorem Kl:H7 Tryz.prog 23 48 2 32:=⟨Tryz.underlying23,by kernel_rfl,by decide,by decide⟩
theorem F2:H7 Tryz.prog 24 96 9 96:=⟨Tryz.underlying24,by kernel_rfl,by decide,by decide⟩
theorem Dh:H7 Tryz.prog 49 3 1 8:=⟨Tryz.underlying49,by kernel_rfl,by decide,by decide⟩
structure Fr (C:Nat->Prop) (w w':World):Prop where
 os:w'.os=w.os
 tape:w'.tape=w.tape
 output:w'.output=w.output
 size:w.heap.size<=w'.heap.size
 block:∀ b,b<w.heap.size->¬ C b->w'.heap[b]? = w.heap[b]?
theorem Fr.refl (C:Nat->Prop) (w:World):Fr C w w:=⟨rfl,rfl,rfl,Nat.le_refl _,fun _ _ _=>rfl⟩
theorem Fr.trans {C:Nat->Prop} {a b c:World} (h:Fr C a b) (k:Fr C b c):Fr C a c :=
 ⟨k.os.trans h.os,k.tape.trans h.tape,k.output.trans h.output,Nat.le_trans h.size k.size,fun x h1 h2=>(k.block x (Nat.lt_of_lt_of_le h1 h.size) h2).trans (h.block x h1 h2)⟩
theorem Fr.mono {C D:Nat->Prop} {a b:World} (h:Fr C a b) (hC:∀ x,C x->D x):Fr D a b:=⟨h.os,h.tape,h.output,h.size,fun x h1 h2=>h.block x h1 fun h3=>h2 (hC x h3)⟩
theorem Fr.drew {C:Nat->Prop} {a b:World} (h:Fr C a b):Fr C a b.drew:=⟨h.os,h.tape,h.output,h.size,h.block⟩
theorem Fr.of_ext {C:Nat->Prop} {a b:World} (h:Ext a b):Fr C a b:=⟨h.os,h.tape,h.output,h.size,fun x h1 _=>h.block x h1⟩
theorem Fr.of_gb {C:Nat->Prop} {a b:World} {R:Option Nat} (h:a.grownBy b R) (hR:∀ k,R=some k->C k):Fr C a b :=
 ⟨h.os,h.tape,h.output,h.size,fun x h1 h2=>h.block x h1 fun e=>h2 (hR x e.symm)⟩
theorem Fr.ext {C:Nat->Prop} {w0 a b:World} (h:Fr C a b) (h0:Ext w0 a) (hC:∀ x,C x->w0.heap.size<=x):Ext w0 b :=
 ⟨h.os.trans h0.os,h.tape.trans h0.tape,h.output.trans h0.output,Nat.le_trans h0.size h.size,fun x hx=>(h.block x (Nat.lt_of_lt_of_le hx h0.size) fun hc=>by have:=hC x hc;omega).trans (h0.block x hx)⟩
theorem Fr.blk {C:Nat->Prop} {a b:World} {B:Nat} {cs:Array Value} {T:TypeId} (h:Fr C a b) (hb:Blk a B cs T) (hC:¬ C B):Blk b B cs T:=(h.block B hb.lt hC).trans hb
theorem Fr.has {C:Nat->Prop} {a b:World} {B o:Nat} {cs:List Value} (h:Fr C a b) (hb:Has a B o cs) (hC:¬ C B):Has b B o cs:=fun j u hj=>by
 have:=hb j u hj
 exact (World.cell?_of_block (a:=⟨B,o+j,none⟩) (h.block B (World.block_lt_of_cell? a _ this) hC)).trans this
theorem Fr.since {C:Nat->Prop} {a b:World} {N:Nat} (h:Fr C a b) (hC:∀ x,N<=x->x<a.heap.size->¬ C x):Al N a b:=⟨h.size,fun x h1 h2=>h.block x h2 (hC x h1 h2)⟩
theorem Has.grownR {w w':World} {b o:Nat} {cs:List Value} {R:Option Nat} (h:Has w b o cs) (hg:w.grownBy w' R) (aa:¬ R=some b):Has w' b o cs:=fun j u hj=>hg.cell (h j u hj) (fun e=>aa e.symm)
theorem Has.drew {w:World} {b o:Nat} {cs:List Value} (h:Has w b o cs):Has w.drew b o cs:=h
theorem World.heap_drew (w:World):w.drew.heap=w.heap:=rfl
theorem Dg {P:Program} {aa:Array Oper} {o:Oper} {a:Act} {w:World} {K:Act->World->Prop} {Q:Exit->Act->World->Prop} {E:Prop} (hw:Region.wanted o (yielded aa a.tmps)=true) (t:TypeId) (x:Operand)
  (ho:o.op=.buildSlice t 1 #[(0,x)]) {e:TypeId} {size bytes:Nat} (hT:H7 P t e size bytes) {v:Value} (hx:a.eval x=v) {cs:List Value} (hv:v.cells=cs.toArray) (hl:cs.length=size) (hs:size<=1000)
  (h:K (a.put o.dst (.slice (some ⟨w.heap.size,0,none⟩) 1 1)) (w.alloc (.cells cs.toArray e))):if Region.wanted o (yielded aa a.tmps)=true then Oper.wp P o a w K Q else E:=by
 rw [if_pos hw]
 obtain ⟨ht,j,ab,af⟩:=hT
 cases hi:P.info? e with
 | none=>simp [hi] at j
 | some i =>
  simp only [hi,Option.map_some,Option.some.injEq,Prod.mk.injEq] at j
  obtain ⟨ae,u,hb⟩:=j
  cases hz:i.zero with
  | none=>simp [hz] at ae
  | some z =>
   have ac:v.cells.size=size:=by rw [hv];simp [hl]
   have hf:=Great.fill_whole (s:=size) ab [v] ((Array.range (1*size)).map (z.cells[·%z.cells.size]!)) (by simp [ac]) (by simp)
   simp only [List.zipIdx_cons,List.zipIdx_nil,List.map_cons,List.map_nil,List.flatMap_cons,List.flatMap_nil,List.append_nil,hv] at hf
   have hr:=run_buildSlice (P:=P) w t e 1 #[(0,v)] cs.toArray i z ht hi hz (by rw [u];omega) (by rw [u];omega) (by rw [u];exact hf)
   unfold Oper.wp execOp
   simp only [ho,List.map_toArray,List.map_cons,List.map_nil,hx,Sem.run_bind,hr,Result.andThen_ok,Sem.run_pure]
   exact h
theorem D1 {α:Type} {V:World->List Value->α->Prop} {P:Program} {ae:Array Oper} {o:Oper} {a:Act} {w:World} {K:Act->World->Prop} {Q:Exit->Act->World->Prop} {E:Prop} (hw:Region.wanted o (yielded ae a.tmps)=true) (s x:Operand) (t:TypeId)
  (ho:o.op=.call { callee:=.builtin .append,args:=#[s,x],argTypes:=#[t,t] }) {N:Nat} {e:TypeId} {size bytes:Nat} (hT:H7 P t e size bytes)
  {v:Value} {r:List α} (hs:a.eval s=v) (ac:Bi V e size N v r w) {B c:Nat} (hx:a.eval x=.slice (some ⟨B,0,none⟩) 1 c) {cs:List Value} (hl:cs.length=size)
  (ag:Has w B 0 cs) (h1:cs.all (·.oneCell')=true) {y:α} (hy:StV V N v.ownBlock w cs y) (hn:r.length+1<=16777216) (aa:N<=w.heap.size)
  (h:∀ g cap w',Bi V e size N (.slice (some ⟨g,0,none⟩) (r.length+1) cap) (r++[y]) w'->w.grownBy w' v.ownBlock ->
   K (a.put o.dst (.slice (some ⟨g,0,none⟩) (r.length+1) cap)) w'):if Region.wanted o (yielded ae a.tmps)=true then Oper.wp P o a w K Q else E:=by
 rw [if_pos hw]
 obtain ⟨css,af,h2,h3,h4⟩:=ac
 obtain ⟨v',w',hr,h5,h6,g,cap,rfl,hg⟩:=Vp (P:=P) (ty:=o.type) (a:=⟨B,0,none⟩) (m:=1) (c:=c) (news:=cs) hT af (fun _=>Nat.lt_of_lt_of_le Nat.zero_lt_one (Nat.le_refl 1)) (by rw [hl,Nat.one_mul]) (fun j u hj=>by
  have ab:(⟨B,0,none⟩:Addr).add j=⟨B,j,none⟩:=by unfold Addr.add;split<;>simp_all
  rw [ab]
  have:=ag j u hj
  rwa [Nat.zero_add] at this) h1 hn aa
 unfold Oper.wp execOp
 simp only [ho,resolve,invoke,builtin,Sem.run_bind,Sem.run_pure,Result.andThen_ok,List.map_toArray,List.map_cons,List.map_nil,hs,hx]
 rw [hr]
 exact h g cap w' (Bi.snoc h2 h3 h4 hl hy h5 h6 ⟨g,cap,rfl,hg⟩) h6
/-! ### a range over an iterator whose rounds all run to their end -/
def Ahm (t:TypeId):Bool:=t==70||t==64
structure Be (n0:Nat) (W W':World):Prop where
 below:Below n0 W W'
 hard:∀ (b:Nat) (c:Array Value) (t:TypeId) (f:Nat × Nat),W.heap[b]? = some (Obj.cells c t f)->Ahm t=false->W'.heap[b]? = some (Obj.cells c t f)
theorem Be.refl (n0:Nat) (W:World):Be n0 W W:=⟨Below.refl _ _,fun _ _ _ _ h _=>h⟩
theorem Be.trans {n0:Nat} {a b c:World} (h:Be n0 a b) (k:Be n0 b c):Be n0 a c:=⟨h.below.trans k.below,fun x y t f h1 h2=>k.hard x y t f (h.hard x y t f h1 h2) h2⟩
theorem Be.of_ext {n0:Nat} {a b:World} (h:Ext a b) (hn:n0<=a.heap.size):Be n0 a b :=
 ⟨Below.mono h hn,fun x _ _ _ h1 _=>(h.block x (Array.getElem?_eq_some_iff.1 h1).1).trans h1⟩
theorem Be.drew {n0:Nat} (a:World):Be n0 a a.drew:=⟨⟨rfl,rfl,rfl,Nat.le_refl _,fun _ _=>rfl⟩,fun _ _ _ _ h _=>h⟩
theorem Be.of_gb {n0:Nat} {a b:World} {R:Option Nat} (h:a.grownBy b R) (hn:n0<=a.heap.size) (hR:∀ k,R=some k->n0<=k/\∀ (c:Array Value) (t:TypeId) (f:Nat × Nat),a.heap[k]? = some (Obj.cells c t f)->Ahm t=true):Be n0 a b :=
 ⟨⟨h.os,h.tape,h.output,h.size,fun k hk=>h.block k (by omega) (by intro e;have:=(hR k e.symm).1;omega)⟩,fun x c t f h1 h2=>(h.block x (Array.getElem?_eq_some_iff.1 h1).1 (by
  intro e
  have:=(hR x e.symm).2 c t f h1
  rw [h2] at this;cases this)).trans h1⟩
theorem Be.putObj {n0:Nat} {a:World} {l:Nat} {o:Obj} (o':Obj) (hl:a.heap[l]? = some o) (ho:o.isCells=false) (hn:n0<=l):Be n0 a (a.putObj l o') :=
 ⟨⟨rfl,rfl,rfl,by simp,fun k hk=>World.putObj_heap_other (by omega)⟩,fun x c t f h1 _=>(World.putObj_heap_other (by rintro rfl;rw [hl] at h1;cases h1;cases ho)).trans h1⟩
theorem Be.blk {n0:Nat} {a b:World} {B:Nat} {cs:Array Value} {T:TypeId} (h:Be n0 a b) (hb:Blk a B cs T) (ht:Ahm T=false):Blk b B cs T:=h.hard B cs T (0,0) hb ht
theorem Be.ext {n0:Nat} {w a b:World} (h:Be n0 a b) (hx:Ext w a) (hn:w.heap.size<=n0):Ext w b:=Below.trans hx (Below.mono h.below hn)
def Yields (P:Program) (l:Nat) (x:Array Value) (W:World) (R:Ending->World->Prop):Prop:=∀ m,YieldAt Fence.wide m P l x W R
def Seq (P:Program) (n0:Nat) (g:FuncId) (lb:Array Value) (xs:List (List Value)) (w:World):Prop :=
 ∀ (l:Nat) (J:List (List Value)->World->Prop) (W:World),Be n0 w W->n0<=W.heap.size->l<W.heap.size->OwnFrom W.heap.size J ->
  (∀ pre x W1,J pre W1->(∃ post,xs=pre++x::post)->W.heap.size<=W1.heap.size ->
   Yields P l #[.agg x.toArray] W1 fun e W'=>e=.returned (.bool true)/\J (pre++[x]) W'/\Be n0 W1 W'/\KeepsFrom W.heap.size W1 W') ->
  J [] W->Calls P g (#[.func (.yield l) #[] #[]]++lb) W fun e W'=>(∃ v,e=.returned v)/\J xs W'/\Be n0 W W'
def roundEnd (I:List (List Value)->World->Prop) (n0 B:Nat) (pre:List (List Value)) (W:World):Exit->Act->World->Prop
 | .normal,_,W'=>KeepsFrom B W W'/\Be n0 W W'/\I pre W'
 | _,_,_=>False
theorem Aaj {β:Type} {B B':Nat} {I:β->World->Prop} (h:OwnFrom B I) (hB:B<=B'):OwnFrom B' I:=fun s W W' j hs hg hr=>h s W W' j hs hg fun r e=>⟨Nat.le_trans hB (hr r e).1,(hr r e).2⟩
theorem Fy {B B':Nat} {W W':World} (h:KeepsFrom B W W') (hB:B<=B'):KeepsFrom B' W W':=⟨h.size,fun k o hk=>h.same k o (Nat.le_trans hB hk)⟩
theorem M0 {B:Nat} {W:World} {l:Nat} (o':Obj) (hl:l<B):KeepsFrom B W (W.putObj l o'):=⟨by simp,fun k o hk ho _=>(World.putObj_heap_other (by omega)).trans ho⟩
abbrev Gq (D:Nat):Deferred:={ target:=.collected D,args:=#[] }
theorem Mc {P:Program} {g:Operand} {ps:Array Tmp} {assign body:Code} {Q:Exit->Act->World->Prop} {a:Act} {w:World} {n0:Nat} {gf:FuncId} {lb:Array Value}
  (hg:a.eval g=.func (.func gf) #[] lb) (eg:Bj P gf) {xs:List (List Value)} (av:Seq P n0 gf lb xs w) (a9:ps.size=1) (au:n0<=w.heap.size)
  (I:List (List Value)->World->Prop) (hI:OwnFrom w.heap.size I) (h0:I [] w) (Mid:List (List Value)->List Value->Act->World->Prop) (ap:∀ j x a',OwnFrom w.heap.size (fun (_:Unit) W=>Mid j x a' W))
  (ac:∀ (l m:Nat) (j:List (List Value)) (x:List Value) (W:World),I j W->(∃ ag,xs=j++x::ag)->w.heap.size<=W.heap.size ->
   assign.wpIn (Fence.wide.inRound l) m P (Exit.then (fun a' W'=>KeepsFrom w.heap.size W W'/\Be n0 W W'/\Mid j x a' W') (fun _ _ _=>False)) { tmps:=(ps.zip #[.agg x.toArray]).foldl (fun t (p,v)=>t.setIfInBounds p v) a.tmps,defers:=[] } W)
  (al:∀ (l m:Nat) (j:List (List Value)) (x:List Value) (a':Act) (W:World),Mid j x a' W->(∃ ag,xs=j++x::ag)->w.heap.size<=W.heap.size ->
   body.wpIn (Fence.wide.inRound l) m P (roundEnd I n0 w.heap.size (j++[x]) W) a' W)
  (am:∀ (D:Nat) (W:World),w.heap.size<=D->I xs W->Be n0 w W->W.heap[D]? = some (.deferred (some []))->Q .normal { a with defers:=Gq D::a.defers } W) :
  (Code.rangeFunc g ps assign body).wp P Q a w:=by
 rw [<-wpIn_wide (n:=1)]
 refine wpIn_rangeFunc ?_
 intro fn _
 obtain ⟨aa,u⟩:∃ aa:LoopState->Option Code->Loop,aa=fun st pe=>{ state:=st,pending:=pe,fn,tmps:=a.tmps,params:=ps,assign,body,defers:=w.heap.size }:=⟨_,rfl⟩
 obtain ⟨W1,ab⟩:∃ W1,(w.alloc (.deferred (some []))).alloc (.loop (aa .ready none))=W1:=⟨_,rfl⟩
 have aw:Ext w W1:=by rw [<-ab];exact (Ab _ _).alloc _
 have bb:W1.heap.size=w.heap.size+1+1:=by rw [<-ab];simp
 have az:W1.heap[w.heap.size+1]? = some (.loop (aa .ready none)):=by
  rw [<-ab];have:=World.alloc_heap_new (w.alloc (.deferred (some []))) (.loop (aa .ready none));rwa [World.size_alloc] at this
 have ay:W1.heap[w.heap.size]? = some (.deferred (some [])):=by
  rw [<-ab];exact (Below.heap_alloc _ _ _ (by simp)).trans (World.alloc_heap_new w _)
 have ax:I [] W1:=by rw [<-ab];exact hI.alloc _ (hI.alloc _ h0)
 refine ⟨w.heap.size+1,[Gq w.heap.size],W1,{ target:=.fn (.func gf) lb,args:=#[.func (.yield (w.heap.size+1)) #[] #[]] },W1,gf,
  #[.func (.yield (w.heap.size+1)) #[] #[]]++lb,W1,?_,?_,fun _ _=>trivial,?_,fun h=>by simp [Fence.wide] at h,?_⟩
 ·rw [<-ab,u];exact run_enterLoop_outer _ _ _ _ _
 ·simp only [resolve,hg]
  simp [go_sem]
 ·have h2:(invoke (.fn (.func gf) lb) #[.func (.yield (w.heap.size+1)) #[] #[]]).run P W1=(callFunc gf (#[.func (.yield (w.heap.size+1)) #[] #[]]++lb)).run P W1:=rfl
  rw [h2,eg]
 ·rw [callsIn_wide]
  have ae:∀ {s:List (List Value)} {A B:World} {ai:Option Nat} {k:Nat} {o:Obj},k<W1.heap.size->A.heap[k]? = some o->A.grownBy B ai->(∀ r,ai=some r->W1.heap.size<=r/\∃ o:Obj,A.heap[r]? = some o/\o.isCells=false)->B.heap[k]? = some o :=
   fun {s A B ai k o} hk ho af hr=>(af.block k (Array.getElem?_eq_some_iff.1 ho).1 (by intro e;have:=(hr k e.symm).1;omega)).trans ho
  refine (av (w.heap.size+1)
   (fun j W=>I j W/\W.heap[w.heap.size+1]? = some (.loop (aa .ready none))/\W.heap[w.heap.size]? = some (.deferred (some [])))
   W1 (Be.of_ext aw au) (by omega) (by omega)
   (fun s A B ai hs af hr=>⟨(Aaj hI (by omega)) s A B ai hs.1 af hr,ae (s:=s) (by omega) hs.2.1 af hr,ae (s:=s) (by omega) hs.2.2 af hr⟩)
   ?_ ⟨ax,az,ay⟩).mono ?_
  ·rintro j x W ⟨hi,hl,hk⟩ hpost hsW m
   have ba:w.heap.size+1<W.heap.size:=by omega
   have hy:=run_yield (P:=P) (args:=#[.agg x.toArray]) hl (by rw [u];simp [a9])
   rw [u] at hy
   refine ⟨fn,_,assign,body,hy,roundIn_of_wpIn trivial (wpIn_mono (ac _ m j x W hi hpost (by omega)) ?_)⟩
   rintro e a1 Wa he
   cases e with
   | normal =>
    obtain ⟨ao,a4,ar⟩:=he
    have ak:=ao.same _ _ (by omega) hl rfl
    have a0:=ao.same _ _ (Nat.le_refl _) hk rfl
    have aq:w.heap.size+1<Wa.heap.size:=(Array.getElem?_eq_some_iff.1 ak).1
    refine ⟨_,run_beginRound ak (by rw [u]),?_⟩
    have a7:(Wa.putObj (w.heap.size+1) (.loop { aa .ready none with state:=.busy })).heap[w.heap.size+1]? = some (.loop { aa .ready none with state:=.busy }):=World.putObj_heap_same aq
    have a6:(Wa.putObj (w.heap.size+1) (.loop { aa .ready none with state:=.busy })).heap[w.heap.size]? = some (.deferred (some [])):=(World.putObj_heap_other (by omega)).trans a0
    have a8:Mid j x a1 (Wa.putObj (w.heap.size+1) (.loop { aa .ready none with state:=.busy })):=(ap j x a1).putObj (s:=()) _ ar (by omega) ak rfl
    refine wpIn_mono (al _ m j x a1 _ a8 hpost (by simp;omega)) ?_
    rintro e a3 W3 hp
    cases e with
    | normal =>
     obtain ⟨an,a2,a5⟩:=hp
     have aj:=an.same _ _ (by omega) a7 rfl
     have ah:=an.same _ _ (Nat.le_refl _) a6 rfl
     have hr:=run_endRound (P:=P) none aj
     refine ⟨_,_,hr,rfl,⟨hI.putObj _ a5 (by omega) aj rfl,?_,(World.putObj_heap_other (by omega)).trans ah⟩,?_,?_⟩
     ·rw [World.putObj_heap_same (Array.getElem?_eq_some_iff.1 aj).1,u];rfl
     ·exact (a4.trans (Be.putObj _ ak rfl (by omega))).trans (a2.trans (Be.putObj _ aj rfl (by omega)))
     ·exact ((Fy ao (by omega)).trans (M0 _ (by omega))).trans ((Fy an (by omega)).trans (M0 _ (by omega)))
    | ret=>exact hp.elim
    | exit id=>exact hp.elim
    | goto t=>exact hp.elim
    | panic ch=>exact hp.elim
    | outgrown=>exact hp.elim
   | ret=>exact he.elim
   | exit id=>exact he.elim
   | goto t=>exact he.elim
   | panic ch=>exact he.elim
   | outgrown=>exact he.elim
  ·rintro e W2 ⟨⟨v,rfl⟩,⟨hi,hl,hk⟩,hh⟩
   have hr:=run_endLoop (P:=P) hl (by rw [u];simp)
   refine ⟨none,_,by rw [u] at hr;exact hr,am _ _ (Nat.le_refl _) (hI.putObj _ hi (by omega) hl rfl) ?_ ((World.putObj_heap_other (by omega)).trans hk)⟩
   exact ((Be.of_ext aw au).trans hh).trans (Be.putObj _ hl rfl (by omega))
end Go.Proofs.YtbliplladmamoaaGreat
