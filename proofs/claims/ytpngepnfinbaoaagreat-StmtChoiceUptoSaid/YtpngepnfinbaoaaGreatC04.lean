/- Laws and walks that a claim of this seat leans on: Round, Each, HeldIn. -/
import Derived.Test.YtpngepnfinbaoaaGreatC03
import Derived.TacticsIn
import Derived.OrdersIn
import Derived.Test.YtpngepnfinbaoaaGreatCWant
import Derived.Deep.DeepCutAuto
import Derived.Deep.CutBlock
import Derived.Laws.EntriesVeiled
import Derived.Test.YtpngepnfinbaoaaGreatC00
set_option maxRecDepth 100000
set_option maxHeartbeats 8000000
set_option linter.all false
namespace Go.Proofs.YtpngepnfinbaoaaGreat
open Go.RowKit
/-! ### what holds of a plain walk holds of one in a round -/
abbrev FW (r:Option Nat):Fence:={ Fence.wide with round:=r }
def isDefer:Op->Bool
 | .defer _=>true
 | _=>false
theorem semAt_fw {r:Option Nat} {o:Oper} (hd:isDefer o.op=false) (ρ:Operand->Value):Oper.semAt r ρ o=execOp ρ o :=
 Oper.semAt_eq r ρ o (fun c h=>by rw [h] at hd;cases hd)
theorem rowsIn_fw {r:Option Nat} {m:Nat} {P:Program} {row:String} {args:Array Value} {w:World} {R:Value->World->Prop} (h:Go.Rows P row args w R):RowsIn (FW r) m P row args w R :=
 fun c cs _=>let ⟨v,w',hr,hs⟩:=h c cs;⟨v,w',hr,(stepsIn_wide (P:=P)).2 hs⟩
theorem callsIn_fw {r:Option Nat} {m:Nat} {P:Program} {f:FuncId} {args:Array Value} {w:World} {R:Ending->World->Prop} (h:Calls P f args w R):CallsIn (FW r) m P f args w R :=
 (callsIn_wide (n:=m)).2 h
theorem opIn_of_op {r:Option Nat} {m:Nat} {P:Program} {o:Oper} {a:Act} {w:World} {K:Act->World->Prop} {Q:Exit->Act->World->Prop} (hd:isDefer o.op=false) (h:Oper.wp P o a w K Q):Oper.wpIn (FW r) m P o a w K Q:=by
 unfold Oper.wpIn
 refine ⟨fun _ _=>trivial,?_⟩
 rw [show (FW r).round=r from rfl,semAt_fw hd]
 unfold Oper.wp at h
 generalize (execOp a.eval o).run P w=q at *
 cases q with
 | ok x w' =>
  cases x<;>simp only [Oper.upon,Oper.uponIn] at h ⊢ <;>
   first
    | exact h
    | exact ⟨fun h=>(by simp [Fence.wide] at h),callsIn_fw h⟩
    | exact ⟨fun h=>(by simp [Fence.wide] at h),rowsIn_fw h⟩
    | exact h.elim
 | halt x w'=>cases x<;>simp only [Oper.upon,Oper.uponIn] at h ⊢<;>first | exact h | exact h.elim
theorem listIn_of_list {r:Option Nat} {m:Nat} {P:Program} {ops:Array Oper} {Q:Exit->Act->World->Prop} (hQ:¬ LetsOut Q):∀ (l:List Oper) (a:Act) (w:World),(l.all fun o=>!isDefer o.op)=true->wpList P ops Q l a w->wpListIn (FW r) m P ops Q l a w
 | [],_,_,_,h=>h
 | o::rest,a,w,hd,h=>by
  simp only [List.all_cons,Bool.and_eq_true,Bool.not_eq_true'] at hd
  unfold wpListIn
  unfold wpList at h
  split
  ·rename_i hw
   rw [if_pos hw] at h
   rcases h with h | h
   ·exact Oper.wpIn_mono (fun a w h=>listIn_of_list hQ rest a w hd.2 h) (opIn_of_op hd.1 h)
   ·exact absurd h.2 hQ
  ·rename_i hw
   rw [if_neg hw] at h
   exact ⟨fun _ _=>trivial,listIn_of_list hQ rest _ w hd.2 h⟩
theorem regionIn_list {F:Fence} {m:Nat} {P:Program} {id:Nat} {ops:Array Oper} {Q:Exit->Act->World->Prop} {a:Act} {w:World} (h:wpListIn F m P ops Q ops.toList a w):(Code.region id ops false).wpIn F m P Q a w :=
 wpIn_region (by rw [List.range_eq_range',<-Array.length_toList,wpOpsIn_eq_wpListIn ops.toList 0 (by simp)];exact h)
theorem regionIn_of_list {r:Option Nat} {m:Nat} {P:Program} {id:Nat} {ops:Array Oper} {Q:Exit->Act->World->Prop} {a:Act} {w:World} (hd:(ops.toList.all fun o=>!isDefer o.op)=true) (hQ:¬ LetsOut Q)
  (h:wpList P ops Q ops.toList a w):(Code.region id ops false).wpIn (FW r) m P Q a w:=regionIn_list (listIn_of_list hQ _ _ _ hd h)
theorem opsIn_of_any {r:Option Nat} {m:Nat} {P:Program} {md:Region.Mode} {ops:Array Oper} {Q:Exit->Act->World->Prop} (hd:(ops.toList.all fun o=>!isDefer o.op)=true) (hQ:¬ LetsOut Q):∀ (fuel:Nat) (listed:Array Bool) (a:Act) (w:World),
  wpAny P md ops Q fuel listed a w->wpAnyIn (FW r) m P md ops Q fuel listed a w
 | 0,_,_,_,h=>h
 | fuel+1,listed,a,w,h=>by
  refine ⟨h.1,fun i hi=>?_⟩
  have h2:=h.2 i hi
  unfold wpOp at h2
  unfold wpOpIn
  cases ho:ops[i]? with
  | none=>rw [ho] at h2;exact opsIn_of_any hd hQ fuel _ a w h2
  | some o =>
   rw [ho] at h2
   simp only at h2 ⊢
   have hdo:isDefer o.op=false:=by
    have:=List.all_eq_true.1 hd o (Array.mem_toList_iff.2 (Array.mem_of_getElem? ho))
    simpa using this
   split
   ·rename_i hw
    rw [if_pos hw] at h2
    rcases h2 with h2 | h2
    ·exact Oper.wpIn_mono (fun a w h=>opsIn_of_any hd hQ fuel _ a w h) (opIn_of_op hdo h2)
    ·exact absurd h2.2 hQ
   ·rename_i hw
    rw [if_neg hw] at h2
    exact ⟨fun _ _=>trivial,opsIn_of_any hd hQ fuel _ _ w h2⟩
theorem regionIn_held {r:Option Nat} {m:Nat} {P:Program} {id:Nat} {ops:Array Oper} {Q:Exit->Act->World->Prop} {S:World->Prop} {a:Act} {w:World} (hm:P.follows .mixedOrders=true) (hd:(ops.toList.all fun o=>!isDefer o.op)=true) (hQ:¬ LetsOut Q) (hS:S w.drew)
  (h:S w.drew->wpAnyH P .any ops Q S ops.size (Array.replicate ops.size false) a w.drew):(Code.region id ops true).wpIn (FW r) m P Q a w :=
 wpIn_region_any hm (opsIn_of_any hd hQ _ _ _ _ (wpAny_of_held _ _ _ _ (h hS)))
theorem listIn_op {r:Option Nat} {m:Nat} {P:Program} {ops:Array Oper} {Q:Exit->Act->World->Prop} {o:Oper} {rest:List Oper} {a:Act} {w:World} (hw:Region.wanted o (yielded ops a.tmps)=true) (hd:isDefer o.op=false)
  (h:∀ K:Act->World->Prop,(∀ a w,wpListIn (FW r) m P ops Q rest a w->K a w)->Oper.wp P o a w K Q):wpListIn (FW r) m P ops Q (o::rest) a w:=by
 unfold wpListIn
 rw [if_pos hw]
 exact opIn_of_op hd (h _ fun _ _ h=>h)
theorem listIn_yield {r:Option Nat} {m:Nat} {P:Program} {ops:Array Oper} {Q:Exit->Act->World->Prop} {o:Oper} {rest:List Oper} {a:Act} {w:World} (hw:Region.wanted o (yielded ops a.tmps)=true)
  (x y:Operand) (ts:Array TypeId) (ho:o.op=.call { callee:=.value x,args:=#[y],argTypes:=ts }) {l:Nat} (hx:a.eval x=.func (.yield l) #[] #[]) {v:Value} (hy:a.eval y=v) {S:World->Prop}
  (hY:Yields P l #[v] w fun e W'=>e=.returned (.bool true)/\S W') (h:∀ W',S W'->wpListIn (FW r) m P ops Q rest (a.put o.dst (.bool true)) W'):wpListIn (FW r) m P ops Q (o::rest) a w:=by
 unfold wpListIn
 rw [if_pos hw]
 unfold Oper.wpIn
 refine ⟨fun _ _=>trivial,?_⟩
 rw [show (FW r).round=r from rfl,semAt_fw (by rw [ho];rfl)]
 obtain ⟨fn,tmps,assign,body,hrun,hR⟩:=hY (m-1)
 have hex:(execOp a.eval o).run P w=.ok (.round l fn tmps assign body) w:=by
  obtain ⟨dst,op,ty,pos,after,guard⟩:=o
  simp only at ho
  subst ho
  have h1:execOp a.eval { dst,op:=.call { callee:=.value x,args:=#[y],argTypes:=ts },type:=ty,pos,after,guard } = (Deferred.ofValue (a.eval x) (#[y].map a.eval) >>= fun d=>invoke d.target d.args):=rfl
  have h2:(Deferred.ofValue (.func (.yield l) #[] #[]) #[v] >>= fun d=>invoke d.target d.args)=Instr.yield l #[v]:=rfl
  rw [h1,hx]
  simp only [List.map_toArray,List.map_cons,List.map_nil,hy]
  rw [h2];exact hrun
 rw [hex,Oper.uponIn_round]
 refine ⟨fun h=>by simp [Fence.wide] at h,?_⟩
 have hR2:RoundIn (FW r) (m-1) P l fn tmps assign body w _:=hR
 refine hR2.mono ?_
 rintro e W' ⟨rfl,hS⟩
 exact h W' hS
theorem wp_region_in {P:Program} {id:Nat} {ops:Array Oper} {Q:Exit->Act->World->Prop} {a:Act} {w:World} (h:wpListIn (FW none) 0 P ops Q ops.toList a w):(Code.region id ops false).wp P Q a w :=
 (wpIn_wide (n:=0)).1 (regionIn_list h)
theorem op_load_has {P:Program} {o:Oper} {a:Act} {w:World} {K:Act->World->Prop} {Q:Exit->Act->World->Prop} (ty:TypeId) (x:Operand) (ho:o.op=.load ty x)
  {b off:Nat} (hx:a.eval x=.pointer (some ⟨b,off,none⟩)) {cs:List Value} {n:Nat} (hg:Has w b off cs) (hu:Agg P ty n) (hn:cs.length=n) (h:K (a.put o.dst (.agg cs.toArray)) w):Oper.wp P o a w K Q:=by
 subst hn
 unfold Oper.wp execOp
 simp only [ho,hx,Instr.loadAt,Instr.sureAddr,Sem.run_bind,Sem.run_pure,Result.andThen_ok,run_loadVar_has w b off ty cs hg hu]
 exact h
/-! ### marks of loops that are over -/
def Marks (B:Nat) (ds:List Deferred) (W:World):Prop:=∃ Ds:List Nat,ds=Ds.map markOf/\Ds.Pairwise (·≠·)/\∀ D∈Ds,B<=D/\W.heap[D]? = some (.deferred (some []))
theorem Marks.nil (B:Nat) (W:World):Marks B [] W:=⟨[],rfl,.nil,by simp⟩
theorem Marks.keep {B:Nat} {ds:List Deferred} {W W':World} (h:Marks B ds W) (hk:∀ (D:Nat),markOf D∈ds->B<=D->W.heap[D]? = some (.deferred (some []))->W'.heap[D]? = some (.deferred (some []))):Marks B ds W':=by
 obtain ⟨Ds,rfl,h2,h3⟩:=h
 exact ⟨Ds,rfl,h2,fun D hD=>⟨(h3 D hD).1,hk D (List.mem_map_of_mem hD) (h3 D hD).1 (h3 D hD).2⟩⟩
theorem Marks.cons {B D:Nat} {ds:List Deferred} {W:World} (h:Marks B ds W) {M:Nat} (hlt:∀ D',markOf D'∈ds->D'<M) (hD:M<=D) (hB:B<=D) (hw:W.heap[D]? = some (.deferred (some []))):Marks B (markOf D::ds) W:=by
 obtain ⟨Ds,rfl,h2,h3⟩:=h
 refine ⟨D::Ds,rfl,List.pairwise_cons.2 ⟨fun D' hD'=>?_,h2⟩,fun D' hD'=>?_⟩
 ·have:=hlt D' (List.mem_map_of_mem hD');omega
 ·cases hD' with
  | head=>exact ⟨hB,hw⟩
  | tail _ h=>exact h3 D' h
theorem Marks.lt {B D:Nat} {ds:List Deferred} {W:World} (h:Marks B ds W) (hD:markOf D∈ds):D<W.heap.size:=by
 obtain ⟨Ds,rfl,h2,h3⟩:=h
 obtain ⟨D',hD',e⟩:=List.mem_map.1 hD
 have:D'=D:=by injection e with e1;injection e1
 subst this
 exact (Array.getElem?_eq_some_iff.1 (h3 D' hD').2).1
theorem keepsFrom_ext {B:Nat} {W W':World} (h:Ext W W'):KeepsFrom B W W':=⟨h.size,fun k _ _ hk _=>(h.block k (Array.getElem?_eq_some_iff.1 hk).1).trans hk⟩
theorem own_blk {A B:World} {M Bk:Nat} {cs:Array Value} {T:TypeId} {row:Option Nat} (hb:Blk A Bk cs T) (hg:A.grownBy B row) (hr:∀ r,row=some r->M<=r/\∃ o:Obj,A.heap[r]? = some o/\o.isCells=false):Blk B Bk cs T :=
 (hg.block Bk hb.lt (by
  intro e
  obtain ⟨_,o,ho,hno⟩:=hr _ e.symm
  unfold Blk at hb
  rw [hb] at ho;cases ho;cases hno)).trans hb
theorem own_hard {W A B:World} {M n0:Nat} {row:Option Nat} (h:Hard n0 W A) (hn:n0<=M) (hn':n0<=A.heap.size) (hg:A.grownBy B row) (hr:∀ r,row=some r->M<=r/\∃ o:Obj,A.heap[r]? = some o/\o.isCells=false):Hard n0 W B :=
 h.trans (Hard.of_gb hg hn' fun r e=>⟨Nat.le_trans hn (hr r e).1,fun c t f hc=>by
  obtain ⟨_,o,ho,hno⟩:=hr r e
  rw [ho] at hc;cases hc;cases hno⟩)
theorem own_marks {A B:World} {M B0:Nat} {ds:List Deferred} {row:Option Nat} (h:Marks B0 ds A) (hlt:∀ D,markOf D∈ds->D<M) (hg:A.grownBy B row) (hr:∀ r,row=some r->M<=r/\∃ o:Obj,A.heap[r]? = some o/\o.isCells=false):Marks B0 ds B :=
 h.keep fun D hD _ hw=>(hg.block D (Array.getElem?_eq_some_iff.1 hw).1 (by intro e;have:=(hr D e.symm).1;have:=hlt D hD;omega)).trans hw
theorem own_size {A B:World} {row:Option Nat} {n:Nat} (h:n<A.heap.size) (hg:A.grownBy B row):n<B.heap.size:=Nat.lt_of_lt_of_le h hg.size
theorem Marks.ext {B:Nat} {ds:List Deferred} {W W':World} (h:Marks B ds W) (hx:Ext W W'):Marks B ds W':=h.keep fun D _ _ hw=>(hx.block D (Array.getElem?_eq_some_iff.1 hw).1).trans hw
theorem Marks.keeps {B:Nat} {ds:List Deferred} {W W':World} (h:Marks B ds W) (hk:KeepsFrom B W W'):Marks B ds W':=h.keep fun D _ hB hw=>hk.same D _ hB hw rfl
theorem leaves_marks {P:Program} {fn:Func} {tmps:Array Value} {R:Ending->World->Prop} {B:Nat} (I:Unit->World->Prop) (hI:OwnFrom B I) (hend:∀ W,I () W->LeavesInM Fence.wide 0 P fn tmps R [] .returning W) :
  ∀ (ds:List Deferred) (W:World),Marks B ds W->I () W->LeavesInM Fence.wide 0 P fn tmps R ds .returning W:=by
 intro ds W ⟨Ds,h1,h2,h3⟩
 subst h1
 induction Ds generalizing W with
 | nil=>intro hi;exact hend W hi
 | cons D Ds ih =>
  intro hi
  obtain ⟨hB,hD⟩:=h3 D (by simp)
  refine ⟨by simp,.inl ⟨D,_,rfl,run_takeDeferred hD,?_⟩⟩
  rw [List.pairwise_cons] at h2
  refine ih _ h2.2 (fun D' hD'=>⟨(h3 D' (by simp [hD'])).1,?_⟩) (hI.putObj _ hi hB hD rfl)
  exact (World.putObj_heap_other (Ne.symm (h2.1 D' hD'))).trans (h3 D' (by simp [hD'])).2
/-! ### statements, and those that stand in them -/
def eachT:T->List T
 | ⟨op,sig,hi,lo,e,l⟩=>⟨op,sig,hi,lo,e,l⟩::eachTs l
where eachTs:List T->List T
 | []=>[]
 | t::l=>eachT t++eachTs l
theorem eachT_eq (t:T):eachT t=t::eachT.eachTs t.l:=by cases t;rw [eachT]
theorem eachTs_eq (l:List T):eachT.eachTs l=(l.map eachT).flatten:=by
 induction l with
 | nil=>rfl
 | cons x l ih=>simp [eachT.eachTs,ih]
theorem each_calls (s:Value) (hs:s.oneCell'=true) (w:World) :
  Calls Tryz.prog 31 #[s] w fun r w'=>r=.returned (.func (.func 66) #[] #[.pointer (some ⟨w.heap.size,0,none⟩)])/\w'=w.alloc (.cells #[s] 34):=by
 go_enter Tryz.func31,Tryz.ntmps31
 go_wp2_with fail
 go_ret
 exact ⟨rfl,rfl⟩
theorem leads_each1:Leads Tryz.prog 66:=leads_of Tryz.func66 (by kernel_rfl) rfl
def Eaches (wb:World):List T->List (List Value)->Prop
 | [],[]=>True
 | t::ts,x::xs=>VT wb x t/\Eaches wb ts xs
 | _,_=>False
theorem Eaches.append {wb:World} {ts ts':List T} {xs xs':List (List Value)} (h:Eaches wb ts xs) (h':Eaches wb ts' xs'):Eaches wb (ts++ts') (xs++xs'):=by
 induction ts generalizing xs with
 | nil=>cases xs with
  | nil=>exact h'
  | cons _ _=>exact h.elim
 | cons t ts ih=>cases xs with
  | nil=>exact h.elim
  | cons x xs=>exact ⟨h.1,ih h.2⟩
theorem Eaches.mem {wb:World} {ts:List T} {xs:List (List Value)} (h:Eaches wb ts xs) {x:List Value} (hx:x∈xs):∃ t∈ts,VT wb x t:=by
 induction ts generalizing xs with
 | nil=>cases xs with
  | nil=>cases hx
  | cons _ _=>exact h.elim
 | cons t ts ih=>cases xs with
  | nil=>exact h.elim
  | cons y xs =>
   cases hx with
   | head=>exact ⟨t,by simp,h.1⟩
   | tail _ hx=>obtain ⟨t',h1,h2⟩:=ih h.2 hx;exact ⟨t',by simp [h1],h2⟩
def EachOk (L:List T):Prop:=∀ (wb:World) (s:Value),Ts wb s L->∃ xs,Eaches wb (eachT.eachTs L) xs /\
 ∀ (n0:Nat) (w:World) (B:Nat),wb.heap.size<=n0->Ext wb w->Blk w B #[s] 34->n0<=w.heap.size->Seq Tryz.prog n0 66 #[.pointer (some ⟨B,0,none⟩)] xs w
theorem each1_step (L:List T) (ih:∀ t∈L,EachOk t.l):EachOk L:=by
 intro wb s hs
 obtain ⟨a0,b,o,cap,hsl,hc1,hc2,ha,hr⟩:=hs.open
 subst hsl
 have hex:∀ k,∃ p:List Value × List (List Value),(hk:k<L.length)->(∃ s1 s2,p.1=L[k].cells s1 s2/\Has wb b (o+k*6) p.1/\VT wb p.1 L[k]/\Eaches wb (eachT.eachTs L[k].l) p.2/\s2.oneCell'=true /\
   ∀ (n0:Nat) (w:World) (B:Nat),wb.heap.size<=n0->Ext wb w->Blk w B #[s2] 34->n0<=w.heap.size->Seq Tryz.prog n0 66 #[.pointer (some ⟨B,0,none⟩)] p.2 w):=by
  intro k
  by_cases hk:k<L.length
  ·obtain ⟨s1,s2,h1,h2,h3⟩:=Ts.get hr hk
   obtain ⟨xs,hx1,hx2⟩:=ih _ (List.getElem_mem hk) wb s2 h3
   exact ⟨(_,xs),fun _=>⟨s1,s2,rfl,h1,⟨s1,s2,rfl,h2,h3⟩,hx1,h3.one,hx2⟩⟩
  ·exact ⟨([],[]),fun h=>absurd h hk⟩
 obtain ⟨f,hf⟩:∃ f:Nat->List Value × List (List Value),∀ k (hk:k<L.length),∃ s1 s2,(f k).1=L[k].cells s1 s2/\Has wb b (o+k*6) (f k).1/\VT wb (f k).1 L[k]/\Eaches wb (eachT.eachTs L[k].l) (f k).2/\s2.oneCell'=true /\
   ∀ (n0:Nat) (w:World) (B:Nat),wb.heap.size<=n0->Ext wb w->Blk w B #[s2] 34->n0<=w.heap.size->Seq Tryz.prog n0 66 #[.pointer (some ⟨B,0,none⟩)] (f k).2 w :=
  ⟨fun k=>Classical.choose (hex k),fun k hk=>Classical.choose_spec (hex k) hk⟩
 clear hex ih
 obtain ⟨pre,hpre0,hpreS⟩:∃ pre:Nat->List (List Value),pre 0=[]/\∀ k,pre (k+1)=pre k++((f k).1::(f k).2) :=
  ⟨fun k=>((List.range k).map fun j=>(f j).1::(f j).2).flatten,rfl,fun k=>by simp [List.range_succ]⟩
 have hea:∀ k,k<=L.length->Eaches wb (((L.take k).map eachT).flatten) (pre k):=by
  intro k
  induction k with
  | zero=>intro _;rw [hpre0];trivial
  | succ k ih =>
   intro hk
   rw [take_snoc L k hk,List.map_append,List.flatten_append,hpreS]
   obtain ⟨s1,s2,-,-,h3,h4,-⟩:=hf k hk
   refine (ih (by omega)).append ?_
   simp only [List.map_cons,List.map_nil,List.flatten_cons,List.flatten_nil,List.append_nil]
   rw [eachT_eq]
   exact ⟨h3,h4⟩
 refine ⟨pre L.length,by rw [eachTs_eq];have:=hea _ (Nat.le_refl _);rwa [List.take_length] at this,?_⟩
 have hpost:∀ k,k<=L.length->∃ post,pre L.length=pre k++post:=by
  have hm:∀ m k,k+m=L.length->∃ post,pre L.length=pre k++post:=by
   intro m
   induction m with
   | zero=>intro k hk;exact ⟨[],by rw [<-hk];simp⟩
   | succ m ih =>
    intro k hk
    obtain ⟨post,hp⟩:=ih (k+1) (by omega)
    exact ⟨_,by rw [hp,hpreS,List.append_assoc]⟩
  exact fun k hk=>hm (L.length-k) k (by omega)
 intro n0 w B hn0 hxb hB hnw l J W hHW hnW hlW hJ hY hJ0
 have HF:=Jh hf
 have HPS:=Jh hpreS
 have HPO:=Jh hpost
 have HY:=Jh hY
 have HJ:=Jh hJ
 have HA:=Jh ha
 have HXW:=Jh (hHW.ext hxb hn0)
 have hBW:=hHW.blk hB (by decide)
 clear hf hpreS hpost hY hJ hea ha hr hs
 have hX:=ext_alloc W (.cells #[.func (.yield l) #[] #[]] 121)
 have hbY:=Blk.new W #[.func (.yield l) #[] #[]] 121
 have HBY:=Jh hbY
 have HBB:=Jh (hBW.ext hX)
 have hJ1:=HJ.out.alloc (.cells #[.func (.yield l) #[] #[]] 121) hJ0
 have g0:=HBB.out.cell 0
 simp only [List.getElem?_toArray,List.getElem?_cons_zero] at g0
 refine callsIn_wide.1 (callsIn_of_wp_marks (n:=0) Tryz.func66 rfl trivial ?_);rw [wpIn_wide];simp only [Tryz.ntmps66,List.size_toArray,List.length_cons,List.length_nil,Nat.reduceAdd,Nat.reduceSub,Array.replicate_succ,Array.replicate_zero,List.push_toArray,List.append_toArray,List.nil_append,List.cons_append]
 go_wp2_with fail
 have hsY:(W.alloc (.cells #[.func (.yield l) #[] #[]] 121)).heap.size=W.heap.size+1:=by simp
 have hHX:=Hard.of_ext hX hnW
 generalize W.alloc _=wY at *
 refine wp_loop (fun a wr=>∃ (k:Nat) (u3 u4 u5 u9 u10 u11 u12 u13 u14 u15 u16 u17 u18 u19 u20 u21 u22 u23 u24:Value) (ds:List Deferred),a=⟨#[.func (.yield l) #[] #[],.pointer (some ⟨B,0,none⟩),.pointer (some ⟨W.heap.size,0,none⟩),u3,u4,u5,.slice a0 L.length cap,.int .i64 L.length,.int .i64 k,u9,u10,u11,u12,u13,u14,u15,u16,u17,u18,u19,u20,u21,u22,u23,u24],ds⟩ /\
  k<=L.length/\J (pre k) wr/\Hard n0 W wr/\Marks W.heap.size ds wr/\Blk wr W.heap.size #[.func (.yield l) #[] #[]] 121/\W.heap.size<wr.heap.size) (fun a _=>L.length-(intOf (a.tmps.getD 8 undef)).toNat)
  ⟨0,_,_,_,_,_,_,_,_,_,_,_,_,_,_,_,_,_,_,_,[],rfl,Nat.zero_le _,by rw [hpre0];exact hJ1,hHX,Marks.nil _ _,HBY.out,by omega⟩ ?_
 rintro a wr ⟨k,u3,u4,u5,u9,u10,u11,u12,u13,u14,u15,u16,u17,u18,u19,u20,u21,u22,u23,u24,ds,rfl,hk,hJk,hHk,hMk,hYk,hsk⟩
 have HJK:=Jh hJk
 have HHK:=Jh hHk
 have HMK:=Jh hMk
 have HYK:=Jh hYk
 clear hJk hHk hMk hYk hJ1 hHX
 have HXK:=Jh (HHK.out.ext HXW.out hn0)
 by_cases hlt:k<L.length
 ·obtain ⟨s1,s2,hcs,hhas,hvt,hea2,hone,hseq⟩:=HF.out k hlt
  obtain rfl:=HA.out (by omega)
  obtain ⟨post,hpo⟩:=HPO.out (k+1) hlt
  have hps:=HPS.out k
  rw [hcs] at hhas hps hvt
  generalize L[k]=tk at *
  generalize (f k).2=xk at *
  clear hcs
  have HPS2:=Jh hps
  have HPO2:=Jh hpo
  have HSEQ:=Jh hseq
  have HVT:=Jh hvt
  have HEA:=Jh hea2
  have HONE:=Jh hone
  have HH1:=Jh (hhas.ext HXK.out)
  clear hps hpo hseq hvt hea2 hhas hone
  have hx4:=ext_alloc wr (.cells (tk.cells s1 s2).toArray 39)
  have hb4:=Blk.new wr (tk.cells s1 s2).toArray 39
  have hJ4:=HJ.out.alloc (.cells (tk.cells s1 s2).toArray 39) HJK.out
  have hs4:(wr.alloc (.cells (tk.cells s1 s2).toArray 39)).heap.size=wr.heap.size+1:=by simp
  go_upto_region 4 with (first | ((with_reducible show Jl 39);refine Jm 39 (HH1.out) agg_T rfl ?_) | ((with_reducible show Js 39);refine wpList_store_new rfl 39 _ _ rfl rfl (by first | rfl | simp) rfl agg_T (rfl) rfl (HVT.out.one) ?_))
  generalize wr.alloc _=w4 at *
  have hY4:=HYK.out.ext hx4
  refine wp_region_in ?_
  refine listIn_op rfl rfl fun K hK=>?_
  have y0:w4.cell? ⟨W.heap.size,0,none⟩=some (.func (.yield l) #[] #[]):=by rw [hY4.cell];rfl
  go_simp
  refine hK _ _ ?_
  clear hK y0
  refine listIn_op rfl rfl fun K hK=>?_
  refine op_load_has 39 _ rfl rfl hb4.has agg_T rfl ?_
  refine hK _ _ ?_
  clear hK
  refine listIn_yield rfl _ _ _ rfl rfl rfl (HY.out (pre k) (tk.cells s1 s2) w4 hJ4 ⟨xk++post,by rw [HPO2.out,HPS2.out];simp⟩ (by omega)) ?_
  rintro w5 ⟨hJ5,hH5,hK5⟩
  refine listIn_op rfl rfl fun K hK=>?_
  go_simp
  refine hK _ _ ?_
  clear hK
  unfold wpListIn
  have hb5:=hH5.blk hb4 (by decide)
  have g5:=hb5.cell 5
  simp only [List.getElem?_toArray,List.getElem?_cons_zero,List.getElem?_cons_succ] at g5
  have HB5:=Jh hb5
  have HJ5:=Jh hJ5
  clear hb5 hJ5
  go_wp2_with (first | (go_at_call 31;refine (each_calls s2 HONE.out _).mono ?_;rintro r w6 ⟨rfl,rfl⟩))
  have hx6:=ext_alloc w5 (.cells #[s2] 34)
  have hb6:=Blk.new w5 #[s2] 34
  have hJ6:=HJ.out.alloc (.cells #[s2] 34) HJ5.out
  have hs5:=hH5.below.size
  have hs6:(w5.alloc (.cells #[s2] 34)).heap.size=w5.heap.size+1:=by simp
  have hM6:=((HMK.out.ext hx4).keeps hK5).ext hx6
  have hY6:=(hH5.blk hY4 (by decide)).ext hx6
  have hH6:=((HHK.out.trans (Hard.of_ext hx4 (by omega))).trans hH5).trans (Hard.of_ext hx6 (by omega))
  obtain ⟨B6,hB6⟩:∃ x,w5.heap.size=x:=⟨_,rfl⟩
  rw [hB6] at hb6 hs6 hs5 ⊢
  clear hB6
  generalize w5.alloc _=w6 at *
  have hlt6:∀ D,markOf D∈ds->D<w6.heap.size:=fun D hD=>hM6.lt hD
  have HLT6:=Jh hlt6
  have HX6:=Jh (hH6.ext HXW.out hn0)
  refine wp_range (n0:=n0) rfl leads_each1 (HSEQ.out n0 w6 B6 hn0 HX6.out hb6 (by omega)) rfl (by omega)
   (fun pre' Wx=>J (pre k++tk.cells s1 s2::pre') Wx/\Hard n0 W Wx/\Marks W.heap.size ds Wx/\Blk Wx W.heap.size #[.func (.yield l) #[] #[]] 121/\W.heap.size<Wx.heap.size)
   (fun s A B row hs hg hr=>⟨HJ.out _ A B row hs.1 hg (fun r e=>⟨by have:=(hr r e).1;omega,(hr r e).2⟩),own_hard hs.2.1 (by omega) (by have:=hs.2.2.2.2;omega) hg hr,own_marks hs.2.2.1 HLT6.out hg hr,own_blk hs.2.2.2.1 hg hr,own_size hs.2.2.2.2 hg⟩)
   ⟨hJ6,hH6,hM6,hY6,by omega⟩
   (fun pre' x a' Wx=>(J (pre k++tk.cells s1 s2::pre') Wx/\Hard n0 W Wx/\Marks W.heap.size ds Wx/\Blk Wx W.heap.size #[.func (.yield l) #[] #[]] 121/\W.heap.size<Wx.heap.size) /\
    ∃ (U:Nat) (t':T) (v1 v2:Value),x=t'.cells v1 v2/\Blk Wx U x.toArray 39/\a'=⟨#[.func (.yield l) #[] #[],.pointer (some ⟨B,0,none⟩),.pointer (some ⟨W.heap.size,0,none⟩),u3,.pointer (some ⟨wr.heap.size,0,none⟩),.pointer (some ⟨U,0,none⟩),.slice (some ⟨b,o,none⟩) L.length cap,.int .i64 L.length,.int .i64 k,.bool true,.pointer (some ⟨b,o+k*6,none⟩),.agg (tk.cells s1 s2).toArray,.func (.yield l) #[] #[],.agg (tk.cells s1 s2).toArray,.bool true,.bool false,.pointer (some ⟨wr.heap.size,5,none⟩),s2,.func (.func 66) #[] #[.pointer (some ⟨B6,0,none⟩)],.agg x.toArray,u20,u21,u22,u23,u24],[]⟩)
   (fun pre' x a' s A B row hs hg hr=>⟨⟨HJ.out _ A B row hs.1.1 hg (fun r e=>⟨by have:=(hr r e).1;omega,(hr r e).2⟩),own_hard hs.1.2.1 (by omega) (by have:=hs.1.2.2.2.2;omega) hg hr,own_marks hs.1.2.2.1 HLT6.out hg hr,own_blk hs.1.2.2.2.1 hg hr,own_size hs.1.2.2.2.2 hg⟩,by
    obtain ⟨U,t',v1,v2,h1,h2,h3⟩:=hs.2
    exact ⟨U,t',v1,v2,h1,own_blk h2 hg hr,h3⟩⟩) ?assign ?body ?done
  case assign =>
   rintro l' m pre' x Wx ⟨q1,q2,q3,q4,q5⟩ ⟨post',hxp⟩ hsz
   obtain ⟨t',-,v1,v2,rfl,hv1,hv2⟩:=HEA.out.mem (show x∈xk by rw [hxp];simp)
   refine regionIn_of_list (r:=some l') (by kernel_rfl) (by rintro ⟨_,_,h⟩;exact h) ?_
   have hxu:=ext_alloc Wx (.cells (t'.cells v1 v2).toArray 39)
   have hbu:=Blk.new Wx (t'.cells v1 v2).toArray 39
   go_wp2_with (first | ((with_reducible show Js 39);refine wpList_store_new rfl 39 _ _ rfl rfl (by first | rfl | simp) rfl agg_T (rfl) rfl (by simp [hv1.one,hv2.one,one_int]) ?_))
   exact ⟨keepsFrom_ext hxu,Hard.of_ext hxu (by omega),⟨HJ.out.alloc _ q1,q2.trans (Hard.of_ext hxu (by omega)),q3.ext hxu,q4.ext hxu,by simp;omega⟩,Wx.heap.size,t',v1,v2,rfl,hbu,rfl⟩
  case body =>
   rintro l' m pre' x a' Wx ⟨⟨q1,q2,q3,q4,q5⟩,U,t',v1,v2,rfl,hU,rfl⟩ ⟨post',hxp⟩ hsz
   obtain ⟨post,hpo⟩:∃ post,pre L.length=(pre k++tk.cells s1 s2::pre')++t'.cells v1 v2::post:=⟨_,by rw [HPO2.out,HPS2.out,hxp];simp;rfl⟩
   refine wpIn_block ?_
   refine wpIn_seq ?_
   refine regionIn_list (F:=FW (some l')) ?_
   refine listIn_op rfl rfl fun K hK=>?_
   have y0:Wx.cell? ⟨W.heap.size,0,none⟩=some (.func (.yield l) #[] #[]):=by rw [q4.cell];rfl
   go_simp
   refine hK _ _ ?_
   clear hK y0
   refine listIn_op rfl rfl fun K hK=>?_
   refine op_load_has 39 _ rfl rfl hU.has agg_T rfl ?_
   refine hK _ _ ?_
   clear hK
   refine listIn_yield rfl _ _ _ rfl rfl rfl (HY.out _ (t'.cells v1 v2) Wx q1 ⟨post,hpo⟩ (by omega)) ?_
   rintro W3 ⟨hJ3,hH3,hK3⟩
   refine listIn_op rfl rfl fun K hK=>?_
   go_simp
   refine hK _ _ ?_
   clear hK
   unfold wpListIn
   have hres:KeepsFrom w6.heap.size Wx W3/\Hard n0 Wx W3/\(J (pre k++tk.cells s1 s2::(pre'++[t'.cells v1 v2])) W3/\Hard n0 W W3/\Marks W.heap.size ds W3/\Blk W3 W.heap.size #[.func (.yield l) #[] #[]] 121/\W.heap.size<W3.heap.size) :=
    ⟨keepsFrom_up hK3 (by omega),hH3,by simpa using hJ3,q2.trans hH3,q3.keeps hK3,hH3.blk q4 (by decide),by have:=hH3.below.size;omega⟩
   have HRES:=Jh hres
   clear hres
   show Code.wpIn _ _ _ _ _ _ _
   refine wpIn_cond_false rfl ?_
   refine wpIn_skip ?_
   exact HRES.out
  case done =>
   rintro D Wx hD ⟨q1,q2,q3,q4,q5⟩ hh hdef
   go_wp2_with fail
   have hq1:J (pre (k+1)) Wx:=by rw [HPS2.out];exact q1
   exact ⟨⟨k+1,u3,_,u5,_,_,_,_,_,_,_,_,_,_,_,_,_,_,_,_,markOf D::ds,rfl,by omega,hq1,q2,q3.cons HLT6.out hD (by omega) hdef,q4,q5⟩,by simp [intOf];omega⟩
 ·obtain rfl:k=L.length:=by omega
  go_wp2_with fail
  refine leaves_marks (B:=W.heap.size) (fun _ Wx=>J (pre L.length) Wx/\Hard n0 W Wx/\W.heap.size<Wx.heap.size) (fun s A B row hs hg hr=>⟨HJ.out _ A B row hs.1 hg hr,own_hard hs.2.1 hnW (by have:=hs.2.2;omega) hg hr,own_size hs.2.2 hg⟩) ?_ ds wr HMK.out ⟨HJK.out,HHK.out,hsk⟩
  rintro Wx ⟨q1,q2,q3⟩
  exact ⟨.tuple #[],by simp [results,Tryz.results66,go_sem],⟨_,rfl⟩,q1,q2⟩
theorem each1_seq (L:List T):EachOk L:=each1_step L fun t _=>T.ind (P:=fun t=>EachOk t.l) (fun t ih=>each1_step t.l ih) t
/-! ### a region that draws its order and calls yield: loads that hold in every world of the walk are taken first -/
section
variable {m:Nat} {P:Program} {ops:Array Oper} {Q:Exit->Act->World->Prop} {md:Region.Mode} {S:World->Prop}
theorem held_wpOpIn {i:Nat} {o:Oper} {v:Value} {a:Act} (hi:ops[i]? = some o) (hy:YieldsIf P ops S o v a) {K:Act->World->Prop} {w:World} (hS:S w) (h:K (a.put o.dst v) w) :
  wpOpIn Fence.wide m P ops Q i K a w:=by
 unfold Go.wpOpIn
 rw [hi]
 rcases hy with ⟨hw,hv⟩ | ⟨hw,rfl⟩
 ·simp only [hw,if_true,Oper.wpIn,show Fence.wide.round=none from rfl,Oper.semAt_none,hv w hS,Oper.uponIn]
  exact ⟨fun _ _=>trivial,h⟩
 ·simp only [hw,Bool.false_eq_true,if_false]
  exact ⟨fun _ _=>trivial,h⟩
theorem held_put {j:Nat} {oi oj:Oper} {v:Value} (hj:ops[j]? = some oj) (hap:oi.apart ops oj=true) (hsi:∀ cs b,oi.op≠.select cs b) (hsj:∀ cs b,oj.op≠.select cs b)
  (hQ:∀ c a w,Q (.panic c) (a.put oi.dst v) w->Q (.panic c) a w) {K:Act->World->Prop} {a:Act} {w:World} (hy:YieldsIf P ops S oi v a) (h:wpOpIn Fence.wide m P ops Q j K (a.put oi.dst v) w) :
  wpOpIn Fence.wide m P ops Q j (fun a' w'=>YieldsIf P ops S oi v a'/\K (a'.put oi.dst v) w') a w:=by
 obtain ⟨h1,h2,h3⟩:=Oper.apart_spec hap
 have keep:∀ (b:Act),YieldsIf P ops S oi v b->∀ u,YieldsIf P ops S oi v (b.put oj.dst u):=fun b hy u=>hy.of_same (execOp_put oi hsi b oj.dst u h3) (wanted_put oi b oj.dst u h3)
 have hback:∀ u (b:Act) W,K ((b.put oi.dst v).put oj.dst u) W->K ((b.put oj.dst u).put oi.dst v) W:=fun u b W hk=>by rw [<-Act.put_comm b v u h2];exact hk
 unfold wpOpIn at h ⊢
 rw [hj] at h ⊢
 simp only [wanted_put oj a oi.dst v h1] at h ⊢
 by_cases hw:Region.wanted oj (yielded ops a.tmps)=true
 ·rw [if_pos hw] at h ⊢
  unfold Oper.wpIn at h ⊢
  rw [show Fence.wide.round=none from rfl,Oper.semAt_none] at h ⊢
  rw [execOp_put oj hsj a oi.dst v h1] at h
  refine ⟨fun _ _=>trivial,?_⟩
  have h:=h.2
  generalize (execOp a.eval oj).run P w=r at h ⊢
  cases r with
  | halt x w'=>cases x<;>simp only [Oper.uponIn] at h ⊢<;>exact hQ _ _ _ h
  | ok x w' =>
   cases x<;>simp only [Oper.uponIn] at h ⊢
   case value u=>exact ⟨keep a hy u,hback _ _ _ h⟩
   case skip=>exact ⟨keep a hy _,hback _ _ _ h⟩
   case defer d=>exact ⟨keep { a with defers:=d::a.defers } (hy.of_same rfl rfl) _,hback _ { a with defers:=d::a.defers } _ (by rw [<-Act.put_defers];exact h)⟩
   case row row args=>exact ⟨h.1,RowsIn.mono h.2 fun u w'' he=>⟨keep a hy u,hback _ _ _ he⟩⟩
   case enter f args =>
    refine ⟨h.1,CallsIn.mono h.2 fun e w'' he=>?_⟩
    cases e with
    | returned u=>exact ⟨keep a hy u,hback _ _ _ he⟩
    | panicked c=>exact hQ _ _ _ he
    | outgrown=>exact he
   case round l f tmps assign body =>
    refine ⟨h.1,RoundIn.mono h.2 fun e w'' he=>?_⟩
    cases e with
    | returned u=>exact ⟨keep a hy u,hback _ _ _ he⟩
    | panicked c=>exact hQ _ _ _ he
    | outgrown=>exact he
 ·rw [if_neg hw] at h ⊢
  exact ⟨fun _ _=>trivial,keep a hy _,hback _ _ _ h.2⟩
theorem opIn_yield {r:Option Nat} {o:Oper} {K:Act->World->Prop} {a:Act} {w:World} (x y:Operand) (ts:Array TypeId) (ho:o.op=.call { callee:=.value x,args:=#[y],argTypes:=ts }) {l:Nat}
  (hx:a.eval x=.func (.yield l) #[] #[]) {v:Value} (hy:a.eval y=v) {R:World->Prop} (hY:Go.Proofs.YtpngepnfinbaoaaGreat.Yields P l #[v] w fun e W'=>e=.returned (.bool true)/\R W') (h:∀ W',R W'->K (a.put o.dst (.bool true)) W'):Oper.wpIn (FW r) m P o a w K Q:=by
 unfold Oper.wpIn
 refine ⟨fun _ _=>trivial,?_⟩
 rw [show (FW r).round=r from rfl,semAt_fw (by rw [ho];rfl)]
 obtain ⟨fn,tmps,assign,body,hrun,hR⟩:=hY (m-1)
 have hex:(execOp a.eval o).run P w=.ok (.round l fn tmps assign body) w:=by
  obtain ⟨dst,op,ty,pos,after,guard⟩:=o
  simp only at ho
  subst ho
  have h1:execOp a.eval { dst,op:=.call { callee:=.value x,args:=#[y],argTypes:=ts },type:=ty,pos,after,guard } = (Deferred.ofValue (a.eval x) (#[y].map a.eval) >>= fun d=>invoke d.target d.args):=rfl
  have h2:(Deferred.ofValue (.func (.yield l) #[] #[]) #[v] >>= fun d=>invoke d.target d.args)=Instr.yield l #[v]:=rfl
  rw [h1,hx]
  simp only [List.map_toArray,List.map_cons,List.map_nil,hy]
  rw [h2];exact hrun
 rw [hex,Oper.uponIn_round]
 refine ⟨fun h=>by simp [Fence.wide] at h,?_⟩
 have hR2:RoundIn (FW r) (m-1) P l fn tmps assign body w _:=hR
 refine hR2.mono ?_
 rintro e W' ⟨rfl,hS⟩
 exact h W' hS
def AnyS (m:Nat) (P:Program) (md:Region.Mode) (ops:Array Oper) (Q:Exit->Act->World->Prop) (S:World->Prop):Nat->Array Bool->Act->World->Prop
 | 0,listed,a,w=>Region.ready md ops listed=[]/\Q .normal a w
 | k+1,listed,a,w=>(Region.ready md ops listed=[]->Q .normal a w)/\∀ i∈Region.ready md ops listed,wpOpIn Fence.wide m P ops Q i (fun a' w'=>S w'/\AnyS m P md ops Q S k (listed.setIfInBounds i true) a' w') a w
theorem AnyS.any:∀ (k:Nat) (listed:Array Bool) (a:Act) (w:World),AnyS m P md ops Q S k listed a w->wpAnyIn Fence.wide m P md ops Q k listed a w
 | 0,_,_,_,h=>h
 | k+1,_,_,_,h=>⟨h.1,fun i hi=>wpOpIn_mono (fun a' w' h'=>AnyS.any k _ a' w' h'.2) (h.2 i hi)⟩
theorem AnyS.first {i:Nat} {oi:Oper} {v:Value} (hi:ops[i]? = some oi) (hsel:∀ (j:Nat) (o:Oper) cs b,ops[j]? = some o->o.op≠.select cs b) (hQ:∀ c a w,Q (.panic c) (a.put oi.dst v) w->Q (.panic c) a w) :
  ∀ (k:Nat) (listed:Array Bool) (a:Act) (w:World),(∀ j oj,ops[j]? = some oj->j≠i->listed.getD j true=false->(∀ e∈oj.after,Region.binds md e=true->e.on≠i)->oi.apart ops oj=true) ->
   i∈Region.ready md ops listed->YieldsIf P ops S oi v a->S w->AnyS m P md ops Q S k (listed.setIfInBounds i true) (a.put oi.dst v) w->AnyS m P md ops Q S (k+1) listed a w:=by
 intro k
 induction k with
 | zero =>
  intro listed a w _ hr hy hS H
  refine ⟨fun h=>absurd hr (by rw [h];simp),fun j hj=>?_⟩
  by_cases hji:j=i
  ·exact hji ▸ held_wpOpIn hi hy hS ⟨hS,H⟩
  ·have:=ready_mono hj hji
   rw [H.1] at this
   cases this
 | succ k ih =>
  intro listed a w hfree hr hy hS H
  refine ⟨fun h=>absurd hr (by rw [h];simp),fun j hj=>?_⟩
  by_cases hji:j=i
  ·exact hji ▸ held_wpOpIn hi hy hS ⟨hS,H⟩
  obtain ⟨hjun,oj,hoj,hall⟩:=mem_ready.1 hj
  have hnot:∀ e∈oj.after,Region.binds md e=true->e.on≠i:=by
   rintro e he hb rfl
   have h1:=hall e he hb
   have h0:=(mem_ready.1 hr).1
   by_cases hlt:e.on<listed.size
   ·simp [hlt] at h0 h1;rw [h0] at h1;cases h1
   ·simp [Array.getElem?_eq_none (Nat.le_of_not_lt hlt)] at h1
  refine wpOpIn_mono (fun a' w' h3=>⟨h3.2.1,ih (listed.setIfInBounds j true) a' w' (fun k ok hk hki hun hno=>hfree k ok hk hki ?_ hno) (ready_mono hr (Ne.symm hji)) h3.1 h3.2.1 ?_⟩)
   (held_put hoj (hfree j oj hoj hji hjun hnot) (fun cs b=>hsel i oi cs b hi) (fun cs b=>hsel j oj cs b hoj) hQ hy (H.2 j (ready_mono hj hji)))
  ·by_cases hjk:j=k
   ·exact hjk ▸ hjun
   ·rwa [getD_set_ne true hjk] at hun
  ·rw [Array.setIfInBounds_comm _ _ hji];exact h3.2.2
theorem AnyS.take {i:Nat} {oi:Oper} {v:Value} {k:Nat} {listed:Array Bool} {a:Act} {w:World} (hi:ops[i]? = some oi) (hs:Region.noSelect ops=true) (hf:Region.free md ops listed i=true) (hr:(Region.ready md ops listed).contains i=true)
  (hQ:∀ c a w,Q (.panic c) (a.put oi.dst v) w->Q (.panic c) a w) (hy:YieldsIf P ops S oi v a) (hS:S w) (h:AnyS m P md ops Q S k (listed.setIfInBounds i true) (a.put oi.dst v) w):AnyS m P md ops Q S (k+1) listed a w :=
 AnyS.first hi (Region.noSelect_spec hs) hQ k listed a w (Region.free_spec hi hf) (by simpa using hr) hy hS h
theorem AnyS.done {listed:Array Bool} {a:Act} {w:World} (hr:Region.ready md ops listed=[]) (h:Q .normal a w):∀ k,AnyS m P md ops Q S k listed a w
 | 0=>⟨hr,h⟩
 | _+1=>⟨fun _=>h,by rw [hr];simp⟩
theorem AnyS.yield {i:Nat} {o:Oper} {k:Nat} {listed:Array Bool} {a:Act} {w:World} (hr:Region.ready md ops listed=[i]) (hi:ops[i]? = some o) (hw:Region.wanted o (yielded ops a.tmps)=true)
  (x y:Operand) (ts:Array TypeId) (ho:o.op=.call { callee:=.value x,args:=#[y],argTypes:=ts }) {l:Nat} (hx:a.eval x=.func (.yield l) #[] #[]) {v:Value} (hy:a.eval y=v) {R:World->Prop}
  (hY:Go.Proofs.YtpngepnfinbaoaaGreat.Yields P l #[v] w fun e W'=>e=.returned (.bool true)/\R W') (h:∀ W',R W'->S W'/\AnyS m P md ops Q S k (listed.setIfInBounds i true) (a.put o.dst (.bool true)) W'):AnyS m P md ops Q S (k+1) listed a w:=by
 refine ⟨fun h0=>absurd (hr.symm.trans h0) (by simp),?_⟩
 intro j hj
 rw [hr] at hj
 obtain rfl:j=i:=by simpa using hj
 unfold wpOpIn
 rw [hi]
 simp only [hw,if_true]
 exact opIn_yield (r:=none) x y ts ho hx hy hY h
def onlyNormal (K:Act->World->Prop):Exit->Act->World->Prop
 | .normal,a,w=>K a w
 | _,_,_=>False
theorem wp_region_any_in {id:Nat} {a:Act} {w:World} (hm:P.follows .mixedOrders=true) (hS:S w.drew) (h:S w.drew->AnyS 0 P .any ops (onlyNormal (Q .normal)) S ops.size (Array.replicate ops.size false) a w.drew):(Code.region id ops true).wp P Q a w :=
 wp_mono ((wpIn_wide (n:=0)).1 (wpIn_region_any hm (AnyS.any _ _ _ _ (h hS)))) fun e _ _ hq=>by cases e<;>first | exact hq | exact hq.elim
end
end Go.Proofs.YtpngepnfinbaoaaGreat
