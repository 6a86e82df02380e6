/- Laws and walks that a claim of this seat leans on: Round, Each, HeldIn. -/
import Derived.Test.YtbliplladmamoaaGreatS03
import Derived.TacticsIn
import Derived.OrdersIn
import Derived.Test.YtbliplladmamoaaGreatSWant
import Derived.Deep.DeepCutAuto
import Derived.Deep.CutBlock
import Derived.Laws.EntriesVeiled
import Derived.Test.YtbliplladmamoaaGreatS00
set_option maxRecDepth 100000
set_option maxHeartbeats 8000000
set_option linter.all false
namespace Go.Proofs.YtbliplladmamoaaGreat
open Go.RowKit
/-! ### what holds of a plain walk holds of one in a round -/
abbrev FW (r:Option Nat):Fence:={ Fence.wide with round:=r }
def If:Op->Bool
 | .defer _=>true
 | _=>false
theorem Rp {r:Option Nat} {o:Oper} (hd:If o.op=false) (ρ:Operand->Value):Oper.semAt r ρ o=execOp ρ o :=
 Oper.semAt_eq r ρ o (fun c h=>by rw [h] at hd;cases hd)
theorem Acj {r:Option Nat} {m:Nat} {P:Program} {j:String} {args:Array Value} {w:World} {R:Value->World->Prop} (h:Go.Rows P j args w R):RowsIn (FW r) m P j args w R :=
 fun c cs _=>let ⟨v,w',hr,hs⟩:=h c cs;⟨v,w',hr,(stepsIn_wide (P:=P)).2 hs⟩
theorem Zq {r:Option Nat} {m:Nat} {P:Program} {f:FuncId} {args:Array Value} {w:World} {R:Ending->World->Prop} (h:Calls P f args w R):CallsIn (FW r) m P f args w R :=
 (callsIn_wide (n:=m)).2 h
theorem Nl {r:Option Nat} {m:Nat} {P:Program} {o:Oper} {a:Act} {w:World} {K:Act->World->Prop} {Q:Exit->Act->World->Prop} (hd:If o.op=false) (h:Oper.wp P o a w K Q):Oper.wpIn (FW r) m P o a w K Q:=by
 unfold Oper.wpIn
 refine ⟨fun _ _=>trivial,?_⟩
 rw [show (FW r).round=r from rfl,Rp hd]
 unfold Oper.wp at h
 generalize (execOp a.eval o).run P w=q at *
 cases q with
 | ok x w' =>
  cases x<;>simp only [Oper.upon,Oper.uponIn] at h ⊢ <;>
   first
    | exact h
    | exact ⟨fun h=>(by simp [Fence.wide] at h),Zq h⟩
    | exact ⟨fun h=>(by simp [Fence.wide] at h),Acj h⟩
    | exact h.elim
 | halt x w'=>cases x<;>simp only [Oper.upon,Oper.uponIn] at h ⊢<;>first | exact h | exact h.elim
theorem Hx {r:Option Nat} {m:Nat} {P:Program} {j:Array Oper} {Q:Exit->Act->World->Prop} (hQ:¬ LetsOut Q):∀ (l:List Oper) (a:Act) (w:World),(l.all fun o=>!If o.op)=true->wpList P j Q l a w->wpListIn (FW r) m P j Q l a w
 | [],_,_,_,h=>h
 | o::rest,a,w,hd,h=>by
  simp only [List.all_cons,Bool.and_eq_true,Bool.not_eq_true'] at hd
  unfold wpListIn
  unfold wpList at h
  split
  ·rename_i hw
   rw [if_pos hw] at h
   rcases h with h | h
   ·exact Oper.wpIn_mono (fun a w h=>Hx hQ rest a w hd.2 h) (Nl hd.1 h)
   ·exact absurd h.2 hQ
  ·rename_i hw
   rw [if_neg hw] at h
   exact ⟨fun _ _=>trivial,Hx hQ rest _ w hd.2 h⟩
theorem G7 {F:Fence} {m:Nat} {P:Program} {id:Nat} {j:Array Oper} {Q:Exit->Act->World->Prop} {a:Act} {w:World} (h:wpListIn F m P j Q j.toList a w):(Code.region id j false).wpIn F m P Q a w :=
 wpIn_region (by rw [List.range_eq_range',<-Array.length_toList,wpOpsIn_eq_wpListIn j.toList 0 (by simp)];exact h)
theorem Bu {r:Option Nat} {m:Nat} {P:Program} {id:Nat} {j:Array Oper} {Q:Exit->Act->World->Prop} {a:Act} {w:World} (hd:(j.toList.all fun o=>!If o.op)=true) (hQ:¬ LetsOut Q)
  (h:wpList P j Q j.toList a w):(Code.region id j false).wpIn (FW r) m P Q a w:=G7 (Hx hQ _ _ _ hd h)
theorem Ho {r:Option Nat} {m:Nat} {P:Program} {md:Region.Mode} {aa:Array Oper} {Q:Exit->Act->World->Prop} (hd:(aa.toList.all fun o=>!If o.op)=true) (hQ:¬ LetsOut Q):∀ (j:Nat) (u:Array Bool) (a:Act) (w:World),
  wpAny P md aa Q j u a w->wpAnyIn (FW r) m P md aa Q j u a w
 | 0,_,_,_,h=>h
 | j+1,u,a,w,h=>by
  refine ⟨h.1,fun i hi=>?_⟩
  have h2:=h.2 i hi
  unfold wpOp at h2
  unfold wpOpIn
  cases ho:aa[i]? with
  | none=>rw [ho] at h2;exact Ho hd hQ j _ a w h2
  | some o =>
   rw [ho] at h2
   simp only at h2 ⊢
   have ab:If o.op=false:=by
    have:=List.all_eq_true.1 hd o (Array.mem_toList_iff.2 (Array.mem_of_getElem? ho))
    simpa using this
   split
   ·rename_i hw
    rw [if_pos hw] at h2
    rcases h2 with h2 | h2
    ·exact Oper.wpIn_mono (fun a w h=>Ho hd hQ j _ a w h) (Nl ab h2)
    ·exact absurd h2.2 hQ
   ·rename_i hw
    rw [if_neg hw] at h2
    exact ⟨fun _ _=>trivial,Ho hd hQ j _ _ w h2⟩
theorem M3 {r:Option Nat} {m:Nat} {P:Program} {id:Nat} {j:Array Oper} {Q:Exit->Act->World->Prop} {S:World->Prop} {a:Act} {w:World} (hm:P.follows .mixedOrders=true) (hd:(j.toList.all fun o=>!If o.op)=true) (hQ:¬ LetsOut Q) (hS:S w.drew)
  (h:S w.drew->wpAnyH P .any j Q S j.size (Array.replicate j.size false) a w.drew):(Code.region id j true).wpIn (FW r) m P Q a w :=
 wpIn_region_any hm (Ho hd hQ _ _ _ _ (wpAny_of_held _ _ _ _ (h hS)))
theorem Dy {r:Option Nat} {m:Nat} {P:Program} {j:Array Oper} {Q:Exit->Act->World->Prop} {o:Oper} {rest:List Oper} {a:Act} {w:World} (hw:Region.wanted o (yielded j a.tmps)=true) (hd:If o.op=false)
  (h:∀ K:Act->World->Prop,(∀ a w,wpListIn (FW r) m P j Q rest a w->K a w)->Oper.wp P o a w K Q):wpListIn (FW r) m P j Q (o::rest) a w:=by
 unfold wpListIn
 rw [if_pos hw]
 exact Nl hd (h _ fun _ _ h=>h)
theorem Hn {r:Option Nat} {m:Nat} {P:Program} {aa:Array Oper} {Q:Exit->Act->World->Prop} {o:Oper} {rest:List Oper} {a:Act} {w:World} (hw:Region.wanted o (yielded aa a.tmps)=true)
  (x y:Operand) (ts:Array TypeId) (ho:o.op=.call { callee:=.value x,args:=#[y],argTypes:=ts }) {l:Nat} (hx:a.eval x=.func (.yield l) #[] #[]) {v:Value} (hy:a.eval y=v) {S:World->Prop}
  (hY:Yields P l #[v] w fun e W'=>e=.returned (.bool true)/\S W') (h:∀ W',S W'->wpListIn (FW r) m P aa Q rest (a.put o.dst (.bool true)) W'):wpListIn (FW r) m P aa Q (o::rest) a w:=by
 unfold wpListIn
 rw [if_pos hw]
 unfold Oper.wpIn
 refine ⟨fun _ _=>trivial,?_⟩
 rw [show (FW r).round=r from rfl,Rp (by rw [ho];rfl)]
 obtain ⟨fn,tmps,j,u,ab,hR⟩:=hY (m-1)
 have hex:(execOp a.eval o).run P w=.ok (.round l fn tmps j u) w:=by
  obtain ⟨dst,op,ty,pos,after,guard⟩:=o
  simp only at ho
  subst ho
  have h1:execOp a.eval { dst,op:=.call { callee:=.value x,args:=#[y],argTypes:=ts },type:=ty,pos,after,guard } = (Deferred.ofValue (a.eval x) (#[y].map a.eval) >>= fun d=>invoke d.target d.args):=rfl
  have h2:(Deferred.ofValue (.func (.yield l) #[] #[]) #[v] >>= fun d=>invoke d.target d.args)=Instr.yield l #[v]:=rfl
  rw [h1,hx]
  simp only [List.map_toArray,List.map_cons,List.map_nil,hy]
  rw [h2];exact ab
 rw [hex,Oper.uponIn_round]
 refine ⟨fun h=>by simp [Fence.wide] at h,?_⟩
 have ac:RoundIn (FW r) (m-1) P l fn tmps j u w _:=hR
 refine ac.mono ?_
 rintro e W' ⟨rfl,hS⟩
 exact h W' hS
theorem Oq {P:Program} {id:Nat} {j:Array Oper} {Q:Exit->Act->World->Prop} {a:Act} {w:World} (h:wpListIn (FW none) 0 P j Q j.toList a w):(Code.region id j false).wp P Q a w :=
 (wpIn_wide (n:=0)).1 (G7 h)
theorem Lx {P:Program} {o:Oper} {a:Act} {w:World} {K:Act->World->Prop} {Q:Exit->Act->World->Prop} (ty:TypeId) (x:Operand) (ho:o.op=.load ty x)
  {b off:Nat} (hx:a.eval x=.pointer (some ⟨b,off,none⟩)) {cs:List Value} {n:Nat} (hg:Has w b off cs) (hu:Agg P ty n) (hn:cs.length=n) (h:K (a.put o.dst (.agg cs.toArray)) w):Oper.wp P o a w K Q:=by
 subst hn
 unfold Oper.wp execOp
 simp only [ho,hx,Instr.loadAt,Instr.sureAddr,Sem.run_bind,Sem.run_pure,Result.andThen_ok,Dj w b off ty cs hg hu]
 exact h
/-! ### marks of loops that are over -/
def C2 (B:Nat) (ds:List Deferred) (W:World):Prop:=∃ Ds:List Nat,ds=Ds.map Gq/\Ds.Pairwise (·≠·)/\∀ D∈Ds,B<=D/\W.heap[D]? = some (.deferred (some []))
theorem C2.nil (B:Nat) (W:World):C2 B [] W:=⟨[],rfl,.nil,by simp⟩
theorem C2.keep {B:Nat} {ds:List Deferred} {W W':World} (h:C2 B ds W) (hk:∀ (D:Nat),Gq D∈ds->B<=D->W.heap[D]? = some (.deferred (some []))->W'.heap[D]? = some (.deferred (some []))):C2 B ds W':=by
 obtain ⟨Ds,rfl,h2,h3⟩:=h
 exact ⟨Ds,rfl,h2,fun D hD=>⟨(h3 D hD).1,hk D (List.mem_map_of_mem hD) (h3 D hD).1 (h3 D hD).2⟩⟩
theorem C2.cons {B D:Nat} {ds:List Deferred} {W:World} (h:C2 B ds W) {M:Nat} (u:∀ D',Gq D'∈ds->D'<M) (hD:M<=D) (hB:B<=D) (hw:W.heap[D]? = some (.deferred (some []))):C2 B (Gq D::ds) W:=by
 obtain ⟨Ds,rfl,h2,h3⟩:=h
 refine ⟨D::Ds,rfl,List.pairwise_cons.2 ⟨fun D' j=>?_,h2⟩,fun D' j=>?_⟩
 ·have:=u D' (List.mem_map_of_mem j);omega
 ·cases j with
  | head=>exact ⟨hB,hw⟩
  | tail _ h=>exact h3 D' h
theorem C2.lt {B D:Nat} {ds:List Deferred} {W:World} (h:C2 B ds W) (hD:Gq D∈ds):D<W.heap.size:=by
 obtain ⟨Ds,rfl,h2,h3⟩:=h
 obtain ⟨D',j,e⟩:=List.mem_map.1 hD
 have:D'=D:=by injection e with e1;injection e1
 subst this
 exact (Array.getElem?_eq_some_iff.1 (h3 D' j).2).1
theorem Bh {B:Nat} {W W':World} (h:Ext W W'):KeepsFrom B W W':=⟨h.size,fun k _ _ hk _=>(h.block k (Array.getElem?_eq_some_iff.1 hk).1).trans hk⟩
theorem Du {A B:World} {M Bk:Nat} {cs:Array Value} {T:TypeId} {j:Option Nat} (hb:Blk A Bk cs T) (hg:A.grownBy B j) (hr:∀ r,j=some r->M<=r/\∃ o:Obj,A.heap[r]? = some o/\o.isCells=false):Blk B Bk cs T :=
 (hg.block Bk hb.lt (by
  intro e
  obtain ⟨_,o,ho,u⟩:=hr _ e.symm
  unfold Blk at hb
  rw [hb] at ho;cases ho;cases u)).trans hb
theorem Fb {W A B:World} {M n0:Nat} {j:Option Nat} (h:Be n0 W A) (hn:n0<=M) (u:n0<=A.heap.size) (hg:A.grownBy B j) (hr:∀ r,j=some r->M<=r/\∃ o:Obj,A.heap[r]? = some o/\o.isCells=false):Be n0 W B :=
 h.trans (Be.of_gb hg u fun r e=>⟨Nat.le_trans hn (hr r e).1,fun c t f hc=>by
  obtain ⟨_,o,ho,aa⟩:=hr r e
  rw [ho] at hc;cases hc;cases aa⟩)
theorem Mp {A B:World} {M B0:Nat} {ds:List Deferred} {j:Option Nat} (h:C2 B0 ds A) (u:∀ D,Gq D∈ds->D<M) (hg:A.grownBy B j) (hr:∀ r,j=some r->M<=r/\∃ o:Obj,A.heap[r]? = some o/\o.isCells=false):C2 B0 ds B :=
 h.keep fun D hD _ hw=>(hg.block D (Array.getElem?_eq_some_iff.1 hw).1 (by intro e;have:=(hr D e.symm).1;have:=u D hD;omega)).trans hw
theorem Gt {A B:World} {j:Option Nat} {n:Nat} (h:n<A.heap.size) (hg:A.grownBy B j):n<B.heap.size:=Nat.lt_of_lt_of_le h hg.size
theorem C2.ext {B:Nat} {ds:List Deferred} {W W':World} (h:C2 B ds W) (hx:Ext W W'):C2 B ds W':=h.keep fun D _ _ hw=>(hx.block D (Array.getElem?_eq_some_iff.1 hw).1).trans hw
theorem C2.keeps {B:Nat} {ds:List Deferred} {W W':World} (h:C2 B ds W) (hk:KeepsFrom B W W'):C2 B ds W':=h.keep fun D _ hB hw=>hk.same D _ hB hw rfl
theorem Gp {P:Program} {fn:Func} {tmps:Array Value} {R:Ending->World->Prop} {B:Nat} (I:Unit->World->Prop) (hI:OwnFrom B I) (u:∀ W,I () W->LeavesInM Fence.wide 0 P fn tmps R [] .returning W) :
  ∀ (ds:List Deferred) (W:World),C2 B ds W->I () W->LeavesInM Fence.wide 0 P fn tmps R ds .returning W:=by
 intro ds W ⟨Ds,h1,h2,h3⟩
 subst h1
 induction Ds generalizing W with
 | nil=>intro hi;exact u W hi
 | cons D Ds ih =>
  intro hi
  obtain ⟨hB,hD⟩:=h3 D (by simp)
  refine ⟨by simp,.inl ⟨D,_,rfl,run_takeDeferred hD,?_⟩⟩
  rw [List.pairwise_cons] at h2
  refine ih _ h2.2 (fun D' j=>⟨(h3 D' (by simp [j])).1,?_⟩) (hI.putObj _ hi hB hD rfl)
  exact (World.putObj_heap_other (Ne.symm (h2.1 D' j))).trans (h3 D' (by simp [j])).2
/-! ### statements, and those that stand in them -/
def Cd:T->List T
 | ⟨op,sig,hi,lo,e,l⟩=>⟨op,sig,hi,lo,e,l⟩::eachTs l
where eachTs:List T->List T
 | []=>[]
 | t::l=>Cd t++eachTs l
theorem Q8 (t:T):Cd t=t::Cd.eachTs t.l:=by cases t;rw [Cd]
theorem O5 (l:List T):Cd.eachTs l=(l.map Cd).flatten:=by
 induction l with
 | nil=>rfl
 | cons x l ih=>simp [Cd.eachTs,ih]
theorem Nj (s:Value) (hs:s.oneCell'=true) (w:World) :
  Calls Tryz.prog 27 #[s] w fun r w'=>r=.returned (.func (.func 44) #[] #[.pointer (some ⟨w.heap.size,0,none⟩)])/\w'=w.alloc (.cells #[s] 42):=by
 go_enter Tryz.func27,Tryz.ntmps27
 go_wp2_with fail
 go_ret
 exact ⟨rfl,rfl⟩
theorem Ls:Bj Tryz.prog 44:=A9 Tryz.func44 (by kernel_rfl) rfl
def D5 (wb:World):List T->List (List Value)->Prop
 | [],[]=>True
 | t::ts,x::xs=>VT wb x t/\D5 wb ts xs
 | _,_=>False
theorem D5.append {wb:World} {ts j:List T} {xs u:List (List Value)} (h:D5 wb ts xs) (h':D5 wb j u):D5 wb (ts++j) (xs++u):=by
 induction ts generalizing xs with
 | nil=>cases xs with
  | nil=>exact h'
  | cons _ _=>exact h.elim
 | cons t ts ih=>cases xs with
  | nil=>exact h.elim
  | cons x xs=>exact ⟨h.1,ih h.2⟩
theorem D5.mem {wb:World} {ts:List T} {xs:List (List Value)} (h:D5 wb ts xs) {x:List Value} (hx:x∈xs):∃ t∈ts,VT wb x t:=by
 induction ts generalizing xs with
 | nil=>cases xs with
  | nil=>cases hx
  | cons _ _=>exact h.elim
 | cons t ts ih=>cases xs with
  | nil=>exact h.elim
  | cons y xs =>
   cases hx with
   | head=>exact ⟨t,by simp,h.1⟩
   | tail _ hx=>obtain ⟨t',h1,h2⟩:=ih h.2 hx;exact ⟨t',by simp [h1],h2⟩
def Ut (L:List T):Prop:=∀ (wb:World) (s:Value),Ts wb s L->∃ xs,D5 wb (Cd.eachTs L) xs /\
 ∀ (n0:Nat) (w:World) (B:Nat),wb.heap.size<=n0->Ext wb w->Blk w B #[s] 42->n0<=w.heap.size->Seq Tryz.prog n0 44 #[.pointer (some ⟨B,0,none⟩)] xs w
theorem Q7 (L:List T) (ih:∀ t∈L,Ut t.l):Ut L:=by
 intro wb s hs
 obtain ⟨a0,b,o,cap,c2,c9,da,ha,hr⟩:=hs.open
 subst c2
 have hex:∀ k,∃ p:List Value × List (List Value),(hk:k<L.length)->(∃ s1 s2,p.1=L[k].cells s1 s2/\Has wb b (o+k*6) p.1/\VT wb p.1 L[k]/\D5 wb (Cd.eachTs L[k].l) p.2/\s2.oneCell'=true /\
   ∀ (n0:Nat) (w:World) (B:Nat),wb.heap.size<=n0->Ext wb w->Blk w B #[s2] 42->n0<=w.heap.size->Seq Tryz.prog n0 44 #[.pointer (some ⟨B,0,none⟩)] p.2 w):=by
  intro k
  by_cases hk:k<L.length
  ·obtain ⟨s1,s2,h1,h2,h3⟩:=Ts.get hr hk
   obtain ⟨xs,c5,c6⟩:=ih _ (List.getElem_mem hk) wb s2 h3
   exact ⟨(_,xs),fun _=>⟨s1,s2,rfl,h1,⟨s1,s2,rfl,h2,h3⟩,c5,h3.one,c6⟩⟩
  ·exact ⟨([],[]),fun h=>absurd h hk⟩
 obtain ⟨f,hf⟩:∃ f:Nat->List Value × List (List Value),∀ k (hk:k<L.length),∃ s1 s2,(f k).1=L[k].cells s1 s2/\Has wb b (o+k*6) (f k).1/\VT wb (f k).1 L[k]/\D5 wb (Cd.eachTs L[k].l) (f k).2/\s2.oneCell'=true /\
   ∀ (n0:Nat) (w:World) (B:Nat),wb.heap.size<=n0->Ext wb w->Blk w B #[s2] 42->n0<=w.heap.size->Seq Tryz.prog n0 44 #[.pointer (some ⟨B,0,none⟩)] (f k).2 w :=
  ⟨fun k=>Classical.choose (hex k),fun k hk=>Classical.choose_spec (hex k) hk⟩
 clear hex ih
 obtain ⟨u,aj,ac⟩:∃ u:Nat->List (List Value),u 0=[]/\∀ k,u (k+1)=u k++((f k).1::(f k).2) :=
  ⟨fun k=>((List.range k).map fun j=>(f j).1::(f j).2).flatten,rfl,fun k=>by simp [List.range_succ]⟩
 have bz:∀ k,k<=L.length->D5 wb (((L.take k).map Cd).flatten) (u k):=by
  intro k
  induction k with
  | zero=>intro _;rw [aj];trivial
  | succ k ih =>
   intro hk
   rw [Ba L k hk,List.map_append,List.flatten_append,ac]
   obtain ⟨s1,s2,-,-,h3,h4,-⟩:=hf k hk
   refine (ih (by omega)).append ?_
   simp only [List.map_cons,List.map_nil,List.flatten_cons,List.flatten_nil,List.append_nil]
   rw [Q8]
   exact ⟨h3,h4⟩
 refine ⟨u L.length,by rw [O5];have:=bz _ (Nat.le_refl _);rwa [List.take_length] at this,?_⟩
 have ai:∀ k,k<=L.length->∃ aa,u L.length=u k++aa:=by
  have hm:∀ m k,k+m=L.length->∃ aa,u L.length=u k++aa:=by
   intro m
   induction m with
   | zero=>intro k hk;exact ⟨[],by rw [<-hk];simp⟩
   | succ m ih =>
    intro k hk
    obtain ⟨aa,hp⟩:=ih (k+1) (by omega)
    exact ⟨_,by rw [hp,ac,List.append_assoc]⟩
  exact fun k hk=>hm (L.length-k) k (by omega)
 intro n0 w B ao c7 hB dc l J W bj b1 db hJ hY cq
 have HF:=Jh hf
 have cj:=Jh ac
 have ci:=Jh ai
 have HY:=Jh hY
 have HJ:=Jh hJ
 have HA:=Jh ha
 have bf:=Jh (bj.ext c7 ao)
 have cp:=bj.blk hB (by decide)
 clear hf ac ai hY hJ bz ha hr hs
 have hX:=Ab W (.cells #[.func (.yield l) #[] #[]] 87)
 have cx:=Blk.new W #[.func (.yield l) #[] #[]] 87
 have cd:=Jh cx
 have cc:=Jh (cp.ext hX)
 have bm:=HJ.out.alloc (.cells #[.func (.yield l) #[] #[]] 87) cq
 have g0:=cc.out.cell 0
 simp only [List.getElem?_toArray,List.getElem?_cons_zero] at g0
 refine callsIn_wide.1 (callsIn_of_wp_marks (n:=0) Tryz.func44 rfl trivial ?_);rw [wpIn_wide];simp only [Tryz.ntmps44,List.size_toArray,List.length_cons,List.length_nil,Nat.reduceAdd,Nat.reduceSub,Array.replicate_succ,Array.replicate_zero,List.push_toArray,List.append_toArray,List.nil_append,List.cons_append]
 go_wp2_with fail
 have de:(W.alloc (.cells #[.func (.yield l) #[] #[]] 87)).heap.size=W.heap.size+1:=by simp
 have bk:=Be.of_ext hX b1
 generalize W.alloc _=wY at *
 refine wp_loop (fun a wr=>∃ (k:Nat) (u3 u4 u5 u9 b2 b3 b4 b5 b6 b7 b8 b9 ca cb a5 a6 a7 a8 a9:Value) (ds:List Deferred),a=⟨#[.func (.yield l) #[] #[],.pointer (some ⟨B,0,none⟩),.pointer (some ⟨W.heap.size,0,none⟩),u3,u4,u5,.slice a0 L.length cap,.int .i64 L.length,.int .i64 k,u9,b2,b3,b4,b5,b6,b7,b8,b9,ca,cb,a5,a6,a7,a8,a9],ds⟩ /\
  k<=L.length/\J (u k) wr/\Be n0 W wr/\C2 W.heap.size ds wr/\Blk wr W.heap.size #[.func (.yield l) #[] #[]] 87/\W.heap.size<wr.heap.size) (fun a _=>L.length-(intOf (a.tmps.getD 8 undef)).toNat)
  ⟨0,_,_,_,_,_,_,_,_,_,_,_,_,_,_,_,_,_,_,_,[],rfl,Nat.zero_le _,by rw [aj];exact bm,bk,C2.nil _ _,cd.out,by omega⟩ ?_
 rintro a wr ⟨k,u3,u4,u5,u9,b2,b3,b4,b5,b6,b7,b8,b9,ca,cb,a5,a6,a7,a8,a9,ds,rfl,hk,bp,bl,bs,bu,c1⟩
 have ba:=Jh bp
 have ax:=Jh bl
 have bb:=Jh bs
 have co:=Jh bu
 clear bp bl bs bu bm bk
 have cn:=Jh (ax.out.ext bf.out ao)
 by_cases bh:k<L.length
 ·obtain ⟨s1,s2,bx,ag,ah,ar,au,aw⟩:=HF.out k bh
  obtain rfl:=HA.out (by omega)
  obtain ⟨aa,ap⟩:=ci.out (k+1) bh
  have az:=cj.out k
  rw [bx] at ag az ah
  generalize L[k]=tk at *
  generalize (f k).2=xk at *
  clear bx
  have af:=Jh az
  have aq:=Jh ap
  have be:=Jh aw
  have cl:=Jh ah
  have ce:=Jh ar
  have bc:=Jh au
  have cf:=Jh (ag.ext cn.out)
  clear az ap aw ah ar ag au
  have a1:=Ab wr (.cells (tk.cells s1 s2).toArray 44)
  have bv:=Blk.new wr (tk.cells s1 s2).toArray 44
  have ct:=HJ.out.alloc (.cells (tk.cells s1 s2).toArray 44) ba.out
  have dd:(wr.alloc (.cells (tk.cells s1 s2).toArray 44)).heap.size=wr.heap.size+1:=by simp
  go_upto_region 4 with (first | ((with_reducible show Jl 44);refine Aa rfl 44 _ rfl rfl (cf.out) Aw rfl ?_) | ((with_reducible show Js 44);refine Ad rfl 44 _ _ rfl rfl (by first | rfl | simp) rfl Aw (rfl) rfl (cl.out.one) ?_))
  generalize wr.alloc _=w4 at *
  have bt:=co.out.ext a1
  refine Oq ?_
  refine Dy rfl rfl fun K hK=>?_
  have y0:w4.cell? ⟨W.heap.size,0,none⟩=some (.func (.yield l) #[] #[]):=by rw [bt.cell];rfl
  go_simp
  refine hK _ _ ?_
  clear hK y0
  refine Dy rfl rfl fun K hK=>?_
  refine Lx 44 _ rfl rfl bv.has Aw rfl ?_
  refine hK _ _ ?_
  clear hK
  refine Hn rfl _ _ _ rfl rfl rfl (HY.out (u k) (tk.cells s1 s2) w4 ct ⟨xk++aa,by rw [aq.out,af.out];simp⟩ (by omega)) ?_
  rintro w5 ⟨bo,an,cv⟩
  refine Dy rfl rfl fun K hK=>?_
  go_simp
  refine hK _ _ ?_
  clear hK
  unfold wpListIn
  have ay:=an.blk bv (by decide)
  have g5:=ay.cell 5
  simp only [List.getElem?_toArray,List.getElem?_cons_zero,List.getElem?_cons_succ] at g5
  have c8:=Jh ay
  have cg:=Jh bo
  clear ay bo
  go_wp2_with (first | (go_at_call 27;refine (Nj s2 bc.out _).mono ?_;rintro r w6 ⟨rfl,rfl⟩))
  have a2:=Ab w5 (.cells #[s2] 42)
  have bw:=Blk.new w5 #[s2] 42
  have cu:=HJ.out.alloc (.cells #[s2] 42) cg.out
  have ch:=an.below.size
  have c0:(w5.alloc (.cells #[s2] 42)).heap.size=w5.heap.size+1:=by simp
  have br:=((bb.out.ext a1).keeps cv).ext a2
  have cw:=(an.blk bt (by decide)).ext a2
  have bi:=((ax.out.trans (Be.of_ext a1 (by omega))).trans an).trans (Be.of_ext a2 (by omega))
  obtain ⟨B6,bg⟩:∃ x,w5.heap.size=x:=⟨_,rfl⟩
  rw [bg] at bw c0 ch ⊢
  clear bg
  generalize w5.alloc _=w6 at *
  have b0:∀ D,Gq D∈ds->D<w6.heap.size:=fun D hD=>br.lt hD
  have ae:=Jh b0
  have cm:=Jh (bi.ext bf.out ao)
  refine Mc (n0:=n0) rfl Ls (be.out n0 w6 B6 ao cm.out bw (by omega)) rfl (by omega)
   (fun ab Wx=>J (u k++tk.cells s1 s2::ab) Wx/\Be n0 W Wx/\C2 W.heap.size ds Wx/\Blk Wx W.heap.size #[.func (.yield l) #[] #[]] 87/\W.heap.size<Wx.heap.size)
   (fun s A B al hs hg hr=>⟨HJ.out _ A B al hs.1 hg (fun r e=>⟨by have:=(hr r e).1;omega,(hr r e).2⟩),Fb hs.2.1 (by omega) (by have:=hs.2.2.2.2;omega) hg hr,Mp hs.2.2.1 ae.out hg hr,Du hs.2.2.2.1 hg hr,Gt hs.2.2.2.2 hg⟩)
   ⟨cu,bi,br,cw,by omega⟩
   (fun ab x a' Wx=>(J (u k++tk.cells s1 s2::ab) Wx/\Be n0 W Wx/\C2 W.heap.size ds Wx/\Blk Wx W.heap.size #[.func (.yield l) #[] #[]] 87/\W.heap.size<Wx.heap.size) /\
    ∃ (U:Nat) (t':T) (v1 v2:Value),x=t'.cells v1 v2/\Blk Wx U x.toArray 44/\a'=⟨#[.func (.yield l) #[] #[],.pointer (some ⟨B,0,none⟩),.pointer (some ⟨W.heap.size,0,none⟩),u3,.pointer (some ⟨wr.heap.size,0,none⟩),.pointer (some ⟨U,0,none⟩),.slice (some ⟨b,o,none⟩) L.length cap,.int .i64 L.length,.int .i64 k,.bool true,.pointer (some ⟨b,o+k*6,none⟩),.agg (tk.cells s1 s2).toArray,.func (.yield l) #[] #[],.agg (tk.cells s1 s2).toArray,.bool true,.bool false,.pointer (some ⟨wr.heap.size,5,none⟩),s2,.func (.func 44) #[] #[.pointer (some ⟨B6,0,none⟩)],.agg x.toArray,a5,a6,a7,a8,a9],[]⟩)
   (fun ab x a' s A B al hs hg hr=>⟨⟨HJ.out _ A B al hs.1.1 hg (fun r e=>⟨by have:=(hr r e).1;omega,(hr r e).2⟩),Fb hs.1.2.1 (by omega) (by have:=hs.1.2.2.2.2;omega) hg hr,Mp hs.1.2.2.1 ae.out hg hr,Du hs.1.2.2.2.1 hg hr,Gt hs.1.2.2.2.2 hg⟩,by
    obtain ⟨U,t',v1,v2,h1,h2,h3⟩:=hs.2
    exact ⟨U,t',v1,v2,h1,Du h2 hg hr,h3⟩⟩) ?assign ?body ?done
  case assign =>
   rintro l' m ab x Wx ⟨q1,q2,q3,q4,q5⟩ ⟨a4,a3⟩ hsz
   obtain ⟨t',-,v1,v2,rfl,c3,c4⟩:=ce.out.mem (show x∈xk by rw [a3];simp)
   refine Bu (r:=some l') (by kernel_rfl) (by rintro ⟨_,_,h⟩;exact h) ?_
   have ak:=Ab Wx (.cells (t'.cells v1 v2).toArray 44)
   have cy:=Blk.new Wx (t'.cells v1 v2).toArray 44
   go_wp2_with (first | ((with_reducible show Js 44);refine Ad rfl 44 _ _ rfl rfl (by first | rfl | simp) rfl Aw (rfl) rfl (by simp [c3.one,c4.one,Bc]) ?_))
   exact ⟨Bh ak,Be.of_ext ak (by omega),⟨HJ.out.alloc _ q1,q2.trans (Be.of_ext ak (by omega)),q3.ext ak,q4.ext ak,by simp;omega⟩,Wx.heap.size,t',v1,v2,rfl,cy,rfl⟩
  case body =>
   rintro l' m ab x a' Wx ⟨⟨q1,q2,q3,q4,q5⟩,U,t',v1,v2,rfl,hU,rfl⟩ ⟨a4,a3⟩ hsz
   obtain ⟨aa,ap⟩:∃ aa,u L.length=(u k++tk.cells s1 s2::ab)++t'.cells v1 v2::aa:=⟨_,by rw [aq.out,af.out,a3];simp;rfl⟩
   refine wpIn_block ?_
   refine wpIn_seq ?_
   refine G7 (F:=FW (some l')) ?_
   refine Dy rfl rfl fun K hK=>?_
   have y0:Wx.cell? ⟨W.heap.size,0,none⟩=some (.func (.yield l) #[] #[]):=by rw [q4.cell];rfl
   go_simp
   refine hK _ _ ?_
   clear hK y0
   refine Dy rfl rfl fun K hK=>?_
   refine Lx 44 _ rfl rfl hU.has Aw rfl ?_
   refine hK _ _ ?_
   clear hK
   refine Hn rfl _ _ _ rfl rfl rfl (HY.out _ (t'.cells v1 v2) Wx q1 ⟨aa,ap⟩ (by omega)) ?_
   rintro W3 ⟨cr,am,bq⟩
   refine Dy rfl rfl fun K hK=>?_
   go_simp
   refine hK _ _ ?_
   clear hK
   unfold wpListIn
   have av:KeepsFrom w6.heap.size Wx W3/\Be n0 Wx W3/\(J (u k++tk.cells s1 s2::(ab++[t'.cells v1 v2])) W3/\Be n0 W W3/\C2 W.heap.size ds W3/\Blk W3 W.heap.size #[.func (.yield l) #[] #[]] 87/\W.heap.size<W3.heap.size) :=
    ⟨Fy bq (by omega),am,by simpa using cr,q2.trans am,q3.keeps bq,am.blk q4 (by decide),by have:=am.below.size;omega⟩
   have bd:=Jh av
   clear av
   show Code.wpIn _ _ _ _ _ _ _
   refine wpIn_cond_false rfl ?_
   refine wpIn_skip ?_
   exact bd.out
  case done =>
   rintro D Wx hD ⟨q1,q2,q3,q4,q5⟩ hh hdef
   go_wp2_with fail
   have cz:J (u (k+1)) Wx:=by rw [af.out];exact q1
   exact ⟨⟨k+1,u3,_,u5,_,_,_,_,_,_,_,_,_,_,_,_,_,_,_,_,Gq D::ds,rfl,by omega,cz,q2,q3.cons ae.out hD (by omega) hdef,q4,q5⟩,by simp [intOf];omega⟩
 ·obtain rfl:k=L.length:=by omega
  go_wp2_with fail
  refine Gp (B:=W.heap.size) (fun _ Wx=>J (u L.length) Wx/\Be n0 W Wx/\W.heap.size<Wx.heap.size) (fun s A B al hs hg hr=>⟨HJ.out _ A B al hs.1 hg hr,Fb hs.2.1 b1 (by have:=hs.2.2;omega) hg hr,Gt hs.2.2 hg⟩) ?_ ds wr bb.out ⟨ba.out,ax.out,c1⟩
  rintro Wx ⟨q1,q2,q3⟩
  exact ⟨.tuple #[],by simp [results,Tryz.results44,go_sem],⟨_,rfl⟩,q1,q2⟩
theorem S9 (L:List T):Ut L:=Q7 L fun t _=>T.ind (P:=fun t=>Ut t.l) (fun t ih=>Q7 t.l ih) t
/-! ### a region that draws its order and calls yield: loads that hold in every world of the walk are taken first -/
section
variable {m:Nat} {P:Program} {ops:Array Oper} {Q:Exit->Act->World->Prop} {md:Region.Mode} {S:World->Prop}
theorem Pp {i:Nat} {o:Oper} {v:Value} {a:Act} (hi:ops[i]? = some o) (hy:YieldsIf P ops S o v a) {K:Act->World->Prop} {w:World} (hS:S w) (h:K (a.put o.dst v) w) :
  wpOpIn Fence.wide m P ops Q i K a w:=by
 unfold Go.wpOpIn
 rw [hi]
 rcases hy with ⟨hw,hv⟩ | ⟨hw,rfl⟩
 ·simp only [hw,if_true,Oper.wpIn,show Fence.wide.round=none from rfl,Oper.semAt_none,hv w hS,Oper.uponIn]
  exact ⟨fun _ _=>trivial,h⟩
 ·simp only [hw,Bool.false_eq_true,if_false]
  exact ⟨fun _ _=>trivial,h⟩
theorem Ad5 {j:Nat} {oi oj:Oper} {v:Value} (hj:ops[j]? = some oj) (ae:oi.apart ops oj=true) (af:∀ cs b,oi.op≠.select cs b) (ag:∀ cs b,oj.op≠.select cs b)
  (hQ:∀ c a w,Q (.panic c) (a.put oi.dst v) w->Q (.panic c) a w) {K:Act->World->Prop} {a:Act} {w:World} (hy:YieldsIf P ops S oi v a) (h:wpOpIn Fence.wide m P ops Q j K (a.put oi.dst v) w) :
  wpOpIn Fence.wide m P ops Q j (fun a' w'=>YieldsIf P ops S oi v a'/\K (a'.put oi.dst v) w') a w:=by
 obtain ⟨h1,h2,h3⟩:=Oper.apart_spec ae
 have ab:∀ (b:Act),YieldsIf P ops S oi v b->∀ u,YieldsIf P ops S oi v (b.put oj.dst u):=fun b hy u=>hy.of_same (execOp_put oi af b oj.dst u h3) (wanted_put oi b oj.dst u h3)
 have aa:∀ u (b:Act) W,K ((b.put oi.dst v).put oj.dst u) W->K ((b.put oj.dst u).put oi.dst v) W:=fun u b W hk=>by rw [<-Act.put_comm b v u h2];exact hk
 unfold wpOpIn at h ⊢
 rw [hj] at h ⊢
 simp only [wanted_put oj a oi.dst v h1] at h ⊢
 by_cases hw:Region.wanted oj (yielded ops a.tmps)=true
 ·rw [if_pos hw] at h ⊢
  unfold Oper.wpIn at h ⊢
  rw [show Fence.wide.round=none from rfl,Oper.semAt_none] at h ⊢
  rw [execOp_put oj ag a oi.dst v h1] at h
  refine ⟨fun _ _=>trivial,?_⟩
  have h:=h.2
  generalize (execOp a.eval oj).run P w=r at h ⊢
  cases r with
  | halt x w'=>cases x<;>simp only [Oper.uponIn] at h ⊢<;>exact hQ _ _ _ h
  | ok x w' =>
   cases x<;>simp only [Oper.uponIn] at h ⊢
   case value u=>exact ⟨ab a hy u,aa _ _ _ h⟩
   case skip=>exact ⟨ab a hy _,aa _ _ _ h⟩
   case defer d=>exact ⟨ab { a with defers:=d::a.defers } (hy.of_same rfl rfl) _,aa _ { a with defers:=d::a.defers } _ (by rw [<-Act.put_defers];exact h)⟩
   case row row args=>exact ⟨h.1,RowsIn.mono h.2 fun u ac he=>⟨ab a hy u,aa _ _ _ he⟩⟩
   case enter f args =>
    refine ⟨h.1,CallsIn.mono h.2 fun e ac he=>?_⟩
    cases e with
    | returned u=>exact ⟨ab a hy u,aa _ _ _ he⟩
    | panicked c=>exact hQ _ _ _ he
    | outgrown=>exact he
   case round l f tmps assign body =>
    refine ⟨h.1,RoundIn.mono h.2 fun e ac he=>?_⟩
    cases e with
    | returned u=>exact ⟨ab a hy u,aa _ _ _ he⟩
    | panicked c=>exact hQ _ _ _ he
    | outgrown=>exact he
 ·rw [if_neg hw] at h ⊢
  exact ⟨fun _ _=>trivial,ab a hy _,aa _ _ _ h.2⟩
theorem Aai {r:Option Nat} {o:Oper} {K:Act->World->Prop} {a:Act} {w:World} (x y:Operand) (ts:Array TypeId) (ho:o.op=.call { callee:=.value x,args:=#[y],argTypes:=ts }) {l:Nat}
  (hx:a.eval x=.func (.yield l) #[] #[]) {v:Value} (hy:a.eval y=v) {R:World->Prop} (hY:Go.Proofs.YtbliplladmamoaaGreat.Yields P l #[v] w fun e W'=>e=.returned (.bool true)/\R W') (h:∀ W',R W'->K (a.put o.dst (.bool true)) W'):Oper.wpIn (FW r) m P o a w K Q:=by
 unfold Oper.wpIn
 refine ⟨fun _ _=>trivial,?_⟩
 rw [show (FW r).round=r from rfl,Rp (by rw [ho];rfl)]
 obtain ⟨fn,tmps,j,u,aa,hR⟩:=hY (m-1)
 have hex:(execOp a.eval o).run P w=.ok (.round l fn tmps j u) w:=by
  obtain ⟨dst,op,ty,pos,after,guard⟩:=o
  simp only at ho
  subst ho
  have h1:execOp a.eval { dst,op:=.call { callee:=.value x,args:=#[y],argTypes:=ts },type:=ty,pos,after,guard } = (Deferred.ofValue (a.eval x) (#[y].map a.eval) >>= fun d=>invoke d.target d.args):=rfl
  have h2:(Deferred.ofValue (.func (.yield l) #[] #[]) #[v] >>= fun d=>invoke d.target d.args)=Instr.yield l #[v]:=rfl
  rw [h1,hx]
  simp only [List.map_toArray,List.map_cons,List.map_nil,hy]
  rw [h2];exact aa
 rw [hex,Oper.uponIn_round]
 refine ⟨fun h=>by simp [Fence.wide] at h,?_⟩
 have ab:RoundIn (FW r) (m-1) P l fn tmps j u w _:=hR
 refine ab.mono ?_
 rintro e W' ⟨rfl,hS⟩
 exact h W' hS
def Cx (m:Nat) (P:Program) (md:Region.Mode) (ops:Array Oper) (Q:Exit->Act->World->Prop) (S:World->Prop):Nat->Array Bool->Act->World->Prop
 | 0,listed,a,w=>Region.ready md ops listed=[]/\Q .normal a w
 | k+1,listed,a,w=>(Region.ready md ops listed=[]->Q .normal a w)/\∀ i∈Region.ready md ops listed,wpOpIn Fence.wide m P ops Q i (fun a' w'=>S w'/\Cx m P md ops Q S k (listed.setIfInBounds i true) a' w') a w
theorem Cx.any:∀ (k:Nat) (j:Array Bool) (a:Act) (w:World),Cx m P md ops Q S k j a w->wpAnyIn Fence.wide m P md ops Q k j a w
 | 0,_,_,_,h=>h
 | k+1,_,_,_,h=>⟨h.1,fun i hi=>wpOpIn_mono (fun a' w' h'=>Cx.any k _ a' w' h'.2) (h.2 i hi)⟩
theorem Cx.first {i:Nat} {oi:Oper} {v:Value} (hi:ops[i]? = some oi) (ae:∀ (j:Nat) (o:Oper) cs b,ops[j]? = some o->o.op≠.select cs b) (hQ:∀ c a w,Q (.panic c) (a.put oi.dst v) w->Q (.panic c) a w) :
  ∀ (k:Nat) (u:Array Bool) (a:Act) (w:World),(∀ j oj,ops[j]? = some oj->j≠i->u.getD j true=false->(∀ e∈oj.after,Region.binds md e=true->e.on≠i)->oi.apart ops oj=true) ->
   i∈Region.ready md ops u->YieldsIf P ops S oi v a->S w->Cx m P md ops Q S k (u.setIfInBounds i true) (a.put oi.dst v) w->Cx m P md ops Q S (k+1) u a w:=by
 intro k
 induction k with
 | zero =>
  intro u a w _ hr hy hS H
  refine ⟨fun h=>absurd hr (by rw [h];simp),fun j hj=>?_⟩
  by_cases aa:j=i
  ·exact aa ▸ Pp hi hy hS ⟨hS,H⟩
  ·have:=ready_mono hj aa
   rw [H.1] at this
   cases this
 | succ k ih =>
  intro u a w ab hr hy hS H
  refine ⟨fun h=>absurd hr (by rw [h];simp),fun j hj=>?_⟩
  by_cases aa:j=i
  ·exact aa ▸ Pp hi hy hS ⟨hS,H⟩
  obtain ⟨ac,oj,af,ag⟩:=mem_ready.1 hj
  have ak:∀ e∈oj.after,Region.binds md e=true->e.on≠i:=by
   rintro e he hb rfl
   have h1:=ag e he hb
   have h0:=(mem_ready.1 hr).1
   by_cases aj:e.on<u.size
   ·simp [aj] at h0 h1;rw [h0] at h1;cases h1
   ·simp [Array.getElem?_eq_none (Nat.le_of_not_lt aj)] at h1
  refine wpOpIn_mono (fun a' w' h3=>⟨h3.2.1,ih (u.setIfInBounds j true) a' w' (fun k ok hk al an am=>ab k ok hk al ?_ am) (ready_mono hr (Ne.symm aa)) h3.1 h3.2.1 ?_⟩)
   (Ad5 af (ab j oj af aa ac ak) (fun cs b=>ae i oi cs b hi) (fun cs b=>ae j oj cs b af) hQ hy (H.2 j (ready_mono hj aa)))
  ·by_cases ai:j=k
   ·exact ai ▸ ac
   ·rwa [getD_set_ne true ai] at an
  ·rw [Array.setIfInBounds_comm _ _ aa];exact h3.2.2
theorem Cx.take {i:Nat} {oi:Oper} {v:Value} {k:Nat} {j:Array Bool} {a:Act} {w:World} (hi:ops[i]? = some oi) (hs:Region.noSelect ops=true) (hf:Region.free md ops j i=true) (hr:(Region.ready md ops j).contains i=true)
  (hQ:∀ c a w,Q (.panic c) (a.put oi.dst v) w->Q (.panic c) a w) (hy:YieldsIf P ops S oi v a) (hS:S w) (h:Cx m P md ops Q S k (j.setIfInBounds i true) (a.put oi.dst v) w):Cx m P md ops Q S (k+1) j a w :=
 Cx.first hi (Region.noSelect_spec hs) hQ k j a w (Region.free_spec hi hf) (by simpa using hr) hy hS h
theorem Cx.done {j:Array Bool} {a:Act} {w:World} (hr:Region.ready md ops j=[]) (h:Q .normal a w):∀ k,Cx m P md ops Q S k j a w
 | 0=>⟨hr,h⟩
 | _+1=>⟨fun _=>h,by rw [hr];simp⟩
theorem Cx.yield {i:Nat} {o:Oper} {k:Nat} {u:Array Bool} {a:Act} {w:World} (hr:Region.ready md ops u=[i]) (hi:ops[i]? = some o) (hw:Region.wanted o (yielded ops a.tmps)=true)
  (x y:Operand) (ts:Array TypeId) (ho:o.op=.call { callee:=.value x,args:=#[y],argTypes:=ts }) {l:Nat} (hx:a.eval x=.func (.yield l) #[] #[]) {v:Value} (hy:a.eval y=v) {R:World->Prop}
  (hY:Go.Proofs.YtbliplladmamoaaGreat.Yields P l #[v] w fun e W'=>e=.returned (.bool true)/\R W') (h:∀ W',R W'->S W'/\Cx m P md ops Q S k (u.setIfInBounds i true) (a.put o.dst (.bool true)) W'):Cx m P md ops Q S (k+1) u a w:=by
 refine ⟨fun h0=>absurd (hr.symm.trans h0) (by simp),?_⟩
 intro j hj
 rw [hr] at hj
 obtain rfl:j=i:=by simpa using hj
 unfold wpOpIn
 rw [hi]
 simp only [hw,if_true]
 exact Aai (r:=none) x y ts ho hx hy hY h
def Aah (K:Act->World->Prop):Exit->Act->World->Prop
 | .normal,a,w=>K a w
 | _,_,_=>False
theorem Pf {id:Nat} {a:Act} {w:World} (hm:P.follows .mixedOrders=true) (hS:S w.drew) (h:S w.drew->Cx 0 P .any ops (Aah (Q .normal)) S ops.size (Array.replicate ops.size false) a w.drew):(Code.region id ops true).wp P Q a w :=
 wp_mono ((wpIn_wide (n:=0)).1 (wpIn_region_any hm (Cx.any _ _ _ _ (h hS)))) fun e _ _ hq=>by cases e<;>first | exact hq | exact hq.elim
end
end Go.Proofs.YtbliplladmamoaaGreat
