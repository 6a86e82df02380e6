/- Laws and walks that a claim of this seat leans on: Told, StmtP, Repeat, Graph. -/
import Derived.Test.YtoaamjgfhppppaaGreatT13
import Derived.Test.YtoaamjgfhppppaaGreatTWrites
import Derived.Test.YtoaamjgfhppppaaGreatTAlways
import Derived.Test.YtoaamjgfhppppaaGreatTReads
import Derived.Test.YtoaamjgfhppppaaGreatT06
import Derived.Test.YtoaamjgfhppppaaGreatT01
import Derived.Laws.CopyOwn
import Derived.Lib.ItoaNum
import Derived.Test.YtoaamjgfhppppaaGreatT00
set_option maxRecDepth 100000
set_option maxHeartbeats 8000000
set_option linter.all false
namespace Go.Proofs.YtoaamjgfhppppaaGreat
open Go.RowKit
theorem wpList_call_fvx {P:Program} {ops:Array Oper} {rest:List Oper} {o:Oper} {a:Act} {w:World} {Q:Exit->Act->World->Prop} (hw:Region.wanted o (yielded ops a.tmps)=true)
  (x:Operand) (l:List Operand) (ats:Array TypeId) (ho:o.op=.call { callee:=.value x,args:=l.toArray,argTypes:=ats })
  {g:FuncId} {lb:Array Value} (hx:a.eval x=.func (.func g) #[] lb) (eg:Leads P g) {args:List Value} (hargs:l.map a.eval=args) {R:Value->World->Prop}
  (hc:Calls P g (args.toArray++lb) w fun r w'=>∃ u,r=.returned u/\R u w') (h:∀ u w',R u w'->wpList P ops Q rest (a.put o.dst u) w'):wpList P ops Q (o::rest) a w :=
 BigFrame.wpList_want hw fun K hK=>by
  obtain ⟨dst,op,ty,pos,after,guard⟩:=o
  simp only at ho
  subst ho
  subst hargs
  rw [<-List.map_toArray] at hc
  generalize l.toArray=xs at *
  have hrun:(execOp a.eval { dst,op:=.call { callee:=.value x,args:=xs,argTypes:=ats },type:=ty,pos,after,guard }).run P w=.ok (.enter g (xs.map a.eval++lb)) w:=by
   have h1:execOp a.eval { dst,op:=.call { callee:=.value x,args:=xs,argTypes:=ats },type:=ty,pos,after,guard } = (Deferred.ofValue (a.eval x) (xs.map a.eval) >>= fun d=>invoke d.target d.args):=rfl
   have h2:(Deferred.ofValue (.func (.func g) #[] lb) (xs.map a.eval) >>= fun d=>invoke d.target d.args)=callFunc g (#[]++xs.map a.eval++lb):=rfl
   rw [h1,hx,h2,eg,Array.empty_append]
  unfold Oper.wp
  rw [hrun]
  exact hc.mono fun r w' ⟨u,hr,hR⟩=>by subst hr;exact hK _ _ (h u w' hR)
def toldOk (d:Flat) (p:Int):Bool:=decide (checkM d=0)&&decide (0<=p)&&decide (p<d.procs.length)
theorem toldP_calls (d:Flat) (v:Value) (w:World) (h:FlatV w v d) (hok:d.ok) (p:Int) (hpr:-9223372036854775808<=p/\p<=9223372036854775807) (g:FuncId) (lb:Array Value) (eg:Leads Tryz.prog g) (res:List Int)
  (hg:checkM d=0->0<=p->∀ (hp:p.toNat<d.procs.length),∀ W at' lv,Ext w W->Ints W at' (offsM d.signals d.signals.length)->Ts W lv d.procs[p.toNat].l ->
   Calls Tryz.prog g ([at',lv].toArray++lb) W fun r w'=>∃ u,r=.returned u/\IntRow W.heap.size u res w'/\Ext W w') :
  Calls Tryz.prog 51 #[v,.int .i64 p,.func (.func g) #[] lb] w fun r w'=>∃ u,r=.returned (.tuple #[u,.int .i64 (if toldOk d p=true then 0 else 1)])/\IntRow w.heap.size u (if toldOk d p=true then res else []) w'/\Ext w w':=by
 have HF:=Jh h
 have HG:=Jh hg
 obtain ⟨sv,pv,cv,rfl,hS,hP,hC⟩:=h
 have HX:=Jh (ext_alloc w (.cells [sv,pv,cv].toArray 26))
 have HB:=Jh (Blk.new w [sv,pv,cv].toArray 26)
 have HBT:=Jh (Bits_calls d _ _ (HF.out.ext HX.out) hok)
 have hln:=hok.procs
 obtain ⟨a0,b0,o0,c0,rfl,hc1,hc2,ha,hr⟩:=hP.open
 have HA:=Jh ha
 have HR:=Jh hr
 clear hS hP hC ha hr hg
 obtain ⟨q,hq⟩:∃ q,toldOk d p=q:=⟨_,rfl⟩
 rw [hq]
 have HQ:=Jh hq
 clear hq
 go_enter Tryz.func51,Tryz.ntmps51
 go_upto_region 1 with fail
 have hs1:(w.alloc (.cells [sv,.slice a0 d.procs.length c0,cv].toArray 26)).heap.size=w.heap.size+1:=by simp
 generalize w.alloc _=w1 at *
 by_cases hck:checkM d=0
 ·have HC0:=Jh hck
  have hbt:=HBT.out
  rw [if_pos hck,if_pos hck] at hbt
  have HB1:=Jh hbt
  clear hbt hck HBT
  by_cases hp0:p<0
  ·have hqf:q=false:=by rw [<-HQ.out];unfold toldOk;simp;omega
   subst hqf
   go_wp2_with (first | ((with_reducible show Jl 26);refine Jm 26 (HB.out.has) agg_Flat rfl ?_) | (go_at_call 13;refine HB1.out.mono ?_;rintro r w2 ⟨u,rfl,hr2,hx2⟩))
   refine bodyPost_ret (v:=.tuple #[.slice Option.none 0 0,.int .i64 1]) (by simp [results,Tryz.results51,go_sem]) rfl ⟨.slice Option.none 0 0,rfl,by exact IntRow.nil _ _,HX.out.trans hx2⟩
  ·by_cases hpn:p<d.procs.length
   ·have hqf:q=true:=by rw [<-HQ.out];unfold toldOk;simp [HC0.out];omega
    subst hqf
    obtain ⟨k,rfl⟩:∃ k:Nat,p=k:=⟨p.toNat,by omega⟩
    have hk:k<d.procs.length:=by omega
    obtain rfl:=HA.out (by omega)
    obtain ⟨s1,hhas,hts⟩:=Procs.get HR.out hk
    have HHAS:=Jh hhas
    have HTS:=Jh hts
    have hg:=HG.out HC0.out (by omega) (by simpa using hk)
    simp only [Int.toNat_natCast] at hg
    have HG2:=Jh hg
    clear hhas hts hg
    go_upto_region 4 with (first | ((with_reducible show Jl 26);refine Jm 26 (HB.out.has) agg_Flat rfl ?_) | (go_at_call 13;refine HB1.out.mono ?_;rintro r w2 ⟨u,rfl,hr2,hx2⟩;have z1:=((HB.out).ext hx2).has 1 _ rfl))
    have hX2:=HX.out.trans hx2
    have y1:=(HHAS.out.ext hX2) 1 _ rfl
    have hcall:=HG2.out w2 u s1 hX2 hr2.cells (HTS.out.ext hX2)
    go_wp2_with ((with_reducible show Jw (Op.call { callee:=.value (.tmp _),args:=_,argTypes:=_ }));refine wpList_call_fvx rfl _ [_,_] _ rfl rfl eg rfl hcall ?_;rintro u3 w3 ⟨hr3,hx3⟩)
    refine bodyPost_ret (v:=.tuple #[u3,.int .i64 0]) (by simp [results,Tryz.results51,go_sem]) rfl ⟨u3,rfl,by exact hr3.less (by have:=hX2.size;omega),hX2.trans hx3⟩
   ·have hqf:q=false:=by rw [<-HQ.out];unfold toldOk;simp;omega
    subst hqf
    go_wp2_with (first | ((with_reducible show Jl 26);refine Jm 26 (HB.out.has) agg_Flat rfl ?_) | (go_at_call 13;refine HB1.out.mono ?_;rintro r w2 ⟨u,rfl,hr2,hx2⟩;have z1:=((HB.out).ext hx2).has 1 _ rfl))
    refine bodyPost_ret (v:=.tuple #[.slice Option.none 0 0,.int .i64 1]) (by simp [results,Tryz.results51,go_sem]) rfl ⟨.slice Option.none 0 0,rfl,by exact IntRow.nil _ _,HX.out.trans hx2⟩
 ·have hqf:q=false:=by rw [<-HQ.out];unfold toldOk;simp [hck]
  subst hqf
  have hbt:=HBT.out
  rw [if_neg hck,if_neg hck] at hbt
  have HB1:=Jh hbt
  clear hbt hck HBT
  go_wp2_with (first | ((with_reducible show Jl 26);refine Jm 26 (HB.out.has) agg_Flat rfl ?_) | (go_at_call 13;refine HB1.out.mono ?_;rintro r w2 ⟨u,rfl,hr2,hx2⟩))
  refine bodyPost_ret (v:=.tuple #[.slice Option.none 0 0,.int .i64 1]) (by simp [results,Tryz.results51,go_sem]) rfl ⟨.slice Option.none 0 0,rfl,by exact IntRow.nil _ _,HX.out.trans hx2⟩
/-! ### stmt.Writes, stmt.Reads, stmt.Always of a process -/
theorem always_calls (offs:List Int) (hob:∀ o∈offs,0<=o/\o<=1099511627776) (l:List T) (hok:∀ t∈l,AlwOk offs t) (hn:sumBy nodesT l<=1048576):AlwaysSaid offs l:=by
 have key:∀ t:T,AlwOk offs t->nodesT t<=1048576->AlwaysSaid offs t.l/\∀ x∈t.l,AlwaysSaid offs x.l:=by
  intro t
  induction t using T.ind with
  | h t ih =>
   intro h1 h2
   have h3:=((AlwOk_iff _ _).1 h1).2.2
   have h4:=nodesT_eq t
   have ih':∀ x∈t.l,AlwaysSaid offs x.l/\∀ y∈x.l,AlwaysSaid offs y.l:=fun x hx=>ih x hx (h3 x hx) (by have:=le_sumBy nodesT t.l x hx;omega)
   exact ⟨always_step offs hob t.l h3 (by omega) (fun x hx=>(ih' x hx).1) (fun x hx=>(ih' x hx).2),fun x hx=>(ih' x hx).1⟩
 exact always_step offs hob l hok hn (fun t ht=>(key t (hok t ht) (by have:=le_sumBy nodesT l t ht;omega)).1) (fun t ht=>(key t (hok t ht) (by have:=le_sumBy nodesT l t ht;omega)).2)
/-! what a shaped design gives -/
theorem offsM_bound (ls:List Signal) (hw:∀ x∈ls,1<=x.w/\x.w<=64) (hl:ls.length<=1048576):∀ o∈offsM ls ls.length,0<=o/\o<=1099511627776:=by
 intro o ho
 obtain ⟨k,hk,rfl⟩:=List.mem_map.1 ho
 have:=sumW_le ls hw k (by have:=List.mem_range.1 hk;omega)
 have:=List.mem_range.1 hk
 omega
def StD (ls:List Signal):T->Prop
 | ⟨op,sig,hi,lo,e,l⟩=>(op=1->slice ls sig hi lo=true)/\(op=2\/op=3->0<l.length)/\(∀ x∈e,shape ls x=true)/\oks l
where oks:List T->Prop
 | []=>True
 | t::l=>StD ls t/\oks l
theorem StD.oks_iff (ls:List Signal) (l:List T):StD.oks ls l↔∀ t∈l,StD ls t:=by
 induction l with
 | nil=>simp [StD.oks]
 | cons e l ih=>simp [StD.oks,ih]
theorem StD_iff (ls:List Signal) (t:T):StD ls t↔(t.op=1->slice ls t.sig t.hi t.lo=true)/\(t.op=2\/t.op=3->0<t.l.length)/\(∀ x∈t.e,shape ls x=true)/\∀ x∈t.l,StD ls x:=by
 cases t;simp [StD,StD.oks_iff]
theorem stD_of_shapeT (ls:List Signal) (t:T):(shapeT ls t=true->StD ls t)/\(shapeT.armT ls t=true->StD ls t):=by
 induction t using T.ind with
 | h t ih =>
  have harms:∀ l:List T,(∀ x∈l,x∈t.l)->shapeT.arms ls l=true->∀ x∈l,StD ls x:=by
   intro l
   induction l with
   | nil=>intro _ _ x hx;cases hx
   | cons y l ih2 =>
    intro hm ha x hx
    rw [shapeT.arms,Bool.and_eq_true,Bool.and_eq_true] at ha
    rcases List.mem_cons.1 hx with e | hx
    ·rw [e];exact (ih _ (hm _ (by simp))).2 ha.1.2
    ·exact ih2 (fun z hz=>hm z (by simp [hz])) ha.2 x hx
  constructor
  ·intro ht
   rw [shapeT_eq] at ht
   split at ht
   ·cases ht
   ·rename_i h0
    have hE:∀ x∈t.e,shape ls x=true:=by
     intro x hx
     have h0':(t.e.any fun x=>!shape ls x)=false:=by
      cases hh:(t.e.any fun x=>!shape ls x)
      ·rfl
      ·exfalso;apply h0;rw [hh];rfl
     have:=List.any_eq_false.1 h0' x hx
     simpa using this
    split at ht
    ·rename_i h3
     simp only [Bool.and_eq_true,decide_eq_true_eq] at ht
     exact (StD_iff ls t).2 ⟨fun h1=>by omega,fun _=>ht.2.2,hE,harms t.l (fun _ h=>h) ht.2.1⟩
    ·split at ht
     ·rename_i h3 h1
      simp only [Bool.and_eq_true,decide_eq_true_eq] at ht
      have hl:t.l=[]:=List.eq_nil_of_length_eq_zero ht.1.2
      exact (StD_iff ls t).2 ⟨fun _=>ht.2,fun h=>by omega,hE,by rw [hl];intro x hx;cases hx⟩
     ·split at ht
      ·simp only [Bool.and_eq_true,List.all_eq_true,decide_eq_true_eq] at ht
       exact (StD_iff ls t).2 ⟨fun h=>by omega,fun h=>by omega,hE,fun x hx=>(ih x hx).1 (ht.2 x hx)⟩
      ·split at ht
       ·simp only [Bool.and_eq_true,List.all_eq_true] at ht
        exact (StD_iff ls t).2 ⟨fun h=>by omega,fun h=>by omega,hE,fun x hx=>(ih x hx).1 (ht.2 x hx)⟩
       ·cases ht
  ·intro ht
   rw [shapeT.armT_eq] at ht
   simp only [Bool.and_eq_true,decide_eq_true_eq,List.all_eq_true] at ht
   exact (StD_iff ls t).2 ⟨fun h=>by omega,fun h=>by omega,fun x hx=>(ht.1.2 x hx).2,fun x hx=>(ih x hx).1 (ht.2 x hx)⟩
theorem stD_of_check {d:Flat} (h:checkM d=0):∀ p∈d.procs,∀ t∈p.l,StD d.signals t:=by
 have h1:=checkM_shaped h
 unfold shapedM at h1
 simp only [Bool.and_eq_true,Bool.not_eq_true',List.any_eq_false,Bool.not_eq_eq_eq_not,Bool.not_true] at h1
 intro p hp t ht
 refine (stD_of_shapeT d.signals t).1 ?_
 have:=h1.1.2 p hp
 simp only [List.any_eq_true,not_exists,not_and] at this
 simpa using this t ht
/-! each statement that stands in statements -/
theorem eachT_all {P:T->Prop} (hP:∀ t,P t->∀ x∈t.l,P x) (t:T):P t->∀ x∈eachT t,P x:=by
 induction t using T.ind with
 | h t ih =>
  intro ht x hx
  rw [eachT_eq,eachTs_eq] at hx
  rcases List.mem_cons.1 hx with e | hx
  ·rw [e];exact ht
  ·obtain ⟨m,hm,hx⟩:=List.mem_flatten.1 hx
   obtain ⟨y,hy,rfl⟩:=List.mem_map.1 hm
   exact ih y hy (hP t ht y hy) x hx
theorem eachTs_all {P:T->Prop} (hP:∀ t,P t->∀ x∈t.l,P x) (l:List T) (h:∀ t∈l,P t):∀ t∈eachT.eachTs l,P t:=by
 intro x hx
 rw [eachTs_eq] at hx
 obtain ⟨m,hm,hx⟩:=List.mem_flatten.1 hx
 obtain ⟨y,hy,rfl⟩:=List.mem_map.1 hm
 exact eachT_all hP y (h y hy) x hx
def eLen (t:T):Nat:=1+sumBy nodes t.e
theorem eachT_sum (t:T):sumBy eLen (eachT t)=nodesT t:=by
 induction t using T.ind with
 | h t ih =>
  have key:∀ l:List T,(∀ x∈l,x∈t.l)->sumBy eLen (eachT.eachTs l)=sumBy nodesT l:=by
   intro l
   induction l with
   | nil=>intro _;rfl
   | cons y l ih2 =>
    intro hm
    rw [eachT.eachTs,sumBy_append,ih y (hm y (by simp)),ih2 fun z hz=>hm z (by simp [hz])]
    rfl
  rw [eachT_eq,sumBy,key t.l fun _ h=>h,nodesT_eq,eLen]
  omega
theorem eachTs_sum (l:List T):sumBy eLen (eachT.eachTs l)=sumBy nodesT l:=by
 induction l with
 | nil=>rfl
 | cons y l ih=>rw [eachT.eachTs,sumBy_append,eachT_sum,ih];rfl
theorem eachTs_length (l:List T):(eachT.eachTs l).length<=sumBy nodesT l:=by
 rw [<-eachTs_sum]
 exact length_le_sumBy eLen _ fun t _=>by unfold eLen;omega
theorem partsE_length (ls:List Signal) (e:E):(partsE ls e).length<=nodes e:=by
 induction e using E.ind with
 | h e ih =>
  have key:∀ l:List E,(∀ x∈l,x∈e.l)->((l.map (partsE ls)).flatten).length<=sumBy nodes l:=by
   intro l
   induction l with
   | nil=>intro _;simp
   | cons y l ih2 =>
    intro hm
    have q1:=ih y (hm y (by simp))
    have q2:=ih2 fun z hz=>hm z (by simp [hz])
    simp only [List.map_cons,List.flatten_cons,List.length_append,sumBy]
    omega
  have h0:(spans0 ls e.op e.sig e.hi e.lo).length<=1:=by
   unfold spans0
   split
   ·simp
   ·split<;>simp
  have:=key e.l fun _ h=>h
  rw [partsE_eq,List.length_append,nodes_eq]
  omega
theorem rS_length (ls:List Signal) (ts:List T):(rS ls ts ts.length).length<=sumBy eLen ts:=by
 unfold rS
 rw [List.take_length]
 induction ts with
 | nil=>simp
 | cons t ts ih =>
  have key:∀ l:List E,((l.map (partsE ls)).flatten).length<=sumBy nodes l:=by
   intro l
   induction l with
   | nil=>simp
   | cons y l ih2 =>
    have:=partsE_length ls y
    simp only [List.map_cons,List.flatten_cons,List.length_append,sumBy]
    omega
  have:=key t.e
  simp only [List.map_cons,List.flatten_cons,List.length_append,sumBy,eLen] at ih ⊢
  omega
/-! the spans of a shaped design may be asked of -/
theorem sigW_64 (ls:List Signal) (hw:∀ x∈ls,1<=x.w/\x.w<=64) (sig:Int):sigW ls sig<=64:=by
 unfold sigW
 cases h:ls[sig.toNat]? with
 | none=>simp
 | some s=>exact (hw s (List.mem_of_getElem? h)).2
theorem numOk_slice (ls:List Signal) (hw:∀ x∈ls,1<=x.w/\x.w<=64) {sig hi lo:Int} (h:slice ls sig hi lo=true):NumOk (offsM ls ls.length) ⟨sig,hi,lo⟩:=by
 unfold slice at h
 simp only [Bool.and_eq_true,decide_eq_true_eq] at h
 have:=sigW_64 ls hw sig
 have:=offsM_length ls ls.length
 unfold NumOk
 simp only
 omega
theorem alwOk_of (ls:List Signal) (hw:∀ x∈ls,1<=x.w/\x.w<=64) (t:T):StD ls t->AlwOk (offsM ls ls.length) t:=by
 induction t using T.ind with
 | h t ih =>
  intro h
  obtain ⟨h1,h2,h3,h4⟩:=(StD_iff _ _).1 h
  exact (AlwOk_iff _ _).2 ⟨fun e=>numOk_slice ls hw (h1 e),h2,fun x hx=>ih x hx (h4 x hx)⟩
theorem partsE_ok (ls:List Signal) (hw:∀ x∈ls,1<=x.w/\x.w<=64) (e:E):shape ls e=true->∀ s∈partsE ls e,NumOk (offsM ls ls.length) s:=by
 induction e using E.ind with
 | h e ih =>
  intro he s hs
  rw [shape_eq,Bool.and_eq_true,List.all_eq_true] at he
  rw [partsE_eq,List.mem_append] at hs
  rcases hs with hs | hs
  ·unfold spans0 at hs
   split at hs
   ·rename_i h2
    have h0:=he.1
    rw [h2] at h0
    simp [shape0] at h0
    rw [List.mem_singleton.1 hs]
    exact numOk_slice ls hw h0.1.2
   ·split at hs
    ·rename_i h3
     have h0:=he.1
     rw [h3] at h0
     simp [shape0] at h0
     rw [List.mem_singleton.1 hs]
     have:=sigW_64 ls hw e.sig
     have:=offsM_length ls ls.length
     unfold NumOk
     simp only
     omega
    ·cases hs
  ·obtain ⟨m,hm,hs⟩:=List.mem_flatten.1 hs
   obtain ⟨y,hy,rfl⟩:=List.mem_map.1 hm
   exact ih y hy (he.2 y hy) s hs
/-! the models -/
def procL (d:Flat) (p:Int):List T:=match d.procs[p.toNat]? with | some x=>x.l | none=>[]
def offsD (d:Flat):List Int:=offsM d.signals d.signals.length
def spansW (l:List T):List Span:=wS (eachT.eachTs l) (eachT.eachTs l).length
def spansR (ls:List Signal) (l:List T):List Span:=rS ls (eachT.eachTs l) (eachT.eachTs l).length
def writesM (d:Flat) (p:Int):List Int:=numbersM (offsD d) (spansW (procL d p))
def readsM (d:Flat) (p:Int):List Int:=numbersM (offsD d) (spansR d.signals (procL d p))
def alwaysM (d:Flat) (p:Int):List Int:=alwM (offsD d) (procL d p)
theorem procL_get {d:Flat} {p:Int} (hp:p.toNat<d.procs.length):procL d p=d.procs[p.toNat].l:=by
 unfold procL;rw [List.getElem?_eq_getElem hp]
theorem nodes_proc (d:Flat) (k:Nat) (hk:k<d.procs.length):sumBy nodesT d.procs[k].l<=mNodes d:=by
 have h1:=le_sumBy (fun p:Proc=>sumBy nodesT p.l) d.procs _ (List.getElem_mem hk)
 obtain ⟨a,b,c⟩:=d
 rw [mNodes_eq]
 simp only at h1 ⊢
 omega
structure ProcD (d:Flat) (l:List T):Prop where
 ow:∀ x∈d.signals,1<=x.w/\x.w<=64
 st:∀ t∈l,StD d.signals t
 nodes:sumBy nodesT l<=1048576
 sigs:d.signals.length<=1048576
theorem procD_of {d:Flat} (hok:d.ok) (hc:checkM d=0) (k:Nat) (hk:k<d.procs.length):ProcD d d.procs[k].l where
 ow:=checkM_w hc
 st:=stD_of_check hc _ (List.getElem_mem hk)
 nodes:=Nat.le_trans (nodes_proc d k hk) hok.nodes
 sigs:=hok.signals
theorem ProcD.each {d:Flat} {l:List T} (h:ProcD d l):∀ t∈eachT.eachTs l,StD d.signals t :=
 eachTs_all (fun t ht=>((StD_iff _ _).1 ht).2.2.2) l h.st
theorem ProcD.w {d:Flat} {l:List T} (h:ProcD d l):∀ s∈spansW l,NumOk (offsM d.signals d.signals.length) s:=by
 intro s hs
 unfold spansW wS at hs
 obtain ⟨t,ht,rfl⟩:=List.mem_map.1 hs
 obtain ⟨ht,ho⟩:=List.mem_filter.1 ht
 exact numOk_slice _ h.ow (((StD_iff _ _).1 (h.each t (List.mem_of_mem_take ht))).1 (by simpa using ho))
theorem ProcD.r {d:Flat} {l:List T} (h:ProcD d l):∀ s∈spansR d.signals l,NumOk (offsM d.signals d.signals.length) s:=by
 intro s hs
 unfold spansR rS at hs
 obtain ⟨m,hm,hs⟩:=List.mem_flatten.1 hs
 obtain ⟨t,ht,rfl⟩:=List.mem_map.1 hm
 obtain ⟨m,hm,hs⟩:=List.mem_flatten.1 hs
 obtain ⟨e,he,rfl⟩:=List.mem_map.1 hm
 exact partsE_ok _ h.ow e (((StD_iff _ _).1 (h.each t (List.mem_of_mem_take ht))).2.2.1 e he) s hs
theorem leads_Writes1:Leads Tryz.prog 52:=leads_of Tryz.func52 (by kernel_rfl) rfl
theorem leads_Reads1:Leads Tryz.prog 118:=leads_of Tryz.func118 (by kernel_rfl) rfl
theorem leads_always:Leads Tryz.prog 85:=leads_of Tryz.func85 (by kernel_rfl) rfl
theorem Writes_calls (d:Flat) (v:Value) (w:World) (h:FlatV w v d) (hok:d.ok) (p:Int) (hpr:-9223372036854775808<=p/\p<=9223372036854775807) :
  Calls Tryz.prog 26 #[v,.int .i64 p] w fun r w'=>∃ u,r=.returned (.tuple #[u,.int .i64 (if toldOk d p=true then 0 else 1)])/\IntRow w.heap.size u (if toldOk d p=true then writesM d p else []) w'/\Ext w w':=by
 have HF:=Jh h
 obtain ⟨sv,pv,cv,rfl,hS,hP,hC⟩:=h
 have hx:=ext_alloc w (.cells [sv,pv,cv].toArray 26)
 have hb:=Blk.new w [sv,pv,cv].toArray 26
 have HX:=Jh hx
 have HT:=Jh (toldP_calls d _ _ (HF.out.ext hx) hok p hpr 52 #[] leads_Writes1 (writesM d p) (fun hc h0 hp W at' lv hW ho hl=>by
  have hD:=procD_of hok hc p.toNat hp
  have:=Writes1_calls (offsM d.signals d.signals.length) d.procs[p.toNat].l at' lv W ho hl hD.w (offsM_bound _ hD.ow hD.sigs) (Nat.le_trans (eachTs_length _) hD.nodes)
  unfold writesM offsD spansW
  rw [procL_get hp]
  exact this))
 clear hS hP hC
 obtain ⟨ec,hec⟩:∃ ec:Int,(if toldOk d p=true then 0 else 1)=ec:=⟨_,rfl⟩
 obtain ⟨rs,hrs⟩:∃ rs,(if toldOk d p=true then writesM d p else [])=rs:=⟨_,rfl⟩
 rw [hec,hrs] at HT ⊢
 clear hec hrs
 go_enter Tryz.func26,Tryz.ntmps26
 go_upto_region 1 with fail
 generalize w.alloc _=w1 at *
 go_wp2_with (first | ((with_reducible show Jl 26);refine Jm 26 (hb.has) agg_Flat rfl ?_) | (go_at_call 51;refine HT.out.mono ?_;rintro r w2 ⟨u,rfl,hr2,hx2⟩))
 refine bodyPost_ret (v:=.tuple #[u,.int .i64 ec]) (by simp [results,Tryz.results26,go_sem]) rfl ⟨u,rfl,hr2.less HX.out.size,HX.out.trans hx2⟩
theorem Always_calls (d:Flat) (v:Value) (w:World) (h:FlatV w v d) (hok:d.ok) (p:Int) (hpr:-9223372036854775808<=p/\p<=9223372036854775807) :
  Calls Tryz.prog 66 #[v,.int .i64 p] w fun r w'=>∃ u,r=.returned (.tuple #[u,.int .i64 (if toldOk d p=true then 0 else 1)])/\IntRow w.heap.size u (if toldOk d p=true then alwaysM d p else []) w'/\Ext w w':=by
 have HF:=Jh h
 obtain ⟨sv,pv,cv,rfl,hS,hP,hC⟩:=h
 have hx:=ext_alloc w (.cells [sv,pv,cv].toArray 26)
 have hb:=Blk.new w [sv,pv,cv].toArray 26
 have HX:=Jh hx
 have HT:=Jh (toldP_calls d _ _ (HF.out.ext hx) hok p hpr 85 #[] leads_always (alwaysM d p) (fun hc h0 hp W at' lv hW ho hl=>by
  have hD:=procD_of hok hc p.toNat hp
  have:=always_calls (offsM d.signals d.signals.length) (offsM_bound _ hD.ow hD.sigs) d.procs[p.toNat].l (fun t ht=>alwOk_of _ hD.ow t (hD.st t ht)) hD.nodes W at' lv ho hl
  unfold alwaysM offsD
  rw [procL_get hp]
  exact this))
 clear hS hP hC
 obtain ⟨ec,hec⟩:∃ ec:Int,(if toldOk d p=true then 0 else 1)=ec:=⟨_,rfl⟩
 obtain ⟨rs,hrs⟩:∃ rs,(if toldOk d p=true then alwaysM d p else [])=rs:=⟨_,rfl⟩
 rw [hec,hrs] at HT ⊢
 clear hec hrs
 go_enter Tryz.func66,Tryz.ntmps66
 go_upto_region 1 with fail
 generalize w.alloc _=w1 at *
 go_wp2_with (first | ((with_reducible show Jl 26);refine Jm 26 (hb.has) agg_Flat rfl ?_) | (go_at_call 51;refine HT.out.mono ?_;rintro r w2 ⟨u,rfl,hr2,hx2⟩))
 refine bodyPost_ret (v:=.tuple #[u,.int .i64 ec]) (by simp [results,Tryz.results66,go_sem]) rfl ⟨u,rfl,hr2.less HX.out.size,HX.out.trans hx2⟩
theorem Reads_calls (d:Flat) (v:Value) (w:World) (h:FlatV w v d) (hok:d.ok) (p:Int) (hpr:-9223372036854775808<=p/\p<=9223372036854775807) :
  Calls Tryz.prog 86 #[v,.int .i64 p] w fun r w'=>∃ u,r=.returned (.tuple #[u,.int .i64 (if toldOk d p=true then 0 else 1)])/\IntRow w.heap.size u (if toldOk d p=true then readsM d p else []) w'/\Ext w w':=by
 have HF:=Jh h
 obtain ⟨sv,pv,cv,rfl,hS,hP,hC⟩:=h
 have hx:=ext_alloc w (.cells [sv,pv,cv].toArray 26)
 have hb:=Blk.new w [sv,pv,cv].toArray 26
 have HX:=Jh hx
 have h3:[sv,pv,cv].all (·.oneCell')=true:=by simp [hS.one,hP.one,hC.one]
 have HT:=Jh (toldP_calls d _ _ (HF.out.ext hx) hok p hpr 118 #[.pointer (some ⟨w.heap.size,0,none⟩)] leads_Reads1 (readsM d p) (fun hc h0 hp W at' lv hW ho hl=>by
  have hD:=procD_of hok hc p.toNat hp
  have:=Reads1_calls d.signals hD.ow (offsM d.signals d.signals.length) d.procs[p.toNat].l at' lv sv pv cv w.heap.size W ho hl (hS.ext (hx.trans hW)) h3 (hb.ext hW)
   (fun t ht e he=>indOk_of_shape _ e (((StD_iff _ _).1 (hD.each t ht)).2.2.1 e he)) hD.r (offsM_bound _ hD.ow hD.sigs) (Nat.le_trans (rS_length _ _) (by rw [eachTs_sum];exact hD.nodes))
  unfold readsM offsD spansR
  rw [procL_get hp]
  exact this))
 clear hS hP hC
 obtain ⟨ec,hec⟩:∃ ec:Int,(if toldOk d p=true then 0 else 1)=ec:=⟨_,rfl⟩
 obtain ⟨rs,hrs⟩:∃ rs,(if toldOk d p=true then readsM d p else [])=rs:=⟨_,rfl⟩
 rw [hec,hrs] at HT ⊢
 clear hec hrs
 go_enter Tryz.func86,Tryz.ntmps86
 go_upto_region 1 with fail
 generalize w.alloc _=w1 at *
 go_wp2_with (first | ((with_reducible show Jl 26);refine Jm 26 (hb.has) agg_Flat rfl ?_) | (go_at_call 51;refine HT.out.mono ?_;rintro r w2 ⟨u,rfl,hr2,hx2⟩))
 refine bodyPost_ret (v:=.tuple #[u,.int .i64 ec]) (by simp [results,Tryz.results86,go_sem]) rfl ⟨u,rfl,hr2.less HX.out.size,HX.out.trans hx2⟩
/-! ### slices.Repeat, of one number -/
theorem splice_rep (a:Int) (m c n:Nat) (h:m+c<=n):splice ((List.replicate m (Value.int .i64 a))++List.replicate (n-m) (Value.int .i64 0)) m (List.replicate c (Value.int .i64 a))=List.replicate (m+c) (Value.int .i64 a)++List.replicate (n-(m+c)) (Value.int .i64 0):=by
 unfold splice
 rw [List.take_left' (by simp),List.length_replicate,List.drop_append,<-List.append_assoc,List.replicate_append_replicate]
 simp
 omega
theorem repeat_calls (a:Int) (n:Nat) (hn:n<=1073741824) (B:Nat) (w:World) (hb:Blk w B #[.int .i64 a] 3) :
  Calls Tryz.prog 63 #[.slice (some ⟨B,0,none⟩) 1 1,.int .i64 n] w fun r w'=>∃ g,r=.returned (.slice (some ⟨g,0,none⟩) n n)/\w.heap.size<=g/\Blk w' g (List.replicate n (Value.int .i64 a)).toArray 3/\Ext w w':=by
 have HM:=Jh (show Calls Tryz.prog 79 #[.int .u64 1,.int .u64 (n:Int)] w fun e w'=>e=.returned (.tuple #[.int .u64 0,.int .u64 (n:Int)])/\w'=w from by
  have:=Tryz.bits_Mul 1 n (by omega) (by omega) w
  rw [Nat.one_mul,Nat.div_eq_of_lt (by omega),Nat.mod_eq_of_lt (by omega)] at this
  exact this)
 have HB:=Jh hb
 clear hb
 go_enter Tryz.func63,Tryz.ntmps63
 go_wp2_with (first | (go_at_call 79;refine HM.out.mono ?_;rintro r w1 ⟨rfl,rfl⟩) | ((with_reducible show Jw (Op.makeSlice _ _ _));refine Hid.out ?_))
 refine Jh ?_
 have hx2:=ext_alloc w1 (.cells (madeCells (Value.int .i64 0).cells (n*1)) 3)
 have hb2:=Blk.new w1 (madeCells (Value.int .i64 0).cells (n*1)) 3
 rw [show madeCells (Value.int .i64 0).cells (n*1)=(List.replicate n (Value.int .i64 0)).toArray by rw [Nat.mul_one];exact madeCells_one _ _] at hx2 hb2
 refine wpList_mk rfl _ _ _ rfl (n:=n) rfl rfl Tryz.underlying30 info_int (by omega) (by omega) ?_
 rw [show madeCells (Value.int .i64 0).cells (n*1)=(List.replicate n (Value.int .i64 0)).toArray by rw [Nat.mul_one];exact madeCells_one _ _]
 have hs2:(w1.alloc (.cells (List.replicate n (Value.int .i64 0)).toArray 3)).heap.size=w1.heap.size+1:=by simp
 have hB2:=HB.out.ext hx2
 generalize w1.alloc _=w2 at *
 obtain ⟨g,hg⟩:∃ g,w1.heap.size=g:=⟨_,rfl⟩
 rw [hg] at hb2 hs2 ⊢
 have HGG:=Jh hg
 clear hg
 go_wp2_with ((with_reducible show Jw (Op.call { callee:=.builtin .copy,args:=_,argTypes:=_ }));refine Hid.out ?_)
 refine Jh ?_
 obtain ⟨m0,hm0⟩:∃ m0,m0=Nat.min 1 n:=⟨_,rfl⟩
 have hm1:m0<=n/\(0<n->0<m0):=by rw [hm0];constructor<;>first | exact Nat.min_le_right _ _ | (intro h;show 0<min 1 n;omega)
 refine wpList_copy_splice rfl _ _ 30 30 rfl 3 Tryz.underlying30 (by kernel_rfl) _ _ n n 1 1 rfl rfl g 0 (List.replicate 0 (Value.int .i64 a)++List.replicate (n-0) (Value.int .i64 0)) 3 (by simpa [Blk] using hb2)
  (List.replicate m0 (Value.int .i64 a)) (by rw [List.length_replicate];exact hm0) (fun hp=>⟨rfl,⟨B,0,none⟩,rfl,fun j v hj=>?_⟩) (by simp;omega) (by intro v hv;rw [List.eq_of_mem_replicate hv];rfl) w1.heap.size w1 hx2 (by rw [HGG.out];exact Nat.le_refl _) ?_
 ·have hm1':m0<=1:=by rw [hm0];exact Nat.min_le_left _ _
  rw [List.getElem?_replicate] at hj
  split at hj
  ·rename_i hlt
   have:j=0:=by omega
   subst this
   injection hj with hj
   subst hj
   exact hB2.has (cs:=[.int .i64 a]) 0 _ rfl
  ·cases hj
 intro w3 hb3 hx3
 have hb3':=hb3.out
 rw [splice_rep a 0 m0 n (by omega),Nat.zero_add] at hb3'
 have HB3:=Jh hb3'
 rw [List.length_replicate]
 clear hb3 hb3' hb2 hB2 hs2 hx2 hm0
 generalize w2.heap=hw2 at *
 go_wp2_with fail
 go_loopw [8] (fun i wr=>∃ m:Nat,m<=n/\(0<n->0<m)/\i=.int .i64 m/\Blk wr g (List.replicate m (Value.int .i64 a)++List.replicate (n-m) (Value.int .i64 0)).toArray 3/\Ext w1 wr) (fun i _=>n-(intOf i).toNat)
 case atStart=>exact ⟨m0,hm1.1,hm1.2,rfl,HB3.out,hx3⟩
 case round =>
  obtain ⟨m,hm,hmp,rfl,hbr,hxr⟩:=hrel
  have HBR:=Jh hbr
  clear hbr
  by_cases hlt:m<n
  ·go_upto_region 9 with fail
   have hbD:=HBR.out.drew
   have hxD:Ext w1 wr.drew:=hxr.drew
   refine wp_region_held_drew (S:=fun _=>True) (by kernel_rfl) trivial (fun hH=>?_)
   generalize wr.drew=wd at *
   try simp only [J]
   (refine Jt 0 (_) rfl (yif_load1 rfl fun _ _=>rfl) hH ?_;try simp only [J])
   (refine Jt 1 (_) rfl (yif_load1 rfl fun _ _=>rfl) hH ?_;try simp only [J])
   (refine Jt 2 (_) rfl (yif_load1 rfl fun _ _=>rfl) hH ?_;try simp only [J])
   (refine Jt 4 (_) rfl (yif_load1 rfl fun _ _=>rfl) hH ?_;try simp only [J])
   (refine Jt 5 (_) rfl (yif_load1 rfl fun _ _=>rfl) hH ?_;try simp only [J])
   (refine Jt 3 (.slice (some ⟨g,m,Option.none⟩) (n-m) (n-m)) rfl (yif_load1 rfl (by intro W3 hW;clear hW;go_simp;omega)) hH ?_;try simp only [J])
   (refine Jt 6 (.slice (some ⟨g,0,Option.none⟩) m n) rfl (yif_load1 rfl (by intro W3 hW;clear hW;go_simp)) hH ?_;try simp only [J])
   refine Jr 7 rfl fun K hK=>?_
   obtain ⟨c,hc⟩:∃ c,c=Nat.min m (n-m):=⟨_,rfl⟩
   have hc1:c<=m/\c<=n-m/\0<c:=by
    have:=hmp (by omega)
    rw [hc]
    exact ⟨Nat.min_le_left _ _,Nat.min_le_right _ _,by show 0<min m (n-m);omega⟩
   have HC:=Jh hc
   clear hc
   refine step_copy_splice rfl _ _ 30 30 rfl 3 Tryz.underlying30 (by kernel_rfl) _ _ (n-m) (n-m) m n rfl rfl g m (List.replicate m (Value.int .i64 a)++List.replicate (n-m) (Value.int .i64 0)) 3 hbD
    (List.replicate c (Value.int .i64 a)) (by rw [List.length_replicate];exact HC.out) (fun hp=>⟨rfl,⟨g,0,none⟩,rfl,fun j v hj=>?_⟩) (by simp;omega) (by intro v hv;rw [List.eq_of_mem_replicate hv];rfl) w1.heap.size w1 hxD (by rw [HGG.out];exact Nat.le_refl _) ?_
   ·rw [List.getElem?_replicate] at hj
    split at hj
    ·rename_i hjc
     injection hj with hj
     subst hj
     have hadd:(⟨g,0,none⟩:Addr).add j=⟨g,j,none⟩:=by unfold Addr.add;split<;>simp_all
     rw [hadd,hbD.cell,List.getElem?_toArray,List.getElem?_append_left (by simp;omega),List.getElem?_replicate,if_pos (by omega)]
    ·cases hj
   intro w3 hb3 hx3
   have hb3':=hb3.out
   rw [splice_rep a m c n (by omega)] at hb3'
   have HB4:=Jh hb3'
   rw [List.length_replicate]
   clear hb3 hb3' hbD hxD
   refine hK.out _ _ trivial (fun hH=>?_)
   clear hK K
   try simp only [J]
   (refine Jt 8 (.int .i64 ((m+c:Nat):Int)) rfl (yif_load1 rfl (by intro W3 hW;clear hW;go_simp;rw [IntKind.wrap_i64];omega)) hH ?_;try simp only [J])
   (refine Jt 9 (.int .i64 ((m+c:Nat):Int)) rfl (yif_load1 rfl fun _ _=>rfl) hH ?_;try simp only [J])
   refine Jz ?_
   go_roundw
   case rel=>exact ⟨_,_,_,_,_,_,_,_,_,_,_,_,_,_,⟨m+c,by omega,fun _=>by omega,rfl,HB4.out,hx3⟩,rfl⟩
   case measure=>simp [intOf];omega
  ·obtain rfl:m=n:=by omega
   go_wp2_with fail
   go_ret
   exact ⟨g,rfl,by rw [HGG.out];exact Nat.le_refl _,by simpa using HBR.out,hxr⟩
/-! ### who drives each bit -/
def drv1 (p:Int):List Int->List Int->Option (List Int)
 | [],out=>some out
 | b::l,out=>if 0<=out.getD b.toNat 0 then none else drv1 p l (out.set b.toNat p)
def drvs:Nat->List (List Int)->List Int->Option (List Int)
 | _,[],out=>some out
 | p,l::ws,out=>match drv1 p l out with
  | none=>none
  | some o=>drvs (p+1) ws o
def drvM (n:Nat) (ws:List (List Int)):Option (List Int):=drvs 0 ws (List.replicate n (-1))
/-! ### on whom each process hangs -/
def hang1 (by':List Int) (clk:List Bool):List Int->List Int->List Int
 | [],g=>g
 | b::r,g =>
  let q:=by'.getD b.toNat 0
  if (decide (0<=q)&&!clk.getD q.toNat false&&!g.contains q)=true then hang1 by' clk r (g++[q]) else hang1 by' clk r g
def hangM (by':List Int) (clk:List Bool) (rs:List (List Int)):List (List Int):=rs.map fun r=>hang1 by' clk r []
/-! ### in which order -/
def ready (g:List (List Int)) (clk come:List Bool) (p:Nat):Bool :=
 !come.getD p false&&!clk.getD p false&&(g.getD p []).all fun q=>come.getD q.toNat false
def nextFrom (g:List (List Int)) (clk come:List Bool):Nat->Nat->Int
 | 0,_=>-1
 | n+1,p=>if ready g clk come p=true then p else nextFrom g clk come n (p+1)
def nextM (g:List (List Int)) (clk come:List Bool):Int:=nextFrom g clk come g.length 0
def orderM (g:List (List Int)) (clk:List Bool):Nat->List Bool->List Int->List Int
 | 0,_,out=>out
 | n+1,come,out =>
  let p:=nextM g clk come
  if 0<=p then orderM g clk n (come.set p.toNat true) (out++[p]) else out
/-! ### how deep -/
def lev1 (p:Nat):List Int->List Int->List Int
 | [],out=>out
 | q::l,out=>lev1 p l (out.set p (max (out.getD p 0) (out.getD q.toNat 0+1)))
def levs (g:List (List Int)):List Int->List Int->List Int
 | [],out=>out
 | p::o,out=>levs g o (lev1 p.toNat (g.getD p.toNat []) out)
/-! ### laws: drivers -/
theorem drv1_length (p:Int) (l:List Int):∀ out o,drv1 p l out=some o->o.length=out.length:=by
 induction l with
 | nil=>intro out o h;simp [drv1] at h;rw [h]
 | cons b l ih =>
  intro out o h
  rw [drv1] at h
  split at h
  ·cases h
  ·rw [ih _ _ h,List.length_set]
theorem drv1_get (p:Int) (hp:0<=p) (l:List Int):∀ out o,(∀ b∈l,0<=b/\b<out.length)->drv1 p l out=some o ->
  (∀ i:Nat,(i:Int)∈l->o[i]? = some p/\out.getD i 0<0)/\∀ i:Nat,(i:Int) ∉ l->o[i]? = out[i]?:=by
 induction l with
 | nil=>intro out o _ h;simp [drv1] at h;subst h;simp
 | cons b l ih =>
  intro out o hb h
  rw [drv1] at h
  split at h
  ·cases h
  ·rename_i hlt
   have hb0:=hb b (by simp)
   obtain ⟨h1,h2⟩:=ih (out.set b.toNat p) o (fun x hx=>by simpa using hb x (by simp [hx])) h
   constructor
   ·intro i hi
    by_cases hil:(i:Int)∈l
    ·refine ⟨(h1 i hil).1,?_⟩
     have:=(h1 i hil).2
     by_cases hbi:b.toNat=i
     ·subst hbi
      rw [List.getD_eq_getElem?_getD,List.getElem?_set_self (by omega)] at this
      simp at this
      omega
     ·rw [List.getD_eq_getElem?_getD,List.getElem?_set_ne hbi] at this
      rw [List.getD_eq_getElem?_getD];exact this
    ·have hbi:b=i:=by
      cases hi with
      | head=>rfl
      | tail _ hi=>exact absurd hi hil
     subst hbi
     rw [h2 i hil]
     refine ⟨?_,?_⟩
     ·rw [Int.toNat_natCast,List.getElem?_set_self (by omega)]
     ·rw [Int.toNat_natCast] at hlt;omega
   ·intro i hi
    rw [h2 i (fun h=>hi (by simp [h]))]
    refine List.getElem?_set_ne ?_
    intro e
    apply hi
    have:(i:Int)=b:=by omega
    rw [this];simp
theorem drvs_length (ws:List (List Int)):∀ p out o,drvs p ws out=some o->o.length=out.length:=by
 induction ws with
 | nil=>intro p out o h;simp [drvs] at h;rw [h]
 | cons l ws ih =>
  intro p out o h
  rw [drvs] at h
  cases h1:drv1 p l out with
  | none=>rw [h1] at h;cases h
  | some o1 =>
   rw [h1] at h
   rw [ih _ _ _ h,drv1_length _ _ _ _ h1]
theorem drvs_get (ws:List (List Int)):∀ p out o,(∀ l∈ws,∀ b∈l,0<=b/\b<out.length)->drvs p ws out=some o ->
  ∀ i:Nat,(o[i]? = out[i]?/\∀ l∈ws,(i:Int) ∉ l)\/∃ k:Nat,∃ l,ws[k]? = some l/\(i:Int)∈l/\o[i]? = some ((p+k:Nat):Int)/\out.getD i 0<0/\∀ k' l',ws[k']? = some l'->(i:Int)∈l'->k'=k:=by
 induction ws with
 | nil=>intro p out o _ h i;simp [drvs] at h;subst h;simp
 | cons l ws ih =>
  intro p out o hb h i
  rw [drvs] at h
  cases h1:drv1 p l out with
  | none=>rw [h1] at h;cases h
  | some o1 =>
   rw [h1] at h
   simp only at h
   have hl1:=drv1_length _ _ _ _ h1
   obtain ⟨g1,g2⟩:=drv1_get p (by omega) l out o1 (hb l (by simp)) h1
   have:=ih (p+1) o1 o (fun x hx b hbx=>by rw [hl1];exact hb x (by simp [hx]) b hbx) h i
   rcases this with ⟨e1,e2⟩ | ⟨k,l',e1,e2,e3,e4,e5⟩
   ·by_cases hil:(i:Int)∈l
    ·refine .inr ⟨0,l,rfl,hil,?_,(g1 i hil).2,?_⟩
     ·rw [e1,(g1 i hil).1];simp
     ·intro k' l'' hk hm
      cases k' with
      | zero=>rfl
      | succ k'=>exact absurd hm (e2 l'' (List.mem_of_getElem? (by simpa using hk)))
    ·refine .inl ⟨by rw [e1,g2 i hil],?_⟩
     intro x hx
     cases hx with
     | head=>exact hil
     | tail _ hx=>exact e2 x hx
   ·have hil:(i:Int) ∉ l:=by
     intro hil
     have:=(g1 i hil).1
     rw [List.getD_eq_getElem?_getD,this] at e4
     simp at e4
     omega
    refine .inr ⟨k+1,l',by simpa using e1,e2,?_,?_,?_⟩
    ·rw [e3];congr 2;omega
    ·rw [List.getD_eq_getElem?_getD,g2 i hil,<-List.getD_eq_getElem?_getD] at e4;exact e4
    ·intro k' l'' hk hm
     cases k' with
     | zero=>simp at hk;subst hk;exact absurd hm hil
     | succ k'=>rw [e5 k' l'' (by simpa using hk) hm]
theorem drvM_length {n:Nat} {ws:List (List Int)} {o:List Int} (h:drvM n ws=some o):o.length=n:=by
 rw [drvs_length _ _ _ _ h,List.length_replicate]
theorem drvM_get {n:Nat} {ws:List (List Int)} {o:List Int} (hb:∀ l∈ws,∀ b∈l,0<=b/\b<n) (h:drvM n ws=some o) (i:Nat) (hi:i<n) :
  (o[i]? = some (-1)/\∀ l∈ws,(i:Int) ∉ l)\/∃ k:Nat,∃ l,ws[k]? = some l/\(i:Int)∈l/\o[i]? = some (k:Int)/\∀ k' l',ws[k']? = some l'->(i:Int)∈l'->k'=k:=by
 rcases drvs_get ws 0 _ o (by simpa using hb) h i with ⟨h1,h2⟩ | ⟨k,l,h1,h2,h3,h4,h5⟩
 ·exact .inl ⟨by rw [h1,List.getElem?_replicate,if_pos hi],h2⟩
 ·exact .inr ⟨k,l,h1,h2,by simpa using h3,h5⟩
theorem drvM_range {n:Nat} {ws:List (List Int)} {o:List Int} (hb:∀ l∈ws,∀ b∈l,0<=b/\b<n) (h:drvM n ws=some o):∀ x∈o,-1<=x/\x<ws.length:=by
 intro x hx
 obtain ⟨i,hi,rfl⟩:=List.getElem_of_mem hx
 have hn:=drvM_length h
 rcases drvM_get hb h i (by omega) with ⟨h1,-⟩ | ⟨k,l,h1,h2,h3,-⟩
 ·rw [List.getElem?_eq_getElem hi] at h1
  injection h1 with h1
  omega
 ·rw [List.getElem?_eq_getElem hi] at h3
  injection h3 with h3
  have:=(List.getElem?_eq_some_iff.1 h1).1
  omega
/-! ### laws: whom a process hangs on -/
theorem mem_hang1 (by':List Int) (clk:List Bool) (r:List Int) (q:Int):∀ g,q∈hang1 by' clk r g↔q∈g\/(0<=q/\clk.getD q.toNat false=false/\∃ b∈r,by'.getD b.toNat 0=q):=by
 induction r with
 | nil=>intro g;simp [hang1]
 | cons b r ih =>
  intro g
  rw [hang1]
  try simp only
  split
  ·rename_i h
   simp only [Bool.and_eq_true,decide_eq_true_eq,Bool.not_eq_true',List.contains_eq_mem,decide_eq_false_iff_not] at h
   rw [ih]
   constructor
   ·rintro (h1 | ⟨h1,h2,c,hc,h3⟩)
    ·rcases List.mem_append.1 h1 with h1 | h1
     ·exact .inl h1
     ·simp at h1
      subst h1
      exact .inr ⟨h.1.1,h.1.2,b,by simp,rfl⟩
    ·exact .inr ⟨h1,h2,c,by simp [hc],h3⟩
   ·rintro (h1 | ⟨h1,h2,c,hc,h3⟩)
    ·exact .inl (by simp [h1])
    ·cases hc with
     | head=>exact .inl (List.mem_append.2 (.inr (by rw [h3];exact List.mem_singleton.2 rfl)))
     | tail _ hc=>exact .inr ⟨h1,h2,c,hc,h3⟩
  ·rename_i h
   simp only [Bool.and_eq_true,decide_eq_true_eq,Bool.not_eq_true',List.contains_eq_mem,decide_eq_false_iff_not] at h
   rw [ih]
   constructor
   ·rintro (h1 | ⟨h1,h2,c,hc,h3⟩)
    ·exact .inl h1
    ·exact .inr ⟨h1,h2,c,by simp [hc],h3⟩
   ·rintro (h1 | ⟨h1,h2,c,hc,h3⟩)
    ·exact .inl h1
    ·cases hc with
     | head =>
      by_cases hg:q∈g
      ·exact .inl hg
      ·exfalso;apply h;rw [h3];exact ⟨⟨h1,h2⟩,hg⟩
     | tail _ hc=>exact .inr ⟨h1,h2,c,hc,h3⟩
theorem mem_hang (by':List Int) (clk:List Bool) (r:List Int) (q:Int):q∈hang1 by' clk r []↔0<=q/\clk.getD q.toNat false=false/\∃ b∈r,by'.getD b.toNat 0=q:=by
 rw [mem_hang1];simp
/-! ### laws: the order -/
theorem nextFrom_spec (g:List (List Int)) (clk come:List Bool) (n:Nat):∀ p,(nextFrom g clk come n p = -1/\∀ k,p<=k->k<p+n->ready g clk come k=false) \/
  ∃ k:Nat,nextFrom g clk come n p=k/\p<=k/\k<p+n/\ready g clk come k=true/\∀ j,p<=j->j<k->ready g clk come j=false:=by
 induction n with
 | zero=>intro p;exact .inl ⟨rfl,fun k h1 h2=>by omega⟩
 | succ n ih =>
  intro p
  rw [nextFrom]
  by_cases h:ready g clk come p=true
  ·rw [if_pos h]
   exact .inr ⟨p,rfl,Nat.le_refl _,by omega,h,fun j h1 h2=>by omega⟩
  ·rw [if_neg h]
   have h':ready g clk come p=false:=by simpa using h
   rcases ih (p+1) with ⟨h1,h2⟩ | ⟨k,h1,h2,h3,h4,h5⟩
   ·refine .inl ⟨h1,fun k hk1 hk2=>?_⟩
    by_cases e:k=p
    ·rw [e];exact h'
    ·exact h2 k (by omega) (by omega)
   ·refine .inr ⟨k,h1,by omega,by omega,h4,fun j hj1 hj2=>?_⟩
    by_cases e:j=p
    ·rw [e];exact h'
    ·exact h5 j (by omega) hj2
theorem nextM_spec (g:List (List Int)) (clk come:List Bool):(nextM g clk come = -1/\∀ k,k<g.length->ready g clk come k=false) \/
  ∃ k:Nat,nextM g clk come=k/\k<g.length/\ready g clk come k=true:=by
 rcases nextFrom_spec g clk come g.length 0 with ⟨h1,h2⟩ | ⟨k,h1,-,h3,h4,-⟩
 ·exact .inl ⟨h1,fun k hk=>h2 k (by omega) (by omega)⟩
 ·exact .inr ⟨k,h1,by omega,h4⟩
theorem ready_iff (g:List (List Int)) (clk come:List Bool) (p:Nat):ready g clk come p=true↔come.getD p false=false/\clk.getD p false=false/\∀ q∈g.getD p [],come.getD q.toNat false=true:=by
 simp [ready,and_assoc]
structure Ord (g:List (List Int)) (clk come:List Bool) (out:List Int):Prop where
 len:come.length=g.length
 came:∀ p:Nat,come.getD p false=true↔(p:Int)∈out
 inr:∀ p∈out,0<=p/\p<g.length/\clk.getD p.toNat false=false
 nodup:out.Nodup
 behind:∀ (i:Nat) (p:Int),out[i]? = some p->∀ q∈g.getD p.toNat [],((q.toNat:Nat):Int)∈out.take i
theorem Ord.nil (g:List (List Int)) (clk:List Bool):Ord g clk (List.replicate g.length false) [] where
 len:=by simp
 came:=by
  intro p
  simp [List.getD_eq_getElem?_getD,List.getElem?_replicate]
  split<;>simp
 inr:=by intro p h;cases h
 nodup:=List.nodup_nil
 behind:=by intro i p h;simp at h
theorem Ord.snoc {g:List (List Int)} {clk come:List Bool} {out:List Int} (h:Ord g clk come out) {k:Nat} (hk:k<g.length) (hr:ready g clk come k=true) :
  Ord g clk (come.set k true) (out++[(k:Int)]):=by
 obtain ⟨r1,r2,r3⟩:=(ready_iff _ _ _ _).1 hr
 have hkc:k<come.length:=by rw [h.len];exact hk
 have hnot:(k:Int) ∉ out:=fun hm=>by rw [(h.came k).2 hm] at r1;cases r1
 refine ⟨by rw [List.length_set,h.len],?_,?_,?_,?_⟩
 ·intro p
  by_cases e:k=p
  ·subst e
   simp [List.getD_eq_getElem?_getD,List.getElem?_set_self hkc]
  ·rw [List.getD_eq_getElem?_getD,List.getElem?_set_ne e,<-List.getD_eq_getElem?_getD,h.came]
   simp
   omega
 ·intro p hp
  rcases List.mem_append.1 hp with hp | hp
  ·exact h.inr p hp
  ·simp at hp;subst hp
   exact ⟨by omega,by omega,by simpa using r2⟩
 ·rw [List.nodup_append]
  refine ⟨h.nodup,by simp,?_⟩
  intro a ha b hb
  simp at hb
  subst hb
  intro e;subst e;exact hnot ha
 ·intro i p hp q hq
  by_cases hi:i<out.length
  ·rw [List.getElem?_append_left hi] at hp
   have:=h.behind i p hp q hq
   rw [List.take_append_of_le_length (by omega)]
   exact this
  ·rw [List.getElem?_append_right (by omega)] at hp
   have hi2:i-out.length=0:=by
    have:=(List.getElem?_eq_some_iff.1 hp).1
    simp at this;omega
   rw [hi2] at hp
   simp at hp
   subst hp
   rw [Int.toNat_natCast] at hq
   have:=r3 q hq
   have hm:=(h.came _).1 this
   rw [show i=out.length by omega,List.take_left']
   ·exact hm
   ·rfl
def falses (l:List Bool):Nat:=l.countP fun b=>!b
theorem falses_set (l:List Bool):∀ (k:Nat),l.getD k true=false->falses (l.set k true)+1=falses l:=by
 induction l with
 | nil=>intro k h;simp at h
 | cons b l ih =>
  intro k h
  cases k with
  | zero=>simp at h;subst h;simp [falses]
  | succ k =>
   simp at h
   have:=ih k (by simpa using h)
   simp only [falses,Jf,List.countP_cons] at this ⊢
   omega
theorem falses_pos (l:List Bool) (k:Nat) (hk:k<l.length) (h:l.getD k false=false):falses (l.set k true)+1=falses l:=by
 refine falses_set l k ?_
 rw [List.getD_eq_getElem?_getD,List.getElem?_eq_getElem hk] at h ⊢
 exact h
theorem orderM_spec (g:List (List Int)) (clk:List Bool) (n:Nat):∀ come out,Ord g clk come out->falses come<n ->
  ∃ come',Ord g clk come' (orderM g clk n come out)/\∀ k,k<g.length->ready g clk come' k=false:=by
 induction n with
 | zero=>intro come out _ h;omega
 | succ n ih =>
  intro come out ho hf
  rw [orderM]
  try simp only
  rcases nextM_spec g clk come with ⟨h1,h2⟩ | ⟨k,h1,h2,h3⟩
  ·rw [h1,if_neg (by decide)]
   exact ⟨come,ho,h2⟩
  ·rw [h1,if_pos (by omega),Int.toNat_natCast]
   have hc:=falses_pos come k (by rw [ho.len];exact h2) ((ready_iff _ _ _ _).1 h3).1
   exact ih _ _ (ho.snoc h2 h3) (by omega)
/-! ### laws: how deep -/
theorem lev1_length (p:Nat) (l:List Int):∀ out,(lev1 p l out).length=out.length:=by
 induction l with
 | nil=>intro out;rfl
 | cons q l ih=>intro out;rw [lev1,ih,List.length_set]
theorem lev1_other (p:Nat) (l:List Int):∀ out (i:Nat),i≠p->(lev1 p l out).getD i 0=out.getD i 0:=by
 induction l with
 | nil=>intro out i _;rfl
 | cons q l ih =>
  intro out i hi
  rw [lev1,ih _ _ hi,List.getD_eq_getElem?_getD,List.getElem?_set_ne (fun e=>hi e.symm),<-List.getD_eq_getElem?_getD]
theorem lev1_ge (p:Nat) (l:List Int):∀ out,p<out.length->out.getD p 0<=(lev1 p l out).getD p 0:=by
 induction l with
 | nil=>intro out _;exact Int.le_refl _
 | cons q l ih =>
  intro out hp
  rw [lev1]
  refine Int.le_trans ?_ (ih _ (by simpa using hp))
  rw [List.getD_eq_getElem?_getD (l:=out.set _ _),List.getElem?_set_self hp]
  exact Int.le_max_left _ _
theorem lev1_gt (p:Nat) (l:List Int):∀ out,p<out.length->(∀ q∈l,q.toNat≠p)->∀ q∈l,out.getD q.toNat 0<(lev1 p l out).getD p 0:=by
 induction l with
 | nil=>intro out _ _ q h;cases h
 | cons x l ih =>
  intro out hp hne q hq
  rw [lev1]
  have hp':p<(out.set p (max (out.getD p 0) (out.getD x.toNat 0+1))).length:=by simpa using hp
  rcases List.mem_cons.1 hq with e | hq
  ·rw [e]
   refine Int.lt_of_lt_of_le ?_ (lev1_ge p l _ hp')
   rw [List.getD_eq_getElem?_getD (l:=out.set _ _),List.getElem?_set_self hp]
   have:=Int.le_max_right (out.getD p 0) (out.getD x.toNat 0+1)
   simp only [Option.getD_some]
   omega
  ·have:=ih _ hp' (fun y hy=>hne y (by simp [hy])) q hq
   rw [List.getD_eq_getElem?_getD,List.getElem?_set_ne (fun e=>hne q (by simp [hq]) e.symm),<-List.getD_eq_getElem?_getD] at this
   exact this
theorem levs_length (g:List (List Int)) (o:List Int):∀ out,(levs g o out).length=out.length:=by
 induction o with
 | nil=>intro out;rfl
 | cons p o ih=>intro out;rw [levs,ih,lev1_length]
theorem levs_other (g:List (List Int)) (o:List Int):∀ out (i:Nat),(∀ p∈o,p.toNat≠i)->(levs g o out).getD i 0=out.getD i 0:=by
 induction o with
 | nil=>intro out i _;rfl
 | cons p o ih =>
  intro out i h
  rw [levs,ih _ _ (fun q hq=>h q (by simp [hq])),lev1_other _ _ _ _ (fun e=>h p (by simp) e.symm)]
theorem levs_gt (g:List (List Int)) (o:List Int):∀ out,(∀ p∈o,0<=p/\p.toNat<out.length)->o.Nodup->(∀ (i:Nat) (p:Int),o[i]? = some p->∀ q∈g.getD p.toNat [],∀ p'∈o.drop i,q.toNat≠p'.toNat) ->
  ∀ p∈o,∀ q∈g.getD p.toNat [],(levs g o out).getD q.toNat 0<(levs g o out).getD p.toNat 0:=by
 induction o with
 | nil=>intro out _ _ _ p h;cases h
 | cons x o ih =>
  intro out hin hnd hb p hp q hq
  rw [levs]
  have hx:=hin x (by simp)
  have hnd':=List.nodup_cons.1 hnd
  have hxo:∀ y∈o,y.toNat≠x.toNat:=by
   intro y hy e
   have h1:=hin y (by simp [hy])
   have:y=x:=by omega
   subst this
   exact hnd'.1 hy
  rcases List.mem_cons.1 hp with e | hp
  ·subst e
   have hq':=hb 0 p rfl q hq
   rw [levs_other g o _ p.toNat hxo,levs_other g o _ q.toNat (fun y hy e=>hq' y (by simp [hy]) e.symm)]
   rw [lev1_other _ _ _ _ (hq' p (by simp))]
   exact lev1_gt _ _ _ hx.2 (fun y hy=>hb 0 p rfl y hy p (by simp)) q hq
  ·refine ih _ (fun y hy=>?_) hnd'.2 (fun i y hy z hz y' hy'=>?_) p hp q hq
   ·rw [lev1_length];exact hin y (by simp [hy])
   ·exact hb (i+1) y (by simpa using hy) z hz y' (by simpa using hy')
/-! ### laws: the order has all processes of wires just if there is a rank -/
def wiresM (clk:List Bool):Nat:=clk.countP fun b=>!b
theorem wires_list (clk:List Bool):((List.range clk.length).filter fun p=>!clk.getD p false).length=wiresM clk:=by
 unfold wiresM
 rw [<-List.countP_eq_length_filter]
 induction clk with
 | nil=>rfl
 | cons b l ih =>
  rw [List.length_cons,List.range_succ_eq_map,List.countP_cons,List.countP_cons,List.countP_map]
  have:List.countP ((fun p=>!(b::l).getD p false) ∘ Nat.succ) (List.range l.length)=List.countP (fun p=>!l.getD p false) (List.range l.length):=by
   refine List.countP_congr fun x _=>?_
   simp
  rw [this,ih]
  simp
end Go.Proofs.YtoaamjgfhppppaaGreat
