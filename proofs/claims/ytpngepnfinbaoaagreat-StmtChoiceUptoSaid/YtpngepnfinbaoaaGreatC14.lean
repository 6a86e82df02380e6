/- Laws and walks that a claim of this seat leans on: Told, StmtP, Repeat, Graph, Drive, MarkL, WsL. -/
import Derived.Test.YtpngepnfinbaoaaGreatC13
import Derived.Test.YtpngepnfinbaoaaGreatCWrites
import Derived.Test.YtpngepnfinbaoaaGreatCAlways
import Derived.Test.YtpngepnfinbaoaaGreatCReads
import Derived.Test.YtpngepnfinbaoaaGreatC06
import Derived.Test.YtpngepnfinbaoaaGreatC01
import Derived.Laws.CopyOwn
import Derived.Lib.ItoaNum
import Derived.Test.YtpngepnfinbaoaaGreatC08
import Derived.Test.YtpngepnfinbaoaaGreatC00
set_option maxRecDepth 100000
set_option maxHeartbeats 8000000
set_option linter.all false
namespace Go.Proofs.YtpngepnfinbaoaaGreat
open Go.RowKit
theorem wpList_call_fvx {P:Program} {ops:Array Oper} {rest:List Oper} {o:Oper} {a:Act} {w:World} {Q:Exit->Act->World->Prop} (hw:Region.wanted o (yielded ops a.tmps)=true)
  (x:Operand) (l:List Operand) (ats:Array TypeId) (ho:o.op=.call { callee:=.value x,args:=l.toArray,argTypes:=ats })
  {g:FuncId} {lb:Array Value} (hx:a.eval x=.func (.func g) #[] lb) (eg:Leads P g) {args:List Value} (hargs:l.map a.eval=args) {R:Value->World->Prop}
  (hc:Calls P g (args.toArray++lb) w fun r w'=>∃ u,r=.returned u/\R u w') (h:∀ u w',R u w'->wpList P ops Q rest (a.put o.dst u) w'):wpList P ops Q (o::rest) a w :=
 BigFrame.wpList_want hw fun K hK=>by
  obtain ⟨dst,op,ty,pos,after,guard⟩:=o
  simp only at ho
  subst ho
  subst hargs
  rw [<-List.map_toArray] at hc
  generalize l.toArray=xs at *
  have hrun:(execOp a.eval { dst,op:=.call { callee:=.value x,args:=xs,argTypes:=ats },type:=ty,pos,after,guard }).run P w=.ok (.enter g (xs.map a.eval++lb)) w:=by
   have h1:execOp a.eval { dst,op:=.call { callee:=.value x,args:=xs,argTypes:=ats },type:=ty,pos,after,guard } = (Deferred.ofValue (a.eval x) (xs.map a.eval) >>= fun d=>invoke d.target d.args):=rfl
   have h2:(Deferred.ofValue (.func (.func g) #[] lb) (xs.map a.eval) >>= fun d=>invoke d.target d.args)=callFunc g (#[]++xs.map a.eval++lb):=rfl
   rw [h1,hx,h2,eg,Array.empty_append]
  unfold Oper.wp
  rw [hrun]
  exact hc.mono fun r w' ⟨u,hr,hR⟩=>by subst hr;exact hK _ _ (h u w' hR)
def toldOk (d:Flat) (p:Int):Bool:=decide (checkM d=0)&&decide (0<=p)&&decide (p<d.procs.length)
theorem toldP_calls (d:Flat) (v:Value) (w:World) (h:FlatV w v d) (hok:d.ok) (p:Int) (hpr:-9223372036854775808<=p/\p<=9223372036854775807) (g:FuncId) (lb:Array Value) (eg:Leads Tryz.prog g) (res:List Int)
  (hg:checkM d=0->0<=p->∀ (hp:p.toNat<d.procs.length),∀ W at' lv,Ext w W->Ints W at' (offsM d.signals d.signals.length)->Ts W lv d.procs[p.toNat].l ->
   Calls Tryz.prog g ([at',lv].toArray++lb) W fun r w'=>∃ u,r=.returned u/\IntRow W.heap.size u res w'/\Ext W w') :
  Calls Tryz.prog 29 #[v,.int .i64 p,.func (.func g) #[] lb] w fun r w'=>∃ u,r=.returned (.tuple #[u,.int .i64 (if toldOk d p=true then 0 else 1)])/\IntRow w.heap.size u (if toldOk d p=true then res else []) w'/\Ext w w':=by
 have HF:=Jh h
 have HG:=Jh hg
 obtain ⟨sv,pv,cv,rfl,hS,hP,hC⟩:=h
 have HX:=Jh (ext_alloc w (.cells [sv,pv,cv].toArray 26))
 have HB:=Jh (Blk.new w [sv,pv,cv].toArray 26)
 have HBT:=Jh (Bits_calls d _ _ (HF.out.ext HX.out) hok)
 have hln:=hok.procs
 obtain ⟨a0,b0,o0,c0,rfl,hc1,hc2,ha,hr⟩:=hP.open
 have HA:=Jh ha
 have HR:=Jh hr
 clear hS hP hC ha hr hg
 obtain ⟨q,hq⟩:∃ q,toldOk d p=q:=⟨_,rfl⟩
 rw [hq]
 have HQ:=Jh hq
 clear hq
 go_enter Tryz.func29,Tryz.ntmps29
 go_upto_region 1 with fail
 have hs1:(w.alloc (.cells [sv,.slice a0 d.procs.length c0,cv].toArray 26)).heap.size=w.heap.size+1:=by simp
 generalize w.alloc _=w1 at *
 by_cases hck:checkM d=0
 ·have HC0:=Jh hck
  have hbt:=HBT.out
  rw [if_pos hck,if_pos hck] at hbt
  have HB1:=Jh hbt
  clear hbt hck HBT
  by_cases hp0:p<0
  ·have hqf:q=false:=by rw [<-HQ.out];unfold toldOk;simp;omega
   subst hqf
   go_wp2_with (first | ((with_reducible show Jl 26);refine Jm 26 (HB.out.has) agg_Flat rfl ?_) | (go_at_call 17;refine HB1.out.mono ?_;rintro r w2 ⟨u,rfl,hr2,hx2⟩))
   refine bodyPost_ret (v:=.tuple #[.slice Option.none 0 0,.int .i64 1]) (by simp [results,Tryz.results29,go_sem]) rfl ⟨.slice Option.none 0 0,rfl,by exact IntRow.nil _ _,HX.out.trans hx2⟩
  ·by_cases hpn:p<d.procs.length
   ·have hqf:q=true:=by rw [<-HQ.out];unfold toldOk;simp [HC0.out];omega
    subst hqf
    obtain ⟨k,rfl⟩:∃ k:Nat,p=k:=⟨p.toNat,by omega⟩
    have hk:k<d.procs.length:=by omega
    obtain rfl:=HA.out (by omega)
    obtain ⟨s1,hhas,hts⟩:=Procs.get HR.out hk
    have HHAS:=Jh hhas
    have HTS:=Jh hts
    have hg:=HG.out HC0.out (by omega) (by simpa using hk)
    simp only [Int.toNat_natCast] at hg
    have HG2:=Jh hg
    clear hhas hts hg
    go_upto_region 4 with (first | ((with_reducible show Jl 26);refine Jm 26 (HB.out.has) agg_Flat rfl ?_) | (go_at_call 17;refine HB1.out.mono ?_;rintro r w2 ⟨u,rfl,hr2,hx2⟩;have z1:=((HB.out).ext hx2).has 1 _ rfl))
    have hX2:=HX.out.trans hx2
    have y1:=(HHAS.out.ext hX2) 1 _ rfl
    have hcall:=HG2.out w2 u s1 hX2 hr2.cells (HTS.out.ext hX2)
    go_wp2_with ((with_reducible show Jw (Op.call { callee:=.value (.tmp _),args:=_,argTypes:=_ }));refine wpList_call_fvx rfl _ [_,_] _ rfl rfl eg rfl hcall ?_;rintro u3 w3 ⟨hr3,hx3⟩)
    refine bodyPost_ret (v:=.tuple #[u3,.int .i64 0]) (by simp [results,Tryz.results29,go_sem]) rfl ⟨u3,rfl,by exact hr3.less (by have:=hX2.size;omega),hX2.trans hx3⟩
   ·have hqf:q=false:=by rw [<-HQ.out];unfold toldOk;simp;omega
    subst hqf
    go_wp2_with (first | ((with_reducible show Jl 26);refine Jm 26 (HB.out.has) agg_Flat rfl ?_) | (go_at_call 17;refine HB1.out.mono ?_;rintro r w2 ⟨u,rfl,hr2,hx2⟩;have z1:=((HB.out).ext hx2).has 1 _ rfl))
    refine bodyPost_ret (v:=.tuple #[.slice Option.none 0 0,.int .i64 1]) (by simp [results,Tryz.results29,go_sem]) rfl ⟨.slice Option.none 0 0,rfl,by exact IntRow.nil _ _,HX.out.trans hx2⟩
 ·have hqf:q=false:=by rw [<-HQ.out];unfold toldOk;simp [hck]
  subst hqf
  have hbt:=HBT.out
  rw [if_neg hck,if_neg hck] at hbt
  have HB1:=Jh hbt
  clear hbt hck HBT
  go_wp2_with (first | ((with_reducible show Jl 26);refine Jm 26 (HB.out.has) agg_Flat rfl ?_) | (go_at_call 17;refine HB1.out.mono ?_;rintro r w2 ⟨u,rfl,hr2,hx2⟩))
  refine bodyPost_ret (v:=.tuple #[.slice Option.none 0 0,.int .i64 1]) (by simp [results,Tryz.results29,go_sem]) rfl ⟨.slice Option.none 0 0,rfl,by exact IntRow.nil _ _,HX.out.trans hx2⟩
/-! ### stmt.Writes, stmt.Reads, stmt.Always of a process -/
theorem always_calls (offs:List Int) (hob:∀ o∈offs,0<=o/\o<=1099511627776) (l:List T) (hok:∀ t∈l,AlwOk offs t) (hn:sumBy nodesT l<=1048576):AlwaysSaid offs l:=by
 have key:∀ t:T,AlwOk offs t->nodesT t<=1048576->AlwaysSaid offs t.l/\∀ x∈t.l,AlwaysSaid offs x.l:=by
  intro t
  induction t using T.ind with
  | h t ih =>
   intro h1 h2
   have h3:=((AlwOk_iff _ _).1 h1).2.2
   have h4:=nodesT_eq t
   have ih':∀ x∈t.l,AlwaysSaid offs x.l/\∀ y∈x.l,AlwaysSaid offs y.l:=fun x hx=>ih x hx (h3 x hx) (by have:=le_sumBy nodesT t.l x hx;omega)
   exact ⟨always_step offs hob t.l h3 (by omega) (fun x hx=>(ih' x hx).1) (fun x hx=>(ih' x hx).2),fun x hx=>(ih' x hx).1⟩
 exact always_step offs hob l hok hn (fun t ht=>(key t (hok t ht) (by have:=le_sumBy nodesT l t ht;omega)).1) (fun t ht=>(key t (hok t ht) (by have:=le_sumBy nodesT l t ht;omega)).2)
/-! what a shaped design gives -/
theorem offsM_bound (ls:List Signal) (hw:∀ x∈ls,1<=x.w/\x.w<=64) (hl:ls.length<=1048576):∀ o∈offsM ls ls.length,0<=o/\o<=1099511627776:=by
 intro o ho
 obtain ⟨k,hk,rfl⟩:=List.mem_map.1 ho
 have:=sumW_le ls hw k (by have:=List.mem_range.1 hk;omega)
 have:=List.mem_range.1 hk
 omega
def StD (ls:List Signal):T->Prop
 | ⟨op,sig,hi,lo,e,l⟩=>(op=1->slice ls sig hi lo=true)/\(op=2\/op=3->0<l.length)/\(∀ x∈e,shape ls x=true)/\oks l
where oks:List T->Prop
 | []=>True
 | t::l=>StD ls t/\oks l
theorem StD.oks_iff (ls:List Signal) (l:List T):StD.oks ls l↔∀ t∈l,StD ls t:=by
 induction l with
 | nil=>simp [StD.oks]
 | cons e l ih=>simp [StD.oks,ih]
theorem StD_iff (ls:List Signal) (t:T):StD ls t↔(t.op=1->slice ls t.sig t.hi t.lo=true)/\(t.op=2\/t.op=3->0<t.l.length)/\(∀ x∈t.e,shape ls x=true)/\∀ x∈t.l,StD ls x:=by
 cases t;simp [StD,StD.oks_iff]
theorem stD_of_shapeT (ls:List Signal) (t:T):(shapeT ls t=true->StD ls t)/\(shapeT.armT ls t=true->StD ls t):=by
 induction t using T.ind with
 | h t ih =>
  have harms:∀ l:List T,(∀ x∈l,x∈t.l)->shapeT.arms ls l=true->∀ x∈l,StD ls x:=by
   intro l
   induction l with
   | nil=>intro _ _ x hx;cases hx
   | cons y l ih2 =>
    intro hm ha x hx
    rw [shapeT.arms,Bool.and_eq_true,Bool.and_eq_true] at ha
    rcases List.mem_cons.1 hx with e | hx
    ·rw [e];exact (ih _ (hm _ (by simp))).2 ha.1.2
    ·exact ih2 (fun z hz=>hm z (by simp [hz])) ha.2 x hx
  constructor
  ·intro ht
   rw [shapeT_eq] at ht
   split at ht
   ·cases ht
   ·rename_i h0
    have hE:∀ x∈t.e,shape ls x=true:=by
     intro x hx
     have h0':(t.e.any fun x=>!shape ls x)=false:=by
      cases hh:(t.e.any fun x=>!shape ls x)
      ·rfl
      ·exfalso;apply h0;rw [hh];rfl
     have:=List.any_eq_false.1 h0' x hx
     simpa using this
    split at ht
    ·rename_i h3
     simp only [Bool.and_eq_true,decide_eq_true_eq] at ht
     exact (StD_iff ls t).2 ⟨fun h1=>by omega,fun _=>ht.2.2,hE,harms t.l (fun _ h=>h) ht.2.1⟩
    ·split at ht
     ·rename_i h3 h1
      simp only [Bool.and_eq_true,decide_eq_true_eq] at ht
      have hl:t.l=[]:=List.eq_nil_of_length_eq_zero ht.1.2
      exact (StD_iff ls t).2 ⟨fun _=>ht.2,fun h=>by omega,hE,by rw [hl];intro x hx;cases hx⟩
     ·split at ht
      ·simp only [Bool.and_eq_true,List.all_eq_true,decide_eq_true_eq] at ht
       exact (StD_iff ls t).2 ⟨fun h=>by omega,fun h=>by omega,hE,fun x hx=>(ih x hx).1 (ht.2 x hx)⟩
      ·split at ht
       ·simp only [Bool.and_eq_true,List.all_eq_true] at ht
        exact (StD_iff ls t).2 ⟨fun h=>by omega,fun h=>by omega,hE,fun x hx=>(ih x hx).1 (ht.2 x hx)⟩
       ·cases ht
  ·intro ht
   rw [shapeT.armT_eq] at ht
   simp only [Bool.and_eq_true,decide_eq_true_eq,List.all_eq_true] at ht
   exact (StD_iff ls t).2 ⟨fun h=>by omega,fun h=>by omega,fun x hx=>(ht.1.2 x hx).2,fun x hx=>(ih x hx).1 (ht.2 x hx)⟩
theorem stD_of_check {d:Flat} (h:checkM d=0):∀ p∈d.procs,∀ t∈p.l,StD d.signals t:=by
 have h1:=checkM_shaped h
 unfold shapedM at h1
 simp only [Bool.and_eq_true,Bool.not_eq_true',List.any_eq_false,Bool.not_eq_eq_eq_not,Bool.not_true] at h1
 intro p hp t ht
 refine (stD_of_shapeT d.signals t).1 ?_
 have:=h1.1.2 p hp
 simp only [List.any_eq_true,not_exists,not_and] at this
 simpa using this t ht
/-! each statement that stands in statements -/
theorem eachT_all {P:T->Prop} (hP:∀ t,P t->∀ x∈t.l,P x) (t:T):P t->∀ x∈eachT t,P x:=by
 induction t using T.ind with
 | h t ih =>
  intro ht x hx
  rw [eachT_eq,eachTs_eq] at hx
  rcases List.mem_cons.1 hx with e | hx
  ·rw [e];exact ht
  ·obtain ⟨m,hm,hx⟩:=List.mem_flatten.1 hx
   obtain ⟨y,hy,rfl⟩:=List.mem_map.1 hm
   exact ih y hy (hP t ht y hy) x hx
theorem eachTs_all {P:T->Prop} (hP:∀ t,P t->∀ x∈t.l,P x) (l:List T) (h:∀ t∈l,P t):∀ t∈eachT.eachTs l,P t:=by
 intro x hx
 rw [eachTs_eq] at hx
 obtain ⟨m,hm,hx⟩:=List.mem_flatten.1 hx
 obtain ⟨y,hy,rfl⟩:=List.mem_map.1 hm
 exact eachT_all hP y (h y hy) x hx
def eLen (t:T):Nat:=1+sumBy nodes t.e
theorem eachT_sum (t:T):sumBy eLen (eachT t)=nodesT t:=by
 induction t using T.ind with
 | h t ih =>
  have key:∀ l:List T,(∀ x∈l,x∈t.l)->sumBy eLen (eachT.eachTs l)=sumBy nodesT l:=by
   intro l
   induction l with
   | nil=>intro _;rfl
   | cons y l ih2 =>
    intro hm
    rw [eachT.eachTs,sumBy_append,ih y (hm y (by simp)),ih2 fun z hz=>hm z (by simp [hz])]
    rfl
  rw [eachT_eq,sumBy,key t.l fun _ h=>h,nodesT_eq,eLen]
  omega
theorem eachTs_sum (l:List T):sumBy eLen (eachT.eachTs l)=sumBy nodesT l:=by
 induction l with
 | nil=>rfl
 | cons y l ih=>rw [eachT.eachTs,sumBy_append,eachT_sum,ih];rfl
theorem eachTs_length (l:List T):(eachT.eachTs l).length<=sumBy nodesT l:=by
 rw [<-eachTs_sum]
 exact length_le_sumBy eLen _ fun t _=>by unfold eLen;omega
theorem partsE_length (ls:List Signal) (e:E):(partsE ls e).length<=nodes e:=by
 induction e using E.ind with
 | h e ih =>
  have key:∀ l:List E,(∀ x∈l,x∈e.l)->((l.map (partsE ls)).flatten).length<=sumBy nodes l:=by
   intro l
   induction l with
   | nil=>intro _;simp
   | cons y l ih2 =>
    intro hm
    have q1:=ih y (hm y (by simp))
    have q2:=ih2 fun z hz=>hm z (by simp [hz])
    simp only [List.map_cons,List.flatten_cons,List.length_append,sumBy]
    omega
  have h0:(spans0 ls e.op e.sig e.hi e.lo).length<=1:=by
   unfold spans0
   split
   ·simp
   ·split<;>simp
  have:=key e.l fun _ h=>h
  rw [partsE_eq,List.length_append,nodes_eq]
  omega
theorem rS_length (ls:List Signal) (ts:List T):(rS ls ts ts.length).length<=sumBy eLen ts:=by
 unfold rS
 rw [List.take_length]
 induction ts with
 | nil=>simp
 | cons t ts ih =>
  have key:∀ l:List E,((l.map (partsE ls)).flatten).length<=sumBy nodes l:=by
   intro l
   induction l with
   | nil=>simp
   | cons y l ih2 =>
    have:=partsE_length ls y
    simp only [List.map_cons,List.flatten_cons,List.length_append,sumBy]
    omega
  have:=key t.e
  simp only [List.map_cons,List.flatten_cons,List.length_append,sumBy,eLen] at ih ⊢
  omega
/-! the spans of a shaped design may be asked of -/
theorem sigW_64 (ls:List Signal) (hw:∀ x∈ls,1<=x.w/\x.w<=64) (sig:Int):sigW ls sig<=64:=by
 unfold sigW
 cases h:ls[sig.toNat]? with
 | none=>simp
 | some s=>exact (hw s (List.mem_of_getElem? h)).2
theorem numOk_slice (ls:List Signal) (hw:∀ x∈ls,1<=x.w/\x.w<=64) {sig hi lo:Int} (h:slice ls sig hi lo=true):NumOk (offsM ls ls.length) ⟨sig,hi,lo⟩:=by
 unfold slice at h
 simp only [Bool.and_eq_true,decide_eq_true_eq] at h
 have:=sigW_64 ls hw sig
 have:=offsM_length ls ls.length
 unfold NumOk
 simp only
 omega
theorem alwOk_of (ls:List Signal) (hw:∀ x∈ls,1<=x.w/\x.w<=64) (t:T):StD ls t->AlwOk (offsM ls ls.length) t:=by
 induction t using T.ind with
 | h t ih =>
  intro h
  obtain ⟨h1,h2,h3,h4⟩:=(StD_iff _ _).1 h
  exact (AlwOk_iff _ _).2 ⟨fun e=>numOk_slice ls hw (h1 e),h2,fun x hx=>ih x hx (h4 x hx)⟩
theorem partsE_ok (ls:List Signal) (hw:∀ x∈ls,1<=x.w/\x.w<=64) (e:E):shape ls e=true->∀ s∈partsE ls e,NumOk (offsM ls ls.length) s:=by
 induction e using E.ind with
 | h e ih =>
  intro he s hs
  rw [shape_eq,Bool.and_eq_true,List.all_eq_true] at he
  rw [partsE_eq,List.mem_append] at hs
  rcases hs with hs | hs
  ·unfold spans0 at hs
   split at hs
   ·rename_i h2
    have h0:=he.1
    rw [h2] at h0
    simp [shape0] at h0
    rw [List.mem_singleton.1 hs]
    exact numOk_slice ls hw h0.1.2
   ·split at hs
    ·rename_i h3
     have h0:=he.1
     rw [h3] at h0
     simp [shape0] at h0
     rw [List.mem_singleton.1 hs]
     have:=sigW_64 ls hw e.sig
     have:=offsM_length ls ls.length
     unfold NumOk
     simp only
     omega
    ·cases hs
  ·obtain ⟨m,hm,hs⟩:=List.mem_flatten.1 hs
   obtain ⟨y,hy,rfl⟩:=List.mem_map.1 hm
   exact ih y hy (he.2 y hy) s hs
/-! the models -/
def procL (d:Flat) (p:Int):List T:=match d.procs[p.toNat]? with | some x=>x.l | none=>[]
def offsD (d:Flat):List Int:=offsM d.signals d.signals.length
def spansW (l:List T):List Span:=wS (eachT.eachTs l) (eachT.eachTs l).length
def spansR (ls:List Signal) (l:List T):List Span:=rS ls (eachT.eachTs l) (eachT.eachTs l).length
def writesM (d:Flat) (p:Int):List Int:=numbersM (offsD d) (spansW (procL d p))
def readsM (d:Flat) (p:Int):List Int:=numbersM (offsD d) (spansR d.signals (procL d p))
def alwaysM (d:Flat) (p:Int):List Int:=alwM (offsD d) (procL d p)
theorem procL_get {d:Flat} {p:Int} (hp:p.toNat<d.procs.length):procL d p=d.procs[p.toNat].l:=by
 unfold procL;rw [List.getElem?_eq_getElem hp]
theorem nodes_proc (d:Flat) (k:Nat) (hk:k<d.procs.length):sumBy nodesT d.procs[k].l<=mNodes d:=by
 have h1:=le_sumBy (fun p:Proc=>sumBy nodesT p.l) d.procs _ (List.getElem_mem hk)
 obtain ⟨a,b,c⟩:=d
 rw [mNodes_eq]
 simp only at h1 ⊢
 omega
structure ProcD (d:Flat) (l:List T):Prop where
 ow:∀ x∈d.signals,1<=x.w/\x.w<=64
 st:∀ t∈l,StD d.signals t
 nodes:sumBy nodesT l<=1048576
 sigs:d.signals.length<=1048576
theorem procD_of {d:Flat} (hok:d.ok) (hc:checkM d=0) (k:Nat) (hk:k<d.procs.length):ProcD d d.procs[k].l where
 ow:=checkM_w hc
 st:=stD_of_check hc _ (List.getElem_mem hk)
 nodes:=Nat.le_trans (nodes_proc d k hk) hok.nodes
 sigs:=hok.signals
theorem ProcD.each {d:Flat} {l:List T} (h:ProcD d l):∀ t∈eachT.eachTs l,StD d.signals t :=
 eachTs_all (fun t ht=>((StD_iff _ _).1 ht).2.2.2) l h.st
theorem ProcD.w {d:Flat} {l:List T} (h:ProcD d l):∀ s∈spansW l,NumOk (offsM d.signals d.signals.length) s:=by
 intro s hs
 unfold spansW wS at hs
 obtain ⟨t,ht,rfl⟩:=List.mem_map.1 hs
 obtain ⟨ht,ho⟩:=List.mem_filter.1 ht
 exact numOk_slice _ h.ow (((StD_iff _ _).1 (h.each t (List.mem_of_mem_take ht))).1 (by simpa using ho))
theorem ProcD.r {d:Flat} {l:List T} (h:ProcD d l):∀ s∈spansR d.signals l,NumOk (offsM d.signals d.signals.length) s:=by
 intro s hs
 unfold spansR rS at hs
 obtain ⟨m,hm,hs⟩:=List.mem_flatten.1 hs
 obtain ⟨t,ht,rfl⟩:=List.mem_map.1 hm
 obtain ⟨m,hm,hs⟩:=List.mem_flatten.1 hs
 obtain ⟨e,he,rfl⟩:=List.mem_map.1 hm
 exact partsE_ok _ h.ow e (((StD_iff _ _).1 (h.each t (List.mem_of_mem_take ht))).2.2.1 e he) s hs
theorem leads_Writes1:Leads Tryz.prog 35:=leads_of Tryz.func35 (by kernel_rfl) rfl
theorem leads_Reads1:Leads Tryz.prog 30:=leads_of Tryz.func30 (by kernel_rfl) rfl
theorem leads_always:Leads Tryz.prog 37:=leads_of Tryz.func37 (by kernel_rfl) rfl
theorem Writes_calls (d:Flat) (v:Value) (w:World) (h:FlatV w v d) (hok:d.ok) (p:Int) (hpr:-9223372036854775808<=p/\p<=9223372036854775807) :
  Calls Tryz.prog 15 #[v,.int .i64 p] w fun r w'=>∃ u,r=.returned (.tuple #[u,.int .i64 (if toldOk d p=true then 0 else 1)])/\IntRow w.heap.size u (if toldOk d p=true then writesM d p else []) w'/\Ext w w':=by
 have HF:=Jh h
 obtain ⟨sv,pv,cv,rfl,hS,hP,hC⟩:=h
 have hx:=ext_alloc w (.cells [sv,pv,cv].toArray 26)
 have hb:=Blk.new w [sv,pv,cv].toArray 26
 have HX:=Jh hx
 have HT:=Jh (toldP_calls d _ _ (HF.out.ext hx) hok p hpr 35 #[] leads_Writes1 (writesM d p) (fun hc h0 hp W at' lv hW ho hl=>by
  have hD:=procD_of hok hc p.toNat hp
  have:=Writes1_calls (offsM d.signals d.signals.length) d.procs[p.toNat].l at' lv W ho hl hD.w (offsM_bound _ hD.ow hD.sigs) (Nat.le_trans (eachTs_length _) hD.nodes)
  unfold writesM offsD spansW
  rw [procL_get hp]
  exact this))
 clear hS hP hC
 obtain ⟨ec,hec⟩:∃ ec:Int,(if toldOk d p=true then 0 else 1)=ec:=⟨_,rfl⟩
 obtain ⟨rs,hrs⟩:∃ rs,(if toldOk d p=true then writesM d p else [])=rs:=⟨_,rfl⟩
 rw [hec,hrs] at HT ⊢
 clear hec hrs
 go_enter Tryz.func15,Tryz.ntmps15
 go_upto_region 1 with fail
 generalize w.alloc _=w1 at *
 go_wp2_with (first | ((with_reducible show Jl 26);refine Jm 26 (hb.has) agg_Flat rfl ?_) | (go_at_call 29;refine HT.out.mono ?_;rintro r w2 ⟨u,rfl,hr2,hx2⟩))
 refine bodyPost_ret (v:=.tuple #[u,.int .i64 ec]) (by simp [results,Tryz.results15,go_sem]) rfl ⟨u,rfl,hr2.less HX.out.size,HX.out.trans hx2⟩
theorem Always_calls (d:Flat) (v:Value) (w:World) (h:FlatV w v d) (hok:d.ok) (p:Int) (hpr:-9223372036854775808<=p/\p<=9223372036854775807) :
  Calls Tryz.prog 16 #[v,.int .i64 p] w fun r w'=>∃ u,r=.returned (.tuple #[u,.int .i64 (if toldOk d p=true then 0 else 1)])/\IntRow w.heap.size u (if toldOk d p=true then alwaysM d p else []) w'/\Ext w w':=by
 have HF:=Jh h
 obtain ⟨sv,pv,cv,rfl,hS,hP,hC⟩:=h
 have hx:=ext_alloc w (.cells [sv,pv,cv].toArray 26)
 have hb:=Blk.new w [sv,pv,cv].toArray 26
 have HX:=Jh hx
 have HT:=Jh (toldP_calls d _ _ (HF.out.ext hx) hok p hpr 37 #[] leads_always (alwaysM d p) (fun hc h0 hp W at' lv hW ho hl=>by
  have hD:=procD_of hok hc p.toNat hp
  have:=always_calls (offsM d.signals d.signals.length) (offsM_bound _ hD.ow hD.sigs) d.procs[p.toNat].l (fun t ht=>alwOk_of _ hD.ow t (hD.st t ht)) hD.nodes W at' lv ho hl
  unfold alwaysM offsD
  rw [procL_get hp]
  exact this))
 clear hS hP hC
 obtain ⟨ec,hec⟩:∃ ec:Int,(if toldOk d p=true then 0 else 1)=ec:=⟨_,rfl⟩
 obtain ⟨rs,hrs⟩:∃ rs,(if toldOk d p=true then alwaysM d p else [])=rs:=⟨_,rfl⟩
 rw [hec,hrs] at HT ⊢
 clear hec hrs
 go_enter Tryz.func16,Tryz.ntmps16
 go_upto_region 1 with fail
 generalize w.alloc _=w1 at *
 go_wp2_with (first | ((with_reducible show Jl 26);refine Jm 26 (hb.has) agg_Flat rfl ?_) | (go_at_call 29;refine HT.out.mono ?_;rintro r w2 ⟨u,rfl,hr2,hx2⟩))
 refine bodyPost_ret (v:=.tuple #[u,.int .i64 ec]) (by simp [results,Tryz.results16,go_sem]) rfl ⟨u,rfl,hr2.less HX.out.size,HX.out.trans hx2⟩
theorem Reads_calls (d:Flat) (v:Value) (w:World) (h:FlatV w v d) (hok:d.ok) (p:Int) (hpr:-9223372036854775808<=p/\p<=9223372036854775807) :
  Calls Tryz.prog 14 #[v,.int .i64 p] w fun r w'=>∃ u,r=.returned (.tuple #[u,.int .i64 (if toldOk d p=true then 0 else 1)])/\IntRow w.heap.size u (if toldOk d p=true then readsM d p else []) w'/\Ext w w':=by
 have HF:=Jh h
 obtain ⟨sv,pv,cv,rfl,hS,hP,hC⟩:=h
 have hx:=ext_alloc w (.cells [sv,pv,cv].toArray 26)
 have hb:=Blk.new w [sv,pv,cv].toArray 26
 have HX:=Jh hx
 have h3:[sv,pv,cv].all (·.oneCell')=true:=by simp [hS.one,hP.one,hC.one]
 have HT:=Jh (toldP_calls d _ _ (HF.out.ext hx) hok p hpr 30 #[.pointer (some ⟨w.heap.size,0,none⟩)] leads_Reads1 (readsM d p) (fun hc h0 hp W at' lv hW ho hl=>by
  have hD:=procD_of hok hc p.toNat hp
  have:=Reads1_calls d.signals hD.ow (offsM d.signals d.signals.length) d.procs[p.toNat].l at' lv sv pv cv w.heap.size W ho hl (hS.ext (hx.trans hW)) h3 (hb.ext hW)
   (fun t ht e he=>indOk_of_shape _ e (((StD_iff _ _).1 (hD.each t ht)).2.2.1 e he)) hD.r (offsM_bound _ hD.ow hD.sigs) (Nat.le_trans (rS_length _ _) (by rw [eachTs_sum];exact hD.nodes))
  unfold readsM offsD spansR
  rw [procL_get hp]
  exact this))
 clear hS hP hC
 obtain ⟨ec,hec⟩:∃ ec:Int,(if toldOk d p=true then 0 else 1)=ec:=⟨_,rfl⟩
 obtain ⟨rs,hrs⟩:∃ rs,(if toldOk d p=true then readsM d p else [])=rs:=⟨_,rfl⟩
 rw [hec,hrs] at HT ⊢
 clear hec hrs
 go_enter Tryz.func14,Tryz.ntmps14
 go_upto_region 1 with fail
 generalize w.alloc _=w1 at *
 go_wp2_with (first | ((with_reducible show Jl 26);refine Jm 26 (hb.has) agg_Flat rfl ?_) | (go_at_call 29;refine HT.out.mono ?_;rintro r w2 ⟨u,rfl,hr2,hx2⟩))
 refine bodyPost_ret (v:=.tuple #[u,.int .i64 ec]) (by simp [results,Tryz.results14,go_sem]) rfl ⟨u,rfl,hr2.less HX.out.size,HX.out.trans hx2⟩
/-! ### slices.Repeat, of one number -/
/-! ### who drives each bit -/
def drv1 (p:Int):List Int->List Int->Option (List Int)
 | [],out=>some out
 | b::l,out=>if 0<=out.getD b.toNat 0 then none else drv1 p l (out.set b.toNat p)
def drvs:Nat->List (List Int)->List Int->Option (List Int)
 | _,[],out=>some out
 | p,l::ws,out=>match drv1 p l out with
  | none=>none
  | some o=>drvs (p+1) ws o
def drvM (n:Nat) (ws:List (List Int)):Option (List Int):=drvs 0 ws (List.replicate n (-1))
/-! ### on whom each process hangs -/
def hang1 (by':List Int) (clk:List Bool):List Int->List Int->List Int
 | [],g=>g
 | b::r,g =>
  let q:=by'.getD b.toNat 0
  if (decide (0<=q)&&!clk.getD q.toNat false&&!g.contains q)=true then hang1 by' clk r (g++[q]) else hang1 by' clk r g
def hangM (by':List Int) (clk:List Bool) (rs:List (List Int)):List (List Int):=rs.map fun r=>hang1 by' clk r []
/-! ### in which order -/
def ready (g:List (List Int)) (clk come:List Bool) (p:Nat):Bool :=
 !come.getD p false&&!clk.getD p false&&(g.getD p []).all fun q=>come.getD q.toNat false
def nextFrom (g:List (List Int)) (clk come:List Bool):Nat->Nat->Int
 | 0,_=>-1
 | n+1,p=>if ready g clk come p=true then p else nextFrom g clk come n (p+1)
def nextM (g:List (List Int)) (clk come:List Bool):Int:=nextFrom g clk come g.length 0
def orderM (g:List (List Int)) (clk:List Bool):Nat->List Bool->List Int->List Int
 | 0,_,out=>out
 | n+1,come,out =>
  let p:=nextM g clk come
  if 0<=p then orderM g clk n (come.set p.toNat true) (out++[p]) else out
/-! ### how deep -/
def lev1 (p:Nat):List Int->List Int->List Int
 | [],out=>out
 | q::l,out=>lev1 p l (out.set p (max (out.getD p 0) (out.getD q.toNat 0+1)))
def levs (g:List (List Int)):List Int->List Int->List Int
 | [],out=>out
 | p::o,out=>levs g o (lev1 p.toNat (g.getD p.toNat []) out)
/-! ### laws: drivers -/
/-! ### laws: whom a process hangs on -/
/-! ### laws: the order -/
theorem ready_iff (g:List (List Int)) (clk come:List Bool) (p:Nat):ready g clk come p=true↔come.getD p false=false/\clk.getD p false=false/\∀ q∈g.getD p [],come.getD q.toNat false=true:=by
 simp [ready,and_assoc]
structure Ord (g:List (List Int)) (clk come:List Bool) (out:List Int):Prop where
 len:come.length=g.length
 came:∀ p:Nat,come.getD p false=true↔(p:Int)∈out
 inr:∀ p∈out,0<=p/\p<g.length/\clk.getD p.toNat false=false
 nodup:out.Nodup
 behind:∀ (i:Nat) (p:Int),out[i]? = some p->∀ q∈g.getD p.toNat [],((q.toNat:Nat):Int)∈out.take i
theorem Ord.nil (g:List (List Int)) (clk:List Bool):Ord g clk (List.replicate g.length false) [] where
 len:=by simp
 came:=by
  intro p
  simp [List.getD_eq_getElem?_getD,List.getElem?_replicate]
  split<;>simp
 inr:=by intro p h;cases h
 nodup:=List.nodup_nil
 behind:=by intro i p h;simp at h
theorem Ord.snoc {g:List (List Int)} {clk come:List Bool} {out:List Int} (h:Ord g clk come out) {k:Nat} (hk:k<g.length) (hr:ready g clk come k=true) :
  Ord g clk (come.set k true) (out++[(k:Int)]):=by
 obtain ⟨r1,r2,r3⟩:=(ready_iff _ _ _ _).1 hr
 have hkc:k<come.length:=by rw [h.len];exact hk
 have hnot:(k:Int) ∉ out:=fun hm=>by rw [(h.came k).2 hm] at r1;cases r1
 refine ⟨by rw [List.length_set,h.len],?_,?_,?_,?_⟩
 ·intro p
  by_cases e:k=p
  ·subst e
   simp [List.getD_eq_getElem?_getD,List.getElem?_set_self hkc]
  ·rw [List.getD_eq_getElem?_getD,List.getElem?_set_ne e,<-List.getD_eq_getElem?_getD,h.came]
   simp
   omega
 ·intro p hp
  rcases List.mem_append.1 hp with hp | hp
  ·exact h.inr p hp
  ·simp at hp;subst hp
   exact ⟨by omega,by omega,by simpa using r2⟩
 ·rw [List.nodup_append]
  refine ⟨h.nodup,by simp,?_⟩
  intro a ha b hb
  simp at hb
  subst hb
  intro e;subst e;exact hnot ha
 ·intro i p hp q hq
  by_cases hi:i<out.length
  ·rw [List.getElem?_append_left hi] at hp
   have:=h.behind i p hp q hq
   rw [List.take_append_of_le_length (by omega)]
   exact this
  ·rw [List.getElem?_append_right (by omega)] at hp
   have hi2:i-out.length=0:=by
    have:=(List.getElem?_eq_some_iff.1 hp).1
    simp at this;omega
   rw [hi2] at hp
   simp at hp
   subst hp
   rw [Int.toNat_natCast] at hq
   have:=r3 q hq
   have hm:=(h.came _).1 this
   rw [show i=out.length by omega,List.take_left']
   ·exact hm
   ·rfl
def falses (l:List Bool):Nat:=l.countP fun b=>!b
/-! ### laws: how deep -/
/-! ### laws: the order has all processes of wires just if there is a rank -/
def wiresM (clk:List Bool):Nat:=clk.countP fun b=>!b
/-! ### plain: the bits that processes write and read are the design's -/
def SpanD (ls:List Signal) (s:Span):Prop:=0<=s.sig/\s.sig<ls.length/\0<=s.lo/\s.hi<sigW ls s.sig
theorem slice_span {ls:List Signal} {sig hi lo:Int} (h:slice ls sig hi lo=true):SpanD ls ⟨sig,hi,lo⟩:=by
 unfold slice at h
 simp only [Bool.and_eq_true,decide_eq_true_eq] at h
 unfold SpanD
 simp only
 omega
theorem ProcD.spansW {d:Flat} {l:List T} (h:ProcD d l):∀ s∈spansW l,SpanD d.signals s:=by
 intro s hs
 unfold Go.Proofs.YtpngepnfinbaoaaGreat.spansW wS at hs
 obtain ⟨t,ht,rfl⟩:=List.mem_map.1 hs
 obtain ⟨ht,ho⟩:=List.mem_filter.1 ht
 exact slice_span (((StD_iff _ _).1 (h.each t (List.mem_of_mem_take ht))).1 (by simpa using ho))
theorem partsE_span (ls:List Signal) (e:E):shape ls e=true->∀ s∈partsE ls e,SpanD ls s:=by
 induction e using E.ind with
 | h e ih =>
  intro he s hs
  rw [shape_eq,Bool.and_eq_true,List.all_eq_true] at he
  rw [partsE_eq,List.mem_append] at hs
  rcases hs with hs | hs
  ·unfold spans0 at hs
   split at hs
   ·rename_i h2
    have h0:=he.1
    rw [h2] at h0
    simp [shape0] at h0
    rw [List.mem_singleton.1 hs]
    exact slice_span h0.1.2
   ·split at hs
    ·rename_i h3
     have h0:=he.1
     rw [h3] at h0
     simp [shape0] at h0
     rw [List.mem_singleton.1 hs]
     unfold SpanD
     simp only
     omega
    ·cases hs
  ·obtain ⟨m,hm,hs⟩:=List.mem_flatten.1 hs
   obtain ⟨y,hy,rfl⟩:=List.mem_map.1 hm
   exact ih y hy (he.2 y hy) s hs
theorem ProcD.spansR {d:Flat} {l:List T} (h:ProcD d l):∀ s∈spansR d.signals l,SpanD d.signals s:=by
 intro s hs
 unfold Go.Proofs.YtpngepnfinbaoaaGreat.spansR rS at hs
 obtain ⟨m,hm,hs⟩:=List.mem_flatten.1 hs
 obtain ⟨t,ht,rfl⟩:=List.mem_map.1 hm
 obtain ⟨m,hm,hs⟩:=List.mem_flatten.1 hs
 obtain ⟨e,he,rfl⟩:=List.mem_map.1 hm
 exact partsE_span _ e (((StD_iff _ _).1 (h.each t (List.mem_of_mem_take ht))).2.2.1 e he) s hs
def nBits (d:Flat):Int:=sumW d.signals d.signals.length
def wsM (d:Flat):List (List Int):=(List.range d.procs.length).map fun (p:Nat)=>writesM d (p:Int)
def drvD (d:Flat):Int × List Int:=if checkM d=0 then (match drvM (nBits d).toNat (wsM d) with | none=>(120,[]) | some o=>(0,o)) else (1,[])
def drvEnd:Option (List Int)->Int × List Int
 | none=>(120,[])
 | some o=>(0,o)
theorem IntRow.ofBlk {N g:Nat} {l:List Int} {w:World} (h:Blk w g (l.map (Value.int .i64)).toArray 3) (hN:N<=g) (hm:l.length<=9223372036854775807):IntRow N (.slice (some ⟨g,0,none⟩) l.length l.length) l w :=
 ⟨by simp,.inr ⟨g,l.length,_,rfl,hN,h,Nat.le_refl _,by simpa [maxLen] using hm,by simp,by rw [Nat.mul_one];exact List.take_of_length_le (by simp)⟩⟩
theorem Bits_ok (d:Flat) (v:Value) (w:World) (h:FlatV w v d) (hok:d.ok) (hc:checkM d=0) :
  Calls Tryz.prog 17 #[v] w fun r w'=>∃ u,r=.returned (.tuple #[u,.int .i64 0])/\IntRow w.heap.size u (offsM d.signals d.signals.length) w'/\Ext w w':=by
 have:=Bits_calls d v w h hok
 rw [if_pos hc,if_pos hc] at this
 exact this
/-! ### marks: of the numbers below n those that a list has -/
def setB (n:Nat) (S:List Int):List Bool:=(List.range n).map fun (i:Nat)=>decide ((i:Int)∈S)
def markedK (bl:List Bool) (k:Nat):List Int:=((List.range k).filter fun i=>bl.getD i false).map fun (i:Nat)=>(i:Int)
/-! ### what a span marks, number by number -/
def numsK (offs:List Int) (s:Span) (k:Nat):List Int:=(List.range k).map fun (j:Nat)=>offs.getD s.sig.toNat 0+(s.lo+(j:Int))
/-! ### all that is marked stands in the design -/
theorem allNums_append (offs:List Int) (xs ys:List Span):allNums offs (xs++ys)=allNums offs xs++allNums offs ys:=by
 unfold allNums;rw [List.map_append,List.flatten_append]
def wsN (ls:List Signal) (op w v sig hi lo n:Int) (ws:List Int):Prop :=
 (op=1/\ws=[]/\1<=w/\w<=64/\holds w v=true/\sig=0/\hi=0/\lo=0/\n=0) \/
 (op=2/\ws=[]/\slice ls sig hi lo=true/\w=hi-lo+1/\v=0/\n=0) \/
 (op=3/\(∃ k,ws=[k])/\0<=sig/\sig<ls.length/\w=1/\v=0/\hi=0/\lo=0/\n=0) \/
 (op=4/\(∃ k,ws=[k]/\(1<=n/\n<=2/\k=w\/3<=n/\n<=5/\w=1\/n=6/\w=1/\k=1))/\v=0/\sig=0/\hi=0/\lo=0) \/
 (op=5/\(∃ j k,ws=[j,k]/\(11<=n/\n<=16/\j=w/\k=w\/17<=n/\n<=18/\j=w\/19<=n/\n<=24/\w=1/\j=k\/25<=n/\n<=26/\w=1/\j=1/\k=1))/\v=0/\sig=0/\hi=0/\lo=0) \/
 (op=6/\ws=[1,w,w]/\v=0/\sig=0/\hi=0/\lo=0/\n=0) \/
 (op=7/\ws≠[]/\w=ws.sum/\w<=64/\v=0/\sig=0/\hi=0/\lo=0/\n=0) \/
 (op=8/\(∃ k,ws=[k]/\(31<=n/\n<=32/\k<=w\/n=33/\w<=k))/\1<=w/\w<=64/\v=0/\sig=0/\hi=0/\lo=0)
def WS (ls:List Signal):E->Prop
 | ⟨op,w,v,sig,hi,lo,n,l⟩=>wsN ls op w v sig hi lo n (l.map (·.w))/\all l
where all:List E->Prop
 | []=>True
 | e::l=>WS ls e/\all l
theorem WS_iff (ls:List Signal) (e:E):WS ls e↔wsN ls e.op e.w e.v e.sig e.hi e.lo e.n (e.l.map (·.w))/\∀ x∈e.l,WS ls x:=by
 have h:∀ l,WS.all ls l↔∀ x∈l,WS ls x:=by
  intro l;induction l with
  | nil=>simp [WS.all]
  | cons x l ih=>simp [WS.all,ih]
 cases e;simp [WS,h]
theorem map1 {α β:Type} {f:α->β} {l:List α} {a:β} (h:l.map f=[a]):∃ x,l=[x]/\f x=a:=by
 cases l with
 | nil=>cases h
 | cons x l=>simp at h;exact ⟨x,by rw [h.2],h.1⟩
theorem map2 {α β:Type} {f:α->β} {l:List α} {a b:β} (h:l.map f=[a,b]):∃ x y,l=[x,y]/\f x=a/\f y=b:=by
 cases l with
 | nil=>cases h
 | cons x l =>
  simp only [List.map_cons,List.cons.injEq] at h
  obtain ⟨y,rfl,h2⟩:=map1 h.2
  exact ⟨x,y,rfl,h.1,h2⟩
theorem map3 {α β:Type} {f:α->β} {l:List α} {a b c:β} (h:l.map f=[a,b,c]):∃ x y z,l=[x,y,z]/\f x=a/\f y=b/\f z=c:=by
 cases l with
 | nil=>cases h
 | cons x l =>
  simp only [List.map_cons,List.cons.injEq] at h
  obtain ⟨y,z,rfl,h2,h3⟩:=map2 h.2
  exact ⟨x,y,z,rfl,h.1,h2,h3⟩
theorem own_cat_sum (l:List E) (h:∀ x∈l,own x=x.w/\1<=x.w):∀ n,own.cat l n=n+(l.map (·.w)).sum:=by
 induction l with
 | nil=>intro n;simp [own.cat]
 | cons x l ih =>
  intro n
  have hx:=h x (by simp)
  rw [own.cat,if_neg (by omega),ih (fun y hy=>h y (by simp [hy]))]
  simp only [List.map_cons,List.sum_cons]
  omega
theorem sum_pos (l:List E) (h:∀ x∈l,1<=x.w):(l.length:Int)<=(l.map (·.w)).sum:=by
 induction l with
 | nil=>simp
 | cons x l ih =>
  have:=h x (by simp)
  have:=ih fun y hy=>h y (by simp [hy])
  simp only [List.map_cons,List.sum_cons,List.length_cons]
  omega
theorem ws_own {ls:List Signal} (hls:∀ x∈ls,x.w<=64) (e:E):WS ls e->own e=e.w/\1<=e.w/\e.w<=64:=by
 induction e using E.ind with
 | h e ih =>
  intro h
  obtain ⟨h0,hp⟩:=(WS_iff ls e).1 h
  have ih2:=fun x hx=>ih x hx (hp x hx)
  clear ih hp h
  rw [own_eq]
  obtain ⟨op,w,v,sig,hi,lo,n,l⟩:=e
  simp only at h0 ih2 ⊢
  rcases h0 with ⟨rfl,-,h1,h2,-⟩ | ⟨rfl,-,h1,h2,-⟩ | ⟨rfl,⟨k,hk⟩,-,-,rfl,-⟩ | ⟨rfl,⟨k,hk,h1⟩,-⟩ | ⟨rfl,⟨j,k,hk,h1⟩,-⟩ | ⟨rfl,hk,-⟩ | ⟨rfl,h1,h2,h3,-⟩ | ⟨rfl,⟨k,hk,h1⟩,h2,h3,-⟩
  ·simp;omega
  ·have:=slice_le ls hls h1
   have:=sigW_le ls hls sig
   simp;omega
  ·simp
  ·obtain ⟨x,rfl,rfl⟩:=map1 hk
   have:=ih2 x (by simp)
   rcases h1 with ⟨a1,a2,a3⟩ | ⟨a1,a2,a3⟩ | ⟨rfl,a2,a3⟩
   ·simp [a2,own.hd];omega
   ·simp [show ¬ n<=2 by omega];omega
   ·simp;omega
  ·obtain ⟨x,y,rfl,rfl,rfl⟩:=map2 hk
   have hx:=ih2 x (by simp)
   have hy:=ih2 y (by simp)
   rcases h1 with ⟨a1,a2,a3,a4⟩ | ⟨a1,a2,a3⟩ | ⟨a1,a2,a3,a4⟩ | ⟨a1,a2,a3,a4⟩
   ·simp [a2,own.fst,show ¬ own x=0 by omega];omega
   ·simp [show ¬ n<=16 by omega,a2,own.hd];omega
   ·simp [show ¬ n<=16 by omega,show ¬ n<=18 by omega];omega
   ·simp [show ¬ n<=16 by omega,show ¬ n<=18 by omega];omega
  ·obtain ⟨c,x,y,rfl,hc,hx,hy⟩:=map3 hk
   have:=ih2 x (by simp)
   simp [own.fst2,own.fst,show ¬ own x=0 by omega];omega
  ·have hs:=sum_pos l (fun x hx=>(ih2 x hx).2.1)
   have hl:0<l.length:=by cases l with
    | nil=>exact absurd rfl h1
    | cons=>simp
   simp
   rw [own_cat_sum l (fun x hx=>⟨(ih2 x hx).1,(ih2 x hx).2.1⟩)]
   omega
  ·simp;omega
theorem sizeL_rep0 (l:List E) (h:∀ x∈l,sizeE x 0=.ok x):sizeE.sizeL l (List.replicate l.length 0)=.ok l:=by
 induction l with
 | nil=>rfl
 | cons x l ih =>
  simp only [List.length_cons,List.replicate_succ,sizeE.sizeL,List.headD_cons,List.tail_cons,h x (by simp),ih (fun y hy=>h y (by simp [hy]))]
theorem sizeL_inv {x y:E} {l r:List E} {ps:List Int} (h:sizeE.sizeL (x::l) ps=.ok (y::r)):sizeE x (ps.headD 0)=.ok y/\sizeE.sizeL l ps.tail=.ok r:=by
 rw [sizeE.sizeL] at h
 cases hx:sizeE x (ps.headD 0) with
 | error f=>simp only [hx] at h;cases h
 | ok x' =>
  simp only [hx] at h
  cases hl:sizeE.sizeL l ps.tail with
  | error f=>simp only [hl] at h;cases h
  | ok r' =>
   simp only [hl] at h
   injection h with h
   injection h with h1 h2
   rw [h1,h2];exact ⟨rfl,rfl⟩
theorem sizeL_rep_inv (k:Int) (l:List E) (h:sizeE.sizeL l (List.replicate l.length k)=.ok l):∀ x∈l,sizeE x k=.ok x:=by
 induction l with
 | nil=>simp
 | cons x l ih =>
  obtain ⟨h1,h2⟩:=sizeL_inv h
  simp only [List.length_cons,List.replicate_succ,List.headD_cons,List.tail_cons] at h1 h2
  intro y hy
  cases hy with
  | head=>exact h1
  | tail _ hy=>exact ih h2 y hy
theorem ws_size {ls:List Signal} (hls:∀ x∈ls,x.w<=64) (e:E):WS ls e->∀ p,(p=0\/p=e.w\/p = -1/\e.w=1)->sizeE e p=.ok e:=by
 induction e using E.ind with
 | h e ih =>
  intro h p hpp
  have ho:=ws_own hls e h
  have hop:=fun x hx=>ws_own hls x (((WS_iff ls e).1 h).2 x hx)
  obtain ⟨h0,hp⟩:=(WS_iff ls e).1 h
  have ih2:=fun x hx=>ih x hx (hp x hx)
  clear ih hp h
  have hw2:told (if p = -1 then 1 else p) (told (own e) 32)=e.w:=by
   rw [ho.1]
   unfold told
   rcases hpp with rfl | rfl | ⟨rfl,h1⟩
   ·simp [show ¬ e.w=0 by omega]
   ·rw [if_neg (by omega),if_neg (by omega)]
   ·simp [h1]
  rw [sizeE_eq,hw2,if_neg (by rintro ⟨rfl,h1⟩;rcases hpp with h2 | h2 | h2<;>omega),if_neg (by omega)]
  clear hw2 hpp
  have ho1:=ho.1
  rw [own_eq] at ho1
  obtain ⟨op,w,v,sig,hi,lo,n,l⟩:=e
  simp only at h0 ih2 ho ho1 hop ⊢
  have hl0:sizeE.sizeL l (List.replicate l.length 0)=.ok l:=sizeL_rep0 l fun x hx=>ih2 x hx 0 (.inl rfl)
  rcases h0 with ⟨rfl,hk,h1,h2,-⟩ | ⟨rfl,hk,h1,h2,-⟩ | ⟨rfl,⟨k,hk⟩,-,-,rfl,-⟩ | ⟨rfl,⟨k,hk,h1⟩,-⟩ | ⟨rfl,⟨j,k,hk,h1⟩,-⟩ | ⟨rfl,hk,-⟩ | ⟨rfl,h1,h2,h3,-⟩ | ⟨rfl,⟨k,hk,h1⟩,h2,h3,-⟩
  ·simp [wantedL,ho.1,hl0]
  ·simp [wantedL,ho.1,hl0]
  ·simp [wantedL,ho.1,hl0]
  ·obtain ⟨x,rfl,rfl⟩:=map1 hk
   have hx:=ih2 x (by simp)
   rcases h1 with ⟨a1,a2,a3⟩ | ⟨a1,a2,a3⟩ | ⟨rfl,a2,a3⟩
   ·have:n=1\/n=2:=by omega
    rcases this with rfl | rfl<;>simp [wantedL,sizeE.sizeL,hx w (by omega)]
   ·have:n=3\/n=4\/n=5:=by omega
    rcases this with rfl | rfl | rfl<;>simp [wantedL,sizeE.sizeL,a3,hx 0 (by simp)]
   ·simp [wantedL,sizeE.sizeL,a2,hx (-1) (by omega)]
  ·obtain ⟨x,y,rfl,rfl,rfl⟩:=map2 hk
   have hx:=ih2 x (by simp)
   have hy:=ih2 y (by simp)
   have ox:=hop x (by simp)
   rcases h1 with ⟨a1,a2,a3,a4⟩ | ⟨a1,a2,a3⟩ | ⟨a1,a2,a3,a4⟩ | ⟨a1,a2,a3,a4,a5⟩
   ·have:n=11\/n=12\/n=13\/n=14\/n=15\/n=16:=by omega
    rcases this with rfl | rfl | rfl | rfl | rfl | rfl<;>simp [wantedL,sizeE.sizeL,List.replicate,hx w (by omega),hy w (by omega)]
   ·have:n=17\/n=18:=by omega
    rcases this with rfl | rfl<;>simp [wantedL,sizeE.sizeL,List.replicate,hx w (by omega),hy 0 (by omega)]
   ·have ht:told (own.fst [x,y]) 32=x.w:=by
     simp only [own.fst,ox.1]
     rw [if_neg (by omega)];unfold told;rw [if_neg (by omega)]
    have:n=19\/n=20\/n=21\/n=22\/n=23\/n=24:=by omega
    rcases this with rfl | rfl | rfl | rfl | rfl | rfl<;>simp [wantedL,sizeE.sizeL,List.replicate,ht,a3,hx x.w (by simp),hy x.w (by omega)]
   ·have:n=25\/n=26:=by omega
    rcases this with rfl | rfl<;>simp [wantedL,sizeE.sizeL,List.replicate,a3,hx (-1) (by omega),hy (-1) (by omega)]
  ·obtain ⟨c,x,y,rfl,hc,hx,hy⟩:=map3 hk
   simp [wantedL,sizeE.sizeL,List.replicate,ih2 c (by simp) (-1) (by omega),ih2 x (by simp) w (by omega),ih2 y (by simp) w (by omega)]
  ·simp [wantedL,ho.1,hl0,show ¬ w=0 by omega,show ¬ 64<w by omega]
  ·obtain ⟨x,rfl,rfl⟩:=map1 hk
   have hl1:sizeE.sizeL [x] [0]=.ok [x]:=hl0
   simp [wantedL,ho.1,hl1,sizeE.hdW]
   omega
theorem ws_of_size {ls:List Signal} (hls:∀ x∈ls,x.w<=64) (e:E):shape ls e=true->∀ p,-1<=p->sizeE e p=.ok e->WS ls e/\e.w=told (if p = -1 then 1 else p) (told (own e) 32):=by
 induction e using E.ind with
 | h e ih =>
  intro hs p hpp h
  have hok:=ownOk_of_shape ls hls e hs
  have hon:=(own_le e hok).1
  rw [shape_eq,Bool.and_eq_true,List.all_eq_true] at hs
  obtain ⟨hs0,hsp⟩:=hs
  have ih2:=fun x hx=>ih x hx (hsp x hx)
  have hpos:1<=told (if p = -1 then 1 else p) (told (own e) 32):=by
   unfold told
   repeat' split
   all_goals omega
  have ho:=own_eq e
  have hokp:=fun x hx=>(own_le x (((OwnOk_iff e).1 hok).2.2.2 x hx)).1
  rw [sizeE_eq] at h
  clear hok
  generalize told (if p = -1 then 1 else p) (told (own e) 32)=w2 at *
  clear ih
  split at h
  ·cases h
  ·split at h
   ·rename_i h2
    split at h
    ·injection h with h
     have:=congrArg E.w h
     simp only at this
     omega
    ·cases h
   ·split at h
    ·cases h
    ·rename_i ps hps
     split at h
     ·cases h
     ·rename_i l' hl'
      split at h
      ·cases h
      ·rename_i hext
       injection h with h
       have hw:=congrArg E.w h
       have hl:=congrArg E.l h
       simp only at hw hl
       subst hl
       subst hw
       refine ⟨(WS_iff ls e).2 ?_,rfl⟩
       clear h
       obtain ⟨op,w,v,sig,hi,lo,n,l⟩:=e
       simp only at *
       have all0:ps=List.replicate l.length 0->∀ x∈l,WS ls x:=fun hq x hx=>(ih2 x hx 0 (by omega) (sizeL_rep_inv 0 l (by rw [<-hq];exact hl') x hx)).1
       have t0:∀ x∈l,∀ k,-1<=k->k≠0->sizeE x k=.ok x->WS ls x/\x.w=if k = -1 then 1 else k:=fun x hx k hk hk0 hq=>by
        obtain ⟨q1,q2⟩:=ih2 x hx k hk hq
        refine ⟨q1,?_⟩
        rw [q2];unfold told
        rw [if_neg (by split<;>omega)]
       have ihz:=ih2
       clear ih2
       unfold shape0 at hs0
       repeat' split at hs0
       all_goals try simp only [Bool.and_eq_true,Bool.or_eq_true,decide_eq_true_eq] at hs0
       ·rename_i o;subst o
        obtain rfl:l=[]:=List.eq_nil_of_length_eq_zero (by omega)
        exact ⟨.inl ⟨rfl,rfl,hpos,by omega,hs0.1.2.resolve_left (by omega),by omega,by omega,by omega,by omega⟩,by simp⟩
       ·rename_i o;subst o
        obtain rfl:l=[]:=List.eq_nil_of_length_eq_zero (by omega)
        simp [wantedL,ho] at hps
        exact ⟨.inr (.inl ⟨rfl,rfl,hs0.1.2,by omega,by omega,by omega⟩),by simp⟩
       ·rename_i o;subst o
        obtain ⟨x,rfl⟩:=List.length_eq_one_iff.1 hs0.1.1.1
        simp [wantedL,ho] at hps
        exact ⟨.inr (.inr (.inl ⟨rfl,⟨x.w,rfl⟩,by omega,by omega,by omega,by omega,by omega,by omega,by omega⟩)),all0 (by rw [<-hps.2];rfl)⟩
       ·rename_i o;subst o
        obtain ⟨x,rfl⟩:=List.length_eq_one_iff.1 hs0.1.1.1
        have:n=1\/n=2\/n=3\/n=4\/n=5\/n=6:=by omega
        have hz:v=0/\sig=0/\hi=0/\lo=0:=by omega
        have hx:=fun k h1 h2=>t0 x (by simp) k h1 h2
        have hx0:=fun h=>all0 h x (by simp)
        rcases this with rfl | rfl | rfl | rfl | rfl | rfl<;>simp [wantedL] at hps
        ·subst hps;obtain ⟨q1,-⟩:=sizeL_inv hl';simp only [List.headD_cons] at q1
         obtain ⟨q2,q3⟩:=hx _ (by omega) (by omega) q1
         exact ⟨.inr (.inr (.inr (.inl ⟨rfl,⟨x.w,rfl,.inl ⟨by decide,by decide,by rw [q3,if_neg (by omega)]⟩⟩,hz⟩))),by simpa using q2⟩
        ·subst hps;obtain ⟨q1,-⟩:=sizeL_inv hl';simp only [List.headD_cons] at q1
         obtain ⟨q2,q3⟩:=hx _ (by omega) (by omega) q1
         exact ⟨.inr (.inr (.inr (.inl ⟨rfl,⟨x.w,rfl,.inl ⟨by decide,by decide,by rw [q3,if_neg (by omega)]⟩⟩,hz⟩))),by simpa using q2⟩
        ·exact ⟨.inr (.inr (.inr (.inl ⟨rfl,⟨x.w,rfl,.inr (.inl ⟨by decide,by decide,hps.1⟩)⟩,hz⟩))),by simpa using hx0 (by rw [<-hps.2];rfl)⟩
        ·exact ⟨.inr (.inr (.inr (.inl ⟨rfl,⟨x.w,rfl,.inr (.inl ⟨by decide,by decide,hps.1⟩)⟩,hz⟩))),by simpa using hx0 (by rw [<-hps.2];rfl)⟩
        ·exact ⟨.inr (.inr (.inr (.inl ⟨rfl,⟨x.w,rfl,.inr (.inl ⟨by decide,by decide,hps.1⟩)⟩,hz⟩))),by simpa using hx0 (by rw [<-hps.2];rfl)⟩
        ·obtain ⟨rfl,rfl⟩:=hps;obtain ⟨q1,-⟩:=sizeL_inv hl';simp only [List.headD_cons] at q1
         obtain ⟨q2,q3⟩:=hx _ (by omega) (by omega) q1
         exact ⟨.inr (.inr (.inr (.inl ⟨rfl,⟨x.w,rfl,.inr (.inr ⟨rfl,rfl,by rw [q3];rfl⟩)⟩,hz⟩))),by simpa using q2⟩
       ·rename_i o;subst o
        obtain ⟨x,y,rfl⟩:∃ x y,l=[x,y]:=by
         match l,hs0.1.1.1 with
         | [x,y],_=>exact ⟨x,y,rfl⟩
        have hz:v=0/\sig=0/\hi=0/\lo=0:=by omega
        have hwl:(11<=n/\n<=16/\ps=[w,w])\/(17<=n/\n<=18/\ps=[w,0])\/(19<=n/\n<=24/\w=1/\ps=[told (own.fst [x,y]) 32,told (own.fst [x,y]) 32])\/(25<=n/\n<=26/\w=1/\ps=[-1,-1]):=by
         unfold wantedL at hps
         simp only at hps
         repeat' split at hps
         all_goals simp [List.replicate] at hps
         all_goals try omega
         all_goals subst hps
         ·exact .inr (.inr (.inr ⟨by omega,by omega,by omega,rfl⟩))
         ·exact .inr (.inr (.inl ⟨by omega,by omega,by omega,rfl⟩))
         ·exact .inr (.inl ⟨by omega,by omega,rfl⟩)
         ·exact .inl ⟨by omega,by omega,rfl⟩
         ·rename_i q1 q2;exact absurd (Or.inr trivial) q1
        have hx:=fun k h1 h2=>t0 x (by simp) k h1 h2
        have hy:=fun k h1 h2=>t0 y (by simp) k h1 h2
        have hxo:=hokp x (by simp)
        have hyo:=hokp y (by simp)
        obtain ⟨q1,q2⟩:sizeE x (ps.headD 0)=.ok x/\sizeE y (ps.tail.headD 0)=.ok y:=by
         obtain ⟨q1,q2⟩:=sizeL_inv hl'
         exact ⟨q1,(sizeL_inv q2).1⟩
        rcases hwl with ⟨a1,a2,rfl⟩ | ⟨a1,a2,rfl⟩ | ⟨a1,a2,a3,rfl⟩ | ⟨a1,a2,a3,rfl⟩
        all_goals simp only [List.headD_cons,List.tail_cons] at q1 q2
        ·obtain ⟨b1,b2⟩:=hx _ (by omega) (by omega) q1
         obtain ⟨c1,c2⟩:=hy _ (by omega) (by omega) q2
         rw [if_neg (by omega)] at b2 c2
         exact ⟨.inr (.inr (.inr (.inr (.inl ⟨rfl,⟨x.w,y.w,rfl,.inl ⟨a1,a2,b2,c2⟩⟩,hz⟩)))),by simp;exact ⟨b1,c1⟩⟩
        ·obtain ⟨b1,b2⟩:=hx _ (by omega) (by omega) q1
         rw [if_neg (by omega)] at b2
         exact ⟨.inr (.inr (.inr (.inr (.inl ⟨rfl,⟨x.w,y.w,rfl,.inr (.inl ⟨a1,a2,b2⟩)⟩,hz⟩)))),by simp;exact ⟨b1,(ihz y (by simp) 0 (by omega) q2).1⟩⟩
        ·have hk:told (own.fst [x,y]) 32≠0/\-1<=told (own.fst [x,y]) 32:=by
          unfold told;simp only [own.fst];repeat' split
          all_goals omega
         obtain ⟨b1,b2⟩:=hx _ hk.2 hk.1 q1
         obtain ⟨c1,c2⟩:=hy _ hk.2 hk.1 q2
         exact ⟨.inr (.inr (.inr (.inr (.inl ⟨rfl,⟨x.w,y.w,rfl,.inr (.inr (.inl ⟨a1,a2,a3,b2.trans c2.symm⟩))⟩,hz⟩)))),by simp;exact ⟨b1,c1⟩⟩
        ·obtain ⟨b1,b2⟩:=hx _ (by simp) (by simp) q1
         obtain ⟨c1,c2⟩:=hy _ (by simp) (by simp) q2
         exact ⟨.inr (.inr (.inr (.inr (.inl ⟨rfl,⟨x.w,y.w,rfl,.inr (.inr (.inr ⟨a1,a2,a3,b2,c2⟩))⟩,hz⟩)))),by simp;exact ⟨b1,c1⟩⟩
       ·rename_i o;subst o
        obtain ⟨c,x,y,rfl⟩:∃ c x y,l=[c,x,y]:=by
         match l,hs0.1 with
         | [c,x,y],_=>exact ⟨c,x,y,rfl⟩
        simp [wantedL,List.replicate] at hps
        subst hps
        obtain ⟨q1,q⟩:=sizeL_inv hl'
        obtain ⟨q2,q⟩:=sizeL_inv q
        obtain ⟨q3,-⟩:=sizeL_inv q
        simp only [List.headD_cons,List.tail_cons] at q1 q2 q3
        obtain ⟨a1,a2⟩:=t0 c (by simp) _ (by omega) (by omega) q1
        obtain ⟨b1,b2⟩:=t0 x (by simp) _ (by omega) (by omega) q2
        obtain ⟨c1,c2⟩:=t0 y (by simp) _ (by omega) (by omega) q3
        rw [if_neg (by omega)] at b2 c2
        exact ⟨.inr (.inr (.inr (.inr (.inr (.inl ⟨rfl,by simp [a2,b2,c2],by omega,by omega,by omega,by omega,by omega⟩))))),by simp;exact ⟨a1,b1,c1⟩⟩
       ·rename_i o;subst o
        simp [wantedL] at hps
        obtain ⟨h1,h2⟩:=hps
        have hall:=all0 h2.symm
        have hcs:=own_cat_sum l (fun x hx=>⟨(ws_own hls x (hall x hx)).1,(ws_own hls x (hall x hx)).2.1⟩) 0
        have hl1:0<l.length:=hs0.1
        simp at ho
        exact ⟨.inr (.inr (.inr (.inr (.inr (.inr (.inl ⟨rfl,by intro h;simp at h;rw [h] at hl1;simp at hl1,by omega,by omega,by omega,by omega,by omega,by omega,by omega⟩)))))),hall⟩
       ·rename_i o;subst o
        obtain ⟨x,rfl⟩:=List.length_eq_one_iff.1 hs0.1.1.1.1.1
        simp [wantedL,ho] at hps
        simp [sizeE.hdW] at hext
        exact ⟨.inr (.inr (.inr (.inr (.inr (.inr (.inr ⟨rfl,⟨x.w,rfl,by omega⟩,by omega,by omega,by omega,by omega,by omega,by omega⟩)))))),all0 (by rw [<-hps];rfl)⟩
       ·cases hs0
end Go.Proofs.YtpngepnfinbaoaaGreat
