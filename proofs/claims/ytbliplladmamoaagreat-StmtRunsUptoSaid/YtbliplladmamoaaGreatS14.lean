/- Laws and walks that a claim of this seat leans on: Told, StmtP, Repeat, Graph, Drive, MarkL, WsL. -/
import Derived.Test.YtbliplladmamoaaGreatS13
import Derived.Test.YtbliplladmamoaaGreatSWrites
import Derived.Test.YtbliplladmamoaaGreatSAlways
import Derived.Test.YtbliplladmamoaaGreatSReads
import Derived.Test.YtbliplladmamoaaGreatS06
import Derived.Test.YtbliplladmamoaaGreatS01
import Derived.Laws.CopyOwn
import Derived.Lib.ItoaNum
import Derived.Test.YtbliplladmamoaaGreatS08
import Derived.Test.YtbliplladmamoaaGreatS00
set_option maxRecDepth 100000
set_option maxHeartbeats 8000000
set_option linter.all false
namespace Go.Proofs.YtbliplladmamoaaGreat
open Go.RowKit
theorem Qc {P:Program} {ab:Array Oper} {rest:List Oper} {o:Oper} {a:Act} {w:World} {Q:Exit->Act->World->Prop} (hw:Region.wanted o (yielded ab a.tmps)=true)
  (x:Operand) (l:List Operand) (j:Array TypeId) (ho:o.op=.call { callee:=.value x,args:=l.toArray,argTypes:=j })
  {g:FuncId} {lb:Array Value} (hx:a.eval x=.func (.func g) #[] lb) (eg:Bj P g) {args:List Value} (aa:l.map a.eval=args) {R:Value->World->Prop}
  (hc:Calls P g (args.toArray++lb) w fun r w'=>∃ u,r=.returned u/\R u w') (h:∀ u w',R u w'->wpList P ab Q rest (a.put o.dst u) w'):wpList P ab Q (o::rest) a w :=
 BigFrame.wpList_want hw fun K hK=>by
  obtain ⟨dst,op,ty,pos,after,guard⟩:=o
  simp only at ho
  subst ho
  subst aa
  rw [<-List.map_toArray] at hc
  generalize l.toArray=xs at *
  have ac:(execOp a.eval { dst,op:=.call { callee:=.value x,args:=xs,argTypes:=j },type:=ty,pos,after,guard }).run P w=.ok (.enter g (xs.map a.eval++lb)) w:=by
   have h1:execOp a.eval { dst,op:=.call { callee:=.value x,args:=xs,argTypes:=j },type:=ty,pos,after,guard } = (Deferred.ofValue (a.eval x) (xs.map a.eval) >>= fun d=>invoke d.target d.args):=rfl
   have h2:(Deferred.ofValue (.func (.func g) #[] lb) (xs.map a.eval) >>= fun d=>invoke d.target d.args)=callFunc g (#[]++xs.map a.eval++lb):=rfl
   rw [h1,hx,h2,eg,Array.empty_append]
  unfold Oper.wp
  rw [ac]
  exact hc.mono fun r w' ⟨u,hr,hR⟩=>by subst hr;exact hK _ _ (h u w' hR)
def Cv (d:Bb) (p:Int):Bool:=decide (By d=0)&&decide (0<=p)&&decide (p<d.procs.length)
theorem L8 (d:Bb) (v:Value) (w:World) (h:Ck w v d) (ao:d.ok) (p:Int) (a2:-9223372036854775808<=p/\p<=9223372036854775807) (g:FuncId) (lb:Array Value) (eg:Bj Tryz.prog g) (aq:List Int)
  (hg:By d=0->0<=p->∀ (hp:p.toNat<d.procs.length),∀ W an lv,Ext w W->Ints W an (D0 d.signals d.signals.length)->Ts W lv d.procs[p.toNat].l ->
   Calls Tryz.prog g ([an,lv].toArray++lb) W fun r w'=>∃ u,r=.returned u/\Au W.heap.size u aq w'/\Ext W w') :
  Calls Tryz.prog 25 #[v,.int .i64 p,.func (.func g) #[] lb] w fun r w'=>∃ u,r=.returned (.tuple #[u,.int .i64 (if Cv d p=true then 0 else 1)])/\Au w.heap.size u (if Cv d p=true then aq else []) w'/\Ext w w':=by
 have HF:=Jh h
 have HG:=Jh hg
 obtain ⟨sv,pv,cv,rfl,hS,hP,hC⟩:=h
 have HX:=Jh (Ab w (.cells [sv,pv,cv].toArray 26))
 have HB:=Jh (Blk.new w [sv,pv,cv].toArray 26)
 have ag:=Jh (Qj d _ _ (HF.out.ext HX.out) ao)
 have az:=ao.procs
 obtain ⟨a0,b0,o0,c0,rfl,ax,ay,ha,hr⟩:=hP.open
 have HA:=Jh ha
 have HR:=Jh hr
 clear hS hP hC ha hr hg
 obtain ⟨q,hq⟩:∃ q,Cv d p=q:=⟨_,rfl⟩
 rw [hq]
 have HQ:=Jh hq
 clear hq
 go_enter Tryz.func25,Tryz.ntmps25
 go_upto_region 1 with fail
 have a3:(w.alloc (.cells [sv,.slice a0 d.procs.length c0,cv].toArray 26)).heap.size=w.heap.size+1:=by simp
 generalize w.alloc _=w1 at *
 by_cases aa:By d=0
 ·have al:=Jh aa
  have ab:=ag.out
  rw [if_pos aa,if_pos aa] at ab
  have ae:=Jh ab
  clear ab aa ag
  by_cases ah:p<0
  ·have ac:q=false:=by rw [<-HQ.out];unfold Cv;simp;omega
   subst ac
   go_wp2_with (first | ((with_reducible show Jl 26);refine Aa rfl 26 _ rfl rfl (HB.out.has) Aj rfl ?_) | (go_at_call 15;refine ae.out.mono ?_;rintro r w2 ⟨u,rfl,ai,j⟩))
   refine bodyPost_ret (v:=.tuple #[.slice Option.none 0 0,.int .i64 1]) (by simp [results,Tryz.results25,go_sem]) rfl ⟨.slice Option.none 0 0,rfl,by exact Au.nil _ _,HX.out.trans j⟩
  ·by_cases a1:p<d.procs.length
   ·have ac:q=true:=by rw [<-HQ.out];unfold Cv;simp [al.out];omega
    subst ac
    obtain ⟨k,rfl⟩:∃ k:Nat,p=k:=⟨p.toNat,by omega⟩
    have hk:k<d.procs.length:=by omega
    obtain rfl:=HA.out (by omega)
    obtain ⟨s1,aj,ap⟩:=Hg.get HR.out hk
    have am:=Jh aj
    have au:=Jh ap
    have hg:=HG.out al.out (by omega) (by simpa using hk)
    simp only [Int.toNat_natCast] at hg
    have ar:=Jh hg
    clear aj ap hg
    go_upto_region 4 with (first | ((with_reducible show Jl 26);refine Aa rfl 26 _ rfl rfl (HB.out.has) Aj rfl ?_) | (go_at_call 15;refine ae.out.mono ?_;rintro r w2 ⟨u,rfl,ai,j⟩;have z1:=((HB.out).ext j).has 1 _ rfl))
    have af:=HX.out.trans j
    have y1:=(am.out.ext af) 1 _ rfl
    have ak:=ar.out w2 u s1 af ai.cells (au.out.ext af)
    go_wp2_with ((with_reducible show Jw (Op.call { callee:=.value (.tmp _),args:=_,argTypes:=_ }));refine Qc rfl _ [_,_] _ rfl rfl eg rfl ak ?_;rintro u3 w3 ⟨av,aw⟩)
    refine bodyPost_ret (v:=.tuple #[u3,.int .i64 0]) (by simp [results,Tryz.results25,go_sem]) rfl ⟨u3,rfl,by exact av.less (by have:=af.size;omega),af.trans aw⟩
   ·have ac:q=false:=by rw [<-HQ.out];unfold Cv;simp;omega
    subst ac
    go_wp2_with (first | ((with_reducible show Jl 26);refine Aa rfl 26 _ rfl rfl (HB.out.has) Aj rfl ?_) | (go_at_call 15;refine ae.out.mono ?_;rintro r w2 ⟨u,rfl,ai,j⟩;have z1:=((HB.out).ext j).has 1 _ rfl))
    refine bodyPost_ret (v:=.tuple #[.slice Option.none 0 0,.int .i64 1]) (by simp [results,Tryz.results25,go_sem]) rfl ⟨.slice Option.none 0 0,rfl,by exact Au.nil _ _,HX.out.trans j⟩
 ·have ac:q=false:=by rw [<-HQ.out];unfold Cv;simp [aa]
  subst ac
  have ab:=ag.out
  rw [if_neg aa,if_neg aa] at ab
  have ae:=Jh ab
  clear ab aa ag
  go_wp2_with (first | ((with_reducible show Jl 26);refine Aa rfl 26 _ rfl rfl (HB.out.has) Aj rfl ?_) | (go_at_call 15;refine ae.out.mono ?_;rintro r w2 ⟨u,rfl,ai,j⟩))
  refine bodyPost_ret (v:=.tuple #[.slice Option.none 0 0,.int .i64 1]) (by simp [results,Tryz.results25,go_sem]) rfl ⟨.slice Option.none 0 0,rfl,by exact Au.nil _ _,HX.out.trans j⟩
/-! ### stmt.Writes, stmt.Reads, stmt.Always of a process -/
theorem U3 (j:List Int) (ab:∀ o∈j,0<=o/\o<=1099511627776) (l:List T) (u:∀ t∈l,Hf j t) (hn:Ap Aq l<=1048576):Fn j l:=by
 have ac:∀ t:T,Hf j t->Aq t<=1048576->Fn j t.l/\∀ x∈t.l,Fn j x.l:=by
  intro t
  induction t using T.ind with
  | h t ih =>
   intro h1 h2
   have h3:=((Gb _ _).1 h1).2.2
   have h4:=Ca t
   have aa:∀ x∈t.l,Fn j x.l/\∀ y∈x.l,Fn j y.l:=fun x hx=>ih x hx (h3 x hx) (by have:=Bf Aq t.l x hx;omega)
   exact ⟨Pn j ab t.l h3 (by omega) (fun x hx=>(aa x hx).1) (fun x hx=>(aa x hx).2),fun x hx=>(aa x hx).1⟩
 exact Pn j ab l u hn (fun t ht=>(ac t (u t ht) (by have:=Bf Aq l t ht;omega)).1) (fun t ht=>(ac t (u t ht) (by have:=Bf Aq l t ht;omega)).2)
/-! what a shaped design gives -/
theorem Lw (ls:List Ai) (hw:∀ x∈ls,1<=x.w/\x.w<=64) (hl:ls.length<=1048576):∀ o∈D0 ls ls.length,0<=o/\o<=1099511627776:=by
 intro o ho
 obtain ⟨k,hk,rfl⟩:=List.mem_map.1 ho
 have:=V2 ls hw k (by have:=List.mem_range.1 hk;omega)
 have:=List.mem_range.1 hk
 omega
def StD (ls:List Ai):T->Prop
 | ⟨op,sig,hi,lo,e,l⟩=>(op=1->slice ls sig hi lo=true)/\(op=2\/op=3->0<l.length)/\(∀ x∈e,A7 ls x=true)/\oks l
where oks:List T->Prop
 | []=>True
 | t::l=>StD ls t/\oks l
theorem StD.oks_iff (ls:List Ai) (l:List T):StD.oks ls l↔∀ t∈l,StD ls t:=by
 induction l with
 | nil=>simp [StD.oks]
 | cons e l ih=>simp [StD.oks,ih]
theorem F5 (ls:List Ai) (t:T):StD ls t↔(t.op=1->slice ls t.sig t.hi t.lo=true)/\(t.op=2\/t.op=3->0<t.l.length)/\(∀ x∈t.e,A7 ls x=true)/\∀ x∈t.l,StD ls x:=by
 cases t;simp [StD,StD.oks_iff]
theorem Ss (ls:List Ai) (t:T):(An ls t=true->StD ls t)/\(An.armT ls t=true->StD ls t):=by
 induction t using T.ind with
 | h t ih =>
  have j:∀ l:List T,(∀ x∈l,x∈t.l)->An.arms ls l=true->∀ x∈l,StD ls x:=by
   intro l
   induction l with
   | nil=>intro _ _ x hx;cases hx
   | cons y l ih2 =>
    intro hm ha x hx
    rw [An.arms,Bool.and_eq_true,Bool.and_eq_true] at ha
    rcases List.mem_cons.1 hx with e | hx
    ·rw [e];exact (ih _ (hm _ (by simp))).2 ha.1.2
    ·exact ih2 (fun z hz=>hm z (by simp [hz])) ha.2 x hx
  constructor
  ·intro ht
   rw [Ff] at ht
   split at ht
   ·cases ht
   ·rename_i h0
    have hE:∀ x∈t.e,A7 ls x=true:=by
     intro x hx
     have u:(t.e.any fun x=>!A7 ls x)=false:=by
      cases hh:(t.e.any fun x=>!A7 ls x)
      ·rfl
      ·exfalso;apply h0;rw [hh];rfl
     have:=List.any_eq_false.1 u x hx
     simpa using this
    split at ht
    ·rename_i h3
     simp only [Bool.and_eq_true,decide_eq_true_eq] at ht
     exact (F5 ls t).2 ⟨fun h1=>by omega,fun _=>ht.2.2,hE,j t.l (fun _ h=>h) ht.2.1⟩
    ·split at ht
     ·rename_i h3 h1
      simp only [Bool.and_eq_true,decide_eq_true_eq] at ht
      have hl:t.l=[]:=List.eq_nil_of_length_eq_zero ht.1.2
      exact (F5 ls t).2 ⟨fun _=>ht.2,fun h=>by omega,hE,by rw [hl];intro x hx;cases hx⟩
     ·split at ht
      ·simp only [Bool.and_eq_true,List.all_eq_true,decide_eq_true_eq] at ht
       exact (F5 ls t).2 ⟨fun h=>by omega,fun h=>by omega,hE,fun x hx=>(ih x hx).1 (ht.2 x hx)⟩
      ·split at ht
       ·simp only [Bool.and_eq_true,List.all_eq_true] at ht
        exact (F5 ls t).2 ⟨fun h=>by omega,fun h=>by omega,hE,fun x hx=>(ih x hx).1 (ht.2 x hx)⟩
       ·cases ht
  ·intro ht
   rw [An.armT_eq] at ht
   simp only [Bool.and_eq_true,decide_eq_true_eq,List.all_eq_true] at ht
   exact (F5 ls t).2 ⟨fun h=>by omega,fun h=>by omega,fun x hx=>(ht.1.2 x hx).2,fun x hx=>(ih x hx).1 (ht.2 x hx)⟩
theorem V1 {d:Bb} (h:By d=0):∀ p∈d.procs,∀ t∈p.l,StD d.signals t:=by
 have h1:=Ip h
 unfold C4 at h1
 simp only [Bool.and_eq_true,Bool.not_eq_true',List.any_eq_false,Bool.not_eq_eq_eq_not,Bool.not_true] at h1
 intro p hp t ht
 refine (Ss d.signals t).1 ?_
 have:=h1.1.2 p hp
 simp only [List.any_eq_true,not_exists,not_and] at this
 simpa using this t ht
/-! each statement that stands in statements -/
theorem Abt {P:T->Prop} (hP:∀ t,P t->∀ x∈t.l,P x) (t:T):P t->∀ x∈Cd t,P x:=by
 induction t using T.ind with
 | h t ih =>
  intro ht x hx
  rw [Q8,O5] at hx
  rcases List.mem_cons.1 hx with e | hx
  ·rw [e];exact ht
  ·obtain ⟨m,hm,hx⟩:=List.mem_flatten.1 hx
   obtain ⟨y,hy,rfl⟩:=List.mem_map.1 hm
   exact ih y hy (hP t ht y hy) x hx
theorem Z0 {P:T->Prop} (hP:∀ t,P t->∀ x∈t.l,P x) (l:List T) (h:∀ t∈l,P t):∀ t∈Cd.eachTs l,P t:=by
 intro x hx
 rw [O5] at hx
 obtain ⟨m,hm,hx⟩:=List.mem_flatten.1 hx
 obtain ⟨y,hy,rfl⟩:=List.mem_map.1 hm
 exact Abt hP y (h y hy) x hx
def Yd (t:T):Nat:=1+Ap nodes t.e
theorem Abu (t:T):Ap Yd (Cd t)=Aq t:=by
 induction t using T.ind with
 | h t ih =>
  have j:∀ l:List T,(∀ x∈l,x∈t.l)->Ap Yd (Cd.eachTs l)=Ap Aq l:=by
   intro l
   induction l with
   | nil=>intro _;rfl
   | cons y l ih2 =>
    intro hm
    rw [Cd.eachTs,Kx,ih y (hm y (by simp)),ih2 fun z hz=>hm z (by simp [hz])]
    rfl
  rw [Q8,Ap,j t.l fun _ h=>h,Ca,Yd]
  omega
theorem Q9 (l:List T):Ap Yd (Cd.eachTs l)=Ap Aq l:=by
 induction l with
 | nil=>rfl
 | cons y l ih=>rw [Cd.eachTs,Kx,Abu,ih];rfl
theorem R7 (l:List T):(Cd.eachTs l).length<=Ap Aq l:=by
 rw [<-Q9]
 exact A8 Yd _ fun t _=>by unfold Yd;omega
theorem Sh (ls:List Ai) (e:E):(Cg ls e).length<=nodes e:=by
 induction e using E.ind with
 | h e ih =>
  have j:∀ l:List E,(∀ x∈l,x∈e.l)->((l.map (Cg ls)).flatten).length<=Ap nodes l:=by
   intro l
   induction l with
   | nil=>intro _;simp
   | cons y l ih2 =>
    intro hm
    have q1:=ih y (hm y (by simp))
    have q2:=ih2 fun z hz=>hm z (by simp [hz])
    simp only [List.map_cons,List.flatten_cons,List.length_append,Ap]
    omega
  have h0:(G2 ls e.op e.sig e.hi e.lo).length<=1:=by
   unfold G2
   split
   ·simp
   ·split<;>simp
  have:=j e.l fun _ h=>h
  rw [Hs,List.length_append,C7]
  omega
theorem Ach (ls:List Ai) (ts:List T):(rS ls ts ts.length).length<=Ap Yd ts:=by
 unfold rS
 rw [List.take_length]
 induction ts with
 | nil=>simp
 | cons t ts ih =>
  have j:∀ l:List E,((l.map (Cg ls)).flatten).length<=Ap nodes l:=by
   intro l
   induction l with
   | nil=>simp
   | cons y l ih2 =>
    have:=Sh ls y
    simp only [List.map_cons,List.flatten_cons,List.length_append,Ap]
    omega
  have:=j t.e
  simp only [List.map_cons,List.flatten_cons,List.length_append,Ap,Yd] at ih ⊢
  omega
/-! the spans of a shaped design may be asked of -/
theorem Abf (ls:List Ai) (hw:∀ x∈ls,1<=x.w/\x.w<=64) (sig:Int):Dn ls sig<=64:=by
 unfold Dn
 cases h:ls[sig.toNat]? with
 | none=>simp
 | some s=>exact (hw s (List.mem_of_getElem? h)).2
theorem Lu (ls:List Ai) (hw:∀ x∈ls,1<=x.w/\x.w<=64) {sig hi lo:Int} (h:slice ls sig hi lo=true):H9 (D0 ls ls.length) ⟨sig,hi,lo⟩:=by
 unfold slice at h
 simp only [Bool.and_eq_true,decide_eq_true_eq] at h
 have:=Abf ls hw sig
 have:=Gs ls ls.length
 unfold H9
 simp only
 omega
theorem Adc (ls:List Ai) (hw:∀ x∈ls,1<=x.w/\x.w<=64) (t:T):StD ls t->Hf (D0 ls ls.length) t:=by
 induction t using T.ind with
 | h t ih =>
  intro h
  obtain ⟨h1,h2,h3,h4⟩:=(F5 _ _).1 h
  exact (Gb _ _).2 ⟨fun e=>Lu ls hw (h1 e),h2,fun x hx=>ih x hx (h4 x hx)⟩
theorem Ace (ls:List Ai) (hw:∀ x∈ls,1<=x.w/\x.w<=64) (e:E):A7 ls e=true->∀ s∈Cg ls e,H9 (D0 ls ls.length) s:=by
 induction e using E.ind with
 | h e ih =>
  intro he s hs
  rw [Fu,Bool.and_eq_true,List.all_eq_true] at he
  rw [Hs,List.mem_append] at hs
  rcases hs with hs | hs
  ·unfold G2 at hs
   split at hs
   ·rename_i h2
    have h0:=he.1
    rw [h2] at h0
    simp [Bl] at h0
    rw [List.mem_singleton.1 hs]
    exact Lu ls hw h0.1.2
   ·split at hs
    ·rename_i h3
     have h0:=he.1
     rw [h3] at h0
     simp [Bl] at h0
     rw [List.mem_singleton.1 hs]
     have:=Abf ls hw e.sig
     have:=Gs ls ls.length
     unfold H9
     simp only
     omega
    ·cases hs
  ·obtain ⟨m,hm,hs⟩:=List.mem_flatten.1 hs
   obtain ⟨y,hy,rfl⟩:=List.mem_map.1 hm
   exact ih y hy (he.2 y hy) s hs
/-! the models -/
def Lz (d:Bb) (p:Int):List T:=match d.procs[p.toNat]? with | some x=>x.l | none=>[]
def Lv (d:Bb):List Int:=D0 d.signals d.signals.length
def spansW (l:List T):List Cb:=wS (Cd.eachTs l) (Cd.eachTs l).length
def spansR (ls:List Ai) (l:List T):List Cb:=rS ls (Cd.eachTs l) (Cd.eachTs l).length
def Il (d:Bb) (p:Int):List Int:=Dl (Lv d) (spansW (Lz d p))
def Nr (d:Bb) (p:Int):List Int:=Dl (Lv d) (spansR d.signals (Lz d p))
def Kk (d:Bb) (p:Int):List Int:=F8 (Lv d) (Lz d p)
theorem Kb {d:Bb} {p:Int} (hp:p.toNat<d.procs.length):Lz d p=d.procs[p.toNat].l:=by
 unfold Lz;rw [List.getElem?_eq_getElem hp]
theorem Rj (d:Bb) (k:Nat) (hk:k<d.procs.length):Ap Aq d.procs[k].l<=C3 d:=by
 have h1:=Bf (fun p:C0=>Ap Aq p.l) d.procs _ (List.getElem_mem hk)
 obtain ⟨a,b,c⟩:=d
 rw [O6]
 simp only at h1 ⊢
 omega
structure Lj (d:Bb) (l:List T):Prop where
 ow:∀ x∈d.signals,1<=x.w/\x.w<=64
 st:∀ t∈l,StD d.signals t
 nodes:Ap Aq l<=1048576
 sigs:d.signals.length<=1048576
theorem Rn {d:Bb} (j:d.ok) (hc:By d=0) (k:Nat) (hk:k<d.procs.length):Lj d d.procs[k].l where
 ow:=Dv hc
 st:=V1 hc _ (List.getElem_mem hk)
 nodes:=Nat.le_trans (Rj d k hk) j.nodes
 sigs:=j.signals
theorem Lj.each {d:Bb} {l:List T} (h:Lj d l):∀ t∈Cd.eachTs l,StD d.signals t :=
 Z0 (fun t ht=>((F5 _ _).1 ht).2.2.2) l h.st
theorem Lj.w {d:Bb} {l:List T} (h:Lj d l):∀ s∈spansW l,H9 (D0 d.signals d.signals.length) s:=by
 intro s hs
 unfold spansW wS at hs
 obtain ⟨t,ht,rfl⟩:=List.mem_map.1 hs
 obtain ⟨ht,ho⟩:=List.mem_filter.1 ht
 exact Lu _ h.ow (((F5 _ _).1 (h.each t (List.mem_of_mem_take ht))).1 (by simpa using ho))
theorem Lj.r {d:Bb} {l:List T} (h:Lj d l):∀ s∈spansR d.signals l,H9 (D0 d.signals d.signals.length) s:=by
 intro s hs
 unfold spansR rS at hs
 obtain ⟨m,hm,hs⟩:=List.mem_flatten.1 hs
 obtain ⟨t,ht,rfl⟩:=List.mem_map.1 hm
 obtain ⟨m,hm,hs⟩:=List.mem_flatten.1 hs
 obtain ⟨e,he,rfl⟩:=List.mem_map.1 hm
 exact Ace _ h.ow e (((F5 _ _).1 (h.each t (List.mem_of_mem_take ht))).2.2.1 e he) s hs
theorem R9:Bj Tryz.prog 31:=A9 Tryz.func31 (by kernel_rfl) rfl
theorem Vc:Bj Tryz.prog 26:=A9 Tryz.func26 (by kernel_rfl) rfl
theorem Vd:Bj Tryz.prog 33:=A9 Tryz.func33 (by kernel_rfl) rfl
theorem U0 (d:Bb) (v:Value) (w:World) (h:Ck w v d) (aa:d.ok) (p:Int) (ae:-9223372036854775808<=p/\p<=9223372036854775807) :
  Calls Tryz.prog 13 #[v,.int .i64 p] w fun r w'=>∃ u,r=.returned (.tuple #[u,.int .i64 (if Cv d p=true then 0 else 1)])/\Au w.heap.size u (if Cv d p=true then Il d p else []) w'/\Ext w w':=by
 have HF:=Jh h
 obtain ⟨sv,pv,cv,rfl,hS,hP,hC⟩:=h
 have hx:=Ab w (.cells [sv,pv,cv].toArray 26)
 have hb:=Blk.new w [sv,pv,cv].toArray 26
 have HX:=Jh hx
 have HT:=Jh (L8 d _ _ (HF.out.ext hx) aa p ae 31 #[] R9 (Il d p) (fun hc h0 hp W ac lv hW ho hl=>by
  have hD:=Rn aa hc p.toNat hp
  have:=R4 (D0 d.signals d.signals.length) d.procs[p.toNat].l ac lv W ho hl hD.w (Lw _ hD.ow hD.sigs) (Nat.le_trans (R7 _) hD.nodes)
  unfold Il Lv spansW
  rw [Kb hp]
  exact this))
 clear hS hP hC
 obtain ⟨ec,j⟩:∃ ec:Int,(if Cv d p=true then 0 else 1)=ec:=⟨_,rfl⟩
 obtain ⟨rs,ab⟩:∃ rs,(if Cv d p=true then Il d p else [])=rs:=⟨_,rfl⟩
 rw [j,ab] at HT ⊢
 clear j ab
 go_enter Tryz.func13,Tryz.ntmps13
 go_upto_region 1 with fail
 generalize w.alloc _=w1 at *
 go_wp2_with (first | ((with_reducible show Jl 26);refine Aa rfl 26 _ rfl rfl (hb.has) Aj rfl ?_) | (go_at_call 25;refine HT.out.mono ?_;rintro r w2 ⟨u,rfl,af,ag⟩))
 refine bodyPost_ret (v:=.tuple #[u,.int .i64 ec]) (by simp [results,Tryz.results13,go_sem]) rfl ⟨u,rfl,af.less HX.out.size,HX.out.trans ag⟩
theorem Up (d:Bb) (v:Value) (w:World) (h:Ck w v d) (aa:d.ok) (p:Int) (ae:-9223372036854775808<=p/\p<=9223372036854775807) :
  Calls Tryz.prog 14 #[v,.int .i64 p] w fun r w'=>∃ u,r=.returned (.tuple #[u,.int .i64 (if Cv d p=true then 0 else 1)])/\Au w.heap.size u (if Cv d p=true then Kk d p else []) w'/\Ext w w':=by
 have HF:=Jh h
 obtain ⟨sv,pv,cv,rfl,hS,hP,hC⟩:=h
 have hx:=Ab w (.cells [sv,pv,cv].toArray 26)
 have hb:=Blk.new w [sv,pv,cv].toArray 26
 have HX:=Jh hx
 have HT:=Jh (L8 d _ _ (HF.out.ext hx) aa p ae 33 #[] Vd (Kk d p) (fun hc h0 hp W ac lv hW ho hl=>by
  have hD:=Rn aa hc p.toNat hp
  have:=U3 (D0 d.signals d.signals.length) (Lw _ hD.ow hD.sigs) d.procs[p.toNat].l (fun t ht=>Adc _ hD.ow t (hD.st t ht)) hD.nodes W ac lv ho hl
  unfold Kk Lv
  rw [Kb hp]
  exact this))
 clear hS hP hC
 obtain ⟨ec,j⟩:∃ ec:Int,(if Cv d p=true then 0 else 1)=ec:=⟨_,rfl⟩
 obtain ⟨rs,ab⟩:∃ rs,(if Cv d p=true then Kk d p else [])=rs:=⟨_,rfl⟩
 rw [j,ab] at HT ⊢
 clear j ab
 go_enter Tryz.func14,Tryz.ntmps14
 go_upto_region 1 with fail
 generalize w.alloc _=w1 at *
 go_wp2_with (first | ((with_reducible show Jl 26);refine Aa rfl 26 _ rfl rfl (hb.has) Aj rfl ?_) | (go_at_call 25;refine HT.out.mono ?_;rintro r w2 ⟨u,rfl,af,ag⟩))
 refine bodyPost_ret (v:=.tuple #[u,.int .i64 ec]) (by simp [results,Tryz.results14,go_sem]) rfl ⟨u,rfl,af.less HX.out.size,HX.out.trans ag⟩
theorem Pk (d:Bb) (v:Value) (w:World) (h:Ck w v d) (aa:d.ok) (p:Int) (ae:-9223372036854775808<=p/\p<=9223372036854775807) :
  Calls Tryz.prog 12 #[v,.int .i64 p] w fun r w'=>∃ u,r=.returned (.tuple #[u,.int .i64 (if Cv d p=true then 0 else 1)])/\Au w.heap.size u (if Cv d p=true then Nr d p else []) w'/\Ext w w':=by
 have HF:=Jh h
 obtain ⟨sv,pv,cv,rfl,hS,hP,hC⟩:=h
 have hx:=Ab w (.cells [sv,pv,cv].toArray 26)
 have hb:=Blk.new w [sv,pv,cv].toArray 26
 have HX:=Jh hx
 have h3:[sv,pv,cv].all (·.oneCell')=true:=by simp [hS.one,hP.one,hC.one]
 have HT:=Jh (L8 d _ _ (HF.out.ext hx) aa p ae 26 #[.pointer (some ⟨w.heap.size,0,none⟩)] Vc (Nr d p) (fun hc h0 hp W ac lv hW ho hl=>by
  have hD:=Rn aa hc p.toNat hp
  have:=Uw d.signals hD.ow (D0 d.signals d.signals.length) d.procs[p.toNat].l ac lv sv pv cv w.heap.size W ho hl (hS.ext (hx.trans hW)) h3 (hb.ext hW)
   (fun t ht e he=>Rf _ e (((F5 _ _).1 (hD.each t ht)).2.2.1 e he)) hD.r (Lw _ hD.ow hD.sigs) (Nat.le_trans (Ach _ _) (by rw [Q9];exact hD.nodes))
  unfold Nr Lv spansR
  rw [Kb hp]
  exact this))
 clear hS hP hC
 obtain ⟨ec,j⟩:∃ ec:Int,(if Cv d p=true then 0 else 1)=ec:=⟨_,rfl⟩
 obtain ⟨rs,ab⟩:∃ rs,(if Cv d p=true then Nr d p else [])=rs:=⟨_,rfl⟩
 rw [j,ab] at HT ⊢
 clear j ab
 go_enter Tryz.func12,Tryz.ntmps12
 go_upto_region 1 with fail
 generalize w.alloc _=w1 at *
 go_wp2_with (first | ((with_reducible show Jl 26);refine Aa rfl 26 _ rfl rfl (hb.has) Aj rfl ?_) | (go_at_call 25;refine HT.out.mono ?_;rintro r w2 ⟨u,rfl,af,ag⟩))
 refine bodyPost_ret (v:=.tuple #[u,.int .i64 ec]) (by simp [results,Tryz.results12,go_sem]) rfl ⟨u,rfl,af.less HX.out.size,HX.out.trans ag⟩
/-! ### slices.Repeat, of one number -/
/-! ### who drives each bit -/
def Ah1 (p:Int):List Int->List Int->Option (List Int)
 | [],out=>some out
 | b::l,out=>if 0<=out.getD b.toNat 0 then none else Ah1 p l (out.set b.toNat p)
def Ah2:Nat->List (List Int)->List Int->Option (List Int)
 | _,[],out=>some out
 | p,l::ws,out=>match Ah1 p l out with
  | none=>none
  | some o=>Ah2 (p+1) ws o
def Aio (n:Nat) (ws:List (List Int)):Option (List Int):=Ah2 0 ws (List.replicate n (-1))
/-! ### on whom each process hangs -/
def Ad3 (by':List Int) (clk:List Bool):List Int->List Int->List Int
 | [],g=>g
 | b::r,g =>
  let q:=by'.getD b.toNat 0
  if (decide (0<=q)&&!clk.getD q.toNat false&&!g.contains q)=true then Ad3 by' clk r (g++[q]) else Ad3 by' clk r g
def Ah6 (by':List Int) (clk:List Bool) (rs:List (List Int)):List (List Int):=rs.map fun r=>Ad3 by' clk r []
/-! ### in which order -/
def ready (g:List (List Int)) (clk come:List Bool) (p:Nat):Bool :=
 !come.getD p false&&!clk.getD p false&&(g.getD p []).all fun q=>come.getD q.toNat false
def Yq (g:List (List Int)) (clk come:List Bool):Nat->Nat->Int
 | 0,_=>-1
 | n+1,p=>if ready g clk come p=true then p else Yq g clk come n (p+1)
def Aia (g:List (List Int)) (clk come:List Bool):Int:=Yq g clk come g.length 0
def Aey (g:List (List Int)) (clk:List Bool):Nat->List Bool->List Int->List Int
 | 0,_,out=>out
 | n+1,come,out =>
  let p:=Aia g clk come
  if 0<=p then Aey g clk n (come.set p.toNat true) (out++[p]) else out
/-! ### how Cu -/
def Ah8 (p:Nat):List Int->List Int->List Int
 | [],out=>out
 | q::l,out=>Ah8 p l (out.set p (max (out.getD p 0) (out.getD q.toNat 0+1)))
def Ais (g:List (List Int)):List Int->List Int->List Int
 | [],out=>out
 | p::o,out=>Ais g o (Ah8 p.toNat (g.getD p.toNat []) out)
/-! ### laws: drivers -/
/-! ### laws: whom a process hangs on -/
/-! ### laws: the order -/
theorem Aci (g:List (List Int)) (u j:List Bool) (p:Nat):ready g u j p=true↔j.getD p false=false/\u.getD p false=false/\∀ q∈g.getD p [],j.getD q.toNat false=true:=by
 simp [ready,and_assoc]
structure Ord (g:List (List Int)) (clk come:List Bool) (out:List Int):Prop where
 len:come.length=g.length
 came:∀ p:Nat,come.getD p false=true↔(p:Int)∈out
 inr:∀ p∈out,0<=p/\p<g.length/\clk.getD p.toNat false=false
 nodup:out.Nodup
 behind:∀ (i:Nat) (p:Int),out[i]? = some p->∀ q∈g.getD p.toNat [],((q.toNat:Nat):Int)∈out.take i
theorem Ord.nil (g:List (List Int)) (j:List Bool):Ord g j (List.replicate g.length false) [] where
 len:=by simp
 came:=by
  intro p
  simp [List.getD_eq_getElem?_getD,List.getElem?_replicate]
  split<;>simp
 inr:=by intro p h;cases h
 nodup:=List.nodup_nil
 behind:=by intro i p h;simp at h
theorem Ord.snoc {g:List (List Int)} {aa j:List Bool} {u:List Int} (h:Ord g aa j u) {k:Nat} (hk:k<g.length) (hr:ready g aa j k=true) :
  Ord g aa (j.set k true) (u++[(k:Int)]):=by
 obtain ⟨r1,r2,r3⟩:=(Aci _ _ _ _).1 hr
 have ae:k<j.length:=by rw [h.len];exact hk
 have ab:(k:Int) ∉ u:=fun hm=>by rw [(h.came k).2 hm] at r1;cases r1
 refine ⟨by rw [List.length_set,h.len],?_,?_,?_,?_⟩
 ·intro p
  by_cases e:k=p
  ·subst e
   simp [List.getD_eq_getElem?_getD,List.getElem?_set_self ae]
  ·rw [List.getD_eq_getElem?_getD,List.getElem?_set_ne e,<-List.getD_eq_getElem?_getD,h.came]
   simp
   omega
 ·intro p hp
  rcases List.mem_append.1 hp with hp | hp
  ·exact h.inr p hp
  ·simp at hp;subst hp
   exact ⟨by omega,by omega,by simpa using r2⟩
 ·rw [List.nodup_append]
  refine ⟨h.nodup,by simp,?_⟩
  intro a ha b hb
  simp at hb
  subst hb
  intro e;subst e;exact ab ha
 ·intro i p hp q hq
  by_cases hi:i<u.length
  ·rw [List.getElem?_append_left hi] at hp
   have:=h.behind i p hp q hq
   rw [List.take_append_of_le_length (by omega)]
   exact this
  ·rw [List.getElem?_append_right (by omega)] at hp
   have ac:i-u.length=0:=by
    have:=(List.getElem?_eq_some_iff.1 hp).1
    simp at this;omega
   rw [ac] at hp
   simp at hp
   subst hp
   rw [Int.toNat_natCast] at hq
   have:=r3 q hq
   have hm:=(h.came _).1 this
   rw [show i=u.length by omega,List.take_left']
   ·exact hm
   ·rfl
def Aip (l:List Bool):Nat:=l.countP fun b=>!b
/-! ### laws: how Cu -/
/-! ### laws: the order has all processes of wires just if there is a rank -/
def Ahw (clk:List Bool):Nat:=clk.countP fun b=>!b
/-! ### plain: the bits that processes write and read are the design's -/
def S1 (ls:List Ai) (s:Cb):Prop:=0<=s.sig/\s.sig<ls.length/\0<=s.lo/\s.hi<Dn ls s.sig
theorem Rt {ls:List Ai} {sig hi lo:Int} (h:slice ls sig hi lo=true):S1 ls ⟨sig,hi,lo⟩:=by
 unfold slice at h
 simp only [Bool.and_eq_true,decide_eq_true_eq] at h
 unfold S1
 simp only
 omega
theorem Lj.spansW {d:Bb} {l:List T} (h:Lj d l):∀ s∈spansW l,S1 d.signals s:=by
 intro s hs
 unfold Go.Proofs.YtbliplladmamoaaGreat.spansW wS at hs
 obtain ⟨t,ht,rfl⟩:=List.mem_map.1 hs
 obtain ⟨ht,ho⟩:=List.mem_filter.1 ht
 exact Rt (((F5 _ _).1 (h.each t (List.mem_of_mem_take ht))).1 (by simpa using ho))
theorem Yu (ls:List Ai) (e:E):A7 ls e=true->∀ s∈Cg ls e,S1 ls s:=by
 induction e using E.ind with
 | h e ih =>
  intro he s hs
  rw [Fu,Bool.and_eq_true,List.all_eq_true] at he
  rw [Hs,List.mem_append] at hs
  rcases hs with hs | hs
  ·unfold G2 at hs
   split at hs
   ·rename_i h2
    have h0:=he.1
    rw [h2] at h0
    simp [Bl] at h0
    rw [List.mem_singleton.1 hs]
    exact Rt h0.1.2
   ·split at hs
    ·rename_i h3
     have h0:=he.1
     rw [h3] at h0
     simp [Bl] at h0
     rw [List.mem_singleton.1 hs]
     unfold S1
     simp only
     omega
    ·cases hs
  ·obtain ⟨m,hm,hs⟩:=List.mem_flatten.1 hs
   obtain ⟨y,hy,rfl⟩:=List.mem_map.1 hm
   exact ih y hy (he.2 y hy) s hs
theorem Lj.spansR {d:Bb} {l:List T} (h:Lj d l):∀ s∈spansR d.signals l,S1 d.signals s:=by
 intro s hs
 unfold Go.Proofs.YtbliplladmamoaaGreat.spansR rS at hs
 obtain ⟨m,hm,hs⟩:=List.mem_flatten.1 hs
 obtain ⟨t,ht,rfl⟩:=List.mem_map.1 hm
 obtain ⟨m,hm,hs⟩:=List.mem_flatten.1 hs
 obtain ⟨e,he,rfl⟩:=List.mem_map.1 hm
 exact Yu _ e (((F5 _ _).1 (h.each t (List.mem_of_mem_take ht))).2.2.1 e he) s hs
def Ag4 (d:Bb):Int:=H8 d.signals d.signals.length
def wsM (d:Bb):List (List Int):=(List.range d.procs.length).map fun (p:Nat)=>Il d (p:Int)
def Abs (d:Bb):Int × List Int:=if By d=0 then (match Aio (Ag4 d).toNat (wsM d) with | none=>(120,[]) | some o=>(0,o)) else (1,[])
def Ain:Option (List Int)->Int × List Int
 | none=>(120,[])
 | some o=>(0,o)
theorem Au.ofBlk {N g:Nat} {l:List Int} {w:World} (h:Blk w g (l.map (Value.int .i64)).toArray 3) (hN:N<=g) (hm:l.length<=9223372036854775807):Au N (.slice (some ⟨g,0,none⟩) l.length l.length) l w :=
 ⟨by simp,.inr ⟨g,l.length,_,rfl,hN,h,Nat.le_refl _,by simpa [maxLen] using hm,by simp,by rw [Nat.mul_one];exact List.take_of_length_le (by simp)⟩⟩
theorem Afx (d:Bb) (v:Value) (w:World) (h:Ck w v d) (j:d.ok) (hc:By d=0) :
  Calls Tryz.prog 15 #[v] w fun r w'=>∃ u,r=.returned (.tuple #[u,.int .i64 0])/\Au w.heap.size u (D0 d.signals d.signals.length) w'/\Ext w w':=by
 have:=Qj d v w h j
 rw [if_pos hc,if_pos hc] at this
 exact this
/-! ### marks: of the numbers below n those that a list has -/
def Ai8 (n:Nat) (S:List Int):List Bool:=(List.range n).map fun (i:Nat)=>decide ((i:Int)∈S)
def Aij (bl:List Bool) (k:Nat):List Int:=((List.range k).filter fun i=>bl.getD i false).map fun (i:Nat)=>(i:Int)
/-! ### what a span marks, number by number -/
def Aiz (offs:List Int) (s:Cb) (k:Nat):List Int:=(List.range k).map fun (j:Nat)=>offs.getD s.sig.toNat 0+(s.lo+(j:Int))
/-! ### all that is marked stands in the design -/
def wsN (ls:List Ai) (op w v sig hi lo n:Int) (ws:List Int):Prop :=
 (op=1/\ws=[]/\1<=w/\w<=64/\holds w v=true/\sig=0/\hi=0/\lo=0/\n=0) \/
 (op=2/\ws=[]/\slice ls sig hi lo=true/\w=hi-lo+1/\v=0/\n=0) \/
 (op=3/\(∃ k,ws=[k])/\0<=sig/\sig<ls.length/\w=1/\v=0/\hi=0/\lo=0/\n=0) \/
 (op=4/\(∃ k,ws=[k]/\(1<=n/\n<=2/\k=w\/3<=n/\n<=5/\w=1\/n=6/\w=1/\k=1))/\v=0/\sig=0/\hi=0/\lo=0) \/
 (op=5/\(∃ j k,ws=[j,k]/\(11<=n/\n<=16/\j=w/\k=w\/17<=n/\n<=18/\j=w\/19<=n/\n<=24/\w=1/\j=k\/25<=n/\n<=26/\w=1/\j=1/\k=1))/\v=0/\sig=0/\hi=0/\lo=0) \/
 (op=6/\ws=[1,w,w]/\v=0/\sig=0/\hi=0/\lo=0/\n=0) \/
 (op=7/\ws≠[]/\w=ws.sum/\w<=64/\v=0/\sig=0/\hi=0/\lo=0/\n=0) \/
 (op=8/\(∃ k,ws=[k]/\(31<=n/\n<=32/\k<=w\/n=33/\w<=k))/\1<=w/\w<=64/\v=0/\sig=0/\hi=0/\lo=0)
def WS (ls:List Ai):E->Prop
 | ⟨op,w,v,sig,hi,lo,n,l⟩=>wsN ls op w v sig hi lo n (l.map (·.w))/\all l
where all:List E->Prop
 | []=>True
 | e::l=>WS ls e/\all l
theorem Hv (ls:List Ai) (e:E):WS ls e↔wsN ls e.op e.w e.v e.sig e.hi e.lo e.n (e.l.map (·.w))/\∀ x∈e.l,WS ls x:=by
 have h:∀ l,WS.all ls l↔∀ x∈l,WS ls x:=by
  intro l;induction l with
  | nil=>simp [WS.all]
  | cons x l ih=>simp [WS.all,ih]
 cases e;simp [WS,h]
theorem P8 {α β:Type} {f:α->β} {l:List α} {a:β} (h:l.map f=[a]):∃ x,l=[x]/\f x=a:=by
 cases l with
 | nil=>cases h
 | cons x l=>simp at h;exact ⟨x,by rw [h.2],h.1⟩
theorem Aca {α β:Type} {f:α->β} {l:List α} {a b:β} (h:l.map f=[a,b]):∃ x y,l=[x,y]/\f x=a/\f y=b:=by
 cases l with
 | nil=>cases h
 | cons x l =>
  simp only [List.map_cons,List.cons.injEq] at h
  obtain ⟨y,rfl,h2⟩:=P8 h.2
  exact ⟨x,y,rfl,h.1,h2⟩
theorem Aeo {α β:Type} {f:α->β} {l:List α} {a b c:β} (h:l.map f=[a,b,c]):∃ x y z,l=[x,y,z]/\f x=a/\f y=b/\f z=c:=by
 cases l with
 | nil=>cases h
 | cons x l =>
  simp only [List.map_cons,List.cons.injEq] at h
  obtain ⟨y,z,rfl,h2,h3⟩:=Aca h.2
  exact ⟨x,y,z,rfl,h.1,h2,h3⟩
theorem Ps (l:List E) (h:∀ x∈l,own x=x.w/\1<=x.w):∀ n,own.cat l n=n+(l.map (·.w)).sum:=by
 induction l with
 | nil=>intro n;simp [own.cat]
 | cons x l ih =>
  intro n
  have hx:=h x (by simp)
  rw [own.cat,if_neg (by omega),ih (fun y hy=>h y (by simp [hy]))]
  simp only [List.map_cons,List.sum_cons]
  omega
theorem Agw (l:List E) (h:∀ x∈l,1<=x.w):(l.length:Int)<=(l.map (·.w)).sum:=by
 induction l with
 | nil=>simp
 | cons x l ih =>
  have:=h x (by simp)
  have:=ih fun y hy=>h y (by simp [hy])
  simp only [List.map_cons,List.sum_cons,List.length_cons]
  omega
theorem I0 {ls:List Ai} (aa:∀ x∈ls,x.w<=64) (e:E):WS ls e->own e=e.w/\1<=e.w/\e.w<=64:=by
 induction e using E.ind with
 | h e ih =>
  intro h
  obtain ⟨h0,hp⟩:=(Hv ls e).1 h
  have u:=fun x hx=>ih x hx (hp x hx)
  clear ih hp h
  rw [Np]
  obtain ⟨op,w,v,sig,hi,lo,n,l⟩:=e
  simp only at h0 u ⊢
  rcases h0 with ⟨rfl,-,h1,h2,-⟩ | ⟨rfl,-,h1,h2,-⟩ | ⟨rfl,⟨k,hk⟩,-,-,rfl,-⟩ | ⟨rfl,⟨k,hk,h1⟩,-⟩ | ⟨rfl,⟨j,k,hk,h1⟩,-⟩ | ⟨rfl,hk,-⟩ | ⟨rfl,h1,h2,h3,-⟩ | ⟨rfl,⟨k,hk,h1⟩,h2,h3,-⟩
  ·simp;omega
  ·have:=Gw ls aa h1
   have:=Ol ls aa sig
   simp;omega
  ·simp
  ·obtain ⟨x,rfl,rfl⟩:=P8 hk
   have:=u x (by simp)
   rcases h1 with ⟨a1,a2,a3⟩ | ⟨a1,a2,a3⟩ | ⟨rfl,a2,a3⟩
   ·simp [a2,own.hd];omega
   ·simp [show ¬ n<=2 by omega];omega
   ·simp;omega
  ·obtain ⟨x,y,rfl,rfl,rfl⟩:=Aca hk
   have hx:=u x (by simp)
   have hy:=u y (by simp)
   rcases h1 with ⟨a1,a2,a3,a4⟩ | ⟨a1,a2,a3⟩ | ⟨a1,a2,a3,a4⟩ | ⟨a1,a2,a3,a4⟩
   ·simp [a2,own.fst,show ¬ own x=0 by omega];omega
   ·simp [show ¬ n<=16 by omega,a2,own.hd];omega
   ·simp [show ¬ n<=16 by omega,show ¬ n<=18 by omega];omega
   ·simp [show ¬ n<=16 by omega,show ¬ n<=18 by omega];omega
  ·obtain ⟨c,x,y,rfl,hc,hx,hy⟩:=Aeo hk
   have:=u x (by simp)
   simp [own.fst2,own.fst,show ¬ own x=0 by omega];omega
  ·have hs:=Agw l (fun x hx=>(u x hx).2.1)
   have hl:0<l.length:=by cases l with
    | nil=>exact absurd rfl h1
    | cons=>simp
   simp
   rw [Ps l (fun x hx=>⟨(u x hx).1,(u x hx).2.1⟩)]
   omega
  ·simp;omega
theorem Aas (l:List E) (h:∀ x∈l,Ao x 0=.ok x):Ao.sizeL l (List.replicate l.length 0)=.ok l:=by
 induction l with
 | nil=>rfl
 | cons x l ih =>
  simp only [List.length_cons,List.replicate_succ,Ao.sizeL,List.headD_cons,List.tail_cons,h x (by simp),ih (fun y hy=>h y (by simp [hy]))]
theorem F0 {x y:E} {l r:List E} {ps:List Int} (h:Ao.sizeL (x::l) ps=.ok (y::r)):Ao x (ps.headD 0)=.ok y/\Ao.sizeL l ps.tail=.ok r:=by
 rw [Ao.sizeL] at h
 cases hx:Ao x (ps.headD 0) with
 | error f=>simp only [hx] at h;cases h
 | ok x' =>
  simp only [hx] at h
  cases hl:Ao.sizeL l ps.tail with
  | error f=>simp only [hl] at h;cases h
  | ok r' =>
   simp only [hl] at h
   injection h with h
   injection h with h1 h2
   rw [h1,h2];exact ⟨rfl,rfl⟩
theorem Sr (k:Int) (l:List E) (h:Ao.sizeL l (List.replicate l.length k)=.ok l):∀ x∈l,Ao x k=.ok x:=by
 induction l with
 | nil=>simp
 | cons x l ih =>
  obtain ⟨h1,h2⟩:=F0 h
  simp only [List.length_cons,List.replicate_succ,List.headD_cons,List.tail_cons] at h1 h2
  intro y hy
  cases hy with
  | head=>exact h1
  | tail _ hy=>exact ih h2 y hy
theorem Ag2 {ls:List Ai} (ac:∀ x∈ls,x.w<=64) (e:E):WS ls e->∀ p,(p=0\/p=e.w\/p = -1/\e.w=1)->Ao e p=.ok e:=by
 induction e using E.ind with
 | h e ih =>
  intro h p ab
  have ho:=I0 ac e h
  have af:=fun x hx=>I0 ac x (((Hv ls e).1 h).2 x hx)
  obtain ⟨h0,hp⟩:=(Hv ls e).1 h
  have u:=fun x hx=>ih x hx (hp x hx)
  clear ih hp h
  have ag:Bw (if p = -1 then 1 else p) (Bw (own e) 32)=e.w:=by
   rw [ho.1]
   unfold Bw
   rcases ab with rfl | rfl | ⟨rfl,h1⟩
   ·simp [show ¬ e.w=0 by omega]
   ·rw [if_neg (by omega),if_neg (by omega)]
   ·simp [h1]
  rw [Gv,ag,if_neg (by rintro ⟨rfl,h1⟩;rcases ab with h2 | h2 | h2<;>omega),if_neg (by omega)]
  clear ag ab
  have ae:=ho.1
  rw [Np] at ae
  obtain ⟨op,w,v,sig,hi,lo,n,l⟩:=e
  simp only at h0 u ho ae af ⊢
  have aa:Ao.sizeL l (List.replicate l.length 0)=.ok l:=Aas l fun x hx=>u x hx 0 (.inl rfl)
  rcases h0 with ⟨rfl,hk,h1,h2,-⟩ | ⟨rfl,hk,h1,h2,-⟩ | ⟨rfl,⟨k,hk⟩,-,-,rfl,-⟩ | ⟨rfl,⟨k,hk,h1⟩,-⟩ | ⟨rfl,⟨j,k,hk,h1⟩,-⟩ | ⟨rfl,hk,-⟩ | ⟨rfl,h1,h2,h3,-⟩ | ⟨rfl,⟨k,hk,h1⟩,h2,h3,-⟩
  ·simp [Bo,ho.1,aa]
  ·simp [Bo,ho.1,aa]
  ·simp [Bo,ho.1,aa]
  ·obtain ⟨x,rfl,rfl⟩:=P8 hk
   have hx:=u x (by simp)
   rcases h1 with ⟨a1,a2,a3⟩ | ⟨a1,a2,a3⟩ | ⟨rfl,a2,a3⟩
   ·have:n=1\/n=2:=by omega
    rcases this with rfl | rfl<;>simp [Bo,Ao.sizeL,hx w (by omega)]
   ·have:n=3\/n=4\/n=5:=by omega
    rcases this with rfl | rfl | rfl<;>simp [Bo,Ao.sizeL,a3,hx 0 (by simp)]
   ·simp [Bo,Ao.sizeL,a2,hx (-1) (by omega)]
  ·obtain ⟨x,y,rfl,rfl,rfl⟩:=Aca hk
   have hx:=u x (by simp)
   have hy:=u y (by simp)
   have ox:=af x (by simp)
   rcases h1 with ⟨a1,a2,a3,a4⟩ | ⟨a1,a2,a3⟩ | ⟨a1,a2,a3,a4⟩ | ⟨a1,a2,a3,a4,a5⟩
   ·have:n=11\/n=12\/n=13\/n=14\/n=15\/n=16:=by omega
    rcases this with rfl | rfl | rfl | rfl | rfl | rfl<;>simp [Bo,Ao.sizeL,List.replicate,hx w (by omega),hy w (by omega)]
   ·have:n=17\/n=18:=by omega
    rcases this with rfl | rfl<;>simp [Bo,Ao.sizeL,List.replicate,hx w (by omega),hy 0 (by omega)]
   ·have ht:Bw (own.fst [x,y]) 32=x.w:=by
     simp only [own.fst,ox.1]
     rw [if_neg (by omega)];unfold Bw;rw [if_neg (by omega)]
    have:n=19\/n=20\/n=21\/n=22\/n=23\/n=24:=by omega
    rcases this with rfl | rfl | rfl | rfl | rfl | rfl<;>simp [Bo,Ao.sizeL,List.replicate,ht,a3,hx x.w (by simp),hy x.w (by omega)]
   ·have:n=25\/n=26:=by omega
    rcases this with rfl | rfl<;>simp [Bo,Ao.sizeL,List.replicate,a3,hx (-1) (by omega),hy (-1) (by omega)]
  ·obtain ⟨c,x,y,rfl,hc,hx,hy⟩:=Aeo hk
   simp [Bo,Ao.sizeL,List.replicate,u c (by simp) (-1) (by omega),u x (by simp) w (by omega),u y (by simp) w (by omega)]
  ·simp [Bo,ho.1,aa,show ¬ w=0 by omega,show ¬ 64<w by omega]
  ·obtain ⟨x,rfl,rfl⟩:=P8 hk
   have ai:Ao.sizeL [x] [0]=.ok [x]:=aa
   simp [Bo,ho.1,ai,Ao.hdW]
   omega
theorem H5 {ls:List Ai} (ag:∀ x∈ls,x.w<=64) (e:E):A7 ls e=true->∀ p,-1<=p->Ao e p=.ok e->WS ls e/\e.w=Bw (if p = -1 then 1 else p) (Bw (own e) 32):=by
 induction e using E.ind with
 | h e ih =>
  intro hs p av h
  have ai:=C8 ls ag e hs
  have au:=(Ku e ai).1
  rw [Fu,Bool.and_eq_true,List.all_eq_true] at hs
  obtain ⟨u,an⟩:=hs
  have ae:=fun x hx=>ih x hx (an x hx)
  have am:1<=Bw (if p = -1 then 1 else p) (Bw (own e) 32):=by
   unfold Bw
   repeat' split
   all_goals omega
  have ho:=Np e
  have af:=fun x hx=>(Ku x (((Fd e).1 ai).2.2.2 x hx)).1
  rw [Gv] at h
  clear ai
  generalize Bw (if p = -1 then 1 else p) (Bw (own e) 32)=w2 at *
  clear ih
  split at h
  ·cases h
  ·split at h
   ·rename_i h2
    split at h
    ·injection h with h
     have:=congrArg E.w h
     simp only at this
     omega
    ·cases h
   ·split at h
    ·cases h
    ·rename_i ps j
     split at h
     ·cases h
     ·rename_i l' ab
      split at h
      ·cases h
      ·rename_i ak
       injection h with h
       have hw:=congrArg E.w h
       have hl:=congrArg E.l h
       simp only at hw hl
       subst hl
       subst hw
       refine ⟨(Hv ls e).2 ?_,rfl⟩
       clear h
       obtain ⟨op,w,v,sig,hi,lo,n,l⟩:=e
       simp only at *
       have aa:ps=List.replicate l.length 0->∀ x∈l,WS ls x:=fun hq x hx=>(ae x hx 0 (by omega) (Sr 0 l (by rw [<-hq];exact ab) x hx)).1
       have t0:∀ x∈l,∀ k,-1<=k->k≠0->Ao x k=.ok x->WS ls x/\x.w=if k = -1 then 1 else k:=fun x hx k hk ar hq=>by
        obtain ⟨q1,q2⟩:=ae x hx k hk hq
        refine ⟨q1,?_⟩
        rw [q2];unfold Bw
        rw [if_neg (by split<;>omega)]
       have ap:=ae
       clear ae
       unfold Bl at u
       repeat' split at u
       all_goals try simp only [Bool.and_eq_true,Bool.or_eq_true,decide_eq_true_eq] at u
       ·rename_i o;subst o
        obtain rfl:l=[]:=List.eq_nil_of_length_eq_zero (by omega)
        exact ⟨.inl ⟨rfl,rfl,am,by omega,u.1.2.resolve_left (by omega),by omega,by omega,by omega,by omega⟩,by simp⟩
       ·rename_i o;subst o
        obtain rfl:l=[]:=List.eq_nil_of_length_eq_zero (by omega)
        simp [Bo,ho] at j
        exact ⟨.inr (.inl ⟨rfl,rfl,u.1.2,by omega,by omega,by omega⟩),by simp⟩
       ·rename_i o;subst o
        obtain ⟨x,rfl⟩:=List.length_eq_one_iff.1 u.1.1.1
        simp [Bo,ho] at j
        exact ⟨.inr (.inr (.inl ⟨rfl,⟨x.w,rfl⟩,by omega,by omega,by omega,by omega,by omega,by omega,by omega⟩)),aa (by rw [<-j.2];rfl)⟩
       ·rename_i o;subst o
        obtain ⟨x,rfl⟩:=List.length_eq_one_iff.1 u.1.1.1
        have:n=1\/n=2\/n=3\/n=4\/n=5\/n=6:=by omega
        have hz:v=0/\sig=0/\hi=0/\lo=0:=by omega
        have hx:=fun k h1 h2=>t0 x (by simp) k h1 h2
        have aj:=fun h=>aa h x (by simp)
        rcases this with rfl | rfl | rfl | rfl | rfl | rfl<;>simp [Bo] at j
        ·subst j;obtain ⟨q1,-⟩:=F0 ab;simp only [List.headD_cons] at q1
         obtain ⟨q2,q3⟩:=hx _ (by omega) (by omega) q1
         exact ⟨.inr (.inr (.inr (.inl ⟨rfl,⟨x.w,rfl,.inl ⟨by decide,by decide,by rw [q3,if_neg (by omega)]⟩⟩,hz⟩))),by simpa using q2⟩
        ·subst j;obtain ⟨q1,-⟩:=F0 ab;simp only [List.headD_cons] at q1
         obtain ⟨q2,q3⟩:=hx _ (by omega) (by omega) q1
         exact ⟨.inr (.inr (.inr (.inl ⟨rfl,⟨x.w,rfl,.inl ⟨by decide,by decide,by rw [q3,if_neg (by omega)]⟩⟩,hz⟩))),by simpa using q2⟩
        ·exact ⟨.inr (.inr (.inr (.inl ⟨rfl,⟨x.w,rfl,.inr (.inl ⟨by decide,by decide,j.1⟩)⟩,hz⟩))),by simpa using aj (by rw [<-j.2];rfl)⟩
        ·exact ⟨.inr (.inr (.inr (.inl ⟨rfl,⟨x.w,rfl,.inr (.inl ⟨by decide,by decide,j.1⟩)⟩,hz⟩))),by simpa using aj (by rw [<-j.2];rfl)⟩
        ·exact ⟨.inr (.inr (.inr (.inl ⟨rfl,⟨x.w,rfl,.inr (.inl ⟨by decide,by decide,j.1⟩)⟩,hz⟩))),by simpa using aj (by rw [<-j.2];rfl)⟩
        ·obtain ⟨rfl,rfl⟩:=j;obtain ⟨q1,-⟩:=F0 ab;simp only [List.headD_cons] at q1
         obtain ⟨q2,q3⟩:=hx _ (by omega) (by omega) q1
         exact ⟨.inr (.inr (.inr (.inl ⟨rfl,⟨x.w,rfl,.inr (.inr ⟨rfl,rfl,by rw [q3];rfl⟩)⟩,hz⟩))),by simpa using q2⟩
       ·rename_i o;subst o
        obtain ⟨x,y,rfl⟩:∃ x y,l=[x,y]:=by
         match l,u.1.1.1 with
         | [x,y],_=>exact ⟨x,y,rfl⟩
        have hz:v=0/\sig=0/\hi=0/\lo=0:=by omega
        have ao:(11<=n/\n<=16/\ps=[w,w])\/(17<=n/\n<=18/\ps=[w,0])\/(19<=n/\n<=24/\w=1/\ps=[Bw (own.fst [x,y]) 32,Bw (own.fst [x,y]) 32])\/(25<=n/\n<=26/\w=1/\ps=[-1,-1]):=by
         unfold Bo at j
         simp only at j
         repeat' split at j
         all_goals simp [List.replicate] at j
         all_goals try omega
         all_goals subst j
         ·exact .inr (.inr (.inr ⟨by omega,by omega,by omega,rfl⟩))
         ·exact .inr (.inr (.inl ⟨by omega,by omega,by omega,rfl⟩))
         ·exact .inr (.inl ⟨by omega,by omega,rfl⟩)
         ·exact .inl ⟨by omega,by omega,rfl⟩
         ·rename_i q1 q2;exact absurd (Or.inr trivial) q1
        have hx:=fun k h1 h2=>t0 x (by simp) k h1 h2
        have hy:=fun k h1 h2=>t0 y (by simp) k h1 h2
        have aw:=af x (by simp)
        have ax:=af y (by simp)
        obtain ⟨q1,q2⟩:Ao x (ps.headD 0)=.ok x/\Ao y (ps.tail.headD 0)=.ok y:=by
         obtain ⟨q1,q2⟩:=F0 ab
         exact ⟨q1,(F0 q2).1⟩
        rcases ao with ⟨a1,a2,rfl⟩ | ⟨a1,a2,rfl⟩ | ⟨a1,a2,a3,rfl⟩ | ⟨a1,a2,a3,rfl⟩
        all_goals simp only [List.headD_cons,List.tail_cons] at q1 q2
        ·obtain ⟨b1,b2⟩:=hx _ (by omega) (by omega) q1
         obtain ⟨c1,c2⟩:=hy _ (by omega) (by omega) q2
         rw [if_neg (by omega)] at b2 c2
         exact ⟨.inr (.inr (.inr (.inr (.inl ⟨rfl,⟨x.w,y.w,rfl,.inl ⟨a1,a2,b2,c2⟩⟩,hz⟩)))),by simp;exact ⟨b1,c1⟩⟩
        ·obtain ⟨b1,b2⟩:=hx _ (by omega) (by omega) q1
         rw [if_neg (by omega)] at b2
         exact ⟨.inr (.inr (.inr (.inr (.inl ⟨rfl,⟨x.w,y.w,rfl,.inr (.inl ⟨a1,a2,b2⟩)⟩,hz⟩)))),by simp;exact ⟨b1,(ap y (by simp) 0 (by omega) q2).1⟩⟩
        ·have hk:Bw (own.fst [x,y]) 32≠0/\-1<=Bw (own.fst [x,y]) 32:=by
          unfold Bw;simp only [own.fst];repeat' split
          all_goals omega
         obtain ⟨b1,b2⟩:=hx _ hk.2 hk.1 q1
         obtain ⟨c1,c2⟩:=hy _ hk.2 hk.1 q2
         exact ⟨.inr (.inr (.inr (.inr (.inl ⟨rfl,⟨x.w,y.w,rfl,.inr (.inr (.inl ⟨a1,a2,a3,b2.trans c2.symm⟩))⟩,hz⟩)))),by simp;exact ⟨b1,c1⟩⟩
        ·obtain ⟨b1,b2⟩:=hx _ (by simp) (by simp) q1
         obtain ⟨c1,c2⟩:=hy _ (by simp) (by simp) q2
         exact ⟨.inr (.inr (.inr (.inr (.inl ⟨rfl,⟨x.w,y.w,rfl,.inr (.inr (.inr ⟨a1,a2,a3,b2,c2⟩))⟩,hz⟩)))),by simp;exact ⟨b1,c1⟩⟩
       ·rename_i o;subst o
        obtain ⟨c,x,y,rfl⟩:∃ c x y,l=[c,x,y]:=by
         match l,u.1 with
         | [c,x,y],_=>exact ⟨c,x,y,rfl⟩
        simp [Bo,List.replicate] at j
        subst j
        obtain ⟨q1,q⟩:=F0 ab
        obtain ⟨q2,q⟩:=F0 q
        obtain ⟨q3,-⟩:=F0 q
        simp only [List.headD_cons,List.tail_cons] at q1 q2 q3
        obtain ⟨a1,a2⟩:=t0 c (by simp) _ (by omega) (by omega) q1
        obtain ⟨b1,b2⟩:=t0 x (by simp) _ (by omega) (by omega) q2
        obtain ⟨c1,c2⟩:=t0 y (by simp) _ (by omega) (by omega) q3
        rw [if_neg (by omega)] at b2 c2
        exact ⟨.inr (.inr (.inr (.inr (.inr (.inl ⟨rfl,by simp [a2,b2,c2],by omega,by omega,by omega,by omega,by omega⟩))))),by simp;exact ⟨a1,b1,c1⟩⟩
       ·rename_i o;subst o
        simp [Bo] at j
        obtain ⟨h1,h2⟩:=j
        have ac:=aa h2.symm
        have aq:=Ps l (fun x hx=>⟨(I0 ag x (ac x hx)).1,(I0 ag x (ac x hx)).2.1⟩) 0
        have al:0<l.length:=u.1
        simp at ho
        exact ⟨.inr (.inr (.inr (.inr (.inr (.inr (.inl ⟨rfl,by intro h;simp at h;rw [h] at al;simp at al,by omega,by omega,by omega,by omega,by omega,by omega,by omega⟩)))))),ac⟩
       ·rename_i o;subst o
        obtain ⟨x,rfl⟩:=List.length_eq_one_iff.1 u.1.1.1.1.1
        simp [Bo,ho] at j
        simp [Ao.hdW] at ak
        exact ⟨.inr (.inr (.inr (.inr (.inr (.inr (.inr ⟨rfl,⟨x.w,rfl,by omega⟩,by omega,by omega,by omega,by omega,by omega,by omega⟩)))))),aa (by rw [<-j];rfl)⟩
       ·cases u
end Go.Proofs.YtbliplladmamoaaGreat
