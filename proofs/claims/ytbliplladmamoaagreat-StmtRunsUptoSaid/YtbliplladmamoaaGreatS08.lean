/- Laws and walks that a claim of this seat leans on: ShapeTM, SizerM, Sizer. -/
import Derived.Test.YtbliplladmamoaaGreatS01
import Derived.Test.YtbliplladmamoaaGreatS06
import Derived.Test.YtbliplladmamoaaGreatSSize
import Derived.Test.YtbliplladmamoaaGreatS03
import Derived.Test.YtbliplladmamoaaGreatS00
set_option maxRecDepth 100000
set_option maxHeartbeats 8000000
set_option linter.all false
namespace Go.Proofs.YtbliplladmamoaaGreat
/-! ### shapes of statements -/
def An (ls:List Ai):T->Bool
 | ⟨op,sig,hi,lo,e,l⟩ =>
  if (e.any fun x=>!A7 ls x)||(decide (op≠1)&&(decide (sig≠0)||decide (hi≠0)||decide (lo≠0))) then false
  else if op=3 then decide (e.length=1)&&(arms l&&decide (0<l.length))
  else if op=1 then decide (e.length=1)&&decide (l.length=0)&&slice ls sig hi lo
  else if op=2 then (decide (e.length=1)&&decide (l.length=2)&&(l.all fun x=>decide (x.op=5)))&&allT l
  else if op=5 then decide (e.length=0)&&allT l
  else false
where
 allT:List T->Bool
  | []=>true
  | t::l=>An ls t&&allT l
 armT:T->Bool
  | ⟨op,sig,hi,lo,e,l⟩=>decide (op=4)&&decide (sig=0)&&decide (hi=0)&&decide (lo=0)&&(e.all fun x=>decide (x.op=1)&&A7 ls x)&&allT l
 arms:List T->Bool
  | []=>true
  | t::l=>(decide (t.e.length=0)==decide (l.length=0))&&armT t&&arms l
theorem An.allT_eq (ls:List Ai) (l:List T):An.allT ls l=l.all (An ls):=by
 induction l with
 | nil=>rfl
 | cons x l ih=>simp [An.allT,ih]
theorem Ff (ls:List Ai) (t:T):An ls t =
  (if (t.e.any fun x=>!A7 ls x)||(decide (t.op≠1)&&(decide (t.sig≠0)||decide (t.hi≠0)||decide (t.lo≠0))) then false
  else if t.op=3 then decide (t.e.length=1)&&(An.arms ls t.l&&decide (0<t.l.length))
  else if t.op=1 then decide (t.e.length=1)&&decide (t.l.length=0)&&slice ls t.sig t.hi t.lo
  else if t.op=2 then (decide (t.e.length=1)&&decide (t.l.length=2)&&(t.l.all fun x=>decide (x.op=5)))&&t.l.all (An ls)
  else if t.op=5 then decide (t.e.length=0)&&t.l.all (An ls)
  else false):=by
 cases t;rw [An];simp only [An.allT_eq]
theorem An.armT_eq (ls:List Ai) (t:T):An.armT ls t=(decide (t.op=4)&&decide (t.sig=0)&&decide (t.hi=0)&&decide (t.lo=0)&&(t.e.all fun x=>decide (x.op=1)&&A7 ls x)&&t.l.all (An ls)):=by
 cases t;rw [An.armT,An.allT_eq]
theorem An.arms_drop (ls:List Ai) (l:List T) (k:Nat) (h:k<l.length) :
  An.arms ls (l.drop k)=((decide (l[k].e.length=0)==decide (k+1=l.length))&&An.armT ls l[k]&&An.arms ls (l.drop (k+1))):=by
 rw [List.drop_eq_getElem_cons h,An.arms]
 congr 3
 simp only [List.length_drop]
 rw [decide_eq_decide];omega
/-! ### a sizer: its first error stays -/
def zE:E:=⟨0,0,0,0,0,0,0,[]⟩
def szE (err:Int) (e:E) (w:Int):E × Int:=if err≠0 then (zE,err) else match Ao e w with | .ok y=>(y,0) | .error g=>(zE,g)
def Cw {α β σ:Type} (f:σ->α->β × σ):σ->List α->List β × σ
 | s,[]=>([],s)
 | s,x::l=>((f s x).1::(Cw f (f s x).2 l).1,(Cw f (f s x).2 l).2)
theorem Zm {α β σ:Type} (f:σ->α->β × σ) (l:List α) (x:α):∀ s,Cw f s (l++[x])=((Cw f s l).1++[(f (Cw f s l).2 x).1],(f (Cw f s l).2 x).2):=by
 induction l with
 | nil=>intro s;rfl
 | cons y l ih=>intro s;simp only [List.cons_append,Cw,ih]
theorem Ki {α β σ:Type} (f:σ->α->β × σ) (s:σ) (l:List α) (k:Nat) (h:k<l.length) :
  Cw f s (l.take (k+1))=((Cw f s (l.take k)).1++[(f (Cw f s (l.take k)).2 l[k]).1],(f (Cw f s (l.take k)).2 l[k]).2):=by
 rw [Ba l k h,Zm]
theorem Hk {α β σ:Type} (f:σ->α->β × σ) (l:List α):∀ s,(Cw f s l).1.length=l.length:=by
 induction l with
 | nil=>intro s;rfl
 | cons y l ih=>intro s;simp [Cw,ih]
def Fg (ls:List Ai) (sig:Int):Int:=match ls[sig.toNat]? with | some s=>s.kind | none=>0
def szT (ls:List Ai) (ck:Bool):T->Int->Int->T × Int
 | ⟨op,sig,hi,lo,e,l⟩,lab,err =>
  let err0:=if op=1/\err=0/\(Fg ls sig=1\/ck≠decide (Fg ls sig=4)) then 85 else err
  let w:=if op=1 then hi-lo+1 else if op=2 then -1 else if op=3 then 0 else lab
  let r:=Cw (fun s x=>szE s x w) err0 e
  let lab2:=if op=3 then Ao.hdW r.1 else lab
  let q:=szTs l lab2 r.2
  (⟨op,sig,hi,lo,r.1,q.1⟩,q.2)
where szTs:List T->Int->Int->List T × Int
 | [],_,err=>([],err)
 | t::l,lab,err=>((szT ls ck t lab err).1::(szTs l lab (szT ls ck t lab err).2).1,(szTs l lab (szT ls ck t lab err).2).2)
theorem szT.szTs_eq (ls:List Ai) (ck:Bool) (l:List T) (u:Int):∀ j,szT.szTs ls ck l u j=Cw (fun s x=>szT ls ck x u s) j l:=by
 induction l with
 | nil=>intro j;rfl
 | cons t l ih=>intro j;simp only [szT.szTs,Cw,ih]
def Da (ls:List Ai) (ck:Bool) (t:T) (err:Int):Int:=if t.op=1/\err=0/\(Fg ls t.sig=1\/ck≠decide (Fg ls t.sig=4)) then 85 else err
def szW (t:T) (lab:Int):Int:=if t.op=1 then t.hi-t.lo+1 else if t.op=2 then -1 else if t.op=3 then 0 else lab
def Fi (err w:Int) (l:List E):List E × Int:=Cw (fun s x=>szE s x w) err l
theorem Uh (j w:Int) (l:List E) (k:Nat) (h:k<l.length):Fi j w (l.take (k+1))=((Fi j w (l.take k)).1++[(szE (Fi j w (l.take k)).2 l[k] w).1],(szE (Fi j w (l.take k)).2 l[k] w).2):=Ki _ _ _ _ h
def Cm (ls:List Ai) (ck:Bool) (lab err:Int) (l:List T):List T × Int:=Cw (fun s x=>szT ls ck x lab s) err l
theorem Mq (ls:List Ai) (ck:Bool) (j u:Int) (l:List T) (k:Nat) (h:k<l.length) :
  Cm ls ck j u (l.take (k+1))=((Cm ls ck j u (l.take k)).1++[(szT ls ck l[k] j (Cm ls ck j u (l.take k)).2).1],(szT ls ck l[k] j (Cm ls ck j u (l.take k)).2).2):=Ki _ _ _ _ h
theorem Ij (j w:Int) (l:List E):(Fi j w l).1.length=l.length:=Hk _ _ _
theorem Hc (ls:List Ai) (ck:Bool) (u j:Int) (l:List T):(Cm ls ck u j l).1.length=l.length:=Hk _ _ _
theorem Ns (ls:List Ai) (ck:Bool) (t:T) (j u:Int):szT ls ck t j u =
  (⟨t.op,t.sig,t.hi,t.lo,(Fi (Da ls ck t u) (szW t j) t.e).1,
   (Cm ls ck (if t.op=3 then Ao.hdW (Fi (Da ls ck t u) (szW t j) t.e).1 else j) (Fi (Da ls ck t u) (szW t j) t.e).2 t.l).1⟩,
   (Cm ls ck (if t.op=3 then Ao.hdW (Fi (Da ls ck t u) (szW t j) t.e).1 else j) (Fi (Da ls ck t u) (szW t j) t.e).2 t.l).2):=by
 cases t;simp only [szT,szT.szTs_eq];rfl
def Nb (ls:List Ai):T->Prop
 | ⟨op,sig,hi,lo,e,l⟩=>(op=1->0<=sig/\sig<ls.length/\0<=lo/\lo<=hi/\hi<=64)/\(op=3->0<e.length)/\(∀ x∈e,F1 x)/\oks l
where oks:List T->Prop
 | []=>True
 | t::l=>Nb ls t/\oks l
theorem Nb.oks_iff (ls:List Ai) (l:List T):Nb.oks ls l↔∀ t∈l,Nb ls t:=by
 induction l with
 | nil=>simp [Nb.oks]
 | cons e l ih=>simp [Nb.oks,ih]
theorem Hu (ls:List Ai) (t:T):Nb ls t↔(t.op=1->0<=t.sig/\t.sig<ls.length/\0<=t.lo/\t.lo<=t.hi/\t.hi<=64)/\(t.op=3->0<t.e.length)/\(∀ x∈t.e,F1 x)/\∀ x∈t.l,Nb ls x:=by
 cases t;simp [Nb,Nb.oks_iff]
theorem Ol (ls:List Ai) (h:∀ x∈ls,x.w<=64) (sig:Int):Dn ls sig<=64:=by
 unfold Dn
 cases h':ls[sig.toNat]? with
 | none=>simp
 | some x=>simpa using h x (List.mem_of_getElem? h')
theorem Gw (ls:List Ai) (h:∀ x∈ls,x.w<=64) {sig hi lo:Int} (hs:slice ls sig hi lo=true):0<=sig/\sig<ls.length/\0<=lo/\lo<=hi/\hi<Dn ls sig/\hi<=64:=by
 have j:=Ol ls h sig
 unfold slice at hs
 simp only [Bool.and_eq_true,decide_eq_true_eq] at hs
 omega
theorem C8 (ls:List Ai) (h:∀ x∈ls,x.w<=64) (e:E) (he:A7 ls e=true):F1 e:=by
 induction e using E.ind with
 | h e ih =>
  rw [Fu,Bool.and_eq_true,List.all_eq_true] at he
  obtain ⟨h0,h1⟩:=he
  refine (Fd e).2 ⟨?_,?_,?_,fun x hx=>ih x hx (h1 x hx)⟩
  ·rintro (h2 | h2) <;>
   ·rw [h2] at h0
    simp [Bl] at h0
    omega
  ·intro h2
   rw [h2] at h0
   simp [Bl] at h0
   have:=Gw ls h h0.1.2
   omega
  ·rintro (h2 | h2 | h2 | h2) <;>
   ·rw [h2] at h0
    simp [Bl] at h0
    omega
theorem L7 (ls:List Ai) (h:∀ x∈ls,x.w<=64) (t:T):(An ls t=true->Nb ls t)/\(An.armT ls t=true->Nb ls t):=by
 induction t using T.ind with
 | h t ih =>
  have j:∀ l:List T,(∀ x∈l,x∈t.l)->An.arms ls l=true->∀ x∈l,Nb ls x:=by
   intro l
   induction l with
   | nil=>intro _ _ x hx;cases hx
   | cons y l ih2 =>
    intro hm ha x hx
    rw [An.arms,Bool.and_eq_true,Bool.and_eq_true] at ha
    cases hx with
    | head=>exact (ih _ (hm _ (by simp))).2 ha.1.2
    | tail _ hx=>exact ih2 (fun z hz=>hm z (by simp [hz])) ha.2 x hx
  constructor
  ·intro ht
   rw [Ff] at ht
   split at ht
   ·cases ht
   ·rename_i h0
    have hE:∀ x∈t.e,F1 x:=by
     intro x hx
     refine C8 ls h x ?_
     have u:(t.e.any fun x=>!A7 ls x)=false:=by
      cases hh:(t.e.any fun x=>!A7 ls x)
      ·rfl
      ·exfalso;apply h0;rw [hh];rfl
     have:=List.any_eq_false.1 u x hx
     simpa using this
    split at ht
    ·rename_i h3
     simp only [Bool.and_eq_true,decide_eq_true_eq] at ht
     exact (Hu ls t).2 ⟨fun h1=>by omega,fun _=>by omega,hE,j t.l (fun _ h=>h) ht.2.1⟩
    ·split at ht
     ·rename_i h3 h1
      simp only [Bool.and_eq_true,decide_eq_true_eq] at ht
      have:=Gw ls h ht.2
      have hl:t.l=[]:=List.eq_nil_of_length_eq_zero ht.1.2
      exact (Hu ls t).2 ⟨fun _=>by omega,fun h=>by omega,hE,by rw [hl];intro x hx;cases hx⟩
     ·split at ht
      ·simp only [Bool.and_eq_true,List.all_eq_true] at ht
       exact (Hu ls t).2 ⟨fun h=>by omega,fun h=>by omega,hE,fun x hx=>(ih x hx).1 (ht.2 x hx)⟩
      ·split at ht
       ·simp only [Bool.and_eq_true,List.all_eq_true] at ht
        exact (Hu ls t).2 ⟨fun h=>by omega,fun h=>by omega,hE,fun x hx=>(ih x hx).1 (ht.2 x hx)⟩
       ·cases ht
  ·intro ht
   rw [An.armT_eq] at ht
   simp only [Bool.and_eq_true,decide_eq_true_eq,List.all_eq_true] at ht
   exact (Hu ls t).2 ⟨fun h=>by omega,fun h=>by omega,fun x hx=>C8 ls h x (ht.1.2 x hx).2,fun x hx=>(ih x hx).1 (ht.2 x hx)⟩
open Go.RowKit
theorem Rs (e:E):N1 e:=E.ind (P:=N1) (fun e ih=>Acp e ih) e
theorem Dc.open2 {w w':World} {o:Except Int E} {r:Ending} (h:Dc w o r w'):∃ cs g,r=.returned (.tuple #[.agg cs.toArray,.int .i64 g])/\cs.length=8/\cs.all (·.oneCell')=true/\Ext w w' /\
  ((g=0/\∃ y,o=.ok y/\FE w.heap.size w' cs y)\/((90<=g/\g<=92)/\o=.error g/\cs=A0)):=by
 rcases h with ⟨g,ho,hg,rfl,hx⟩ | ⟨y,cs,ho,rfl,hf,hx⟩
 ·exact ⟨_,_,rfl,rfl,rfl,hx,.inr ⟨hg,ho,rfl⟩⟩
 ·exact ⟨_,_,rfl,(by obtain ⟨s,rfl,-⟩:=hf.ve;rfl),hf.ve.one,hx,.inl ⟨rfl,y,ho,hf⟩⟩
def Ac5 (w:World) (B:Nat) (sl:Value) (q:E × Int) (r:Ending) (w':World):Prop :=
 ∃ cs',r=.returned (.agg cs'.toArray)/\Blk w' B #[sl,.int .i64 q.2] 102/\w.grownBy w' (some B)/\FV VE w.heap.size w' cs' q.1
theorem Aa9 (N:Nat) (w:World):FV VE N w A0 zE:=fun _ _=>⟨_,rfl,Sl.nil _ _⟩
theorem Rc (e:E) (wd:Int) (B:Nat) (sl:Value) (j:Int) (cs:List Value) (w:World) (hB:Blk w B #[sl,.int .i64 j] 102) (hV:VE w cs e) (az:e.wf) (ax:F1 e) (hn:nodes e<=1048576) :
  Calls Tryz.prog 60 #[.pointer (some ⟨B,0,none⟩),.agg cs.toArray,.int .i64 wd] w (Ac5 w B sl (szE j e wd)):=by
 have ah:=hB.lt
 have h8:cs.length=8:=by obtain ⟨s,rfl,-⟩:=hV;rfl
 have HZ:=Jh (show szE j e wd=_ from by unfold szE;rfl)
 have HX:=(Ab w (.cells cs.toArray 40)).alloc (.cells A0.toArray 40)
 have K0:=Jh ((Has.alloc w cs 40).ext (Ab _ (.cells A0.toArray 40)))
 have af:=Blk.new (w.alloc (.cells cs.toArray 40)) A0.toArray 40
 rw [World.size_alloc] at af
 have K1:=Jh af
 have KB:=Jh (hB.ext HX)
 have HV:=Jh (hV.ext HX)
 have a2:((w.alloc (.cells cs.toArray 40)).alloc (.cells A0.toArray 40)).heap.size=w.heap.size+1+1:=by simp
 clear af hB hV
 go_enter Tryz.func60,Tryz.ntmps60
 go_upto_region 1 with fail
 generalize (w.alloc _).alloc _=w0 at *
 have g1:=KB.out.cell 1
 simp only [List.getElem?_toArray,List.getElem?_cons_zero,List.getElem?_cons_succ] at g1
 by_cases he:j=0
 ·have b1:(j != 0)=false:=by rw [bne_eq_false_iff_eq];exact he
  have HE:=Jh he
  clear he
  go_upto_region 4 with (first | ((with_reducible show Jl 40);refine Aa rfl 40 _ rfl rfl (K0.out) Ah h8 ?_) | (go_at_call 98;refine (Rs e wd _ _ HV.out az ax hn).mono ?_;rintro r w1 hp;obtain ⟨aa,g,rfl,ab,am,an,hq⟩:=hp.open2) | ((with_reducible show Js 40);refine Ad rfl 40 _ _ rfl rfl (by first | rfl | simp) rfl Ah (ab) rfl (am) ?_))
  have HQ:=Jh hq
  clear hq g1
  have au:=Has.alloc w1 aa 40
  have ac:=an.alloc (.cells aa.toArray 40)
  have ao:=Jh (Al.of_ext (N:=w0.heap.size) (Ab w1 (.cells aa.toArray 40)))
  have a1:=an.size
  generalize w1.heap.size=N2 at *
  generalize w1.alloc _=w2 at *
  have ae:=Jh (KB.out.ext ac)
  have g1:=ae.out.cell 1
  have f1:=ae.out.frozen 1
  simp only [List.getElem?_toArray,List.getElem?_cons_zero,List.getElem?_cons_succ] at g1
  go_upto_region 5 with fail
  have av:=au.grown (Ay w2 B 1 (.int .i64 g)) (by omega)
  have ai:=Ay w2 B 1 (.int .i64 g)
  have aq:=Jh (ae.out.set 1 (.int .i64 g))
  have ap:=Jh ((K1.out.ext ac).grown ai (by omega))
  have al:=Jh ai
  clear ai
  generalize w2.setCell _ _=w3 at *
  clear g1 f1
  go_wp2_with (first | ((with_reducible show Jl 40);refine Aa rfl 40 _ rfl rfl (av) Ah ab ?_) | ((with_reducible show Js 40);refine Ac rfl 40 _ _ rfl ap.out rfl rfl Ah ab rfl am ?_;intro w4 ag u))
  have ar:Al w0.heap.size w1 w4:=(ao.out.trans (Al.of_grown al.out (by omega))).trans (Al.of_grown u (by omega))
  have aj:w.grownBy w4 (some B):=by
   have hx:=A5 (It (HX.trans ac) B) al.out
   refine ⟨u.os.trans hx.os,u.tape.trans hx.tape,u.output.trans hx.output,Nat.le_trans hx.size u.size,fun k hk aw=>(u.block k (Nat.lt_of_lt_of_le hk hx.size) (by intro e;injection e;omega)).trans (hx.block k hk aw)⟩
  refine Av rfl rfl ag.has Ah ab rfl ⟨aa,rfl,?_,aj,?_⟩
  ·have ay:(szE j e wd).2=g:=by
    rw [HZ.out,if_neg (by rw [HE.out];simp)]
    rcases HQ.out with ⟨rfl,y,hy,-⟩ | ⟨-,hy,-⟩<;>rw [hy]
   rw [ay]
   exact aq.out.grown u (by omega)
  ·rcases HQ.out with ⟨rfl,y,hy,hf⟩ | ⟨a0,hy,rfl⟩
   ·have ak:(szE j e wd).1=y:=by rw [HZ.out,if_neg (by rw [HE.out];simp),hy]
    rw [ak]
    exact fun W hW=>hf W (ar.trans (hW.mono (by omega)))
   ·have ak:(szE j e wd).1=zE:=by rw [HZ.out,if_neg (by rw [HE.out];simp),hy]
    rw [ak];exact Aa9 _ _
 ·have b1:(j != 0)=true:=by rw [bne_iff_ne];exact he
  have HE:=Jh he
  clear he
  go_wp2_with (first | ((with_reducible show Js 40);refine Ac rfl 40 _ _ rfl K1.out rfl (cs:=A0) rfl Ah rfl rfl rfl ?_;intro w4 ag u))
  have hq:szE j e wd=(zE,j):=by rw [HZ.out,if_pos HE.out]
  refine Av rfl rfl ag.has Ah rfl rfl ⟨_,rfl,?_,?_,?_⟩
  ·rw [hq];exact KB.out.grown u (by omega)
  ·refine It (HX.grown u (by omega)) B
  ·rw [hq];exact Aa9 _ _
end Go.Proofs.YtbliplladmamoaaGreat
