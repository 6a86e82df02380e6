/- Laws and walks that a claim of this seat leans on: RunL, RunM, HangL, HangL2, HangL3, StmtL, StmtL2, StmtL3, Live11L, Since, Law11, StmtL4, StmtL5, StmtL6, PlayL. -/
import Derived.Test.YtbliplladmamoaaGreatS19
import Derived.Test.YtbliplladmamoaaGreatS14
import Derived.Test.YtbliplladmamoaaGreatS16
import Derived.Test.YtbliplladmamoaaGreatS15
import Derived.Test.YtbliplladmamoaaGreatS00
set_option maxRecDepth 100000
set_option maxHeartbeats 8000000
set_option linter.all false
namespace Go.Proofs.YtbliplladmamoaaGreat
open Go.RowKit
/-! ### what is sized stays what it is -/
theorem Afk:∀ (l:List E) (ps:List Int) (f:Int),(∀ x∈l,∀ p f,Ao x p=.error f->f≠0)->Ao.sizeL l ps=.error f->f≠0:=by
 intro l
 induction l with
 | nil=>intro ps f _ h;cases h
 | cons x l ih =>
  intro ps f hx h
  rw [Ao.sizeL] at h
  cases h1:Ao x (ps.headD 0) with
  | error q=>rw [h1] at h;simp only at h;injection h with h;rw [<-h];exact hx x (by simp) _ _ h1
  | ok y =>
   rw [h1] at h
   simp only at h
   cases h2:Ao.sizeL l ps.tail with
   | error q=>rw [h2] at h;simp only at h;injection h with h;rw [<-h];exact ih _ _ (fun x j=>hx x (by simp [j])) h2
   | ok r=>rw [h2] at h;cases h
theorem Afj:∀ e:E,∀ p f,Ao e p=.error f->f≠0:=by
 intro e
 induction e using E.ind with
 | h e ih =>
  intro p f h
  rw [Gv] at h
  generalize Bw (if p = -1 then 1 else p) (Bw (own e) 32)=w2 at h
  split at h
  ·injection h with h;omega
  ·split at h
   ·split at h
    ·cases h
    ·injection h with h;omega
   ·split at h
    ·injection h with h;omega
    ·split at h
     ·rename_i hq
      injection h with h
      rw [<-h];exact Afk _ _ _ ih hq
     ·split at h
      ·injection h with h;omega
      ·cases h
theorem Y9 {j w:Int} {e:E} (h:(szE j e w).2=0):j=0/\Ao e w=.ok (szE j e w).1:=by
 unfold szE at h ⊢
 by_cases c:j≠0
 ·rw [if_pos c] at h;exact absurd h c
 ·rw [if_neg c] at h ⊢
  refine ⟨by omega,?_⟩
  cases hs:Ao e w with
  | error g=>rw [hs] at h;simp only at h;exact absurd h (Afj e _ _ hs)
  | ok y=>rfl
theorem Acy (w:Int) (l:List E):∀ j,(Fi j w l).2=0->j=0/\((Fi j w l).1=l->∀ x∈l,Ao x w=.ok x):=by
 induction l with
 | nil=>intro j h;exact ⟨h,fun _ x hx=>by cases hx⟩
 | cons x l ih =>
  intro j h
  unfold Fi at h ih ⊢
  rw [Cw] at h ⊢
  obtain ⟨h1,h2⟩:=ih _ h
  obtain ⟨h3,h4⟩:=Y9 h1
  refine ⟨h3,fun he y hy=>?_⟩
  injection he with e1 e2
  rcases List.mem_cons.1 hy with e | hy
  ·rw [e,h4,e1]
  ·exact h2 e2 y hy
def StW (ls:List Ai) (ck:Bool):T->Int->Prop
 | ⟨op,sig,hi,lo,e,l⟩,lab=>(op=1->Fg ls sig≠1/\ck=decide (Fg ls sig=4))/\(∀ x∈e,Ao x (if op=1 then hi-lo+1 else if op=2 then -1 else if op=3 then 0 else lab)=.ok x)/\all l (if op=3 then Ao.hdW e else lab)
where all:List T->Int->Prop
 | [],_=>True
 | t::l,lab=>StW ls ck t lab/\all l lab
theorem StW.all_iff (ls:List Ai) (ck:Bool) (l:List T) (j:Int):StW.all ls ck l j↔∀ t∈l,StW ls ck t j:=by
 induction l with
 | nil=>simp [StW.all]
 | cons e l ih=>simp [StW.all,ih]
theorem Aa1 (ls:List Ai) (ck:Bool) (t:T) (j:Int):StW ls ck t j↔(t.op=1->Fg ls t.sig≠1/\ck=decide (Fg ls t.sig=4))/\(∀ x∈t.e,Ao x (szW t j)=.ok x)/\∀ x∈t.l,StW ls ck x (if t.op=3 then Ao.hdW t.e else j):=by
 cases t;simp only [StW,StW.all_iff];rfl
theorem Afp (ls:List Ai) (ck:Bool) (t:T):∀ j u,(szT ls ck t j u).2=0->u=0/\((szT ls ck t j u).1=t->StW ls ck t j):=by
 induction t using T.ind with
 | h t ih =>
  intro j u h
  have aa:∀ (l:List T),(∀ x∈l,x∈t.l)->∀ j u,(Cm ls ck j u l).2=0->u=0/\((Cm ls ck j u l).1=l->∀ x∈l,StW ls ck x j):=by
   intro l
   induction l with
   | nil=>intro _ j u h;exact ⟨h,fun _ x hx=>by cases hx⟩
   | cons y l ih2 =>
    intro hm j u h
    unfold Cm at h ih2 ⊢
    rw [Cw] at h ⊢
    obtain ⟨h1,h2⟩:=ih2 (fun z hz=>hm z (by simp [hz])) j _ h
    obtain ⟨h3,h4⟩:=ih y (hm y (by simp)) j _ h1
    refine ⟨h3,fun he z hz=>?_⟩
    injection he with e1 e2
    rcases List.mem_cons.1 hz with e | hz
    ·rw [e];exact h4 e1
    ·exact h2 e2 z hz
  rw [Ns] at h ⊢
  simp only at h ⊢
  obtain ⟨h1,h2⟩:=aa t.l (fun _ hx=>hx) _ _ h
  obtain ⟨h3,h4⟩:=Acy _ _ _ h1
  have h5:u=0/\(t.op=1->Fg ls t.sig≠1/\ck=decide (Fg ls t.sig=4)):=by
   unfold Da at h3
   split at h3
   ·exact absurd h3 (by decide)
   ·rename_i hn
    exact ⟨h3,fun ho=>⟨fun e=>hn ⟨ho,h3,.inl e⟩,Decidable.byContradiction fun e=>hn ⟨ho,h3,.inr e⟩⟩⟩
  refine ⟨h5.1,fun he=>?_⟩
  have e1:=congrArg T.e he
  have e2:=congrArg T.l he
  simp only at e1 e2
  rw [Aa1]
  refine ⟨h5.2,h4 e1,fun x hx=>?_⟩
  have:=h2 e2 x hx
  rw [e1] at this
  exact this
theorem Oe {α:Type} (f:α->Nat) (l:List α) (x:α) (h:x∈l):f x<=A6 f l:=by
 induction l with
 | nil=>cases h
 | cons y l ih =>
  rw [A6]
  rcases List.mem_cons.1 h with rfl | h
  ·omega
  ·have:=ih h;omega
theorem Adu (p q:C0):eqP p q=true↔p=q:=by
 obtain ⟨c,l⟩:=p
 obtain ⟨c',l'⟩:=q
 unfold eqP
 rw [Bool.and_eq_true,G0 eqT l l' fun x _ y=>Aa6 x y]
 simp
theorem Ac0 (ls:List Ai) (l:List C0):∀ j,(Fj ls j l).2=0->j=0/\((Fj ls j l).1=l->∀ p∈l,∀ t∈p.l,StW ls p.clocked t 0):=by
 have u:∀ ck (l:List T) j,(Cm ls ck 0 j l).2=0->j=0/\((Cm ls ck 0 j l).1=l->∀ x∈l,StW ls ck x 0):=by
  intro ck l
  induction l with
  | nil=>intro j h;exact ⟨h,fun _ x hx=>by cases hx⟩
  | cons y l ih2 =>
   intro j h
   unfold Cm at h ih2 ⊢
   rw [Cw] at h ⊢
   obtain ⟨h1,h2⟩:=ih2 _ h
   obtain ⟨h3,h4⟩:=Afp ls ck y 0 _ h1
   refine ⟨h3,fun he z hz=>?_⟩
   injection he with e1 e2
   rcases List.mem_cons.1 hz with e | hz
   ·rw [e];exact h4 e1
   ·exact h2 e2 z hz
 induction l with
 | nil=>intro j h;exact ⟨h,fun _ x hx=>by cases hx⟩
 | cons y l ih =>
  intro j h
  unfold Fj at h ih ⊢
  rw [Cw] at h ⊢
  obtain ⟨h1,h2⟩:=ih _ h
  simp only at h1
  obtain ⟨h3,h4⟩:=u _ _ _ h1
  refine ⟨h3,fun he z hz=>?_⟩
  injection he with e1 e2
  rcases List.mem_cons.1 hz with e | hz
  ·rw [e];exact h4 (congrArg C0.l e1)
  ·exact h2 e2 z hz
theorem Y8 {d:Bb} (h:By d=0):Lb d=true/\∀ p∈d.procs,∀ t∈p.l,StW d.signals p.clocked t 0/\An d.signals t=true:=by
 have h0:∃ y,Dp d=.ok y:=by
  unfold By at h
  cases hs:Dp d with
  | error g =>
   exfalso
   rw [hs] at h
   simp only at h
   subst h
   unfold Dp at hs
   repeat' split at hs
   all_goals first | (cases hs;done) | (injection hs with hs;first | exact absurd hs (by decide) | (rename_i ab;exact ab hs))
  | ok y=>exact ⟨y,rfl⟩
 obtain ⟨y,hy⟩:=h0
 have hs:(Gj y.procs d.procs&&Ga y.checks d.checks)=true:=by
  unfold By at h
  rw [hy] at h
  simp only at h
  split at h
  ·assumption
  ·exact absurd h (by decide)
 unfold Dp at hy
 split at hy
 ·cases hy
 split at hy
 ·cases hy
 split at hy
 ·cases hy
 split at hy
 ·cases hy
 rename_i h1 h2 h3 h4
 injection hy with hy
 subst hy
 have aa:(Fc (Fj d.signals 0 d.procs).2 d.checks).2=0:=by simpa using h4
 have h5:(Fj d.signals 0 d.procs).2=0:=by
  have ac:∀ (l:List Chk) j,(Fc j l).2=0->j=0:=by
   intro l
   induction l with
   | nil=>intro j h;exact h
   | cons c l ih=>intro j h;unfold Fc at h ih;rw [Cw] at h;exact (Y9 (ih _ h)).1
  exact ac _ _ aa
 rw [Bool.and_eq_true] at hs
 have e1:(Fj d.signals 0 d.procs).1=d.procs:=(G0 eqP _ _ fun x _ y=>Adu x y).1 hs.1
 have h6:=(Ac0 d.signals d.procs 0 h5).2 e1
 refine ⟨by simpa using h1,fun p hp t ht=>⟨h6 p hp t ht,?_⟩⟩
 have u:C4 d=true:=by simpa using h2
 unfold C4 at u
 simp only [Bool.and_eq_true,Bool.not_eq_true',List.any_eq_false] at u
 have:=u.1.2 p hp
 simp only [Bool.not_eq_true,List.any_eq_false] at this
 simpa using this t ht
def Gc (ls:List Ai) (ck:Bool):T->Prop
 | ⟨op,sig,hi,lo,e,l⟩=>(∀ x∈e,WS ls x/\x.wf/\nodes x<=65536/\Cu x<=64) /\
  (op=1/\slice ls sig hi lo=true/\(Fg ls sig≠1/\ck=decide (Fg ls sig=4))/\(∃ x,e=[x]/\x.w=hi-lo+1)/\l=[]\/op=2/\(∃ x,e=[x]/\x.w=1)/\(∃ a b,l=[a,b])\/op=3/\(∃ x,e=[x])/\0<l.length/\(∀ (k:Nat) (h:k<l.length),l[k].op=4/\(l[k].e=[]↔k+1=l.length)/\∀ x∈l[k].e,x.op=1)\/op=4\/op=5)/\all l
where all:List T->Prop
 | []=>True
 | t::l=>Gc ls ck t/\all l
theorem Gc.all_iff (ls:List Ai) (ck:Bool) (l:List T):Gc.all ls ck l↔∀ t∈l,Gc ls ck t:=by
 induction l with
 | nil=>simp [Gc.all]
 | cons e l ih=>simp [Gc.all,ih]
theorem Fe (ls:List Ai) (ck:Bool) (t:T):Gc ls ck t↔(∀ x∈t.e,WS ls x/\x.wf/\nodes x<=65536/\Cu x<=64) /\
  (t.op=1/\slice ls t.sig t.hi t.lo=true/\(Fg ls t.sig≠1/\ck=decide (Fg ls t.sig=4))/\(∃ x,t.e=[x]/\x.w=t.hi-t.lo+1)/\t.l=[]\/t.op=2/\(∃ x,t.e=[x]/\x.w=1)/\(∃ a b,t.l=[a,b])\/t.op=3/\(∃ x,t.e=[x])/\0<t.l.length/\(∀ (k:Nat) (h:k<t.l.length),t.l[k].op=4/\(t.l[k].e=[]↔k+1=t.l.length)/\∀ x∈t.l[k].e,x.op=1)\/t.op=4\/t.op=5)/\∀ x∈t.l,Gc ls ck x:=by
 cases t;simp only [Gc,Gc.all_iff]
theorem Adg (ls:List Ai) (l:List T):An.arms ls l=true->∀ (k:Nat) (h:k<l.length),An.armT ls l[k]=true/\(l[k].e=[]↔k+1=l.length):=by
 intro h
 have hd:∀ k,k<=l.length->An.arms ls (l.drop k)=true:=by
  intro k
  induction k with
  | zero=>intro _;simpa using h
  | succ k ih =>
   intro hk
   have h1:=ih (by omega)
   rw [An.arms_drop ls l k (by omega),Bool.and_eq_true] at h1
   exact h1.2
 intro k hk
 have h1:=hd k (by omega)
 rw [An.arms_drop ls l k hk,Bool.and_eq_true,Bool.and_eq_true,beq_iff_eq] at h1
 refine ⟨h1.1.2,?_⟩
 have h2:=h1.1.1
 rw [decide_eq_decide] at h2
 rw [<-h2,List.length_eq_zero_iff]
theorem Afb {ls:List Ai} (ac:∀ x∈ls,x.w<=64) (ck:Bool) (t:T):∀ j,(An ls t=true\/An.armT ls t=true)->StW ls ck t j->0<=j->t.wf->Aq t<=65536->Cc t<=64->Gc ls ck t:=by
 induction t using T.ind with
 | h t ih =>
  intro j al am ae an ar ap
  obtain ⟨s1,s2,s3⟩:=(Aa1 ls ck t j).1 am
  obtain ⟨-,-,-,-,w5,w6⟩:=(T.wf_iff t).1 an
  have aq:=Ca t
  have ao:=I6 t
  have ag:∀ x∈t.e,nodes x<=65536/\Cu x<=64:=fun x hx=>⟨by have:=Bf nodes t.e x hx;omega,by have:=Oe Cu t.e x hx;omega⟩
  have aa:∀ x∈t.l,Aq x<=65536/\Cc x<=64:=fun x hx=>⟨by have:=Bf Aq t.l x hx;omega,by have:=Oe Cc t.l x hx;omega⟩
  rw [Fe]
  rcases al with h | h
  ·rw [Ff] at h
   split at h
   ·cases h
   rename_i hq
   simp only [Bool.or_eq_true,not_or,List.any_eq_true,not_exists,not_and] at hq
   have af:∀ x∈t.e,A7 ls x=true:=fun x hx=>by simpa using hq.1 x hx
   split at h
   ·rename_i o3
    rw [Bool.and_eq_true,Bool.and_eq_true,decide_eq_true_eq,decide_eq_true_eq] at h
    obtain ⟨x,hx⟩:=List.length_eq_one_iff.1 h.1
    have hw:szW t j=0:=by unfold szW;rw [if_neg (by omega),if_neg (by omega),if_pos o3]
    have u:=H5 ac x (af x (by simp [hx])) 0 (by omega) (by have:=s2 x (by simp [hx]);rwa [hw] at this)
    have ai:=(I0 ac x u.1).2.1
    have hA:=Adg ls t.l h.2.1
    refine ⟨fun y hy=>?_,.inr (.inr (.inl ⟨o3,⟨x,hx⟩,h.2.2,fun k hk=>?_⟩)),fun y hy=>?_⟩
    ·rw [hx] at hy
     obtain rfl:=List.mem_singleton.1 hy
     have ab:y∈t.e:=by simp [hx]
     exact ⟨u.1,w5 y ab,ag y ab⟩
    ·obtain ⟨a1,a2⟩:=hA k hk
     rw [An.armT_eq] at a1
     simp only [Bool.and_eq_true,decide_eq_true_eq,List.all_eq_true] at a1
     exact ⟨a1.1.1.1.1.1,a2,fun x hx=>(a1.1.2 x hx).1⟩
    ·obtain ⟨k,hk,rfl⟩:=List.getElem_of_mem hy
     refine ih _ hy _ (.inr (hA k hk).1) (s3 _ hy) ?_ (w6 _ hy) (aa _ hy).1 (aa _ hy).2
     rw [if_pos o3,hx]
     show 0<=x.w
     omega
   rename_i o3
   have aj:∀ x∈t.l,StW ls ck x j:=fun x hx=>by have:=s3 x hx;rwa [if_neg o3] at this
   split at h
   ·rename_i o1
    rw [Bool.and_eq_true,Bool.and_eq_true,decide_eq_true_eq,decide_eq_true_eq] at h
    obtain ⟨x,hx⟩:=List.length_eq_one_iff.1 h.1.1
    have hl:=List.eq_nil_of_length_eq_zero h.1.2
    have hw:szW t j=t.hi-t.lo+1:=by unfold szW;rw [if_pos o1]
    have au:=Gw ls ac h.2
    have u:=H5 ac x (af x (by simp [hx])) (t.hi-t.lo+1) (by omega) (by have:=s2 x (by simp [hx]);rwa [hw] at this)
    have ai:x.w=t.hi-t.lo+1:=by
     rw [u.2,if_neg (by omega)];unfold Bw;rw [if_neg (by omega)]
    refine ⟨fun y hy=>?_,.inl ⟨o1,h.2,s1 o1,⟨x,hx,ai⟩,hl⟩,fun y hy=>by rw [hl] at hy;cases hy⟩
    rw [hx] at hy
    obtain rfl:=List.mem_singleton.1 hy
    have ab:y∈t.e:=by simp [hx]
    exact ⟨u.1,w5 y ab,ag y ab⟩
   rename_i o1
   split at h
   ·rename_i o2
    rw [Bool.and_eq_true,Bool.and_eq_true,Bool.and_eq_true,decide_eq_true_eq,decide_eq_true_eq,List.all_eq_true] at h
    obtain ⟨x,hx⟩:=List.length_eq_one_iff.1 h.1.1.1
    obtain ⟨a,b,ak⟩:∃ a b,t.l=[a,b]:=by
     have h2:=h.1.1.2
     generalize t.l=l at h2
     match l,h2 with
     | [a,b],_=>exact ⟨a,b,rfl⟩
    have hw:szW t j = -1:=by unfold szW;rw [if_neg o1,if_pos o2]
    have u:=H5 ac x (af x (by simp [hx])) (-1) (by omega) (by have:=s2 x (by simp [hx]);rwa [hw] at this)
    have ai:x.w=1:=by rw [u.2,if_pos rfl];rfl
    refine ⟨fun y hy=>?_,.inr (.inl ⟨o2,⟨x,hx,ai⟩,a,b,ak⟩),fun y hy=>ih y hy j (.inl (List.all_eq_true.1 h.2 y hy)) (aj y hy) ae (w6 y hy) (aa y hy).1 (aa y hy).2⟩
    rw [hx] at hy
    obtain rfl:=List.mem_singleton.1 hy
    have ab:y∈t.e:=by simp [hx]
    exact ⟨u.1,w5 y ab,ag y ab⟩
   split at h
   ·rename_i o5
    rw [Bool.and_eq_true,decide_eq_true_eq,List.all_eq_true] at h
    have he:=List.eq_nil_of_length_eq_zero h.1
    exact ⟨fun y hy=>(by rw [he] at hy;cases hy),.inr (.inr (.inr (.inr o5))),fun y hy=>ih y hy j (.inl (h.2 y hy)) (aj y hy) ae (w6 y hy) (aa y hy).1 (aa y hy).2⟩
   ·cases h
  ·rw [An.armT_eq] at h
   simp only [Bool.and_eq_true,decide_eq_true_eq,List.all_eq_true] at h
   obtain ⟨⟨⟨⟨⟨o4,-⟩,-⟩,-⟩,hE⟩,hL⟩:=h
   have hw:szW t j=j:=by unfold szW;rw [if_neg (by omega),if_neg (by omega),if_neg (by omega)]
   refine ⟨fun y hy=>?_,.inr (.inr (.inr (.inl o4))),fun y hy=>ih y hy j (.inl (hL y hy)) (by have:=s3 y hy;rwa [if_neg (by omega)] at this) ae (w6 y hy) (aa y hy).1 (aa y hy).2⟩
   have u:=H5 ac y (hE y hy).2 j (by omega) (by have:=s2 y hy;rwa [hw] at this)
   exact ⟨u.1,w5 y hy,ag y hy⟩
theorem L1 {d:Bb} (u:d.ok) (h:By d=0):∀ p∈d.procs,∀ t∈p.l,Gc d.signals p.clocked t:=by
 obtain ⟨h1,h2⟩:=Y8 h
 have j:∀ x∈d.signals,x.w<=64:=fun x hx=>(Dv h x hx).2
 unfold Lb at h1
 simp only [Bool.and_eq_true,decide_eq_true_eq] at h1
 obtain ⟨-,h3,h4⟩:=h1
 intro p hp t ht
 obtain ⟨h5,h6⟩:=h2 p hp t ht
 have hn:Aq t<=C3 d:=by
  have q1:=Bf Aq p.l t ht
  have q2:=Bf (fun p:C0=>Ap Aq p.l) d.procs p hp
  unfold C3;omega
 have hd:Cc t<=Ig d:=by
  have q1:=Oe Cc p.l t ht
  have q2:=Oe (fun p:C0=>A6 Cc p.l) d.procs p hp
  unfold Ig;omega
 exact Afb j p.clocked t 0 (.inl h6) h5 (by omega) (u.wf.procs p hp t ht) (by omega) (by omega)
/-! ### bits of a signal are set -/
def Dm (a hi lo x:Nat):Nat:=2^lo*(2^(hi+1-lo)*(a / 2^(hi+1))+x)+a%2^lo
theorem Ld (a hi lo x:Nat) (h:lo<=hi) (hx:x<2^(hi+1-lo)) (i:Nat):(Dm a hi lo x).testBit i=if i<lo then a.testBit i else if i<=hi then x.testBit (i-lo) else a.testBit i:=by
 unfold Dm
 rw [Nat.testBit_two_pow_mul_add _ (Nat.mod_lt _ (Nat.two_pow_pos _))]
 by_cases h1:i<lo
 ·rw [if_pos h1,if_pos h1,Nat.testBit_mod_two_pow];simp [h1]
 ·rw [if_neg h1,if_neg h1,Nat.testBit_two_pow_mul_add _ hx]
  by_cases h2:i<=hi
  ·rw [if_pos (by omega),if_pos h2]
  ·rw [if_neg (by omega),if_neg h2,Nat.testBit_div_two_pow]
   congr 1;omega
theorem Aao {a hi lo x w:Nat} (h:lo<=hi) (hw:hi<w) (hx:x<2^(hi+1-lo)) (ha:a<2^w):Dm a hi lo x<2^w:=by
 refine Nat.lt_pow_two_of_testBit _ fun i j=>?_
 rw [Ld a hi lo x h hx,if_neg (by omega),if_neg (by omega)]
 exact Nat.testBit_lt_two_pow (Nat.lt_of_lt_of_le ha (Nat.pow_le_pow_right (by decide) j))
def Gg (hi lo:Nat):Nat:=(2^(hi+1-lo)-1)*2^lo
theorem F3 (hi lo i:Nat):(Gg hi lo).testBit i=decide (lo<=i/\i<lo+(hi+1-lo)):=by
 unfold Gg
 rw [Nat.mul_comm,<-Nat.add_zero (2^lo*_),Nat.testBit_two_pow_mul_add _ (Nat.two_pow_pos _)]
 by_cases h:i<lo
 ·rw [if_pos h];simp;omega
 ·rw [if_neg h,Nat.testBit_two_pow_sub_one,decide_eq_decide];omega
theorem Aba (a hi lo x:Nat) (h:lo<=hi) (j:hi<64) (ha:a<2^64) (hx:x<2^(hi+1-lo)):(a &&& (2^64-(Gg hi lo+1))) ||| (2^lo*x)=Dm a hi lo x:=by
 have hm:Gg hi lo<2^64:=by
  refine Nat.lt_pow_two_of_testBit _ fun i u=>?_
  rw [F3];simp;omega
 refine Nat.eq_of_testBit_eq fun i=>?_
 rw [Ld a hi lo x h hx,Nat.testBit_or,Nat.testBit_and,Nat.testBit_two_pow_sub_succ hm,F3,<-Nat.add_zero (2^lo*x),Nat.testBit_two_pow_mul_add _ (Nat.two_pow_pos _)]
 by_cases h1:i<lo
 ·rw [if_pos h1,if_pos h1];simp;intro _;omega
 ·rw [if_neg h1,if_neg h1]
  by_cases h2:i<=hi
  ·rw [if_pos h2];simp;omega
  ·rw [if_neg h2]
   have:x.testBit (i-lo)=false:=Nat.testBit_lt_two_pow (Nat.lt_of_lt_of_le hx (Nat.pow_le_pow_right (by decide) (by omega)))
   rw [this]
   by_cases h3:i<64
   ·simp;omega
   ·have:a.testBit i=false:=Nat.testBit_lt_two_pow (Nat.lt_of_lt_of_le ha (Nat.pow_le_pow_right (by decide) (by omega)))
    rw [this];simp
theorem Ad9 (a hi lo x:Nat) (h:lo<=hi) (j:hi<64) (ha:a<2^64) (hx:x<2^(hi+1-lo)):(a &&& (2^64-(Gg hi lo+1))) ||| ((2^lo*x) &&& Gg hi lo)=Dm a hi lo x:=by
 rw [show (2^lo*x) &&& Gg hi lo=2^lo*x from Nat.eq_of_testBit_eq fun i=>by
  rw [Nat.testBit_and,F3,<-Nat.add_zero (2^lo*x),Nat.testBit_two_pow_mul_add _ (Nat.two_pow_pos _)]
  by_cases h1:i<lo
  ·rw [if_pos h1];simp
  ·rw [if_neg h1]
   by_cases h2:i<=hi
   ·rw [show decide (lo<=i/\i<lo+(hi+1-lo))=true from decide_eq_true (by omega)];simp
   ·have:x.testBit (i-lo)=false:=Nat.testBit_lt_two_pow (Nat.lt_of_lt_of_le hx (Nat.pow_le_pow_right (by decide) (by omega)))
    rw [this];rfl]
 exact Aba a hi lo x h j ha hx
/-! ### what statements make of values -/
def P9 (v:List Nat) (sig hi lo:Int) (x:Nat):List Nat:=v.set sig.toNat (Dm (v.getD sig.toNat 0) hi.toNat lo.toNat x)
def Lo (l:List T) (x:Int):Nat:=min ((l.findIdx fun a=>a.e.any fun e=>decide (e.v=x))) (l.length-1)
def Fz (c:Bool) (was:List Nat):T->List Nat->List Nat
 | ⟨op,sig,hi,lo,e,l⟩,v =>
  if op=1 then P9 v sig hi lo (evM (if c then was else v) (hdE e))
  else if op=2 then nthM l (if evM (if c then was else v) (hdE e)=0 then 1 else 0) v
  else if op=3 then nthM l (Lo l (evM (if c then was else v) (hdE e))) v
  else allM l v
where
 allM:List T->List Nat->List Nat
  | [],v=>v
  | t::l,v=>allM l (Fz c was t v)
 nthM:List T->Nat->List Nat->List Nat
  | [],_,v=>v
  | ⟨_,_,_,_,_,l'⟩::_,0,v=>allM l' v
  | _::l,k+1,v=>nthM l k v
abbrev allM (c:Bool) (was:List Nat) (l:List T) (v:List Nat):List Nat:=Fz.allM c was l v
theorem I4 (c:Bool) (j v:List Nat):allM c j [] v=v:=by rw [allM,Fz.allM]
theorem Hr (c:Bool) (j:List Nat) (t:T) (l:List T) (v:List Nat):allM c j (t::l) v=allM c j l (Fz c j t v):=by rw [allM,Fz.allM]
theorem Xo (c:Bool) (j:List Nat) (l r:List T):∀ v,allM c j (l++r) v=allM c j r (allM c j l v):=by
 induction l with
 | nil=>intro v;rw [List.nil_append,I4]
 | cons t l ih=>intro v;rw [List.cons_append,Hr,Hr,ih]
theorem Mo (c:Bool) (j:List Nat) (l:List T):∀ (k:Nat) (v:List Nat) (h:k<l.length),Fz.nthM c j l k v=allM c j l[k].l v:=by
 induction l with
 | nil=>intro k v h;exact absurd h (by simp)
 | cons t l ih =>
  intro k v h
  cases k with
  | zero=>cases t;rw [Fz.nthM];rfl
  | succ k=>cases t;rw [Fz.nthM];exact ih k v (by simpa using h)
theorem Og (c:Bool) (j:List Nat) (t:T) (v:List Nat):Fz c j t v =
  (if t.op=1 then P9 v t.sig t.hi t.lo (evM (if c then j else v) (hdE t.e))
  else if t.op=2 then Fz.nthM c j t.l (if evM (if c then j else v) (hdE t.e)=0 then 1 else 0) v
  else if t.op=3 then Fz.nthM c j t.l (Lo t.l (evM (if c then j else v) (hdE t.e))) v
  else allM c j t.l v):=by
 cases t;rw [Fz]
theorem U5 {l:List T} (h:0<l.length) (x:Int):Lo l x<l.length:=by unfold Lo;omega
def Fl (ls:List Ai) (v:List Nat):Prop:=v.length=ls.length/\Nc ls v
theorem Agr {ls:List Ai} (j:∀ x∈ls,x.w<=64) {v:List Nat} (hv:Fl ls v) {sig hi lo:Int} (h:slice ls sig hi lo=true) {x:Nat} (hx:x<2^(hi-lo+1).toNat):Fl ls (P9 v sig hi lo x):=by
 obtain ⟨q1,q2,q3,q4,q5,-⟩:=Gw ls j h
 refine ⟨by unfold P9;rw [List.length_set];exact hv.1,fun s h0 h1=>?_⟩
 unfold P9
 rw [List.getD_eq_getElem?_getD,List.getElem?_set]
 by_cases e:sig.toNat=s.toNat
 ·have es:sig=s:=by omega
  subst es
  rw [if_pos rfl,if_pos (by rw [hv.1];omega),Option.getD_some]
  refine Aao (by omega) (by omega) ?_ (hv.2 sig q1 q2)
  rwa [show hi.toNat+1-lo.toNat=(hi-lo+1).toNat by omega]
 ·rw [if_neg e,<-List.getD_eq_getElem?_getD];exact hv.2 s h0 h1
theorem Vl {ls:List Ai} (ab:∀ x∈ls,x.w<=64) {ck c:Bool} {j:List Nat} (hw:Fl ls j) (t:T):Gc ls ck t->(∀ v,Fl ls v->Fl ls (Fz c j t v))/\∀ v,Fl ls v->Fl ls (allM c j t.l v):=by
 induction t using T.ind with
 | h t ih =>
  intro h
  obtain ⟨h1,h2,h3⟩:=(Fe ls ck t).1 h
  have u:∀ l:List T,(∀ x∈l,x∈t.l)->∀ v,Fl ls v->Fl ls (allM c j l v):=by
   intro l
   induction l with
   | nil=>intro _ v hv;rw [I4];exact hv
   | cons y l ih2 =>
    intro hm v hv
    rw [Hr]
    exact ih2 (fun z hz=>hm z (by simp [hz])) _ ((ih y (hm y (by simp)) (h3 y (hm y (by simp)))).1 v hv)
  have aa:∀ k v,k<t.l.length->Fl ls v->Fl ls (Fz.nthM c j t.l k v):=fun k v hk hv=>by
   rw [Mo c j t.l k v hk]
   exact (ih _ (List.getElem_mem hk) (h3 _ (List.getElem_mem hk))).2 v hv
  refine ⟨fun v hv=>?_,u t.l fun _ h=>h⟩
  rw [Og]
  rcases h2 with ⟨o,a1,-,⟨x,hx,a2⟩,-⟩ | ⟨o,-,a,b,ac⟩ | ⟨o,-,a1,-⟩ | o | o
  ·rw [if_pos o]
   refine Agr ab hv a1 ?_
   obtain ⟨x1,x2,-⟩:=h1 x (by simp [hx])
   have:=Aa7 (vs:=if c then j else v) ab x x1 x2
   rw [hx]
   rwa [a2] at this
  ·rw [if_neg (by omega),if_pos o]
   refine aa _ v ?_ hv
   rw [ac]
   generalize evM _ _=q
   show (if q=0 then 1 else 0)<2
   split<;>decide
  ·rw [if_neg (by omega),if_neg (by omega),if_pos o]
   exact aa _ v (U5 a1 _) hv
  ·rw [if_neg (by omega),if_neg (by omega),if_neg (by omega)];exact u t.l (fun _ h=>h) v hv
  ·rw [if_neg (by omega),if_neg (by omega),if_neg (by omega)];exact u t.l (fun _ h=>h) v hv
def Iw (d:Bb) (vs:List Nat) (p:Int):List Nat × Int :=
 if Cn d vs=true/\0<=p/\p<d.procs.length then (allM ((d.procs[p.toNat]?.map (·.clocked)).getD false) vs (Lz d p) vs,0) else ([],1)
theorem Agp {d:Bb} (u:d.ok) {vs:List Nat} {p:Int} (h:(Iw d vs p).2=0):Cn d vs=true/\0<=p/\p<d.procs.length/\Fl d.signals (Iw d vs p).1:=by
 unfold Iw at h ⊢
 by_cases c:Cn d vs=true/\0<=p/\p<d.procs.length
 ·rw [if_pos c]
  obtain ⟨c1,c2,c3⟩:=c
  obtain ⟨v1,v2,v3⟩:=Ms c1
  refine ⟨c1,c2,c3,?_⟩
  have j:∀ x∈d.signals,x.w<=64:=fun x hx=>(Dv v2 x hx).2
  have hk:p.toNat<d.procs.length:=by omega
  have hr:=L1 u v2 _ (List.getElem_mem hk)
  simp only
  unfold Lz
  rw [List.getElem?_eq_getElem hk]
  simp only [Option.map_some,Option.getD_some]
  have aa:∀ l:List T,(∀ t∈l,Gc d.signals d.procs[p.toNat].clocked t)->∀ v,Fl d.signals v->Fl d.signals (allM d.procs[p.toNat].clocked vs l v):=by
   intro l
   induction l with
   | nil=>intro _ v hv;rw [I4];exact hv
   | cons y l ih=>intro hm v hv;rw [Hr];exact ih (fun z hz=>hm z (by simp [hz])) _ ((Vl j ⟨v1,v3⟩ y (hm y (by simp))).1 v hv)
  exact aa _ hr vs ⟨v1,v3⟩
 ·rw [if_neg c] at h;exact absurd h (by decide)
def Ag (ls:List Ai) (v v':List Nat) (P:Int->Prop):Prop:=∀ k j:Nat,k<ls.length->(j:Int)<Dn ls (k:Int)->P (H8 ls k+j)->(v.getD k 0).testBit j=(v'.getD k 0).testBit j
theorem Ag.mono {ls:List Ai} {v v':List Nat} {P Q:Int->Prop} (h:Ag ls v v' P) (hq:∀ x,Q x->P x):Ag ls v v' Q:=fun k j hk hj hx=>h k j hk hj (hq _ hx)
theorem Ag.refl (ls:List Ai) (v:List Nat) (P:Int->Prop):Ag ls v v P:=fun _ _ _ _ _=>rfl
def bn (ls:List Ai) (k j:Nat):Int:=H8 ls k+j
def Rd (ls:List Ai) (t:T) (x:Int):Prop:=∃ u∈Cd t,∃ e∈u.e,x∈Ag3 ls e
def Wr (ls:List Ai) (t:T) (x:Int):Prop:=∃ u∈Cd t,u.op=1/\x∈Dl (D0 ls ls.length) [Fh u]
def RdL (ls:List Ai) (l:List T) (x:Int):Prop:=∃ u∈Cd.eachTs l,∃ e∈u.e,x∈Ag3 ls e
def WrL (ls:List Ai) (l:List T) (x:Int):Prop:=∃ u∈Cd.eachTs l,u.op=1/\x∈Dl (D0 ls ls.length) [Fh u]
theorem S2 (j:List Int) (t:T) (l:List T) (x:Int):x∈F8 j (t::l)↔x∈alt j t\/x∈F8 j l:=by
 unfold F8;rw [Kc,Kc];unfold Nf;rw [List.map_cons,List.flatten_cons,List.mem_append]
structure Two (ls:List Ai) (v v' r r':List Nat) (A B:Int->Prop):Prop where
 ok:Fl ls r/\Fl ls r'
 ex:∃ W:Int->Prop,(∀ x,A x->W x)/\(∀ x,W x->B x)/\Ag ls r r' W/\Ag ls v r (fun x=>¬ W x)/\Ag ls v' r' (fun x=>¬ W x)
theorem Two.nil {ls:List Ai} {v v':List Nat} {A B:Int->Prop} (hv:Fl ls v) (j:Fl ls v') (hA:∀ x,¬ A x):Two ls v v' v v' A B :=
 ⟨⟨hv,j⟩,fun _=>False,fun x h=>hA x h,fun _ h=>h.elim,fun _ _ _ _ h=>h.elim,Ag.refl _ _ _,Ag.refl _ _ _⟩
theorem Two.keep {ls:List Ai} {v v' r r':List Nat} {A B P:Int->Prop} (h:Two ls v v' r r' A B) (hp:Ag ls v v' P):Ag ls r r' P:=by
 obtain ⟨-,W,-,-,h3,h4,h5⟩:=h
 intro k j hk hj hx
 by_cases c:W (H8 ls k+j)
 ·exact h3 k j hk hj c
 ·rw [<-h4 k j hk hj c,<-h5 k j hk hj c];exact hp k j hk hj hx
theorem Two.then {ls:List Ai} {v v' r r' s s':List Nat} {A B A2 B2 A3 B3:Int->Prop} (h:Two ls v v' r r' A B) (h2:Two ls r r' s s' A2 B2) (hA:∀ x,A3 x->A x\/A2 x) (hB:∀ x,B x\/B2 x->B3 x):Two ls v v' s s' A3 B3:=by
 obtain ⟨-,W,a1,a2,a3,a4,a5⟩:=h
 obtain ⟨ok,W2,b1,b2,b3,b4,b5⟩:=h2
 refine ⟨ok,fun x=>W x\/W2 x,fun x hx=>(hA x hx).imp (a1 x) (b1 x),fun x hx=>hB x (hx.imp (a2 x) (b2 x)),fun k j hk hj hx=>?_,fun k j hk hj hx=>?_,fun k j hk hj hx=>?_⟩
 ·by_cases c:W2 (H8 ls k+j)
  ·exact b3 k j hk hj c
  ·rw [<-b4 k j hk hj c,<-b5 k j hk hj c];exact a3 k j hk hj (hx.resolve_right c)
 ·rw [a4 k j hk hj fun h=>hx (.inl h),b4 k j hk hj fun h=>hx (.inr h)]
 ·rw [a5 k j hk hj fun h=>hx (.inl h),b5 k j hk hj fun h=>hx (.inr h)]
theorem Aeq {ls:List (List Int)} {x:Int} (h:x∈Vk ls):∀ m∈ls,x∈m:=by
 unfold Vk at h
 have:=(List.mem_filter.1 h).2
 rw [List.all_eq_true] at this
 intro m hm
 simpa using this m hm
theorem Xp (j:List Int) (x:Int):¬ x∈F8 j []:=by unfold F8;rw [Kc];unfold Nf;simp
theorem Aeu (c:Bool) (j:List Nat) {t:T} (v:List Nat) (o:t.op=1):Fz c j t v=P9 v t.sig t.hi t.lo (evM (if c then j else v) (hdE t.e)):=by rw [Og,if_pos o]
theorem Aev (c:Bool) (j:List Nat) {t:T} (v:List Nat) (o:t.op=2):Fz c j t v=Fz.nthM c j t.l (if evM (if c then j else v) (hdE t.e)=0 then 1 else 0) v:=by rw [Og,if_neg (show ¬ t.op=1 by omega),if_pos o]
theorem Aew (c:Bool) (j:List Nat) {t:T} (v:List Nat) (o:t.op=3):Fz c j t v=Fz.nthM c j t.l (Lo t.l (evM (if c then j else v) (hdE t.e))) v:=by rw [Og,if_neg (show ¬ t.op=1 by omega),if_neg (show ¬ t.op=2 by omega),if_pos o]
theorem Aex (c:Bool) (j:List Nat) {t:T} (v:List Nat) (o:t.op=4\/t.op=5):Fz c j t v=allM c j t.l v:=by rw [Og,if_neg (show ¬ t.op=1 by omega),if_neg (show ¬ t.op=2 by omega),if_neg (show ¬ t.op=3 by omega)]
def Aim (d:Bb) (p:Int):Bool:=(d.procs[p.toNat]?.map (·.clocked)).getD false
def Ai7 (d:Bb) (p:Int) (v:List Nat):List Nat:=allM (Aim d p) v (Lz d p) v
def Aay (s:List Int) (n:Int):Nat->Nat
 | 0=>0
 | i+1=>if s.getD i 0<=n then i else Aay s n i
def Ail (ls:List Ai) (v:List Nat) (n:Int):Nat:=(v.getD (Aay (D0 ls ls.length) n ls.length) 0) / 2^(n-H8 ls (Aay (D0 ls ls.length) n ls.length)).toNat%2
def Ih (n:Int) (e:E):T:=⟨1,n,0,0,[e],[]⟩
def Mh (l:List T):T:=⟨5,0,0,0,[],l⟩
def Gm:T:=⟨2,0,0,0,[Hp 1 0 0 0],[Mh [Ih 3 (Hp 1 1 0 0)],Mh []]⟩
def d11:Bb:=⟨[⟨⟨#[97]⟩,1,1,0⟩,⟨⟨#[98]⟩,1,1,0⟩,⟨⟨#[121]⟩,1,2,0⟩,⟨⟨#[122]⟩,1,2,0⟩],[⟨false,[Ih 2 (Hp 1 0 0 0),Gm]⟩],[]⟩
theorem O4:By d11=0:=by decide +kernel
theorem Adm:Cn d11 [1,1,0,0]=true:=by decide +kernel
theorem Adj:Cn d11 []=false:=by decide +kernel
theorem Af7:Iw d11 [1,1,0,0] 0=([1,1,1,1],0):=by
 unfold Iw
 rw [if_pos ⟨Adm,by decide,by decide⟩]
 exact congrArg (·,0) (by decide +kernel)
theorem Adl:Iw d11 [] 0=([],1):=by
 unfold Iw
 rw [if_neg fun h=>absurd h.1 (by rw [Adj];decide)]
theorem Adk:Lv d11=[0,1,2,3,4]:=by decide +kernel
theorem Abq:Nr d11 0=[0,1]:=by
 unfold Nr
 rw [Kt,Vr _ [0,1] (by decide) fun x=>by rw [show Dt (Lv d11) (spansR d11.signals (Lz d11 0))=[0,0,1] by decide +kernel];simp]
theorem Zx:Il d11 0=[2,3]:=by
 unfold Il
 rw [Kt,Vr _ [2,3] (by decide) fun x=>by rw [show Dt (Lv d11) (spansW (Lz d11 0))=[2,3] by decide +kernel]]
theorem Zw:Kk d11 0=[2]:=by
 unfold Kk F8
 refine Vr _ [2] (by decide) fun x=>?_
 rw [<-Kc]
 show x∈F8 (Lv d11) [Ih 2 (Hp 1 0 0 0),Gm]↔_
 rw [S2,S2,U2,if_pos (show (Ih 2 (Hp 1 0 0 0)).op=1 from rfl),U2,if_neg (show ¬ Gm.op=1 by decide),if_pos (show Gm.op=2\/Gm.op=3 from .inl rfl),Vj]
 constructor
 ·rintro (⟨s,hs,j,h1,h2,rfl⟩ | h | h)
  ·obtain rfl:=List.mem_singleton.1 hs
   have e1:(Fh (Ih 2 (Hp 1 0 0 0))).lo=0:=rfl
   have e2:(Fh (Ih 2 (Hp 1 0 0 0))).hi=0:=rfl
   rw [e1] at h1
   rw [e2] at h2
   obtain rfl:j=0:=by omega
   exact List.mem_singleton.2 (by decide +kernel)
  ·exact absurd (Aeq h (F8 (Lv d11) []) (by simp [Gm,Mh])) (Xp _ _)
  ·exact absurd h (Xp _ _)
 ·intro h
  obtain rfl:=List.mem_singleton.1 h
  exact .inl ⟨_,List.mem_singleton.2 rfl,0,by decide,by decide,by decide +kernel⟩
theorem I5:Cv d11 0=true:=by unfold Cv;rw [O4];decide
theorem S8:¬ Cv d11 1=true:=by unfold Cv;rw [O4];decide
theorem Ni:d11.ok where
 wf:={
  signals:=by
   intro x hx
   simp [d11] at hx
   rcases hx with rfl | rfl | rfl | rfl<;>exact ⟨by unfold Fp;decide,by unfold Fp;decide,by unfold St;decide,by decide⟩
  procs:=by
   intro p hp t ht
   simp [d11] at hp
   subst hp
   simp at ht
   rcases ht with rfl | rfl<;>simp [T.wf,T.wf.wfs,E.wf,E.wf.wfs,Ih,Gm,Mh,Hp,Fp,St]
  checks:=by intro c hc;cases hc }
 nodes:=by decide +kernel
 signals:=by decide
 procs:=by decide
 checks:=by decide
theorem Al.more {N B:Nat} {a b c:World} (h:Al N a b) (hg:b.grownBy c (some B)) (hB:B<N\/a.heap.size<=B):Al N a c :=
 ⟨Nat.le_trans h.1 hg.size,fun x h1 h2=>(hg.block x (Nat.lt_of_lt_of_le h2 h.1) (by intro e;injection e;omega)).trans (h.2 x h1 h2)⟩
theorem L5 (n:Int) (w:World):Calls Tryz.prog 9 #[.int .i64 n] w fun r w'=>r=.returned (.agg ((Hp 1 n 0 0).cells (.slice none 0 0)).toArray)/\Ext w w':=by
 go_enter Tryz.func9,Tryz.ntmps9
 go_upto_region 1 with fail
 have hx:=Ab w (.cells ((Hp 1 n 0 0).cells (.slice none 0 0)).toArray 40)
 have hb:=Blk.new w ((Hp 1 n 0 0).cells (.slice none 0 0)).toArray 40
 go_wp2_with ((with_reducible show Js 40);refine Ad rfl 40 _ _ rfl rfl (by first | rfl | simp) (cs:=(Hp 1 n 0 0).cells (.slice none 0 0)) rfl Ah rfl rfl (by simp [Bc,Value.oneCell']) ?_)
 refine Av rfl rfl hb.has Ah rfl rfl ⟨rfl,hx⟩
theorem Vx (n:Int) (w:World):VE w ((Hp 1 n 0 0).cells (.slice none 0 0)) (Hp 1 n 0 0):=⟨_,rfl,Sl.nil _ _⟩
theorem My (a:Option Addr) (n c:Nat) (w:World):Calls Tryz.prog 10 #[.slice a n c] w fun r w'=>r=.returned (.agg #[.int .i64 5,.int .i64 0,.int .i64 0,.int .i64 0,.slice none 0 0,.slice a n c])/\Ext w w':=by
 go_enter Tryz.func10,Tryz.ntmps10
 go_upto_region 1 with fail
 have hx:=Ab w (.cells [.int .i64 5,.int .i64 0,.int .i64 0,.int .i64 0,.slice none 0 0,.slice a n c].toArray 44)
 have hb:=Blk.new w [.int .i64 5,.int .i64 0,.int .i64 0,.int .i64 0,.slice none 0 0,.slice a n c].toArray 44
 go_wp2_with ((with_reducible show Js 44);refine Ad rfl 44 _ _ rfl rfl (by first | rfl | simp) (cs:=[.int .i64 5,.int .i64 0,.int .i64 0,.int .i64 0,.slice none 0 0,.slice a n c]) rfl Aw rfl rfl (by simp [Bc,Value.oneCell']) ?_)
 refine Av rfl rfl hb.has Aw rfl rfl ⟨rfl,hx⟩
theorem Pv (N:Nat) (n:Int) (cs:List Value) (e:E) (w:World) (h:FV VE N w cs e) (hN:N<=w.heap.size) :
  Calls Tryz.prog 11 #[.int .i64 n,.agg cs.toArray] w fun r w'=>∃ j,r=.returned (.agg j.toArray)/\j.length=6/\j.all (·.oneCell')=true/\FV VT N w' j (Ih n e)/\Ext w w':=by
 have HV:=Jh h
 obtain ⟨sv,rfl,ai⟩:=h.here
 have ax:(e.cells sv).all (·.oneCell')=true:=by simp [ai.one,Bc]
 have av:=Ab w (.cells (e.cells sv).toArray 40)
 have ap:=Blk.new w (e.cells sv).toArray 40
 clear ai
 go_enter Tryz.func11,Tryz.ntmps11
 go_upto_region 1 with fail
 have ak:=Ab (w.alloc (.cells (e.cells sv).toArray 40)) (.cells #[.int .i64 0,.int .i64 0,.int .i64 0,.int .i64 0,.slice none 0 0,.slice none 0 0] 44)
 have u:=Blk.new (w.alloc (.cells (e.cells sv).toArray 40)) #[.int .i64 0,.int .i64 0,.int .i64 0,.int .i64 0,.slice none 0 0,.slice none 0 0] 44
 rw [show (w.alloc (.cells (e.cells sv).toArray 40)).heap.size=w.heap.size+1 by simp] at u
 have ae:=ap.ext ak
 have an:=av.trans ak
 generalize (w.alloc _).alloc _=w2 at *
 go_wp2_with (first | ((with_reducible show Jl 40);refine Aa rfl 40 _ rfl rfl (ae.has) Ah rfl ?_) | ((with_reducible show Jw (Op.buildSlice _ _ _));refine Hid.out ?_))
 refine Jh ?_
 refine B9 rfl _ _ rfl Qt rfl (cs:=e.cells sv) rfl rfl (by decide) ?_
 have al:=Ab w2 (.cells (e.cells sv).toArray 40)
 have af:=Blk.new w2 (e.cells sv).toArray 40
 have ao:=an.trans al
 have ar:=u.ext al
 have aw:=u.lt
 generalize w2.alloc _=w3 at *
 obtain ⟨B2,ab⟩:∃ B2,w2.heap.size=B2:=⟨_,rfl⟩
 rw [ab] at af aw ⊢
 clear ab
 go_wp2_with ((with_reducible show Js 44);refine Ac rfl 44 _ _ rfl ar rfl (cs:=(Ih n e).cells (.slice (some ⟨B2,0,none⟩) 1 1) (.slice none 0 0)) rfl Aw rfl rfl (by simp [Bc,Value.oneCell']) ?_;intro w5 aq aj)
 have ac:Ext w w5:=Ext.grown ao aj (by omega)
 have ag:=af.grown aj (by omega)
 have am:=Jh ac
 have aa:=Jh ag
 have au:FV VT N w5 ((Ih n e).cells (.slice (some ⟨B2,0,none⟩) 1 1) (.slice none 0 0)) (Ih n e):=fun W hW =>
  ⟨_,_,rfl,⟨B2,0,⟨_,1,rfl,Nat.le_refl _,by decide,fun _=>rfl⟩,VE.at (hW.blk aa.out (by omega)).has (HV.out W ((Al.of_ext am.out).trans hW)),trivial⟩,Sl.nil _ _⟩
 refine Av rfl rfl aq.has Aw rfl rfl ⟨_,rfl,rfl,by simp [Bc,Value.oneCell'],au,ac⟩
theorem Ac4 {d:Bb} (hc:By d=0) {vs:List Nat} (hv:Fl d.signals vs):Cn d vs=true:=by
 unfold Cn Su
 simp only [Bool.and_eq_true,decide_eq_true_eq,List.all_eq_true]
 refine ⟨hv.1,hc,fun k hk=>?_⟩
 have:=hv.2 (k:Int) (by omega) (by have:=List.mem_range.1 hk;omega)
 simpa using this
theorem Mb {d:Bb} {vs:List Nat} (h:Cn d vs=true):Fl d.signals vs:=⟨(Ms h).1,(Ms h).2.2⟩
theorem Rb {d:Bb} (hc:By d=0) {vs:List Nat} (hv:Fl d.signals vs) {x:E} (hx:WS d.signals x) (hn:nodes x<=65536) (hd:Cu x<=64):Hh d vs x=(evM vs x,0):=by
 unfold Hh
 rw [if_pos ⟨Ac4 hc hv,Zv (fun y hy=>(Dv hc y hy).2) (X8 hc) hx hn hd⟩]
theorem Mr {ls:List Ai} (j:∀ x∈ls,x.w<=64) {v:List Nat} (h:Fl ls v):Zc v:=by
 intro x hx
 obtain ⟨k,hk,rfl⟩:=List.getElem_of_mem hx
 have h1:=h.2 (k:Int) (by omega) (by have:=h.1;omega)
 rw [Int.toNat_natCast,List.getD_eq_getElem?_getD,List.getElem?_eq_getElem hk,Option.getD_some] at h1
 have h2:=Ol ls j (k:Int)
 exact Nat.lt_of_lt_of_le h1 (Nat.pow_le_pow_right (by decide) (show (Dn ls (k:Int)).toNat<=64 by omega))
theorem Od {hi lo:Nat} (h:lo<=hi) (j:hi<64):Gg hi lo<18446744073709551616:=by
 show _<2^64
 refine Nat.lt_pow_two_of_testBit _ fun i u=>?_
 rw [F3];simp;omega
theorem Aaa {hi lo:Nat} (h:lo<=hi) (j:hi<64):IntKind.u64.wrap ((18446744073709551615:Int).fdiv (2^(63-(hi-lo)))*2^lo)=((Gg hi lo:Nat):Int):=by
 have e1:(18446744073709551615:Int)=((18446744073709551615#64).toNat:Int):=by decide
 rw [e1,Aig,Ag7]
 congr 1
 refine Nat.eq_of_testBit_eq fun i=>?_
 rw [F3,<-BitVec.getLsbD,show (18446744073709551615#64)=BitVec.allOnes 64 from rfl]
 simp only [BitVec.getLsbD_shiftLeft,BitVec.getLsbD_ushiftRight,BitVec.getLsbD_allOnes]
 by_cases h1:i<lo
 ·simp [h1];omega
 ·by_cases h2:i<64
  ·simp only [h1,h2,decide_true,decide_false,Bool.not_false,Bool.true_and]
   rw [decide_eq_decide];omega
  ·simp only [h2,decide_false,Bool.false_and]
   symm;rw [decide_eq_false_iff_not];omega
theorem Afe {a hi lo x:Nat} (h:lo<=hi) (j:hi<64) (ha:a<18446744073709551616) (hx:x<2^(hi+1-lo)) :
  bits .or .u64 (bits .and .u64 (a:Int) ((18446744073709551615-Gg hi lo:Nat):Int)) (IntKind.u64.wrap ((x:Int)*2^lo))=((Dm a hi lo x:Nat):Int):=by
 have hm:=Od h j
 have aa:2^lo*x<18446744073709551616:=by
  have h1:2^lo*x<2^lo*2^(hi+1-lo):=(Nat.mul_lt_mul_left (Nat.two_pow_pos _)).2 hx
  rw [<-Nat.pow_add] at h1
  have h2:2^(lo+(hi+1-lo))<=2^64:=Nat.pow_le_pow_right (by decide) (by omega)
  have:(2:Nat)^64=18446744073709551616:=by decide
  omega
 have hw:IntKind.u64.wrap ((x:Int)*2^lo)=((2^lo*x:Nat):Int):=by
  have:(x:Int)*2^lo=((2^lo*x:Nat):Int):=by push_cast;rw [Int.mul_comm]
  rw [this]
  obtain ⟨y,hy⟩:=L9 aa
  rw [<-hy,Ma]
 have u:a &&& (18446744073709551615-Gg hi lo)<18446744073709551616:=Nat.lt_of_le_of_lt Nat.and_le_left ha
 rw [hw,Gr ha (by omega),Lc u aa]
 congr 1
 have:=Aba a hi lo x h j ha hx
 rw [show (2:Nat)^64-(Gg hi lo+1)=18446744073709551615-Gg hi lo by
  have:(2:Nat)^64=18446744073709551616:=by decide
  omega] at this
 exact this
end Go.Proofs.YtbliplladmamoaaGreat
