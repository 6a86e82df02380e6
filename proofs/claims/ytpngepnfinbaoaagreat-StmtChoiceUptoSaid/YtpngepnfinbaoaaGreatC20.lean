/- Laws and walks that a claim of this seat leans on: EvLawK, RunL, RunM, HangL, HangL2, HangL3. -/
import Derived.Test.YtpngepnfinbaoaaGreatC16
import Derived.Test.YtpngepnfinbaoaaGreatC19
import Derived.Test.YtpngepnfinbaoaaGreatC14
import Derived.Test.YtpngepnfinbaoaaGreatC00
set_option maxRecDepth 100000
set_option maxHeartbeats 8000000
set_option linter.all false
namespace Go.Proofs.YtpngepnfinbaoaaGreat
open Go.RowKit
def numE (wd v:Int):E:=⟨1,wd,v,0,0,0,0,[]⟩
def sigX (wd n hi lo:Int):E:=⟨2,wd,0,n,hi,lo,0,[]⟩
def binE (wd n:Int) (a b:E):E:=⟨5,wd,0,0,0,0,n,[a,b]⟩
theorem ws_shape {ls:List Signal} (hls:∀ x∈ls,x.w<=64) (e:E):WS ls e->shape ls e=true:=by
 induction e using E.ind with
 | h e ih =>
  intro h
  obtain ⟨h0,hp⟩:=(WS_iff ls e).1 h
  have hown:=ws_own hls e h
  rw [shape_eq,Bool.and_eq_true,List.all_eq_true]
  refine ⟨?_,fun x hx=>ih x hx (hp x hx)⟩
  have hlen:(e.l.map (·.w)).length=e.l.length:=List.length_map ..
  generalize e.l.map (·.w)=ws at *
  clear ih hp h
  unfold wsN at h0
  unfold shape0
  rcases h0 with ⟨ho,rfl,h1,h2,h3,h4,h5,h6,h7⟩ | ⟨ho,rfl,h1,h2,h3,h4⟩ | ⟨ho,⟨k,rfl⟩,h1,h2,h3,h4,h5,h6,h7⟩ | ⟨ho,⟨k,rfl,h1⟩,h2,h3,h4,h5⟩ | ⟨ho,⟨j,k,rfl,h1⟩,h2,h3,h4,h5⟩ | ⟨ho,rfl,h1,h2,h3,h4,h5⟩ | ⟨ho,h1,h2,h3,h4,h5,h6,h7,h8⟩ | ⟨ho,⟨k,rfl,h1⟩,h2,h3,h4,h5,h6,h7⟩
  case inr.inr.inr.inr.inr.inr.inl =>
   have:0<e.l.length:=by
    rw [<-hlen]
    cases ws with
    | nil=>exact absurd rfl h1
    | cons=>simp
   simp [ho,this,h4,h5,h6,h7,h8]
  all_goals (simp only [List.length_nil,List.length_cons] at hlen)
  ·simp [ho,<-hlen,h3,h4,h5,h6,h7];omega
  ·simp [ho,<-hlen,h1,h3,h4]
  ·simp [ho,<-hlen,h1,h2,h4,h5,h6,h7]
  ·simp [ho,<-hlen,h2,h3,h4,h5];omega
  ·simp [ho,<-hlen,h2,h3,h4,h5];omega
  ·simp [ho,<-hlen,h1,h2,h3,h4,h5]
  ·simp [ho,<-hlen,h2,h3,h4,h5,h6,h7];omega
theorem checkM_sigs {d:Flat} (h:checkM d=0):sigsOk [[]] d.signals=true:=by
 have h1:=checkM_shaped h
 unfold shapedM at h1
 simp only [Bool.and_eq_true] at h1
 exact h1.1.1
theorem checkEM_ok {ls:List Signal} (hls:∀ x∈ls,x.w<=64) (hsg:sigsOk [[]] ls=true) {x:E} (hx:WS ls x) (hn:nodes x<=65536) (hd:deep x<=64):checkEM ls x=0:=by
 obtain ⟨-,o1,o2⟩:=ws_own hls x hx
 have hbad:¬ exprBad ls x x.w=true:=by
  unfold exprBad
  rw [hsg,ws_shape hls x hx]
  simp
  omega
 unfold checkEM exprM
 rw [if_neg hbad,if_neg (by simp;omega),ws_size hls x hx x.w (.inr (.inl rfl))]
 simp only
 rw [if_neg (by
  rintro (h1 | h1)
  ·omega
  ·rw [(eqE_iff x x).2 rfl] at h1;cases h1)]
theorem valsOk_ck {d:Flat} {vs:List Nat} (h:valsOk d vs=true):vs.length=d.signals.length/\checkM d=0/\Vals d.signals vs:=by
 unfold valsOk at h
 simp only [Bool.and_eq_true,decide_eq_true_eq] at h
 exact ⟨h.1,h.2.1,valB_vals h.2.2⟩
/-! ### what is sized stays what it is -/
theorem sizeL_ne:∀ (l:List E) (ps:List Int) (f:Int),(∀ x∈l,∀ p f,sizeE x p=.error f->f≠0)->sizeE.sizeL l ps=.error f->f≠0:=by
 intro l
 induction l with
 | nil=>intro ps f _ h;cases h
 | cons x l ih =>
  intro ps f hx h
  rw [sizeE.sizeL] at h
  cases h1:sizeE x (ps.headD 0) with
  | error q=>rw [h1] at h;simp only at h;injection h with h;rw [<-h];exact hx x (by simp) _ _ h1
  | ok y =>
   rw [h1] at h
   simp only at h
   cases h2:sizeE.sizeL l ps.tail with
   | error q=>rw [h2] at h;simp only at h;injection h with h;rw [<-h];exact ih _ _ (fun x hx'=>hx x (by simp [hx'])) h2
   | ok r=>rw [h2] at h;cases h
theorem sizeE_ne:∀ e:E,∀ p f,sizeE e p=.error f->f≠0:=by
 intro e
 induction e using E.ind with
 | h e ih =>
  intro p f h
  rw [sizeE_eq] at h
  generalize told (if p = -1 then 1 else p) (told (own e) 32)=w2 at h
  split at h
  ·injection h with h;omega
  ·split at h
   ·split at h
    ·cases h
    ·injection h with h;omega
   ·split at h
    ·injection h with h;omega
    ·split at h
     ·rename_i hq
      injection h with h
      rw [<-h];exact sizeL_ne _ _ _ ih hq
     ·split at h
      ·injection h with h;omega
      ·cases h
theorem szE_same {err w:Int} {e:E} (h:(szE err e w).2=0):err=0/\sizeE e w=.ok (szE err e w).1:=by
 unfold szE at h ⊢
 by_cases c:err≠0
 ·rw [if_pos c] at h;exact absurd h c
 ·rw [if_neg c] at h ⊢
  refine ⟨by omega,?_⟩
  cases hs:sizeE e w with
  | error g=>rw [hs] at h;simp only at h;exact absurd h (sizeE_ne e _ _ hs)
  | ok y=>rfl
theorem szEs_same (w:Int) (l:List E):∀ err,(szEs err w l).2=0->err=0/\((szEs err w l).1=l->∀ x∈l,sizeE x w=.ok x):=by
 induction l with
 | nil=>intro err h;exact ⟨h,fun _ x hx=>by cases hx⟩
 | cons x l ih =>
  intro err h
  unfold szEs at h ih ⊢
  rw [accum] at h ⊢
  obtain ⟨h1,h2⟩:=ih _ h
  obtain ⟨h3,h4⟩:=szE_same h1
  refine ⟨h3,fun he y hy=>?_⟩
  injection he with e1 e2
  rcases List.mem_cons.1 hy with e | hy
  ·rw [e,h4,e1]
  ·exact h2 e2 y hy
def StW (ls:List Signal) (ck:Bool):T->Int->Prop
 | ⟨op,sig,hi,lo,e,l⟩,lab=>(op=1->kindOf ls sig≠1/\ck=decide (kindOf ls sig=4))/\(∀ x∈e,sizeE x (if op=1 then hi-lo+1 else if op=2 then -1 else if op=3 then 0 else lab)=.ok x)/\all l (if op=3 then sizeE.hdW e else lab)
where all:List T->Int->Prop
 | [],_=>True
 | t::l,lab=>StW ls ck t lab/\all l lab
theorem StW.all_iff (ls:List Signal) (ck:Bool) (l:List T) (lab:Int):StW.all ls ck l lab↔∀ t∈l,StW ls ck t lab:=by
 induction l with
 | nil=>simp [StW.all]
 | cons e l ih=>simp [StW.all,ih]
theorem StW_iff (ls:List Signal) (ck:Bool) (t:T) (lab:Int):StW ls ck t lab↔(t.op=1->kindOf ls t.sig≠1/\ck=decide (kindOf ls t.sig=4))/\(∀ x∈t.e,sizeE x (szW t lab)=.ok x)/\∀ x∈t.l,StW ls ck x (if t.op=3 then sizeE.hdW t.e else lab):=by
 cases t;simp only [StW,StW.all_iff];rfl
theorem szT_same (ls:List Signal) (ck:Bool) (t:T):∀ lab err,(szT ls ck t lab err).2=0->err=0/\((szT ls ck t lab err).1=t->StW ls ck t lab):=by
 induction t using T.ind with
 | h t ih =>
  intro lab err h
  have hTL:∀ (l:List T),(∀ x∈l,x∈t.l)->∀ lab err,(szTL ls ck lab err l).2=0->err=0/\((szTL ls ck lab err l).1=l->∀ x∈l,StW ls ck x lab):=by
   intro l
   induction l with
   | nil=>intro _ lab err h;exact ⟨h,fun _ x hx=>by cases hx⟩
   | cons y l ih2 =>
    intro hm lab err h
    unfold szTL at h ih2 ⊢
    rw [accum] at h ⊢
    obtain ⟨h1,h2⟩:=ih2 (fun z hz=>hm z (by simp [hz])) lab _ h
    obtain ⟨h3,h4⟩:=ih y (hm y (by simp)) lab _ h1
    refine ⟨h3,fun he z hz=>?_⟩
    injection he with e1 e2
    rcases List.mem_cons.1 hz with e | hz
    ·rw [e];exact h4 e1
    ·exact h2 e2 z hz
  rw [szT_eq] at h ⊢
  simp only at h ⊢
  obtain ⟨h1,h2⟩:=hTL t.l (fun _ hx=>hx) _ _ h
  obtain ⟨h3,h4⟩:=szEs_same _ _ _ h1
  have h5:err=0/\(t.op=1->kindOf ls t.sig≠1/\ck=decide (kindOf ls t.sig=4)):=by
   unfold szErr0 at h3
   split at h3
   ·exact absurd h3 (by decide)
   ·rename_i hn
    exact ⟨h3,fun ho=>⟨fun e=>hn ⟨ho,h3,.inl e⟩,Decidable.byContradiction fun e=>hn ⟨ho,h3,.inr e⟩⟩⟩
  refine ⟨h5.1,fun he=>?_⟩
  have e1:=congrArg T.e he
  have e2:=congrArg T.l he
  simp only at e1 e2
  rw [StW_iff]
  refine ⟨h5.2,h4 e1,fun x hx=>?_⟩
  have:=h2 e2 x hx
  rw [e1] at this
  exact this
theorem maxBy_ge {α:Type} (f:α->Nat) (l:List α) (x:α) (h:x∈l):f x<=maxBy f l:=by
 induction l with
 | nil=>cases h
 | cons y l ih =>
  rw [maxBy]
  rcases List.mem_cons.1 h with rfl | h
  ·omega
  ·have:=ih h;omega
theorem eqP_iff' (p q:Proc):eqP p q=true↔p=q:=by
 obtain ⟨c,l⟩:=p
 obtain ⟨c',l'⟩:=q
 unfold eqP
 rw [Bool.and_eq_true,allEq2_iff eqT l l' fun x _ y=>eqT_iff x y]
 simp
theorem szPs_same (ls:List Signal) (l:List Proc):∀ err,(szPs ls err l).2=0->err=0/\((szPs ls err l).1=l->∀ p∈l,∀ t∈p.l,StW ls p.clocked t 0):=by
 have hTL:∀ ck (l:List T) err,(szTL ls ck 0 err l).2=0->err=0/\((szTL ls ck 0 err l).1=l->∀ x∈l,StW ls ck x 0):=by
  intro ck l
  induction l with
  | nil=>intro err h;exact ⟨h,fun _ x hx=>by cases hx⟩
  | cons y l ih2 =>
   intro err h
   unfold szTL at h ih2 ⊢
   rw [accum] at h ⊢
   obtain ⟨h1,h2⟩:=ih2 _ h
   obtain ⟨h3,h4⟩:=szT_same ls ck y 0 _ h1
   refine ⟨h3,fun he z hz=>?_⟩
   injection he with e1 e2
   rcases List.mem_cons.1 hz with e | hz
   ·rw [e];exact h4 e1
   ·exact h2 e2 z hz
 induction l with
 | nil=>intro err h;exact ⟨h,fun _ x hx=>by cases hx⟩
 | cons y l ih =>
  intro err h
  unfold szPs at h ih ⊢
  rw [accum] at h ⊢
  obtain ⟨h1,h2⟩:=ih _ h
  simp only at h1
  obtain ⟨h3,h4⟩:=hTL _ _ _ h1
  refine ⟨h3,fun he z hz=>?_⟩
  injection he with e1 e2
  rcases List.mem_cons.1 hz with e | hz
  ·rw [e];exact h4 (congrArg Proc.l e1)
  ·exact h2 e2 z hz
theorem st_of_check {d:Flat} (h:checkM d=0):fitsM d=true/\∀ p∈d.procs,∀ t∈p.l,StW d.signals p.clocked t 0/\shapeT d.signals t=true:=by
 have h0:∃ y,sizeD d=.ok y:=by
  unfold checkM at h
  cases hs:sizeD d with
  | error g =>
   exfalso
   rw [hs] at h
   simp only at h
   subst h
   unfold sizeD at hs
   repeat' split at hs
   all_goals first | (cases hs;done) | (injection hs with hs;first | exact absurd hs (by decide) | (rename_i hne;exact hne hs))
  | ok y=>exact ⟨y,rfl⟩
 obtain ⟨y,hy⟩:=h0
 have hs:(sameProcs y.procs d.procs&&sameChecks y.checks d.checks)=true:=by
  unfold checkM at h
  rw [hy] at h
  simp only at h
  split at h
  ·assumption
  ·exact absurd h (by decide)
 unfold sizeD at hy
 split at hy
 ·cases hy
 split at hy
 ·cases hy
 split at hy
 ·cases hy
 split at hy
 ·cases hy
 rename_i h1 h2 h3 h4
 injection hy with hy
 subst hy
 have h4':(szCs (szPs d.signals 0 d.procs).2 d.checks).2=0:=by simpa using h4
 have h5:(szPs d.signals 0 d.procs).2=0:=by
  have key:∀ (l:List Chk) err,(szCs err l).2=0->err=0:=by
   intro l
   induction l with
   | nil=>intro err h;exact h
   | cons c l ih=>intro err h;unfold szCs at h ih;rw [accum] at h;exact (szE_same (ih _ h)).1
  exact key _ _ h4'
 rw [Bool.and_eq_true] at hs
 have e1:(szPs d.signals 0 d.procs).1=d.procs:=(allEq2_iff eqP _ _ fun x _ y=>eqP_iff' x y).1 hs.1
 have h6:=(szPs_same d.signals d.procs 0 h5).2 e1
 refine ⟨by simpa using h1,fun p hp t ht=>⟨h6 p hp t ht,?_⟩⟩
 have hsh:shapedM d=true:=by simpa using h2
 unfold shapedM at hsh
 simp only [Bool.and_eq_true,Bool.not_eq_true',List.any_eq_false] at hsh
 have:=hsh.1.2 p hp
 simp only [Bool.not_eq_true,List.any_eq_false] at this
 simpa using this t ht
def RunOk (ls:List Signal) (ck:Bool):T->Prop
 | ⟨op,sig,hi,lo,e,l⟩=>(∀ x∈e,WS ls x/\x.wf/\nodes x<=65536/\deep x<=64) /\
  (op=1/\slice ls sig hi lo=true/\(kindOf ls sig≠1/\ck=decide (kindOf ls sig=4))/\(∃ x,e=[x]/\x.w=hi-lo+1)/\l=[]\/op=2/\(∃ x,e=[x]/\x.w=1)/\(∃ a b,l=[a,b])\/op=3/\(∃ x,e=[x])/\0<l.length/\(∀ (k:Nat) (h:k<l.length),l[k].op=4/\(l[k].e=[]↔k+1=l.length)/\∀ x∈l[k].e,x.op=1)\/op=4\/op=5)/\all l
where all:List T->Prop
 | []=>True
 | t::l=>RunOk ls ck t/\all l
theorem RunOk.all_iff (ls:List Signal) (ck:Bool) (l:List T):RunOk.all ls ck l↔∀ t∈l,RunOk ls ck t:=by
 induction l with
 | nil=>simp [RunOk.all]
 | cons e l ih=>simp [RunOk.all,ih]
theorem RunOk_iff (ls:List Signal) (ck:Bool) (t:T):RunOk ls ck t↔(∀ x∈t.e,WS ls x/\x.wf/\nodes x<=65536/\deep x<=64) /\
  (t.op=1/\slice ls t.sig t.hi t.lo=true/\(kindOf ls t.sig≠1/\ck=decide (kindOf ls t.sig=4))/\(∃ x,t.e=[x]/\x.w=t.hi-t.lo+1)/\t.l=[]\/t.op=2/\(∃ x,t.e=[x]/\x.w=1)/\(∃ a b,t.l=[a,b])\/t.op=3/\(∃ x,t.e=[x])/\0<t.l.length/\(∀ (k:Nat) (h:k<t.l.length),t.l[k].op=4/\(t.l[k].e=[]↔k+1=t.l.length)/\∀ x∈t.l[k].e,x.op=1)\/t.op=4\/t.op=5)/\∀ x∈t.l,RunOk ls ck x:=by
 cases t;simp only [RunOk,RunOk.all_iff]
theorem arms_get (ls:List Signal) (l:List T):shapeT.arms ls l=true->∀ (k:Nat) (h:k<l.length),shapeT.armT ls l[k]=true/\(l[k].e=[]↔k+1=l.length):=by
 intro h
 have hd:∀ k,k<=l.length->shapeT.arms ls (l.drop k)=true:=by
  intro k
  induction k with
  | zero=>intro _;simpa using h
  | succ k ih =>
   intro hk
   have h1:=ih (by omega)
   rw [shapeT.arms_drop ls l k (by omega),Bool.and_eq_true] at h1
   exact h1.2
 intro k hk
 have h1:=hd k (by omega)
 rw [shapeT.arms_drop ls l k hk,Bool.and_eq_true,Bool.and_eq_true,beq_iff_eq] at h1
 refine ⟨h1.1.2,?_⟩
 have h2:=h1.1.1
 rw [decide_eq_decide] at h2
 rw [<-h2,List.length_eq_zero_iff]
theorem runOk_of {ls:List Signal} (hls:∀ x∈ls,x.w<=64) (ck:Bool) (t:T):∀ lab,(shapeT ls t=true\/shapeT.armT ls t=true)->StW ls ck t lab->0<=lab->t.wf->nodesT t<=65536->deepT t<=64->RunOk ls ck t:=by
 induction t using T.ind with
 | h t ih =>
  intro lab hsh hst hlab hwf hnt hdt
  obtain ⟨s1,s2,s3⟩:=(StW_iff ls ck t lab).1 hst
  obtain ⟨-,-,-,-,w5,w6⟩:=(T.wf_iff t).1 hwf
  have hne:=nodesT_eq t
  have hde:=deepT_eq t
  have hx0:∀ x∈t.e,nodes x<=65536/\deep x<=64:=fun x hx=>⟨by have:=le_sumBy nodes t.e x hx;omega,by have:=maxBy_ge deep t.e x hx;omega⟩
  have hl0:∀ x∈t.l,nodesT x<=65536/\deepT x<=64:=fun x hx=>⟨by have:=le_sumBy nodesT t.l x hx;omega,by have:=maxBy_ge deepT t.l x hx;omega⟩
  rw [RunOk_iff]
  rcases hsh with h | h
  ·rw [shapeT_eq] at h
   split at h
   ·cases h
   rename_i hq
   simp only [Bool.or_eq_true,not_or,List.any_eq_true,not_exists,not_and] at hq
   have hshE:∀ x∈t.e,shape ls x=true:=fun x hx=>by simpa using hq.1 x hx
   split at h
   ·rename_i o3
    rw [Bool.and_eq_true,Bool.and_eq_true,decide_eq_true_eq,decide_eq_true_eq] at h
    obtain ⟨x,hx⟩:=List.length_eq_one_iff.1 h.1
    have hw:szW t lab=0:=by unfold szW;rw [if_neg (by omega),if_neg (by omega),if_pos o3]
    have hws:=ws_of_size hls x (hshE x (by simp [hx])) 0 (by omega) (by have:=s2 x (by simp [hx]);rwa [hw] at this)
    have hxw:=(ws_own hls x hws.1).2.1
    have hA:=arms_get ls t.l h.2.1
    refine ⟨fun y hy=>?_,.inr (.inr (.inl ⟨o3,⟨x,hx⟩,h.2.2,fun k hk=>?_⟩)),fun y hy=>?_⟩
    ·rw [hx] at hy
     obtain rfl:=List.mem_singleton.1 hy
     have hy':y∈t.e:=by simp [hx]
     exact ⟨hws.1,w5 y hy',hx0 y hy'⟩
    ·obtain ⟨a1,a2⟩:=hA k hk
     rw [shapeT.armT_eq] at a1
     simp only [Bool.and_eq_true,decide_eq_true_eq,List.all_eq_true] at a1
     exact ⟨a1.1.1.1.1.1,a2,fun x hx=>(a1.1.2 x hx).1⟩
    ·obtain ⟨k,hk,rfl⟩:=List.getElem_of_mem hy
     refine ih _ hy _ (.inr (hA k hk).1) (s3 _ hy) ?_ (w6 _ hy) (hl0 _ hy).1 (hl0 _ hy).2
     rw [if_pos o3,hx]
     show 0<=x.w
     omega
   rename_i o3
   have s3':∀ x∈t.l,StW ls ck x lab:=fun x hx=>by have:=s3 x hx;rwa [if_neg o3] at this
   split at h
   ·rename_i o1
    rw [Bool.and_eq_true,Bool.and_eq_true,decide_eq_true_eq,decide_eq_true_eq] at h
    obtain ⟨x,hx⟩:=List.length_eq_one_iff.1 h.1.1
    have hl:=List.eq_nil_of_length_eq_zero h.1.2
    have hw:szW t lab=t.hi-t.lo+1:=by unfold szW;rw [if_pos o1]
    have hsl:=slice_le ls hls h.2
    have hws:=ws_of_size hls x (hshE x (by simp [hx])) (t.hi-t.lo+1) (by omega) (by have:=s2 x (by simp [hx]);rwa [hw] at this)
    have hxw:x.w=t.hi-t.lo+1:=by
     rw [hws.2,if_neg (by omega)];unfold told;rw [if_neg (by omega)]
    refine ⟨fun y hy=>?_,.inl ⟨o1,h.2,s1 o1,⟨x,hx,hxw⟩,hl⟩,fun y hy=>by rw [hl] at hy;cases hy⟩
    rw [hx] at hy
    obtain rfl:=List.mem_singleton.1 hy
    have hy':y∈t.e:=by simp [hx]
    exact ⟨hws.1,w5 y hy',hx0 y hy'⟩
   rename_i o1
   split at h
   ·rename_i o2
    rw [Bool.and_eq_true,Bool.and_eq_true,Bool.and_eq_true,decide_eq_true_eq,decide_eq_true_eq,List.all_eq_true] at h
    obtain ⟨x,hx⟩:=List.length_eq_one_iff.1 h.1.1.1
    obtain ⟨a,b,hab⟩:∃ a b,t.l=[a,b]:=by
     have h2:=h.1.1.2
     generalize t.l=l at h2
     match l,h2 with
     | [a,b],_=>exact ⟨a,b,rfl⟩
    have hw:szW t lab = -1:=by unfold szW;rw [if_neg o1,if_pos o2]
    have hws:=ws_of_size hls x (hshE x (by simp [hx])) (-1) (by omega) (by have:=s2 x (by simp [hx]);rwa [hw] at this)
    have hxw:x.w=1:=by rw [hws.2,if_pos rfl];rfl
    refine ⟨fun y hy=>?_,.inr (.inl ⟨o2,⟨x,hx,hxw⟩,a,b,hab⟩),fun y hy=>ih y hy lab (.inl (List.all_eq_true.1 h.2 y hy)) (s3' y hy) hlab (w6 y hy) (hl0 y hy).1 (hl0 y hy).2⟩
    rw [hx] at hy
    obtain rfl:=List.mem_singleton.1 hy
    have hy':y∈t.e:=by simp [hx]
    exact ⟨hws.1,w5 y hy',hx0 y hy'⟩
   split at h
   ·rename_i o5
    rw [Bool.and_eq_true,decide_eq_true_eq,List.all_eq_true] at h
    have he:=List.eq_nil_of_length_eq_zero h.1
    exact ⟨fun y hy=>(by rw [he] at hy;cases hy),.inr (.inr (.inr (.inr o5))),fun y hy=>ih y hy lab (.inl (h.2 y hy)) (s3' y hy) hlab (w6 y hy) (hl0 y hy).1 (hl0 y hy).2⟩
   ·cases h
  ·rw [shapeT.armT_eq] at h
   simp only [Bool.and_eq_true,decide_eq_true_eq,List.all_eq_true] at h
   obtain ⟨⟨⟨⟨⟨o4,-⟩,-⟩,-⟩,hE⟩,hL⟩:=h
   have hw:szW t lab=lab:=by unfold szW;rw [if_neg (by omega),if_neg (by omega),if_neg (by omega)]
   refine ⟨fun y hy=>?_,.inr (.inr (.inr (.inl o4))),fun y hy=>ih y hy lab (.inl (hL y hy)) (by have:=s3 y hy;rwa [if_neg (by omega)] at this) hlab (w6 y hy) (hl0 y hy).1 (hl0 y hy).2⟩
   have hws:=ws_of_size hls y (hE y hy).2 lab (by omega) (by have:=s2 y hy;rwa [hw] at this)
   exact ⟨hws.1,w5 y hy,hx0 y hy⟩
theorem runOk_check {d:Flat} (hok:d.ok) (h:checkM d=0):∀ p∈d.procs,∀ t∈p.l,RunOk d.signals p.clocked t:=by
 obtain ⟨h1,h2⟩:=st_of_check h
 have hls:∀ x∈d.signals,x.w<=64:=fun x hx=>(checkM_w h x hx).2
 unfold fitsM at h1
 simp only [Bool.and_eq_true,decide_eq_true_eq] at h1
 obtain ⟨-,h3,h4⟩:=h1
 intro p hp t ht
 obtain ⟨h5,h6⟩:=h2 p hp t ht
 have hn:nodesT t<=mNodes d:=by
  have q1:=le_sumBy nodesT p.l t ht
  have q2:=le_sumBy (fun p:Proc=>sumBy nodesT p.l) d.procs p hp
  unfold mNodes;omega
 have hd:deepT t<=mDeep d:=by
  have q1:=maxBy_ge deepT p.l t ht
  have q2:=maxBy_ge (fun p:Proc=>maxBy deepT p.l) d.procs p hp
  unfold mDeep;omega
 exact runOk_of hls p.clocked t 0 (.inl h6) h5 (by omega) (hok.wf.procs p hp t ht) (by omega) (by omega)
/-! ### bits of a signal are set -/
def setBits (a hi lo x:Nat):Nat:=2^lo*(2^(hi+1-lo)*(a / 2^(hi+1))+x)+a%2^lo
theorem setBits_testBit (a hi lo x:Nat) (h:lo<=hi) (hx:x<2^(hi+1-lo)) (i:Nat):(setBits a hi lo x).testBit i=if i<lo then a.testBit i else if i<=hi then x.testBit (i-lo) else a.testBit i:=by
 unfold setBits
 rw [Nat.testBit_two_pow_mul_add _ (Nat.mod_lt _ (Nat.two_pow_pos _))]
 by_cases h1:i<lo
 ·rw [if_pos h1,if_pos h1,Nat.testBit_mod_two_pow];simp [h1]
 ·rw [if_neg h1,if_neg h1,Nat.testBit_two_pow_mul_add _ hx]
  by_cases h2:i<=hi
  ·rw [if_pos (by omega),if_pos h2]
  ·rw [if_neg (by omega),if_neg h2,Nat.testBit_div_two_pow]
   congr 1;omega
theorem setBits_lt {a hi lo x w:Nat} (h:lo<=hi) (hw:hi<w) (hx:x<2^(hi+1-lo)) (ha:a<2^w):setBits a hi lo x<2^w:=by
 refine Nat.lt_pow_two_of_testBit _ fun i hi'=>?_
 rw [setBits_testBit a hi lo x h hx,if_neg (by omega),if_neg (by omega)]
 exact Nat.testBit_lt_two_pow (Nat.lt_of_lt_of_le ha (Nat.pow_le_pow_right (by decide) hi'))
def maskN (hi lo:Nat):Nat:=(2^(hi+1-lo)-1)*2^lo
theorem maskN_testBit (hi lo i:Nat):(maskN hi lo).testBit i=decide (lo<=i/\i<lo+(hi+1-lo)):=by
 unfold maskN
 rw [Nat.mul_comm,<-Nat.add_zero (2^lo*_),Nat.testBit_two_pow_mul_add _ (Nat.two_pow_pos _)]
 by_cases h:i<lo
 ·rw [if_pos h];simp;omega
 ·rw [if_neg h,Nat.testBit_two_pow_sub_one,decide_eq_decide];omega
theorem keep_or (a hi lo x:Nat) (h:lo<=hi) (h64:hi<64) (ha:a<2^64) (hx:x<2^(hi+1-lo)):(a &&& (2^64-(maskN hi lo+1))) ||| (2^lo*x)=setBits a hi lo x:=by
 have hm:maskN hi lo<2^64:=by
  refine Nat.lt_pow_two_of_testBit _ fun i hi'=>?_
  rw [maskN_testBit];simp;omega
 refine Nat.eq_of_testBit_eq fun i=>?_
 rw [setBits_testBit a hi lo x h hx,Nat.testBit_or,Nat.testBit_and,Nat.testBit_two_pow_sub_succ hm,maskN_testBit,<-Nat.add_zero (2^lo*x),Nat.testBit_two_pow_mul_add _ (Nat.two_pow_pos _)]
 by_cases h1:i<lo
 ·rw [if_pos h1,if_pos h1];simp;intro _;omega
 ·rw [if_neg h1,if_neg h1]
  by_cases h2:i<=hi
  ·rw [if_pos h2];simp;omega
  ·rw [if_neg h2]
   have:x.testBit (i-lo)=false:=Nat.testBit_lt_two_pow (Nat.lt_of_lt_of_le hx (Nat.pow_le_pow_right (by decide) (by omega)))
   rw [this]
   by_cases h3:i<64
   ·simp;omega
   ·have:a.testBit i=false:=Nat.testBit_lt_two_pow (Nat.lt_of_lt_of_le ha (Nat.pow_le_pow_right (by decide) (by omega)))
    rw [this];simp
/-! ### what statements make of values -/
def setV (v:List Nat) (sig hi lo:Int) (x:Nat):List Nat:=v.set sig.toNat (setBits (v.getD sig.toNat 0) hi.toNat lo.toNat x)
def armM (l:List T) (x:Int):Nat:=min ((l.findIdx fun a=>a.e.any fun e=>decide (e.v=x))) (l.length-1)
def oneM (c:Bool) (was:List Nat):T->List Nat->List Nat
 | ⟨op,sig,hi,lo,e,l⟩,v =>
  if op=1 then setV v sig hi lo (evM (if c then was else v) (hdE e))
  else if op=2 then nthM l (if evM (if c then was else v) (hdE e)=0 then 1 else 0) v
  else if op=3 then nthM l (armM l (evM (if c then was else v) (hdE e))) v
  else allM l v
where
 allM:List T->List Nat->List Nat
  | [],v=>v
  | t::l,v=>allM l (oneM c was t v)
 nthM:List T->Nat->List Nat->List Nat
  | [],_,v=>v
  | ⟨_,_,_,_,_,l'⟩::_,0,v=>allM l' v
  | _::l,k+1,v=>nthM l k v
abbrev allM (c:Bool) (was:List Nat) (l:List T) (v:List Nat):List Nat:=oneM.allM c was l v
theorem allM_nil (c:Bool) (was v:List Nat):allM c was [] v=v:=by rw [allM,oneM.allM]
theorem allM_cons (c:Bool) (was:List Nat) (t:T) (l:List T) (v:List Nat):allM c was (t::l) v=allM c was l (oneM c was t v):=by rw [allM,oneM.allM]
theorem allM_append (c:Bool) (was:List Nat) (l r:List T):∀ v,allM c was (l++r) v=allM c was r (allM c was l v):=by
 induction l with
 | nil=>intro v;rw [List.nil_append,allM_nil]
 | cons t l ih=>intro v;rw [List.cons_append,allM_cons,allM_cons,ih]
theorem nthM_eq (c:Bool) (was:List Nat) (l:List T):∀ (k:Nat) (v:List Nat) (h:k<l.length),oneM.nthM c was l k v=allM c was l[k].l v:=by
 induction l with
 | nil=>intro k v h;exact absurd h (by simp)
 | cons t l ih =>
  intro k v h
  cases k with
  | zero=>cases t;rw [oneM.nthM];rfl
  | succ k=>cases t;rw [oneM.nthM];exact ih k v (by simpa using h)
theorem oneM_eq (c:Bool) (was:List Nat) (t:T) (v:List Nat):oneM c was t v =
  (if t.op=1 then setV v t.sig t.hi t.lo (evM (if c then was else v) (hdE t.e))
  else if t.op=2 then oneM.nthM c was t.l (if evM (if c then was else v) (hdE t.e)=0 then 1 else 0) v
  else if t.op=3 then oneM.nthM c was t.l (armM t.l (evM (if c then was else v) (hdE t.e))) v
  else allM c was t.l v):=by
 cases t;rw [oneM]
theorem armM_lt {l:List T} (h:0<l.length) (x:Int):armM l x<l.length:=by unfold armM;omega
def Val2 (ls:List Signal) (v:List Nat):Prop:=v.length=ls.length/\Vals ls v
theorem setV_ok {ls:List Signal} (hls:∀ x∈ls,x.w<=64) {v:List Nat} (hv:Val2 ls v) {sig hi lo:Int} (h:slice ls sig hi lo=true) {x:Nat} (hx:x<2^(hi-lo+1).toNat):Val2 ls (setV v sig hi lo x):=by
 obtain ⟨q1,q2,q3,q4,q5,-⟩:=slice_le ls hls h
 refine ⟨by unfold setV;rw [List.length_set];exact hv.1,fun s h0 h1=>?_⟩
 unfold setV
 rw [List.getD_eq_getElem?_getD,List.getElem?_set]
 by_cases e:sig.toNat=s.toNat
 ·have es:sig=s:=by omega
  subst es
  rw [if_pos rfl,if_pos (by rw [hv.1];omega),Option.getD_some]
  refine setBits_lt (by omega) (by omega) ?_ (hv.2 sig q1 q2)
  rwa [show hi.toNat+1-lo.toNat=(hi-lo+1).toNat by omega]
 ·rw [if_neg e,<-List.getD_eq_getElem?_getD];exact hv.2 s h0 h1
theorem oneM_ok {ls:List Signal} (hls:∀ x∈ls,x.w<=64) {ck c:Bool} {was:List Nat} (hw:Val2 ls was) (t:T):RunOk ls ck t->(∀ v,Val2 ls v->Val2 ls (oneM c was t v))/\∀ v,Val2 ls v->Val2 ls (allM c was t.l v):=by
 induction t using T.ind with
 | h t ih =>
  intro h
  obtain ⟨h1,h2,h3⟩:=(RunOk_iff ls ck t).1 h
  have hall:∀ l:List T,(∀ x∈l,x∈t.l)->∀ v,Val2 ls v->Val2 ls (allM c was l v):=by
   intro l
   induction l with
   | nil=>intro _ v hv;rw [allM_nil];exact hv
   | cons y l ih2 =>
    intro hm v hv
    rw [allM_cons]
    exact ih2 (fun z hz=>hm z (by simp [hz])) _ ((ih y (hm y (by simp)) (h3 y (hm y (by simp)))).1 v hv)
  have hnth:∀ k v,k<t.l.length->Val2 ls v->Val2 ls (oneM.nthM c was t.l k v):=fun k v hk hv=>by
   rw [nthM_eq c was t.l k v hk]
   exact (ih _ (List.getElem_mem hk) (h3 _ (List.getElem_mem hk))).2 v hv
  refine ⟨fun v hv=>?_,hall t.l fun _ h=>h⟩
  rw [oneM_eq]
  rcases h2 with ⟨o,a1,-,⟨x,hx,a2⟩,-⟩ | ⟨o,-,a,b,hab⟩ | ⟨o,-,a1,-⟩ | o | o
  ·rw [if_pos o]
   refine setV_ok hls hv a1 ?_
   obtain ⟨x1,x2,-⟩:=h1 x (by simp [hx])
   have:=ev_lt (vs:=if c then was else v) hls x x1 x2
   rw [hx]
   rwa [a2] at this
  ·rw [if_neg (by omega),if_pos o]
   refine hnth _ v ?_ hv
   rw [hab]
   generalize evM _ _=q
   show (if q=0 then 1 else 0)<2
   split<;>decide
  ·rw [if_neg (by omega),if_neg (by omega),if_pos o]
   exact hnth _ v (armM_lt a1 _) hv
  ·rw [if_neg (by omega),if_neg (by omega),if_neg (by omega)];exact hall t.l (fun _ h=>h) v hv
  ·rw [if_neg (by omega),if_neg (by omega),if_neg (by omega)];exact hall t.l (fun _ h=>h) v hv
def runM (d:Flat) (vs:List Nat) (p:Int):List Nat × Int :=
 if valsOk d vs=true/\0<=p/\p<d.procs.length then (allM ((d.procs[p.toNat]?.map (·.clocked)).getD false) vs (procL d p) vs,0) else ([],1)
def Ag (ls:List Signal) (v v':List Nat) (P:Int->Prop):Prop:=∀ k j:Nat,k<ls.length->(j:Int)<sigW ls (k:Int)->P (sumW ls k+j)->(v.getD k 0).testBit j=(v'.getD k 0).testBit j
theorem Ag.mono {ls:List Signal} {v v':List Nat} {P Q:Int->Prop} (h:Ag ls v v' P) (hq:∀ x,Q x->P x):Ag ls v v' Q:=fun k j hk hj hx=>h k j hk hj (hq _ hx)
theorem Ag.refl (ls:List Signal) (v:List Nat) (P:Int->Prop):Ag ls v v P:=fun _ _ _ _ _=>rfl
theorem vals_high {ls:List Signal} {v:List Nat} (hv:Vals ls v) {k j:Nat} (hk:k<ls.length) (hj:¬ (j:Int)<sigW ls (k:Int)):(v.getD k 0).testBit j=false:=by
 have h:=hv (k:Int) (by omega) (by omega)
 rw [Int.toNat_natCast] at h
 exact Nat.testBit_lt_two_pow (Nat.lt_of_lt_of_le h (Nat.pow_le_pow_right (by decide) (by omega)))
theorem div_mod2 (a q:Nat):a / 2^q%2=if a.testBit q then 1 else 0:=by
 rw [Nat.testBit_eq_decide_div_mod_eq]
 have:a / 2^q%2=0\/a / 2^q%2=1:=by omega
 rcases this with h | h<;>simp [h]
theorem evM_congr {ls:List Signal} (hls:∀ x∈ls,1<=x.w/\x.w<=64) {v v':List Nat} (hv:Vals ls v) (hv':Vals ls v') (e:E):WS ls e->Ag ls v v' (·∈bitsM ls e)->evM v e=evM v' e:=by
 induction e using E.ind with
 | h e ih =>
  intro hws hag
  obtain ⟨h0,hp⟩:=(WS_iff ls e).1 hws
  have hb:=bitsM_eq hls hws
  have hm:e.l.map (evM v)=e.l.map (evM v'):=by
   refine List.map_congr_left fun x hx=>ih x hx (hp x hx) (hag.mono fun y hy=>?_)
   rw [hb]
   exact List.mem_append_right _ (List.mem_flatten.2 ⟨_,List.mem_map.2 ⟨x,hx,rfl⟩,hy⟩)
  have hown:∀ j:Nat,j<cntB ls e->(lo0 e+sumW ls e.sig.toNat+(j:Int))∈bitsM ls e:=fun j hj=>by
   rw [hb]
   exact List.mem_append_left _ (List.mem_map.2 ⟨j,List.mem_range.2 hj,rfl⟩)
  have hls':∀ x∈ls,x.w<=64:=fun x hx=>(hls x hx).2
  rw [evM_eq,evM_eq v',hm]
  unfold evNode
  by_cases o1:e.op=1
  ·rw [if_pos o1,if_pos o1]
  rw [if_neg o1,if_neg o1]
  by_cases o2:e.op=2
  ·rw [if_pos o2,if_pos o2]
   have hsl:slice ls e.sig e.hi e.lo=true:=by
    unfold wsN at h0
    rcases h0 with h | h | h | h | h | h | h | h
    case inr.inl=>exact h.2.2.1
    all_goals (exfalso;have:=h.1;omega)
   obtain ⟨q1,q2,q3,q4,q5,q6⟩:=slice_le ls hls' hsl
   refine Nat.eq_of_testBit_eq fun i=>?_
   rw [Nat.testBit_mod_two_pow,Nat.testBit_mod_two_pow,Nat.testBit_div_two_pow,Nat.testBit_div_two_pow]
   by_cases hi:i<(e.hi-e.lo+1).toNat
   ·have h1:lo0 e=e.lo:=by unfold lo0;rw [if_pos o2]
    have h2:hi0 ls e=e.hi:=by unfold hi0;rw [if_pos o2]
    have h3:=hag e.sig.toNat (i+e.lo.toNat) (by omega) (by rw [show ((e.sig.toNat:Nat):Int)=e.sig by omega];omega) (by
     have:=hown i (by unfold cntB;rw [h1,h2];exact hi)
     rw [h1] at this
     rw [show sumW ls e.sig.toNat+((i+e.lo.toNat:Nat):Int)=e.lo+sumW ls e.sig.toNat+(i:Int) by push_cast;omega]
     exact this)
    rw [h3]
   ·simp [hi]
  rw [if_neg o2,if_neg o2]
  by_cases o3:e.op=3
  ·rw [if_pos o3,if_pos o3]
   obtain ⟨-,-,h3,-⟩:=ws_sig hls hws
   have hs0:=(ws_sig hls hws).1
   have hs1:=h3 o3
   generalize (e.l.map (evM v')).getD 0 0=q
   rw [div_mod2,div_mod2]
   by_cases hq:(q:Int)<sigW ls e.sig
   ·have h1:lo0 e=0:=by unfold lo0;rw [if_neg o2]
    have h2:hi0 ls e=sigW ls e.sig-1:=by unfold hi0;rw [if_neg o2,if_pos o3]
    rw [hag e.sig.toNat q (by omega) (by rw [show ((e.sig.toNat:Nat):Int)=e.sig by omega];exact hq) (by
     have:=hown q (by unfold cntB;rw [h1,h2];omega)
     rw [h1,Int.zero_add] at this
     exact this)]
   ·have hk:((e.sig.toNat:Nat):Int)=e.sig:=by omega
    rw [vals_high hv (by omega) (by rw [hk];exact hq),vals_high hv' (by omega) (by rw [hk];exact hq)]
  ·rw [if_neg o3,if_neg o3]
def bn (ls:List Signal) (k j:Nat):Int:=sumW ls k+j
theorem bn_inj {ls:List Signal} (hw:∀ x∈ls,1<=x.w/\x.w<=64) {k j k' j':Nat} (hk:k<ls.length) (hk':k'<ls.length) (hj:(j:Int)<sigW ls (k:Int)) (hj':(j':Int)<sigW ls (k':Int)) (h:bn ls k j=bn ls k' j'):k=k'/\j=j':=by
 unfold bn at h
 have e:k=k':=by
  have h1:sigW ls (k:Int)=ls[k].w:=by simp [sigW,List.getElem?_eq_getElem hk]
  have h2:sigW ls (k':Int)=ls[k'].w:=by simp [sigW,List.getElem?_eq_getElem hk']
  have h3:=sumW_succ ls k hk
  have h4:=sumW_succ ls k' hk'
  exact sumW_uniq ls hw hk hk' (b:=sumW ls k+j) (by omega) (by omega) (by omega) (by omega)
 subst e
 exact ⟨rfl,by omega⟩
def Rd (ls:List Signal) (t:T) (x:Int):Prop:=∃ u∈eachT t,∃ e∈u.e,x∈bitsM ls e
def Wr (ls:List Signal) (t:T) (x:Int):Prop:=∃ u∈eachT t,u.op=1/\x∈numbersM (offsM ls ls.length) [ownS u]
def RdL (ls:List Signal) (l:List T) (x:Int):Prop:=∃ u∈eachT.eachTs l,∃ e∈u.e,x∈bitsM ls e
def WrL (ls:List Signal) (l:List T) (x:Int):Prop:=∃ u∈eachT.eachTs l,u.op=1/\x∈numbersM (offsM ls ls.length) [ownS u]
theorem eachTs_cons (t:T) (l:List T):eachT.eachTs (t::l)=eachT t++eachT.eachTs l:=by rw [eachTs_eq,eachTs_eq,List.map_cons,List.flatten_cons]
theorem alwM_cons (offs:List Int) (t:T) (l:List T) (x:Int):x∈alwM offs (t::l)↔x∈alt offs t\/x∈alwM offs l:=by
 unfold alwM;rw [setI_mem,setI_mem];unfold alwP;rw [List.map_cons,List.flatten_cons,List.mem_append]
structure Two (ls:List Signal) (v v' r r':List Nat) (A B:Int->Prop):Prop where
 ok:Val2 ls r/\Val2 ls r'
 ex:∃ W:Int->Prop,(∀ x,A x->W x)/\(∀ x,W x->B x)/\Ag ls r r' W/\Ag ls v r (fun x=>¬ W x)/\Ag ls v' r' (fun x=>¬ W x)
theorem Two.nil {ls:List Signal} {v v':List Nat} {A B:Int->Prop} (hv:Val2 ls v) (hv':Val2 ls v') (hA:∀ x,¬ A x):Two ls v v' v v' A B :=
 ⟨⟨hv,hv'⟩,fun _=>False,fun x h=>hA x h,fun _ h=>h.elim,fun _ _ _ _ h=>h.elim,Ag.refl _ _ _,Ag.refl _ _ _⟩
theorem Two.keep {ls:List Signal} {v v' r r':List Nat} {A B P:Int->Prop} (h:Two ls v v' r r' A B) (hp:Ag ls v v' P):Ag ls r r' P:=by
 obtain ⟨-,W,-,-,h3,h4,h5⟩:=h
 intro k j hk hj hx
 by_cases c:W (sumW ls k+j)
 ·exact h3 k j hk hj c
 ·rw [<-h4 k j hk hj c,<-h5 k j hk hj c];exact hp k j hk hj hx
theorem Two.then {ls:List Signal} {v v' r r' s s':List Nat} {A B A2 B2 A3 B3:Int->Prop} (h:Two ls v v' r r' A B) (h2:Two ls r r' s s' A2 B2) (hA:∀ x,A3 x->A x\/A2 x) (hB:∀ x,B x\/B2 x->B3 x):Two ls v v' s s' A3 B3:=by
 obtain ⟨-,W,a1,a2,a3,a4,a5⟩:=h
 obtain ⟨ok,W2,b1,b2,b3,b4,b5⟩:=h2
 refine ⟨ok,fun x=>W x\/W2 x,fun x hx=>(hA x hx).imp (a1 x) (b1 x),fun x hx=>hB x (hx.imp (a2 x) (b2 x)),fun k j hk hj hx=>?_,fun k j hk hj hx=>?_,fun k j hk hj hx=>?_⟩
 ·by_cases c:W2 (sumW ls k+j)
  ·exact b3 k j hk hj c
  ·rw [<-b4 k j hk hj c,<-b5 k j hk hj c];exact a3 k j hk hj (hx.resolve_right c)
 ·rw [a4 k j hk hj fun h=>hx (.inl h),b4 k j hk hj fun h=>hx (.inr h)]
 ·rw [a5 k j hk hj fun h=>hx (.inl h),b5 k j hk hj fun h=>hx (.inr h)]
theorem Two.weak {ls:List Signal} {v v' r r':List Nat} {A B A3 B3:Int->Prop} (h:Two ls v v' r r' A B) (hA:∀ x,A3 x->A x) (hB:∀ x,B x->B3 x):Two ls v v' r r' A3 B3:=by
 obtain ⟨ok,W,a1,a2,a3⟩:=h
 exact ⟨ok,W,fun x hx=>a1 x (hA x hx),fun x hx=>hB x (a2 x hx),a3⟩
theorem own_num {ls:List Signal} (hls:∀ x∈ls,1<=x.w/\x.w<=64) {t:T} (h:slice ls t.sig t.hi t.lo=true) (x:Int):x∈numbersM (offsM ls ls.length) [ownS t]↔∃ j:Nat,t.lo.toNat<=j/\j<=t.hi.toNat/\x=bn ls t.sig.toNat j:=by
 obtain ⟨q1,q2,q3,q4,q5,-⟩:=slice_le ls (fun x hx=>(hls x hx).2) h
 rw [mem_numbersM]
 constructor
 ·rintro ⟨s,hs,j,h1,h2,rfl⟩
  obtain rfl:=List.mem_singleton.1 hs
  unfold ownS at h1 h2 ⊢
  simp only at h1 h2 ⊢
  rw [offsM_getD ls _ _ (by omega)]
  exact ⟨j.toNat,by omega,by omega,by unfold bn;omega⟩
 ·rintro ⟨j,h1,h2,rfl⟩
  refine ⟨ownS t,by simp,j,?_,?_,?_⟩
  ·unfold ownS;simp only;omega
  ·unfold ownS;simp only;omega
  ·unfold ownS bn;simp only;rw [offsM_getD ls _ _ (by omega)]
theorem set_two {ls:List Signal} (hls:∀ x∈ls,1<=x.w/\x.w<=64) {v v':List Nat} (hv:Val2 ls v) (hv':Val2 ls v') {t:T} (h:slice ls t.sig t.hi t.lo=true) {x:Nat} (hx:x<2^(t.hi-t.lo+1).toNat) {B:Int->Prop} (hB:∀ y,y∈numbersM (offsM ls ls.length) [ownS t]->B y) :
  Two ls v v' (setV v t.sig t.hi t.lo x) (setV v' t.sig t.hi t.lo x) (·∈numbersM (offsM ls ls.length) [ownS t]) B:=by
 have hls':∀ x∈ls,x.w<=64:=fun x hx=>(hls x hx).2
 obtain ⟨q1,q2,q3,q4,q5,-⟩:=slice_le ls hls' h
 have hxx:x<2^(t.hi.toNat+1-t.lo.toNat):=by rwa [show t.hi.toNat+1-t.lo.toNat=(t.hi-t.lo+1).toNat by omega]
 have hsg:((t.sig.toNat:Nat):Int)=t.sig:=by omega
 have bit:∀ (v:List Nat),Val2 ls v->∀ k j:Nat,((setV v t.sig t.hi t.lo x).getD k 0).testBit j=if k=t.sig.toNat/\t.lo.toNat<=j/\j<=t.hi.toNat then x.testBit (j-t.lo.toNat) else (v.getD k 0).testBit j:=by
  intro v hv k j
  unfold setV
  rw [List.getD_eq_getElem?_getD,List.getElem?_set]
  by_cases e:t.sig.toNat=k
  ·rw [if_pos e,if_pos (by rw [hv.1];omega),Option.getD_some,setBits_testBit _ _ _ _ (by omega) hxx]
   subst e
   by_cases h1:j<t.lo.toNat
   ·rw [if_pos h1,if_neg (by omega)]
   ·rw [if_neg h1]
    by_cases h2:j<=t.hi.toNat
    ·rw [if_pos h2,if_pos ⟨rfl,by omega,h2⟩]
    ·rw [if_neg h2,if_neg (by omega)]
  ·rw [if_neg e,if_neg (by omega),<-List.getD_eq_getElem?_getD]
 have kept:∀ (v:List Nat),Val2 ls v->Ag ls v (setV v t.sig t.hi t.lo x) (fun y=>¬ y∈numbersM (offsM ls ls.length) [ownS t]):=by
  intro v hv k j hk hj hn
  rw [bit v hv,if_neg]
  rintro ⟨rfl,h1,h2⟩
  exact hn ((own_num hls h _).2 ⟨j,h1,h2,rfl⟩)
 refine ⟨⟨setV_ok hls' hv h hx,setV_ok hls' hv' h hx⟩,(·∈numbersM (offsM ls ls.length) [ownS t]),fun _ h=>h,hB,fun k j hk hj hn=>?_,kept v hv,kept v' hv'⟩
 obtain ⟨i,h1,h2,h3⟩:=(own_num hls h _).1 hn
 obtain ⟨rfl,rfl⟩:=bn_inj hls hk (by omega) hj (by rw [hsg];omega) h3
 rw [bit v hv,bit v' hv',if_pos ⟨rfl,h1,h2⟩,if_pos ⟨rfl,h1,h2⟩]
theorem RdL_cons (ls:List Signal) (t:T) (l:List T) (x:Int):RdL ls (t::l) x↔Rd ls t x\/RdL ls l x:=by
 unfold RdL Rd
 rw [eachTs_cons]
 constructor
 ·rintro ⟨u,hu,h⟩
  rcases List.mem_append.1 hu with hu | hu
  ·exact .inl ⟨u,hu,h⟩
  ·exact .inr ⟨u,hu,h⟩
 ·rintro (⟨u,hu,h⟩ | ⟨u,hu,h⟩)
  ·exact ⟨u,List.mem_append_left _ hu,h⟩
  ·exact ⟨u,List.mem_append_right _ hu,h⟩
theorem WrL_cons (ls:List Signal) (t:T) (l:List T) (x:Int):WrL ls (t::l) x↔Wr ls t x\/WrL ls l x:=by
 unfold WrL Wr
 rw [eachTs_cons]
 constructor
 ·rintro ⟨u,hu,h⟩
  rcases List.mem_append.1 hu with hu | hu
  ·exact .inl ⟨u,hu,h⟩
  ·exact .inr ⟨u,hu,h⟩
 ·rintro (⟨u,hu,h⟩ | ⟨u,hu,h⟩)
  ·exact ⟨u,List.mem_append_left _ hu,h⟩
  ·exact ⟨u,List.mem_append_right _ hu,h⟩
theorem Rd_parts (ls:List Signal) (t:T) (x:Int):Rd ls t x↔(∃ e∈t.e,x∈bitsM ls e)\/RdL ls t.l x:=by
 unfold Rd RdL
 rw [eachT_eq]
 constructor
 ·rintro ⟨u,hu,h⟩
  rcases List.mem_cons.1 hu with rfl | hu
  ·exact .inl h
  ·exact .inr ⟨u,hu,h⟩
 ·rintro (h | ⟨u,hu,h⟩)
  ·exact ⟨t,by simp,h⟩
  ·exact ⟨u,by simp [hu],h⟩
theorem Wr_parts (ls:List Signal) (t:T) (x:Int):Wr ls t x↔(t.op=1/\x∈numbersM (offsM ls ls.length) [ownS t])\/WrL ls t.l x:=by
 unfold Wr WrL
 rw [eachT_eq]
 constructor
 ·rintro ⟨u,hu,h⟩
  rcases List.mem_cons.1 hu with rfl | hu
  ·exact .inl h
  ·exact .inr ⟨u,hu,h⟩
 ·rintro (h | ⟨u,hu,h⟩)
  ·exact ⟨t,by simp,h⟩
  ·exact ⟨u,by simp [hu],h⟩
theorem RdL_mem {ls:List Signal} {l:List T} {t:T} (ht:t∈l) {x:Int} (h:Rd ls t x):RdL ls l x:=by
 induction l with
 | nil=>cases ht
 | cons y l ih =>
  rw [RdL_cons]
  rcases List.mem_cons.1 ht with rfl | ht
  ·exact .inl h
  ·exact .inr (ih ht)
theorem WrL_mem {ls:List Signal} {l:List T} {t:T} (ht:t∈l) {x:Int} (h:Wr ls t x):WrL ls l x:=by
 induction l with
 | nil=>cases ht
 | cons y l ih =>
  rw [WrL_cons]
  rcases List.mem_cons.1 ht with rfl | ht
  ·exact .inl h
  ·exact .inr (ih ht)
theorem metM_all {ls:List (List Int)} {x:Int} (h:x∈metM ls):∀ m∈ls,x∈m:=by
 unfold metM at h
 have:=(List.mem_filter.1 h).2
 rw [List.all_eq_true] at this
 intro m hm
 simpa using this m hm
theorem alwM_nil (offs:List Int) (x:Int):¬ x∈alwM offs []:=by unfold alwM;rw [setI_mem];unfold alwP;simp
theorem oneM_1 (c:Bool) (was:List Nat) {t:T} (v:List Nat) (o:t.op=1):oneM c was t v=setV v t.sig t.hi t.lo (evM (if c then was else v) (hdE t.e)):=by rw [oneM_eq,if_pos o]
theorem oneM_2 (c:Bool) (was:List Nat) {t:T} (v:List Nat) (o:t.op=2):oneM c was t v=oneM.nthM c was t.l (if evM (if c then was else v) (hdE t.e)=0 then 1 else 0) v:=by rw [oneM_eq,if_neg (show ¬ t.op=1 by omega),if_pos o]
theorem oneM_3 (c:Bool) (was:List Nat) {t:T} (v:List Nat) (o:t.op=3):oneM c was t v=oneM.nthM c was t.l (armM t.l (evM (if c then was else v) (hdE t.e))) v:=by rw [oneM_eq,if_neg (show ¬ t.op=1 by omega),if_neg (show ¬ t.op=2 by omega),if_pos o]
theorem oneM_4 (c:Bool) (was:List Nat) {t:T} (v:List Nat) (o:t.op=4\/t.op=5):oneM c was t v=allM c was t.l v:=by rw [oneM_eq,if_neg (show ¬ t.op=1 by omega),if_neg (show ¬ t.op=2 by omega),if_neg (show ¬ t.op=3 by omega)]
theorem oneM_two {ls:List Signal} (hls:∀ x∈ls,1<=x.w/\x.w<=64) {ck c:Bool} {was was':List Nat} (hw:Val2 ls was) (hw':Val2 ls was') {P:Int->Prop} (hP:c=true->Ag ls was was' P) (t:T):RunOk ls ck t->(∀ x,Rd ls t x->P x) ->
  (∀ v v',Val2 ls v->Val2 ls v'->(c=false->Ag ls v v' P)->Two ls v v' (oneM c was t v) (oneM c was' t v') (·∈alt (offsM ls ls.length) t) (Wr ls t)) /\
  (∀ v v',Val2 ls v->Val2 ls v'->(c=false->Ag ls v v' P)->Two ls v v' (allM c was t.l v) (allM c was' t.l v') (·∈alwM (offsM ls ls.length) t.l) (WrL ls t.l)):=by
 induction t using T.ind with
 | h t ih =>
  intro h hrd
  obtain ⟨h1,h2,h3⟩:=(RunOk_iff ls ck t).1 h
  have hls':∀ x∈ls,x.w<=64:=fun x hx=>(hls x hx).2
  have hrp:∀ x,RdL ls t.l x->P x:=fun x hx=>hrd x ((Rd_parts ls t x).2 (.inr hx))
  have ihp:=fun x (hx:x∈t.l)=>ih x hx (h3 x hx) fun y hy=>hrp y (RdL_mem hx hy)
  have hall:∀ l:List T,(∀ x∈l,x∈t.l)->∀ v v',Val2 ls v->Val2 ls v'->(c=false->Ag ls v v' P)->Two ls v v' (allM c was l v) (allM c was' l v') (·∈alwM (offsM ls ls.length) l) (WrL ls l):=by
   intro l
   induction l with
   | nil=>intro _ v v' hv hv' _;rw [allM_nil,allM_nil];exact Two.nil hv hv' (alwM_nil _)
   | cons y l ih2 =>
    intro hm v v' hv hv' hag
    rw [allM_cons,allM_cons]
    have t1:=(ihp y (hm y (by simp))).1 v v' hv hv' hag
    have t2:=ih2 (fun z hz=>hm z (by simp [hz])) _ _ t1.ok.1 t1.ok.2 fun hc=>t1.keep (hag hc)
    exact t1.then t2 (fun x hx=>(alwM_cons _ _ _ _).1 hx) fun x hx=>(WrL_cons ls y l x).2 hx
  refine ⟨fun v v' hv hv' hag=>?_,hall t.l fun _ h=>h⟩
  have hev:∀ x∈t.e,evM (if c then was else v) x=evM (if c then was' else v') x:=fun x hx=>by
   have hb:∀ y,y∈bitsM ls x->P y:=fun y hy=>hrd y ((Rd_parts ls t y).2 (.inl ⟨x,hx,hy⟩))
   cases c with
   | true=>exact evM_congr hls hw.2 hw'.2 x (h1 x hx).1 ((hP rfl).mono hb)
   | false=>exact evM_congr hls hv.2 hv'.2 x (h1 x hx).1 ((hag rfl).mono hb)
  have hnth:∀ k,k<t.l.length->(t.op=2\/t.op=3)->Two ls v v' (oneM.nthM c was t.l k v) (oneM.nthM c was' t.l k v') (·∈alt (offsM ls ls.length) t) (Wr ls t):=fun k hk ho=>by
   rw [nthM_eq c was t.l k v hk,nthM_eq c was' t.l k v' hk]
   have hm:=List.getElem_mem hk
   refine ((ihp _ hm).2 v v' hv hv' hag).weak (fun x hx=>?_) fun x hx=>(Wr_parts ls t x).2 (.inr (WrL_mem hm ((Wr_parts ls _ x).2 (.inr hx))))
   rw [alt_eq,if_neg (by omega),if_pos ho] at hx
   exact metM_all hx _ (List.mem_map.2 ⟨_,hm,rfl⟩)
  rcases h2 with ⟨o,a1,-,⟨x,hx,a2⟩,-⟩ | ⟨o,⟨x,hx,-⟩,a,b,hab⟩ | ⟨o,⟨x,hx⟩,a1,-⟩ | o | o
  ·rw [oneM_1 c was v o,oneM_1 c was' v' o]
   have he:=hev x (by simp [hx])
   rw [hx]
   show Two ls v v' (setV v t.sig t.hi t.lo (evM _ x)) (setV v' t.sig t.hi t.lo (evM _ x)) _ _
   rw [<-he]
   have hlt:=ev_lt (vs:=if c then was else v) hls' x (h1 x (by simp [hx])).1 (h1 x (by simp [hx])).2.1
   rw [a2] at hlt
   refine (set_two hls hv hv' a1 hlt (B:=Wr ls t) fun y hy=>(Wr_parts ls t y).2 (.inl ⟨o,hy⟩)).weak (fun y hy=>?_) fun _ h=>h
   rw [alt_eq,if_pos o] at hy
   exact hy
  ·rw [oneM_2 c was v o,oneM_2 c was' v' o]
   have he:=hev x (by simp [hx])
   rw [hx]
   show Two ls v v' (oneM.nthM c was t.l (if evM _ x=0 then 1 else 0) v) (oneM.nthM c was' t.l (if evM _ x=0 then 1 else 0) v') _ _
   rw [<-he]
   refine hnth _ ?_ (.inl o)
   rw [hab]
   generalize evM _ _=q
   show (if q=0 then 1 else 0)<2
   split<;>decide
  ·rw [oneM_3 c was v o,oneM_3 c was' v' o]
   have he:=hev x (by simp [hx])
   rw [hx]
   show Two ls v v' (oneM.nthM c was t.l (armM t.l (evM _ x)) v) (oneM.nthM c was' t.l (armM t.l (evM _ x)) v') _ _
   rw [<-he]
   exact hnth _ (armM_lt a1 _) (.inr o)
  all_goals
   rw [oneM_4 c was v (by omega),oneM_4 c was' v' (by omega)]
   refine (hall t.l (fun _ h=>h) v v' hv hv' hag).weak (fun x hx=>?_) fun x hx=>(Wr_parts ls t x).2 (.inr hx)
   rw [alt_eq,if_neg (by omega),if_neg (by omega)] at hx
   exact hx
theorem allM_two {ls:List Signal} (hls:∀ x∈ls,1<=x.w/\x.w<=64) {ck c:Bool} {was was':List Nat} (hw:Val2 ls was) (hw':Val2 ls was') {P:Int->Prop} (hP:c=true->Ag ls was was' P) (l:List T) (hl:∀ t∈l,RunOk ls ck t) (hr:∀ x,RdL ls l x->P x) :
  ∀ v v',Val2 ls v->Val2 ls v'->(c=false->Ag ls v v' P)->Two ls v v' (allM c was l v) (allM c was' l v') (·∈alwM (offsM ls ls.length) l) (WrL ls l):=by
 induction l with
 | nil=>intro v v' hv hv' _;rw [allM_nil,allM_nil];exact Two.nil hv hv' (alwM_nil _)
 | cons y l ih =>
  intro v v' hv hv' hag
  rw [allM_cons,allM_cons]
  have t1:=(oneM_two hls hw hw' hP y (hl y (by simp)) fun x hx=>hr x ((RdL_cons ls y l x).2 (.inl hx))).1 v v' hv hv' hag
  have t2:=ih (fun z hz=>hl z (by simp [hz])) (fun x hx=>hr x ((RdL_cons ls y l x).2 (.inr hx))) _ _ t1.ok.1 t1.ok.2 fun hc=>t1.keep (hag hc)
  exact t1.then t2 (fun x hx=>(alwM_cons _ _ _ _).1 hx) fun x hx=>(WrL_cons ls y l x).2 hx
end Go.Proofs.YtpngepnfinbaoaaGreat
