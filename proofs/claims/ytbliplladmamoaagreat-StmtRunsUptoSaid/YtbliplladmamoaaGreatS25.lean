/- Laws and walks that a claim of this seat leans on: RefL. -/
import Derived.Test.YtbliplladmamoaaGreatS13
import Derived.Test.YtbliplladmamoaaGreatS00
set_option maxRecDepth 100000
set_option maxHeartbeats 8000000
set_option linter.all false
namespace Go.Proofs.YtbliplladmamoaaGreat
/-! ### the document's answer for layer 9, in plain words -/
def Gu (op:Int) (len:Nat):Bool :=
 if op=1\/op=2 then decide (len=0) else if op=3\/op=4\/op=8 then decide (len=1) else if op=5 then decide (len=2) else if op=6 then decide (len=3) else if op=7 then decide (1<=len) else false
def A1 (ls:List Ai) (op w v sig hi lo n:Int):Bool :=
 if (op≠1/\v≠0)\/(¬(op=2\/op=3)/\sig≠0)\/(op≠2/\(hi≠0\/lo≠0))\/(op≠4/\op≠5/\op≠8/\n≠0) then false
 else if op=1 then decide (0<=w)&&decide (w<=64)&&(decide (w=0)||holds w v)
 else if op=2 then slice ls sig hi lo
 else if op=3 then decide (0<=sig)&&decide (sig<ls.length)
 else if op=4 then decide (1<=n)&&decide (n<=6)
 else if op=5 then decide (11<=n)&&decide (n<=26)
 else if op=8 then decide (31<=n)&&decide (n<=33)&&decide (1<=w)&&decide (w<=64)
 else true
theorem Vs (ls:List Ai) (op w v sig hi lo n:Int) (j:Nat):Bl ls op w v sig hi lo n j=(Gu op j&&A1 ls op w v sig hi lo n):=by
 unfold Bl Gu A1
 generalize holds w v=hv
 generalize slice ls sig hi lo=sv
 by_cases h1:op=1
 ·subst h1;rw [Bool.eq_iff_iff];cases hv<;>simp<;>(try omega)
 by_cases h2:op=2
 ·subst h2;rw [Bool.eq_iff_iff];cases sv<;>simp<;>(try omega)
 by_cases h3:op=3
 ·subst h3;rw [Bool.eq_iff_iff];simp<;>(try omega)
 by_cases h4:op=4
 ·subst h4;rw [Bool.eq_iff_iff];simp<;>(try omega)
 by_cases h5:op=5
 ·subst h5;rw [Bool.eq_iff_iff];simp<;>(try omega)
 by_cases h6:op=6
 ·subst h6;rw [Bool.eq_iff_iff];simp<;>(try omega)
 by_cases h7:op=7
 ·subst h7;rw [Bool.eq_iff_iff];simp<;>(try omega)
 by_cases h8:op=8
 ·subst h8;rw [Bool.eq_iff_iff];simp<;>(try omega)
 simp [h1,h2,h3,h4,h5,h6,h7,h8]
/-! ### signals -/
def Iy (x:Ai):Bool:=decide (1<=x.w)&&decide (x.w<=64)&&decide (1<=x.kind)&&decide (x.kind<=4)&&(decide (x.kind=4)||decide (x.init=0))
theorem Afh (j:List (List UInt8)) (x:Ai):Py j x=(!(j.contains x.name.data.toList)&&Iy x):=by
 unfold Py Iy;simp only [Bool.and_assoc]
theorem Rq (ls:List Ai):∀ u,Cp u ls=true↔∀ k (h:k<ls.length),(ls[k].name.data.toList ∉ u)/\Iy ls[k]=true/\∀ j (hj:j<k),ls[j].name.data.toList≠ls[k].name.data.toList:=by
 induction ls with
 | nil=>intro u;simp [Cp]
 | cons x l ih =>
  intro u
  rw [Cp,Afh,Bool.and_eq_true,Bool.and_eq_true,ih]
  simp only [Bool.not_eq_true',List.contains_eq_mem,decide_eq_false_iff_not,List.mem_cons,not_or]
  constructor
  ·rintro ⟨⟨h1,h2⟩,h3⟩ k hk
   cases k with
   | zero=>exact ⟨h1,h2,fun j hj=>absurd hj (by omega)⟩
   | succ k =>
    obtain ⟨⟨g0,g1⟩,g2,g3⟩:=h3 k (by simpa using hk)
    refine ⟨g1,g2,fun j hj=>?_⟩
    cases j with
    | zero=>simp only [Jb,Jc];exact fun h=>g0 h.symm
    | succ j=>simpa using g3 j (by omega)
  ·intro h
   have h0:=h 0 (by simp)
   refine ⟨⟨h0.1,h0.2.1⟩,fun k hk=>?_⟩
   obtain ⟨g1,g2,g3⟩:=h (k+1) (by simpa using hk)
   refine ⟨⟨?_,g1⟩,g2,fun j hj=>?_⟩
   ·have:=g3 0 (by omega)
    simp only [Jb,Jc] at this
    exact fun h=>this h.symm
   ·simpa using g3 (j+1) (by omega)
/-! ### how many bits -/
def K5 (l:List Ai):Nat:=Ap (fun s=>(min (max s.w 0) 5000).toNat) l
theorem Abn (l:List Ai):∀ a:Nat,a+K5 l<=4096↔a+Id l<=4096:=by
 unfold K5 Id
 induction l with
 | nil=>intro a;simp [Ap]
 | cons x l ih =>
  intro a
  simp only [Ap]
  by_cases h:x.w<=4097
  ·have e:(min (max x.w 0) 5000).toNat=(max 0 (min x.w 4097)).toNat:=by omega
   rw [e,<-Nat.add_assoc,<-Nat.add_assoc]
   exact ih _
  ·omega
theorem Xx (l:List Ai):K5 l<=5000*l.length:=by
 unfold K5
 induction l with
 | nil=>simp [Ap]
 | cons x l ih=>simp only [Ap,List.length_cons];omega
/-! ### expressions, sized -/
theorem Ue (e:E):Ao e (-1)=if 1<own e then .error 91 else Ao e 1:=by
 rw [Gv,Gv e 1];by_cases h:1<own e<;>simp [h]
def Bm (x:E) (ws:List Int):Except Int E:=match Ao.sizeL x.l ws with | .error f=>.error f | .ok l'=>.ok ⟨x.op,x.w,x.v,x.sig,x.hi,x.lo,x.n,l'⟩
def G3 (x:E) (w:Int):Except Int E:=if x.n<=2 then Bm x [w] else if w≠1 then .error 90 else if x.n=6 then Bm x [-1] else Bm x [0]
def D8 (x:E) (w:Int):Except Int E :=
 if x.n<=16 then Bm x [w,w] else if x.n<=18 then Bm x [w,0] else if w≠1 then .error 90 else if 25<=x.n then Bm x [-1,-1] else Bm x [Bw (own.fst x.l) 32,Bw (own.fst x.l) 32]
def Abw (e:E) (w2:Int):Except Int E :=
 if e.w≠w2 then .error 90
 else match Bm ⟨e.op,w2,e.v,e.sig,e.hi,e.lo,e.n,e.l⟩ [0] with
  | .error f=>.error f
  | .ok y=>if (e.n≠33/\w2<Ao.hdW y.l)\/(e.n=33/\Ao.hdW y.l<w2) then .error 90 else .ok y
def Cl (e:E) (w2:Int):Except Int E :=
 if e.op=1 then (if e.w≠0/\e.w≠w2 then .error 90 else if e.w=0/\holds w2 e.v=false then .error 92 else .ok ⟨e.op,w2,e.v,e.sig,e.hi,e.lo,e.n,e.l⟩)
 else if e.op=2\/e.op=3 then (if own e≠w2 then .error 90 else Bm ⟨e.op,w2,e.v,e.sig,e.hi,e.lo,e.n,e.l⟩ [0])
 else if e.op=4 then G3 ⟨e.op,w2,e.v,e.sig,e.hi,e.lo,e.n,e.l⟩ w2
 else if e.op=5 then D8 ⟨e.op,w2,e.v,e.sig,e.hi,e.lo,e.n,e.l⟩ w2
 else if e.op=6 then Bm ⟨e.op,w2,e.v,e.sig,e.hi,e.lo,e.n,e.l⟩ [-1,w2,w2]
 else if e.op=7 then (if own e=0\/own e≠w2\/64<own e then .error 90 else Bm ⟨e.op,w2,e.v,e.sig,e.hi,e.lo,e.n,e.l⟩ (List.replicate e.l.length 0))
 else Abw e w2
theorem Pa {ls:List Ai} {e:E} (h:A7 ls e=true) :
  (e.op=1/\e.l=[]/\0<=e.w/\e.w<=64/\e.sig=0/\e.hi=0/\e.lo=0/\e.n=0)\/(e.op=2/\e.l=[]/\slice ls e.sig e.hi e.lo=true)\/(e.op=3/\e.l.length=1)\/(e.op=4/\e.l.length=1/\1<=e.n/\e.n<=6) \/
  (e.op=5/\e.l.length=2/\11<=e.n/\e.n<=26)\/(e.op=6/\e.l.length=3)\/(e.op=7/\0<e.l.length)\/(e.op=8/\e.l.length=1/\31<=e.n/\e.n<=33/\1<=e.w/\e.w<=64):=by
 rw [Fu,Bool.and_eq_true] at h
 have h0:=h.1
 unfold Bl at h0
 repeat' split at h0
 all_goals try simp only [Bool.and_eq_true,decide_eq_true_eq] at h0
 ·exact .inl ⟨by assumption,List.eq_nil_of_length_eq_zero (by omega),by omega,by omega,by omega,by omega,by omega,by omega⟩
 ·exact .inr (.inl ⟨by assumption,List.eq_nil_of_length_eq_zero (by omega),h0.1.2⟩)
 ·exact .inr (.inr (.inl ⟨by assumption,by omega⟩))
 ·exact .inr (.inr (.inr (.inl ⟨by assumption,by omega,by omega,by omega⟩)))
 ·exact .inr (.inr (.inr (.inr (.inl ⟨by assumption,by omega,by omega,by omega⟩))))
 ·exact .inr (.inr (.inr (.inr (.inr (.inl ⟨by assumption,by omega⟩)))))
 ·exact .inr (.inr (.inr (.inr (.inr (.inr (.inl ⟨by assumption,by omega⟩))))))
 ·exact .inr (.inr (.inr (.inr (.inr (.inr (.inr ⟨by assumption,by omega,by omega,by omega,by omega,by omega⟩))))))
 ·cases h0
theorem Aco {ls:List Ai} (e:E) (w:Int) (hw:0<=w) (hs:A7 ls e=true):Ao e w=Cl e (Bw w (Bw (own e) 32)):=by
 rw [Gv,if_neg (by omega),if_neg (by omega:¬ w = -1)]
 generalize hw2:Bw w (Bw (own e) 32)=w2
 have ho:=Np e
 obtain ⟨op,ew,v,sig,hi,lo,n,l⟩:=e
 rcases Pa hs with h | h | h | h | h | h | h | h<;>simp only at h ho ⊢
 ·obtain ⟨rfl,rfl,h3,h4,rfl,rfl,rfl,rfl⟩:=h
  by_cases h0:ew=0
  ·subst h0
   cases hh:holds w2 v<;>simp [Cl,hh]
  ·simp only [Cl,Bo,ho]
   by_cases h5:ew=w2
   ·subst h5;simp [h0,Ao.sizeL]
   ·simp [h0,h5]
 ·obtain ⟨rfl,rfl,h3⟩:=h
  simp only [Cl,Bo,Bm]
  by_cases h5:own ⟨2,ew,v,sig,hi,lo,n,[]⟩=w2<;>simp [h5,Ao.sizeL]
 ·obtain ⟨rfl,h2⟩:=h
  simp only [Cl,Bo,Bm]
  by_cases h5:own ⟨3,ew,v,sig,hi,lo,n,l⟩=w2
  ·simp [h5,h2]
   cases Ao.sizeL l [0]<;>first | rfl | simp
  ·simp [h5]
 ·obtain ⟨rfl,h2,h3,h4⟩:=h
  have j:Bo ⟨4,ew,v,sig,hi,lo,n,l⟩ w2=(if n<=2 then some [w2] else if w2≠1 then none else if n=6 then some [-1] else some [0]):=by
   unfold Bo
   simp only [h2]
   repeat' split
   all_goals first | rfl | (exfalso;omega) | (exfalso;simp_all;done) | (exfalso;simp_all;omega)
  rw [j]
  by_cases h5:n<=2
  ·simp [Cl,G3,Bm,h5];cases Ao.sizeL l [w2]<;>first | rfl | simp
  ·by_cases h7:w2=1
   ·by_cases h6:n=6
    ·simp [Cl,G3,Bm,h6,h7];cases Ao.sizeL l [-1]<;>first | rfl | simp
    ·simp [Cl,G3,Bm,h5,h6,h7];cases Ao.sizeL l [0]<;>first | rfl | simp
   ·simp [Cl,G3,Bm,h5,h7]
 ·obtain ⟨rfl,h2,h3,h4⟩:=h
  have u:Bo ⟨5,ew,v,sig,hi,lo,n,l⟩ w2=(if n<=16 then some [w2,w2] else if n<=18 then some [w2,0] else if w2≠1 then none else if 25<=n then some [-1,-1] else some [Bw (own.fst l) 32,Bw (own.fst l) 32]):=by
   unfold Bo
   simp only [h2]
   repeat' split
   all_goals first | rfl | (exfalso;omega) | (exfalso;simp_all;done) | (exfalso;simp_all;omega)
  rw [u]
  by_cases h5:n<=16
  ·simp [Cl,D8,Bm,h5];cases Ao.sizeL l [w2,w2]<;>first | rfl | simp
  ·by_cases h6:n<=18
   ·simp [Cl,D8,Bm,h5,h6];cases Ao.sizeL l [w2,0]<;>first | rfl | simp
   ·by_cases h8:w2=1
    ·by_cases h7:25<=n
     ·simp [Cl,D8,Bm,h5,h6,h7,h8];cases Ao.sizeL l [-1,-1]<;>first | rfl | simp
     ·simp [Cl,D8,Bm,h5,h6,h7,h8];cases Ao.sizeL l _<;>first | rfl | simp
    ·simp [Cl,D8,Bm,h5,h6,h8]
 ·obtain ⟨rfl,h2⟩:=h
  simp only [Cl,Bo,Bm,h2]
  simp [List.replicate]
  cases Ao.sizeL l [-1,w2,w2]<;>first | rfl | simp
 ·obtain ⟨rfl,h2⟩:=h
  simp only [Cl,Bo,Bm]
  by_cases h5:own ⟨7,ew,v,sig,hi,lo,n,l⟩=0\/own ⟨7,ew,v,sig,hi,lo,n,l⟩≠w2\/64<own ⟨7,ew,v,sig,hi,lo,n,l⟩
  ·simp [h5]
  ·simp [h5]
   cases Ao.sizeL l _<;>first | rfl | simp
 ·obtain ⟨rfl,h2,h3,h4,h5,h6⟩:=h
  simp only [Cl,Bo,Abw,Bm,ho,h2]
  by_cases h7:ew=w2
  ·subst h7
   simp
   cases Ao.sizeL l [0] with
   | error f=>simp
   | ok y =>
    simp only
    by_cases hc:n=33
    ·subst hc;simp
    ·simp [hc]
  ·simp [h7]
/-! ### statements, sized: the first error stays -/
theorem U1 {α β σ:Type} (f:σ->α->β × σ) (l r:List α):∀ s,Cw f s (l++r)=((Cw f s l).1++(Cw f (Cw f s l).2 r).1,(Cw f (Cw f s l).2 r).2):=by
 induction l with
 | nil=>intro s;rfl
 | cons y l ih=>intro s;simp only [List.cons_append,Cw,ih]
theorem G9 {α β:Type} (f:Int->α->β × Int) (l:List α) (hf:∀ x∈l,∀ s,s≠0->(f s x).2=s) (s:Int) (hs:s≠0):(Cw f s l).2=s:=by
 induction l with
 | nil=>rfl
 | cons x l ih =>
  simp only [Cw]
  rw [hf x (by simp) s hs]
  exact ih fun y hy=>hf y (by simp [hy])
theorem Kh {α β:Type} (f:Int->α->β × Int) (l:List α) (hf:∀ x∈l,∀ s,s≠0->(f s x).2=s) (s:Int) (k:Nat) (h:(Cw f s (l.take k)).2≠0):(Cw f s l).2=(Cw f s (l.take k)).2:=by
 have e:=U1 f (l.take k) (l.drop k) s
 rw [List.take_append_drop] at e
 rw [e]
 exact G9 f _ (fun x hx=>hf x (List.mem_of_mem_drop hx)) _ h
theorem Qh (e:E) (w s:Int) (h:s≠0):(szE s e w).2=s:=by unfold szE;rw [if_pos h]
theorem Afm (w s:Int) (l:List E) (h:s≠0):(Fi s w l).2=s:=G9 _ l (fun x _ s h=>Qh x w s h) s h
theorem Abg (ls:List Ai) (ck:Bool) (t:T):∀ j s:Int,s≠0->(szT ls ck t j s).2=s:=by
 induction t using T.ind with
 | h t ih =>
  intro j s h
  rw [Ns]
  have h0:Da ls ck t s=s:=by unfold Da;rw [if_neg (fun h'=>h h'.2.1)]
  rw [h0,Afm _ _ _ h]
  exact G9 _ _ (fun x hx s h=>ih x hx _ s h) s h
theorem Kd (ls:List Ai) (ck:Bool) (l:List T) (j s:Int) (h:s≠0):(Cm ls ck j s l).2=s:=G9 _ l (fun x _ s h=>Abg ls ck x j s h) s h
theorem Uj (ls:List Ai) (ck:Bool) (l:List T) (j s:Int) (k:Nat) (h:(Cm ls ck j s (l.take k)).2≠0):(Cm ls ck j s l).2=(Cm ls ck j s (l.take k)).2 :=
 Kh _ l (fun x _ s h=>Abg ls ck x j s h) s k h
theorem Acz (w s:Int) (l:List E) (k:Nat) (h:(Fi s w (l.take k)).2≠0):(Fi s w l).2=(Fi s w (l.take k)).2:=Kh _ l (fun x _ s h=>Qh x w s h) s k h
theorem Ac1 (ls:List Ai) (s:Int) (l:List C0) (k:Nat) (h:(Fj ls s (l.take k)).2≠0):(Fj ls s l).2=(Fj ls s (l.take k)).2 :=
 Kh (fun s (p:C0)=>((⟨p.clocked,(Cm ls p.clocked 0 s p.l).1⟩:C0),(Cm ls p.clocked 0 s p.l).2)) l (fun x _ s h=>Kd ls x.clocked x.l 0 s h) s k h
theorem Afl (l:List Chk) (s:Int) (h:s≠0):(Fc s l).2=s:=G9 (fun s (c:Chk)=>((⟨c.name,(szE s c.e (-1)).1⟩:Chk),(szE s c.e (-1)).2)) l (fun x _ s h=>Qh x.e (-1) s h) s h
theorem Acx (s:Int) (l:List Chk) (k:Nat) (h:(Fc s (l.take k)).2≠0):(Fc s l).2=(Fc s (l.take k)).2:=Kh (fun s (c:Chk)=>((⟨c.name,(szE s c.e (-1)).1⟩:Chk),(szE s c.e (-1)).2)) l (fun x _ s h=>Qh x.e (-1) s h) s k h
theorem Pm {α β σ:Type} (f g:σ->α->β × σ) (l:List α) (h:∀ x∈l,∀ s,f s x=g s x):∀ s,Cw f s l=Cw g s l:=by
 induction l with
 | nil=>intro s;rfl
 | cons x l ih=>intro s;simp only [Cw,h x (by simp),ih (fun y hy=>h y (by simp [hy]))]
theorem Agx (ls:List Ai) (ck:Bool) (t:T):An ls t=true->∀ a b s:Int,szT ls ck t a s=szT ls ck t b s:=by
 induction t using T.ind with
 | h t ih =>
  intro ht a b s
  have hl:∀ l:List T,(∀ x∈l,x∈t.l)->l.all (An ls)=true->∀ s,Cm ls ck a s l=Cm ls ck b s l:=by
   intro l hm ha s
   exact Pm _ _ _ (fun x hx s=>ih x (hm x hx) (List.all_eq_true.1 ha x hx) a b s) s
  rw [Ns,Ns]
  rw [Ff] at ht
  split at ht
  ·cases ht
  ·split at ht
   ·rename_i h3
    have hw:szW t a=szW t b:=by unfold szW;rw [if_neg (by omega),if_neg (by omega),if_pos h3,if_neg (by omega),if_neg (by omega),if_pos h3]
    rw [if_pos h3,if_pos h3,hw]
   ·split at ht
    ·rename_i h3 h1
     have hw:szW t a=szW t b:=by unfold szW;rw [if_pos h1,if_pos h1]
     simp only [Bool.and_eq_true,decide_eq_true_eq] at ht
     have hn:t.l=[]:=List.eq_nil_of_length_eq_zero ht.1.2
     rw [if_neg h3,if_neg h3,hw,hn];rfl
    ·split at ht
     ·rename_i h3 h1 h2
      have hw:szW t a=szW t b:=by unfold szW;rw [if_neg h1,if_pos h2,if_neg h1,if_pos h2]
      rw [Bool.and_eq_true] at ht
      rw [if_neg h3,if_neg h3,hw,hl t.l (fun _ h=>h) ht.2]
     ·split at ht
      ·rename_i h3 h1 h2 h5
       simp only [Bool.and_eq_true,decide_eq_true_eq] at ht
       have hn:t.e=[]:=List.eq_nil_of_length_eq_zero ht.1
       have e0:∀ w s,Fi s w []=([],s):=fun _ _=>rfl
       rw [if_neg h3,if_neg h3,hn,e0,e0,hl t.l (fun _ h=>h) ht.2]
      ·cases ht
theorem Afo {ls:List Ai} {ck:Bool} {l:List T} (h:l.all (An ls)=true) (a b s:Int):Cm ls ck a s l=Cm ls ck b s l :=
 Pm _ _ _ (fun x hx s=>Agx ls ck x (List.all_eq_true.1 h x hx) a b s) s
end Go.Proofs.YtbliplladmamoaaGreat
