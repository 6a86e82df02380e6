/- Laws and walks that a claim of this seat leans on: Meas2, Funcs, Own, Own2. -/
import Derived.Test.YtbliplladmamoaaGreatS01
import Derived.Deep.DeepCutAuto
import Derived.Deep.CutBlock
import Derived.Test.YtbliplladmamoaaGreatS00
set_option maxRecDepth 100000
set_option maxHeartbeats 8000000
set_option linter.all false
namespace Go.Proofs.YtbliplladmamoaaGreat
open Go.RowKit
theorem Has.tail {w:World} {b o:Nat} {c:Value} {cs:List Value} (h:Has w b o (c::cs)):Has w b (o+1) cs:=by
 intro j u hj
 have:=h (j+1) u (by simpa using hj)
 rw [show o+1+j=o+(j+1) by omega];exact this
theorem Hg.get {w:World} {l:List C0} {b o k:Nat} (h:Rows 2 (Cy w) l b o) (hk:k<l.length):∃ s,Has w b (o+k*2) (l[k].cells s)/\Ts w s l[k].l :=
 h.get (List.getElem?_eq_getElem hk)
theorem Nx.get {w:World} {l:List Chk} {b o k:Nat} (h:Rows 9 (Dr w) l b o) (hk:k<l.length):∃ s,Has w b (o+k*9) (l[k].cells s)/\Es w s l[k].e.l :=
 h.get (List.getElem?_eq_getElem hk)
theorem Cq.get {w:World} {l:List Ai} {b o k:Nat} (h:Rows 4 (C6 w) l b o) (hk:k<l.length):Has w b (o+k*4) l[k].cells :=
 h.get (List.getElem?_eq_getElem hk)
def C3 (d:Bb):Nat:=Ap (fun p=>Ap Aq p.l) d.procs+Ap (fun c=>nodes c.e) d.checks
def Ig (d:Bb):Nat:=max (A6 (fun p=>A6 Cc p.l) d.procs) (A6 (fun c=>Cu c.e) d.checks)
theorem O6 (s:List Ai) (p:List C0) (c:List Chk):C3 ⟨s,p,c⟩=Ap (fun p=>Ap Aq p.l) p+Ap (fun c=>nodes c.e) c:=rfl
theorem Aen (s:List Ai) (p:List C0) (c:List Chk):Ig ⟨s,p,c⟩=max (A6 (fun p=>A6 Cc p.l) p) (A6 (fun c=>Cu c.e) c):=rfl
theorem Oc (d:Bb):Ig d<=C3 d:=by
 unfold Ig C3
 have h1:=Dz (fun p:C0=>A6 Cc p.l) (fun p=>Ap Aq p.l) d.procs (fun p _=>Dz Cc Aq p.l (fun t _=>K9 t))
 have h2:=Dz (fun c:Chk=>Cu c.e) (fun c=>nodes c.e) d.checks (fun c _=>G6 c.e)
 omega
theorem M2 (d:Bb) (v:Value) (w:World) (h:Ck w v d) (hb:C3 d<=1048576) :
  Calls Tryz.prog 34 #[v] w fun r w'=>r=.returned (.tuple #[.int .i64 (C3 d),.int .i64 (Ig d)])/\Ext w w':=by
 have au:=Oc d
 unfold C3 at hb au
 unfold Ig at au
 obtain ⟨sv,pv,cv,rfl,hS,hP,hC⟩:=h
 obtain ⟨ps,bp,op,am,e2,aw,a2,ay,az⟩:=hP.open
 obtain ⟨cs,bc,oc,al,e3,a3,a4,ah,a0⟩:=hC.open
 subst e2;subst e3
 have ag:=Has.alloc w [sv,.slice ps d.procs.length am,.slice cs d.checks.length al] 26
 have aq:=Ab w (.cells [sv,.slice ps d.procs.length am,.slice cs d.checks.length al].toArray 26)
 clear hS hP hC
 obtain ⟨ap,u,j⟩:=d
 simp only at *
 have HN:=Jh (O6 ap u j)
 have HD:=Jh (Aen ap u j)
 have av:=Ce (fun p:C0=>A6 Cc p.l) u
 have ao:=Ce (fun c:Chk=>Cu c.e) j
 have ar:=Jh av
 have ak:=Jh ao
 clear av ao
 go_enter Tryz.func34,Tryz.ntmps34
 go_wp2_with fail
 generalize w.alloc _=w0 at *
 go_loopw [4,5,6] (fun x y i wr=>∃ k:Nat,k<=u.length/\i=.int .i64 k/\x=.int .i64 ((Ap (fun p=>Ap Aq p.l) (u.take k):Nat):Int)
   /\ y=.int .i64 ((A6 (fun p=>A6 Cc p.l) (u.take k):Nat):Int)/\Ext w0 wr) (fun _ _ i _=>u.length-(intOf i).toNat)
 case atStart=>exact ⟨0,Nat.zero_le _,rfl,by simp [Ap],by simp [A6],Below.refl _ _⟩
 case round =>
  obtain ⟨k,hk,rfl,rfl,rfl,hB⟩:=hrel
  have hc:=(ag.ext hB) 1 _ rfl
  have ax:=(ag.ext hB) 2 _ rfl
  by_cases ac:k<u.length
  ·obtain ⟨s1,ab,ai⟩:=Hg.get (az.mono fun x _ b o h=>Cy.ext h (aq.trans hB)) ac
   have ht:=Jh (Ct (fun p:C0=>Ap Aq p.l) u k ac)
   have hu:=Jh (Df (fun p:C0=>A6 Cc p.l) u k ac)
   have aj:=Bz (fun p:C0=>Ap Aq p.l) u (k+1)
   rw [ht.out] at aj
   have aa:=ar.out (k+1)
   rw [hu.out] at aa
   obtain rfl:=ay (by omega)
   generalize u[k]=pk at *
   try simp only at aj aa
   have aw:=ab 1 _ rfl
   go_wp2_with (first | (go_at_call 49;refine (Uu _ _ _ ai (by omega)).mono ?_;rintro r w1 ⟨rfl,ae⟩);have hc:=((ag.ext hB).ext ae) 1 _ rfl;have aw:=(ab.ext ae) 1 _ rfl | (go_at_call 50;refine (Yb _ _ _ (ai.ext ae) (by omega)).mono ?_;rintro r w2 ⟨rfl,af⟩))
   go_roundw
   case rel=>exact ⟨k+1,by omega,by go_num,by rw [ht.out];rfl,by rw [hu.out];congr 1;split<;>omega,hB.trans (ae.trans af)⟩
   case measure=>simp [intOf];omega
  ·have aa:=ar.out k
   go_wp2_with fail
   obtain rfl:k=u.length:=by omega
   try rw [List.take_length,List.take_length]
   have ae:=aq.trans hB
   have an:=ag.ext hB
   clear hc ax ag hB aq
   generalize wr=w1 at *
   go_loopw [4,5,7] (fun x y i wr=>∃ k:Nat,k<=j.length/\i=.int .i64 k/\x=.int .i64 ((Ap (fun p=>Ap Aq p.l) u+Ap (fun c=>nodes c.e) (j.take k):Nat):Int)
     /\ y=.int .i64 ((max (A6 (fun p=>A6 Cc p.l) u) (A6 (fun c=>Cu c.e) (j.take k)):Nat):Int)/\Ext w1 wr) (fun _ _ i _=>j.length-(intOf i).toNat)
   case atStart=>exact ⟨0,Nat.zero_le _,rfl,by simp [Ap],by simp [A6],Below.refl _ _⟩
   case round =>
    obtain ⟨k,hk,rfl,rfl,rfl,hB⟩:=hrel
    have hc:=(an.ext hB) 2 _ rfl
    by_cases ac:k<j.length
    ·obtain ⟨s1,ab,ai⟩:=Nx.get (a0.mono fun x _ b o h=>Dr.ext h (ae.trans hB)) ac
     have ht:=Jh (Ct (fun c:Chk=>nodes c.e) j k ac)
     have hu:=Jh (Df (fun c:Chk=>Cu c.e) j k ac)
     have aj:=Bz (fun c:Chk=>nodes c.e) j (k+1)
     rw [ht.out] at aj
     have aa:=ak.out (k+1)
     rw [hu.out] at aa
     obtain rfl:=ah (by omega)
     generalize j[k]=pk at *
     try simp only at aj aa
     have ab:=ab.tail
     go_wp2_with (first | ((with_reducible show Jl 40);refine Aa rfl 40 _ rfl rfl (ab) Ah rfl ?_) | (go_at_call 51;refine (Li _ _ _ ai (by omega)).mono ?_;rintro r w2 ⟨rfl,af⟩);have hc:=((an.ext hB).ext af) 2 _ rfl;have ab:=ab.ext af | (go_at_call 52;refine (M7 _ _ _ (ai.ext af) (by omega)).mono ?_;rintro r w3 ⟨rfl,a1⟩))
     go_roundw
     case rel=>exact ⟨k+1,by omega,by go_num,by rw [ht.out];congr 1;omega,by rw [hu.out];congr 1;split<;>omega,hB.trans (af.trans a1)⟩
     case measure=>simp [intOf];omega
    ·have aa:=ak.out k
     go_wp2_with fail
     go_ret2
     obtain rfl:k=j.length:=by omega
     exact ⟨by rw [HN.out,HD.out];rw [List.take_length];rfl,ae.trans hB⟩
def P1 (d:Bb):Bool:=decide (C3 d<=2000)&&decide (Ig d<=100)&&decide (d.signals.length<=100)&&decide (d.procs.length<=200)&&decide (d.checks.length<=100)
theorem Xm (d:Bb) (v:Value) (w:World) (h:Ck w v d) (hb:C3 d<=1048576) :
  Calls Tryz.prog 17 #[v] w fun r w'=>r=.returned (.bool (P1 d))/\Ext w w':=by
 have HF:=Jh h
 obtain ⟨sv,pv,cv,rfl,hS,hP,hC⟩:=h
 obtain ⟨xs,bs,os,ae,e1,-,-,-,-⟩:=hS.open
 obtain ⟨ap,bp,op,ab,e2,-,-,-,-⟩:=hP.open
 obtain ⟨ac,bc,oc,aa,e3,-,-,-,-⟩:=hC.open
 subst e1;subst e2;subst e3
 have j:=Has.alloc w [.slice xs d.signals.length ae,.slice ap d.procs.length ab,.slice ac d.checks.length aa] 26
 have af:=Ab w (.cells [.slice xs d.signals.length ae,.slice ap d.procs.length ab,.slice ac d.checks.length aa].toArray 26)
 have hz:=Oc d
 clear hS hP hC
 go_enter Tryz.func17,Tryz.ntmps17
 go_wp2_with fail
 generalize w.alloc _=w0 at *
 go_wp2_with (first | ((with_reducible show Jl 26);refine Aa rfl 26 _ rfl rfl (j) Aj rfl ?_) | (go_at_call 34;refine (M2 _ _ _ (HF.out.ext af) hb).mono ?_;rintro r w1 ⟨rfl,u⟩);have ag:=(j.ext u) 0 _ rfl;have ai:=(j.ext u) 1 _ rfl;have aj:=(j.ext u) 2 _ rfl)
 all_goals go_ret
 all_goals exact ⟨Af (Bool.eq_iff_iff.2 (by simp [P1];omega)),af.trans u⟩
def Aix (d:Bb):Bool:=P1 d&&decide (d.procs.length<=40)&&decide (d.signals.length<=40)
def VE (w:World) (cs:List Value) (e:E):Prop:=∃ s,cs=e.cells s/\Es w s e.l
def VT (w:World) (cs:List Value) (t:T):Prop:=∃ s s',cs=t.cells s s'/\Es w s t.e/\Ts w s' t.l
def D7 (_:World) (cs:List Value) (x:Ai):Prop:=cs=x.cells
def C9 (w:World) (cs:List Value) (p:C0):Prop:=∃ s,cs=p.cells s/\Ts w s p.l
def Cf (w:World) (cs:List Value) (c:Chk):Prop:=∃ s,cs=c.cells s/\Es w s c.e.l
theorem VE.ext {w w':World} {cs:List Value} {x:E} (h:VE w cs x) (hx:Ext w w'):VE w' cs x:=by
 obtain ⟨s,h1,h2⟩:=h;exact ⟨s,h1,h2.ext hx⟩
theorem VT.ext {w w':World} {cs:List Value} {x:T} (h:VT w cs x) (hx:Ext w w'):VT w' cs x:=by
 obtain ⟨s,s',h1,h2,h3⟩:=h;exact ⟨s,s',h1,h2.ext hx,h3.ext hx⟩
theorem D7.ext {w w':World} {cs:List Value} {x:Ai} (h:D7 w cs x) (_:Ext w w'):D7 w' cs x:=h
theorem C9.ext {w w':World} {cs:List Value} {x:C0} (h:C9 w cs x) (hx:Ext w w'):C9 w' cs x:=by
 obtain ⟨s,h1,h2⟩:=h;exact ⟨s,h1,h2.ext hx⟩
theorem Cf.ext {w w':World} {cs:List Value} {x:Chk} (h:Cf w cs x) (hx:Ext w w'):Cf w' cs x:=by
 obtain ⟨s,h1,h2⟩:=h;exact ⟨s,h1,h2.ext hx⟩
theorem VE.get {w:World} {l:List E} {b o k:Nat} (h:Rows 8 (EAt w) l b o) (hk:k<l.length):∃ cs,Has w b (o+k*8) cs/\cs.length=8/\VE w cs l[k]:=by
 obtain ⟨s,h1,h2⟩:=Es.get h hk;exact ⟨_,h1,rfl,s,rfl,h2⟩
theorem VT.get {w:World} {l:List T} {b o k:Nat} (h:Rows 6 (TAt w) l b o) (hk:k<l.length):∃ cs,Has w b (o+k*6) cs/\cs.length=6/\VT w cs l[k]:=by
 obtain ⟨s,s',h1,h2,h3⟩:=Ts.get h hk;exact ⟨_,h1,rfl,s,s',rfl,h2,h3⟩
theorem D7.get {w:World} {l:List Ai} {b o k:Nat} (h:Rows 4 (C6 w) l b o) (hk:k<l.length):∃ cs,Has w b (o+k*4) cs/\cs.length=4/\D7 w cs l[k] :=
 ⟨_,Cq.get h hk,rfl,rfl⟩
theorem C9.get {w:World} {l:List C0} {b o k:Nat} (h:Rows 2 (Cy w) l b o) (hk:k<l.length):∃ cs,Has w b (o+k*2) cs/\cs.length=2/\C9 w cs l[k]:=by
 obtain ⟨s,h1,h2⟩:=Hg.get h hk;exact ⟨_,h1,rfl,s,rfl,h2⟩
theorem Cf.get {w:World} {l:List Chk} {b o k:Nat} (h:Rows 9 (Dr w) l b o) (hk:k<l.length):∃ cs,Has w b (o+k*9) cs/\cs.length=9/\Cf w cs l[k]:=by
 obtain ⟨s,h1,h2⟩:=Nx.get h hk;exact ⟨_,h1,rfl,s,rfl,h2⟩
theorem Sl.one {α:Type} {size:Nat} {R:α->Nat->Nat->Prop} {s:Value} {l:List α} (h:Sl size R s l):s.oneCell'=true:=by
 obtain ⟨a,b,o,cap,rfl,-⟩:=h.open;rfl
theorem Bc (k:IntKind) (n:Int):(Value.int k n).oneCell'=true:=rfl
theorem Ft (x:ByteArray):(Value.string x).oneCell'=true:=rfl
theorem Rk (x:Bool):(Value.bool x).oneCell'=true:=rfl
theorem VE.one {w:World} {cs:List Value} {x:E} (h:VE w cs x):cs.all (·.oneCell')=true:=by
 obtain ⟨s,rfl,h2⟩:=h;simp [h2.one,Bc]
theorem VT.one {w:World} {cs:List Value} {x:T} (h:VT w cs x):cs.all (·.oneCell')=true:=by
 obtain ⟨s,s',rfl,h2,h3⟩:=h;simp [h2.one,h3.one,Bc]
theorem D7.one {w:World} {cs:List Value} {x:Ai} (h:D7 w cs x):cs.all (·.oneCell')=true:=by
 subst h;rfl
theorem C9.one {w:World} {cs:List Value} {x:C0} (h:C9 w cs x):cs.all (·.oneCell')=true:=by
 obtain ⟨s,rfl,h2⟩:=h;simp [h2.one,Bc,Ft,Rk]
theorem Cf.one {w:World} {cs:List Value} {x:Chk} (h:Cf w cs x):cs.all (·.oneCell')=true:=by
 obtain ⟨s,rfl,h2⟩:=h;simp [h2.one,Bc,Ft,Rk]
theorem EAt.ext' {w w':World} {x:E} {b o:Nat} (hx:Ext w w') (h:EAt w x b o):EAt w' x b o:=EAt.ext hx x b o h
theorem TAt.ext' {w w':World} {x:T} {b o:Nat} (hx:Ext w w') (h:TAt w x b o):TAt w' x b o:=TAt.ext hx x b o h
theorem C6.ext' {w w':World} {x:Ai} {b o:Nat} (hx:Ext w w') (h:C6 w x b o):C6 w' x b o:=Has.ext h hx
theorem Cy.ext' {w w':World} {x:C0} {b o:Nat} (hx:Ext w w') (h:Cy w x b o):Cy w' x b o:=Cy.ext h hx
theorem Dr.ext' {w w':World} {x:Chk} {b o:Nat} (hx:Ext w w') (h:Dr w x b o):Dr w' x b o:=Dr.ext h hx
def Ge {α:Type} (p:α->Bool) (l:List α):Int:=if l.any p then (l.findIdx p:Nat) else -1
theorem Gf {α:Type} {p:α->Bool} {l:List α} {k:Nat} (h:k<l.length) (h0:∀ j (hj:j<k),p (l[j]'(by omega))=false) (h1:p l[k]=true):Ge p l=k:=by
 have ha:l.any p=true:=List.any_eq_true.2 ⟨_,List.getElem_mem h,h1⟩
 have:l.findIdx p=k:=by
  rw [List.findIdx_eq h];exact ⟨h1,fun j hj=>by simpa using h0 j hj⟩
 simp [Ge,ha,this]
theorem G1 {α:Type} {p:α->Bool} {l:List α} (h0:∀ j (hj:j<l.length),p l[j]=false):Ge p l = -1:=by
 have ha:l.any p=false:=by
  rw [List.any_eq_false];intro x hx
  obtain ⟨j,hj,rfl⟩:=List.getElem_of_mem hx
  simp [h0 j hj]
 simp [Ge,ha]
theorem Ad7 {α:Type} {p:α->Bool} {l:List α}:Ge p l<(l.length:Int)+1:=by
 unfold Ge
 split
 ·have:=List.findIdx_le_length (p:=p) (xs:=l);omega
 ·omega
theorem Fx {α:Type} (p:α->Bool) (l:List α):decide (0<=Ge p l)=l.any p:=by
 unfold Ge
 split<;>rename_i h
 ·simp [h]
 ·simp at h;simpa using h
theorem Xe (g:FuncId) (lb:Array Value) (p:E->Bool) (l:List E) (s:Value) (w:World) (h:Sl 8 (EAt w) s l) (eg:Bj Tryz.prog g)
  (hp:∀ wr,Ext w wr->∀ k (hk:k<l.length) cs,VE wr cs l[k]->Calls Tryz.prog g (#[.agg cs.toArray]++lb) wr fun r w'=>r=.returned (.bool (p l[k]))/\Ext wr w') :
  Calls Tryz.prog 101 #[s,.func (.func g) #[] lb] w fun r w'=>r=.returned (.int .i64 (Ge p l))/\Ext w w':=by
 have HP:=Jh hp
 clear hp
 obtain ⟨a,b,o,cap,hs,aj,ak,ha,hr⟩:=h.open
 subst hs
 go_enter Tryz.func101,Tryz.ntmps101
 go_wp2_with fail
 go_loopw [5,8] (fun _ i wr=>∃ k:Nat,k<=l.length/\i=.int .i64 k/\(∀ j (hj:j<l.length),j<k->p l[j]=false)/\Ext w wr) (fun _ i _=>l.length-(intOf i).toNat)
 case atStart=>exact ⟨0,Nat.zero_le _,rfl,fun j hj h=>by omega,Below.refl _ _⟩
 case round =>
  obtain ⟨k,hk,rfl,af,hB⟩:=hrel
  have u:=Jh af
  clear af
  by_cases ab:k<l.length
  ·obtain ⟨cs,ae,hn,ag⟩:=VE.get (hr.mono fun x _ b o h=>EAt.ext' hB h) ab
   obtain rfl:=ha (by omega)
   have HC:=(HP.out _ hB k ab cs ag)
   cases hpk:p l[k] with
   | true =>
    rw [hpk] at HC
    have aa:=Jh hpk
    clear hpk
    go_wp2_with (first | ((with_reducible show Jl 40);refine Aa rfl 40 _ rfl rfl (ae) Ah hn ?_) | ((with_reducible show Jw (Op.call { callee:=.value (.tmp _),args:=_,argTypes:=_ }));refine As rfl _ _ _ rfl rfl eg rfl HC ?_;intro w1 ac))
    go_ret
    exact ⟨by rw [Gf ab (fun j hj=>u.out j _ hj) aa.out];rfl,hB.trans ac⟩
   | false =>
    rw [hpk] at HC
    have aa:=Jh hpk
    clear hpk
    go_wp2_with (first | ((with_reducible show Jl 40);refine Aa rfl 40 _ rfl rfl (ae) Ah hn ?_) | ((with_reducible show Jw (Op.call { callee:=.value (.tmp _),args:=_,argTypes:=_ }));refine As rfl _ _ _ rfl rfl eg rfl HC ?_;intro w1 ac))
    go_roundw
    case rel =>
     refine ⟨k+1,by omega,by go_num,fun j hj al=>?_,hB.trans ac⟩
     by_cases ai:j=k
     ·subst ai;exact aa.out
     ·exact u.out j hj (by omega)
    case measure=>simp [intOf];omega
  ·go_wp2_with fail
   go_ret
   exact ⟨by rw [G1 (fun j hj=>u.out j hj (by omega))];rfl,hB⟩
theorem Gl (g:FuncId) (lb:Array Value) (p:E->Bool) (l:List E) (s:Value) (w:World) (h:Sl 8 (EAt w) s l) (eg:Bj Tryz.prog g)
  (hp:∀ wr,Ext w wr->∀ k (hk:k<l.length) cs,VE wr cs l[k]->Calls Tryz.prog g (#[.agg cs.toArray]++lb) wr fun r w'=>r=.returned (.bool (p l[k]))/\Ext wr w') :
  Calls Tryz.prog 72 #[s,.func (.func g) #[] lb] w fun r w'=>r=.returned (.bool (l.any p))/\Ext w w':=by
 have HI:=Jh (Xe g lb p l s w h eg hp)
 clear hp
 go_enter Tryz.func72,Tryz.ntmps72
 go_wp2_with (first | (go_at_call 101;refine HI.out.mono ?_;rintro r w1 ⟨rfl,j⟩))
 go_ret
 exact ⟨Af (Fx p l),j⟩
theorem Pi (g:FuncId) (lb:Array Value) (p:T->Bool) (l:List T) (s:Value) (w:World) (h:Sl 6 (TAt w) s l) (eg:Bj Tryz.prog g)
  (hp:∀ wr,Ext w wr->∀ k (hk:k<l.length) cs,VT wr cs l[k]->Calls Tryz.prog g (#[.agg cs.toArray]++lb) wr fun r w'=>r=.returned (.bool (p l[k]))/\Ext wr w') :
  Calls Tryz.prog 70 #[s,.func (.func g) #[] lb] w fun r w'=>r=.returned (.int .i64 (Ge p l))/\Ext w w':=by
 have HP:=Jh hp
 clear hp
 obtain ⟨a,b,o,cap,hs,aj,ak,ha,hr⟩:=h.open
 subst hs
 go_enter Tryz.func70,Tryz.ntmps70
 go_wp2_with fail
 go_loopw [5,8] (fun _ i wr=>∃ k:Nat,k<=l.length/\i=.int .i64 k/\(∀ j (hj:j<l.length),j<k->p l[j]=false)/\Ext w wr) (fun _ i _=>l.length-(intOf i).toNat)
 case atStart=>exact ⟨0,Nat.zero_le _,rfl,fun j hj h=>by omega,Below.refl _ _⟩
 case round =>
  obtain ⟨k,hk,rfl,af,hB⟩:=hrel
  have u:=Jh af
  clear af
  by_cases ab:k<l.length
  ·obtain ⟨cs,ae,hn,ag⟩:=VT.get (hr.mono fun x _ b o h=>TAt.ext' hB h) ab
   obtain rfl:=ha (by omega)
   have HC:=(HP.out _ hB k ab cs ag)
   cases hpk:p l[k] with
   | true =>
    rw [hpk] at HC
    have aa:=Jh hpk
    clear hpk
    go_wp2_with (first | ((with_reducible show Jl 44);refine Aa rfl 44 _ rfl rfl (ae) Aw hn ?_) | ((with_reducible show Jw (Op.call { callee:=.value (.tmp _),args:=_,argTypes:=_ }));refine As rfl _ _ _ rfl rfl eg rfl HC ?_;intro w1 ac))
    go_ret
    exact ⟨by rw [Gf ab (fun j hj=>u.out j _ hj) aa.out];rfl,hB.trans ac⟩
   | false =>
    rw [hpk] at HC
    have aa:=Jh hpk
    clear hpk
    go_wp2_with (first | ((with_reducible show Jl 44);refine Aa rfl 44 _ rfl rfl (ae) Aw hn ?_) | ((with_reducible show Jw (Op.call { callee:=.value (.tmp _),args:=_,argTypes:=_ }));refine As rfl _ _ _ rfl rfl eg rfl HC ?_;intro w1 ac))
    go_roundw
    case rel =>
     refine ⟨k+1,by omega,by go_num,fun j hj al=>?_,hB.trans ac⟩
     by_cases ai:j=k
     ·subst ai;exact aa.out
     ·exact u.out j hj (by omega)
    case measure=>simp [intOf];omega
  ·go_wp2_with fail
   go_ret
   exact ⟨by rw [G1 (fun j hj=>u.out j hj (by omega))];rfl,hB⟩
theorem Ht (g:FuncId) (lb:Array Value) (p:T->Bool) (l:List T) (s:Value) (w:World) (h:Sl 6 (TAt w) s l) (eg:Bj Tryz.prog g)
  (hp:∀ wr,Ext w wr->∀ k (hk:k<l.length) cs,VT wr cs l[k]->Calls Tryz.prog g (#[.agg cs.toArray]++lb) wr fun r w'=>r=.returned (.bool (p l[k]))/\Ext wr w') :
  Calls Tryz.prog 90 #[s,.func (.func g) #[] lb] w fun r w'=>r=.returned (.bool (l.any p))/\Ext w w':=by
 have HI:=Jh (Pi g lb p l s w h eg hp)
 clear hp
 go_enter Tryz.func90,Tryz.ntmps90
 go_wp2_with (first | (go_at_call 70;refine HI.out.mono ?_;rintro r w1 ⟨rfl,j⟩))
 go_ret
 exact ⟨Af (Fx p l),j⟩
theorem Ot (g:FuncId) (lb:Array Value) (p:Ai->Bool) (l:List Ai) (s:Value) (w:World) (h:Sl 4 (C6 w) s l) (eg:Bj Tryz.prog g)
  (hp:∀ wr,Ext w wr->∀ k (hk:k<l.length) cs,D7 wr cs l[k]->Calls Tryz.prog g (#[.agg cs.toArray]++lb) wr fun r w'=>r=.returned (.bool (p l[k]))/\Ext wr w') :
  Calls Tryz.prog 96 #[s,.func (.func g) #[] lb] w fun r w'=>r=.returned (.int .i64 (Ge p l))/\Ext w w':=by
 have HP:=Jh hp
 clear hp
 obtain ⟨a,b,o,cap,hs,aj,ak,ha,hr⟩:=h.open
 subst hs
 go_enter Tryz.func96,Tryz.ntmps96
 go_wp2_with fail
 go_loopw [5,8] (fun _ i wr=>∃ k:Nat,k<=l.length/\i=.int .i64 k/\(∀ j (hj:j<l.length),j<k->p l[j]=false)/\Ext w wr) (fun _ i _=>l.length-(intOf i).toNat)
 case atStart=>exact ⟨0,Nat.zero_le _,rfl,fun j hj h=>by omega,Below.refl _ _⟩
 case round =>
  obtain ⟨k,hk,rfl,af,hB⟩:=hrel
  have u:=Jh af
  clear af
  by_cases ab:k<l.length
  ·obtain ⟨cs,ae,hn,ag⟩:=D7.get (hr.mono fun x _ b o h=>C6.ext' hB h) ab
   obtain rfl:=ha (by omega)
   have HC:=(HP.out _ hB k ab cs ag)
   cases hpk:p l[k] with
   | true =>
    rw [hpk] at HC
    have aa:=Jh hpk
    clear hpk
    go_wp2_with (first | ((with_reducible show Jl 37);refine Aa rfl 37 _ rfl rfl (ae) Br hn ?_) | ((with_reducible show Jw (Op.call { callee:=.value (.tmp _),args:=_,argTypes:=_ }));refine As rfl _ _ _ rfl rfl eg rfl HC ?_;intro w1 ac))
    go_ret
    exact ⟨by rw [Gf ab (fun j hj=>u.out j _ hj) aa.out];rfl,hB.trans ac⟩
   | false =>
    rw [hpk] at HC
    have aa:=Jh hpk
    clear hpk
    go_wp2_with (first | ((with_reducible show Jl 37);refine Aa rfl 37 _ rfl rfl (ae) Br hn ?_) | ((with_reducible show Jw (Op.call { callee:=.value (.tmp _),args:=_,argTypes:=_ }));refine As rfl _ _ _ rfl rfl eg rfl HC ?_;intro w1 ac))
    go_roundw
    case rel =>
     refine ⟨k+1,by omega,by go_num,fun j hj al=>?_,hB.trans ac⟩
     by_cases ai:j=k
     ·subst ai;exact aa.out
     ·exact u.out j hj (by omega)
    case measure=>simp [intOf];omega
  ·go_wp2_with fail
   go_ret
   exact ⟨by rw [G1 (fun j hj=>u.out j hj (by omega))];rfl,hB⟩
theorem Mt (g:FuncId) (lb:Array Value) (p:Ai->Bool) (l:List Ai) (s:Value) (w:World) (h:Sl 4 (C6 w) s l) (eg:Bj Tryz.prog g)
  (hp:∀ wr,Ext w wr->∀ k (hk:k<l.length) cs,D7 wr cs l[k]->Calls Tryz.prog g (#[.agg cs.toArray]++lb) wr fun r w'=>r=.returned (.bool (p l[k]))/\Ext wr w') :
  Calls Tryz.prog 55 #[s,.func (.func g) #[] lb] w fun r w'=>r=.returned (.bool (l.any p))/\Ext w w':=by
 have HI:=Jh (Ot g lb p l s w h eg hp)
 clear hp
 go_enter Tryz.func55,Tryz.ntmps55
 go_wp2_with (first | (go_at_call 96;refine HI.out.mono ?_;rintro r w1 ⟨rfl,j⟩))
 go_ret
 exact ⟨Af (Fx p l),j⟩
theorem Qn (g:FuncId) (lb:Array Value) (p:C0->Bool) (l:List C0) (s:Value) (w:World) (h:Sl 2 (Cy w) s l) (eg:Bj Tryz.prog g)
  (hp:∀ wr,Ext w wr->∀ k (hk:k<l.length) cs,C9 wr cs l[k]->Calls Tryz.prog g (#[.agg cs.toArray]++lb) wr fun r w'=>r=.returned (.bool (p l[k]))/\Ext wr w') :
  Calls Tryz.prog 129 #[s,.func (.func g) #[] lb] w fun r w'=>r=.returned (.int .i64 (Ge p l))/\Ext w w':=by
 have HP:=Jh hp
 clear hp
 obtain ⟨a,b,o,cap,hs,aj,ak,ha,hr⟩:=h.open
 subst hs
 go_enter Tryz.func129,Tryz.ntmps129
 go_wp2_with fail
 go_loopw [5,8] (fun _ i wr=>∃ k:Nat,k<=l.length/\i=.int .i64 k/\(∀ j (hj:j<l.length),j<k->p l[j]=false)/\Ext w wr) (fun _ i _=>l.length-(intOf i).toNat)
 case atStart=>exact ⟨0,Nat.zero_le _,rfl,fun j hj h=>by omega,Below.refl _ _⟩
 case round =>
  obtain ⟨k,hk,rfl,af,hB⟩:=hrel
  have u:=Jh af
  clear af
  by_cases ab:k<l.length
  ·obtain ⟨cs,ae,hn,ag⟩:=C9.get (hr.mono fun x _ b o h=>Cy.ext' hB h) ab
   obtain rfl:=ha (by omega)
   have HC:=(HP.out _ hB k ab cs ag)
   cases hpk:p l[k] with
   | true =>
    rw [hpk] at HC
    have aa:=Jh hpk
    clear hpk
    go_wp2_with (first | ((with_reducible show Jl 48);refine Aa rfl 48 _ rfl rfl (ae) Cz hn ?_) | ((with_reducible show Jw (Op.call { callee:=.value (.tmp _),args:=_,argTypes:=_ }));refine As rfl _ _ _ rfl rfl eg rfl HC ?_;intro w1 ac))
    go_ret
    exact ⟨by rw [Gf ab (fun j hj=>u.out j _ hj) aa.out];rfl,hB.trans ac⟩
   | false =>
    rw [hpk] at HC
    have aa:=Jh hpk
    clear hpk
    go_wp2_with (first | ((with_reducible show Jl 48);refine Aa rfl 48 _ rfl rfl (ae) Cz hn ?_) | ((with_reducible show Jw (Op.call { callee:=.value (.tmp _),args:=_,argTypes:=_ }));refine As rfl _ _ _ rfl rfl eg rfl HC ?_;intro w1 ac))
    go_roundw
    case rel =>
     refine ⟨k+1,by omega,by go_num,fun j hj al=>?_,hB.trans ac⟩
     by_cases ai:j=k
     ·subst ai;exact aa.out
     ·exact u.out j hj (by omega)
    case measure=>simp [intOf];omega
  ·go_wp2_with fail
   go_ret
   exact ⟨by rw [G1 (fun j hj=>u.out j hj (by omega))];rfl,hB⟩
theorem Nz (g:FuncId) (lb:Array Value) (p:C0->Bool) (l:List C0) (s:Value) (w:World) (h:Sl 2 (Cy w) s l) (eg:Bj Tryz.prog g)
  (hp:∀ wr,Ext w wr->∀ k (hk:k<l.length) cs,C9 wr cs l[k]->Calls Tryz.prog g (#[.agg cs.toArray]++lb) wr fun r w'=>r=.returned (.bool (p l[k]))/\Ext wr w') :
  Calls Tryz.prog 94 #[s,.func (.func g) #[] lb] w fun r w'=>r=.returned (.bool (l.any p))/\Ext w w':=by
 have HI:=Jh (Qn g lb p l s w h eg hp)
 clear hp
 go_enter Tryz.func94,Tryz.ntmps94
 go_wp2_with (first | (go_at_call 129;refine HI.out.mono ?_;rintro r w1 ⟨rfl,j⟩))
 go_ret
 exact ⟨Af (Fx p l),j⟩
theorem P7 (g:FuncId) (lb:Array Value) (p:Chk->Bool) (l:List Chk) (s:Value) (w:World) (h:Sl 9 (Dr w) s l) (eg:Bj Tryz.prog g)
  (hp:∀ wr,Ext w wr->∀ k (hk:k<l.length) cs,Cf wr cs l[k]->Calls Tryz.prog g (#[.agg cs.toArray]++lb) wr fun r w'=>r=.returned (.bool (p l[k]))/\Ext wr w') :
  Calls Tryz.prog 130 #[s,.func (.func g) #[] lb] w fun r w'=>r=.returned (.int .i64 (Ge p l))/\Ext w w':=by
 have HP:=Jh hp
 clear hp
 obtain ⟨a,b,o,cap,hs,aj,ak,ha,hr⟩:=h.open
 subst hs
 go_enter Tryz.func130,Tryz.ntmps130
 go_wp2_with fail
 go_loopw [5,8] (fun _ i wr=>∃ k:Nat,k<=l.length/\i=.int .i64 k/\(∀ j (hj:j<l.length),j<k->p l[j]=false)/\Ext w wr) (fun _ i _=>l.length-(intOf i).toNat)
 case atStart=>exact ⟨0,Nat.zero_le _,rfl,fun j hj h=>by omega,Below.refl _ _⟩
 case round =>
  obtain ⟨k,hk,rfl,af,hB⟩:=hrel
  have u:=Jh af
  clear af
  by_cases ab:k<l.length
  ·obtain ⟨cs,ae,hn,ag⟩:=Cf.get (hr.mono fun x _ b o h=>Dr.ext' hB h) ab
   obtain rfl:=ha (by omega)
   have HC:=(HP.out _ hB k ab cs ag)
   cases hpk:p l[k] with
   | true =>
    rw [hpk] at HC
    have aa:=Jh hpk
    clear hpk
    go_wp2_with (first | ((with_reducible show Jl 96);refine Aa rfl 96 _ rfl rfl (ae) Co hn ?_) | ((with_reducible show Jw (Op.call { callee:=.value (.tmp _),args:=_,argTypes:=_ }));refine As rfl _ _ _ rfl rfl eg rfl HC ?_;intro w1 ac))
    go_ret
    exact ⟨by rw [Gf ab (fun j hj=>u.out j _ hj) aa.out];rfl,hB.trans ac⟩
   | false =>
    rw [hpk] at HC
    have aa:=Jh hpk
    clear hpk
    go_wp2_with (first | ((with_reducible show Jl 96);refine Aa rfl 96 _ rfl rfl (ae) Co hn ?_) | ((with_reducible show Jw (Op.call { callee:=.value (.tmp _),args:=_,argTypes:=_ }));refine As rfl _ _ _ rfl rfl eg rfl HC ?_;intro w1 ac))
    go_roundw
    case rel =>
     refine ⟨k+1,by omega,by go_num,fun j hj al=>?_,hB.trans ac⟩
     by_cases ai:j=k
     ·subst ai;exact aa.out
     ·exact u.out j hj (by omega)
    case measure=>simp [intOf];omega
  ·go_wp2_with fail
   go_ret
   exact ⟨by rw [G1 (fun j hj=>u.out j hj (by omega))];rfl,hB⟩
theorem M6 (g:FuncId) (lb:Array Value) (p:Chk->Bool) (l:List Chk) (s:Value) (w:World) (h:Sl 9 (Dr w) s l) (eg:Bj Tryz.prog g)
  (hp:∀ wr,Ext w wr->∀ k (hk:k<l.length) cs,Cf wr cs l[k]->Calls Tryz.prog g (#[.agg cs.toArray]++lb) wr fun r w'=>r=.returned (.bool (p l[k]))/\Ext wr w') :
  Calls Tryz.prog 95 #[s,.func (.func g) #[] lb] w fun r w'=>r=.returned (.bool (l.any p))/\Ext w w':=by
 have HI:=Jh (P7 g lb p l s w h eg hp)
 clear hp
 go_enter Tryz.func95,Tryz.ntmps95
 go_wp2_with (first | (go_at_call 130;refine HI.out.mono ?_;rintro r w1 ⟨rfl,j⟩))
 go_ret
 exact ⟨Af (Fx p l),j⟩
def F1:E->Prop
 | ⟨op,w,_,_,hi,lo,n,l⟩=>(op=1\/op=8->0<=w/\w<=64)/\(op=2->0<=lo/\lo<=hi/\hi<=64)/\(op=6\/op=4\/op=5\/op=8->1<=l.length)/\oks l
where oks:List E->Prop
 | []=>True
 | e::l=>F1 e/\oks l
theorem F1.oks_iff (l:List E):F1.oks l↔∀ e∈l,F1 e:=by
 induction l with
 | nil=>simp [F1.oks]
 | cons e l ih=>simp [F1.oks,ih]
theorem Fd (e:E):F1 e↔(e.op=1\/e.op=8->0<=e.w/\e.w<=64)/\(e.op=2->0<=e.lo/\e.lo<=e.hi/\e.hi<=64)/\(e.op=6\/e.op=4\/e.op=5\/e.op=8->1<=e.l.length)/\∀ x∈e.l,F1 x:=by
 cases e;simp [F1,F1.oks_iff]
theorem Np (e:E):own e=(if e.op=1\/e.op=8 then e.w
  else if e.op=2 then e.hi-e.lo+1
  else if e.op=7 then own.cat e.l 0
  else if e.op=6 then own.fst2 e.l
  else if e.op=4 then (if e.n<=2 then own.hd e.l else 1)
  else if e.op=5 then (if e.n<=16 then own.fst e.l else if e.n<=18 then own.hd e.l else 1)
  else 1):=by cases e;rw [own]
theorem Ku (e:E) (h:F1 e):0<=own e/\own e<=65*nodes e:=by
 induction e using E.ind with
 | h e ih =>
  obtain ⟨h1,h2,h3,h4⟩:=(Fd e).1 h
  have hn:=C7 e
  have hl:∀ x∈e.l,0<=own x/\own x<=65*nodes x:=fun x hx=>ih x hx (h4 x hx)
  have hc:∀ (l:List E) (n:Int),(∀ x∈l,0<=own x/\own x<=65*nodes x)->0<=n->0<=own.cat l n/\own.cat l n<=n+65*Ap nodes l:=by
   intro l
   induction l with
   | nil=>intro n _ hn;simp [own.cat,Ap];omega
   | cons x l ih2 =>
    intro n hx hn
    have j:=hx x (by simp)
    have:=ih2 (n+own x) (fun y hy=>hx y (by simp [hy])) (by omega)
    simp only [own.cat,Ap]
    split<;>omega
  have hf:∀ (l:List E),(∀ x∈l,0<=own x/\own x<=65*nodes x)->0<=own.fst l/\own.fst l<=65*Ap nodes l:=by
   intro l
   induction l with
   | nil=>intro _;simp [own.fst,Ap]
   | cons x l ih2 =>
    intro hx
    have j:=hx x (by simp)
    have:=ih2 (fun y hy=>hx y (by simp [hy]))
    simp only [own.fst,Ap]
    split<;>omega
  have u:=hc e.l 0 hl (by omega)
  have aa:=hf e.l hl
  have ab:0<=own.fst2 e.l/\own.fst2 e.l<=65*Ap nodes e.l:=by
   cases hh:e.l with
   | nil=>simp [own.fst2,Ap]
   | cons x l =>
    have:=hf l (fun y hy=>hl y (by simp [hh,hy]))
    simp only [own.fst2,Ap];omega
  have ac:0<=own.hd e.l/\own.hd e.l<=65*Ap nodes e.l:=by
   cases hh:e.l with
   | nil=>simp [own.hd,Ap]
   | cons x l =>
    have:=hl x (by simp [hh])
    simp only [own.hd,Ap];omega
  rw [Np]
  split
  ·have:=h1 ‹_›;omega
  ·split
   ·have:=h2 ‹_›;omega
   ·repeat' split
    all_goals omega
theorem own.fst_skip (l:List E) (k:Nat) (h:k<l.length) (h0:own l[k]=0):own.fst (l.drop k)=own.fst (l.drop (k+1)):=by
 rw [List.drop_eq_getElem_cons h,own.fst,if_pos h0]
theorem own.fst_here (l:List E) (k:Nat) (h:k<l.length) (h0:¬ own l[k]=0):own.fst (l.drop k)=own l[k]:=by
 rw [List.drop_eq_getElem_cons h,own.fst,if_neg h0]
theorem own.cat_zero (l:List E) (k:Nat) (n:Int) (h:k<l.length) (h0:own l[k]=0):own.cat (l.drop k) n=0:=by
 rw [List.drop_eq_getElem_cons h,own.cat,if_pos h0]
theorem own.cat_on (l:List E) (k:Nat) (n:Int) (h:k<l.length) (h0:¬ own l[k]=0):own.cat (l.drop k) n=own.cat (l.drop (k+1)) (n+own l[k]):=by
 rw [List.drop_eq_getElem_cons h,own.cat,if_neg h0]
def N0 (x:E):Prop:=∀ (cs:List Value) (w:World),VE w cs x->F1 x->nodes x<=1048576 ->
 Calls Tryz.prog 131 #[.agg cs.toArray] w fun r w'=>r=.returned (.int .i64 (own x))/\Ext w w'
theorem Lr (l:List E) (ih:∀ x∈l,N0 x) (ai:∀ x∈l,F1 x) (hb:Ap nodes l<=1048576) (s:Value) (w:World) (h:Es w s l) :
  Calls Tryz.prog 160 #[s] w fun r w'=>r=.returned (.int .i64 (own.fst l))/\Ext w w':=by
 have IH:=Jh ih
 have aj:=Jh ai
 clear ih ai
 obtain ⟨a,b,o,cap,hs,ak,al,ha,hr⟩:=h.open
 subst hs
 go_enter Tryz.func160,Tryz.ntmps160
 go_wp2_with fail
 go_loopw [4,5,8] (fun _ _ i wr=>∃ k:Nat,k<=l.length/\i=.int .i64 k/\own.fst l=own.fst (l.drop k)/\Ext w wr) (fun _ _ i _=>l.length-(intOf i).toNat)
 case atStart=>exact ⟨0,Nat.zero_le _,rfl,rfl,Below.refl _ _⟩
 case round =>
  obtain ⟨k,hk,rfl,ag,hB⟩:=hrel
  have aa:=Jh ag
  clear ag
  by_cases u:k<l.length
  ·obtain ⟨cs,af,hn,ab⟩:=VE.get (hr.mono fun x _ b o h=>EAt.ext' hB h) u
   obtain rfl:=ha (by omega)
   have j:l[k]∈l:=List.getElem_mem u
   have am:=Bf nodes l _ j
   have HX:=Jh (Ab wr (.cells cs.toArray 40))
   have ae:=Jh (Has.alloc wr cs 40)
   have HC:=Jh (IH.out _ j cs _ (ab.ext HX.out) (aj.out _ j) (by omega))
   have HE:=Jh (hB.trans HX.out)
   have HS:=Jh (own.fst_skip l k u)
   have HH:=Jh (own.fst_here l k u)
   generalize own l[k]=q at *
   by_cases hq:q=0
   ·have g1:(q != 0)=false:=by rw [bne_eq_false_iff_eq];exact hq
    go_wp2_with (first | ((with_reducible show Jl 40);refine Aa rfl 40 _ rfl rfl (af) Ah hn ?_) | ((with_reducible show Jl 40);refine Aa rfl 40 _ rfl rfl (ae.out) Ah hn ?_) | ((with_reducible show Js 40);refine Ad rfl 40 _ _ rfl rfl (by first | rfl | simp) rfl Ah (hn) rfl (ab.one) ?_) | (go_at_call 131;refine HC.out.mono ?_;rintro r w1 ⟨rfl,ac⟩))
    go_roundw
    case rel=>exact ⟨k+1,by omega,by go_num,by rw [aa.out,HS.out hq],HE.out.trans ac⟩
    case measure=>simp [intOf];omega
   ·have g1:(q != 0)=true:=by rw [bne_iff_ne];exact hq
    have HQ:=Jh hq
    clear hq
    go_wp2_with (first | ((with_reducible show Jl 40);refine Aa rfl 40 _ rfl rfl (af) Ah hn ?_) | ((with_reducible show Jl 40);refine Aa rfl 40 _ rfl rfl (ae.out) Ah hn ?_) | ((with_reducible show Js 40);refine Ad rfl 40 _ _ rfl rfl (by first | rfl | simp) rfl Ah (hn) rfl (ab.one) ?_) | (go_at_call 131;refine HC.out.mono ?_;rintro r w1 ⟨rfl,ac⟩))
    go_ret
    exact ⟨by rw [aa.out,HH.out HQ.out];rfl,HE.out.trans ac⟩
  ·go_wp2_with fail
   go_ret
   obtain rfl:k=l.length:=by omega
   exact ⟨by rw [aa.out,List.drop_length];rfl,hB⟩
theorem Aez (e:E) (ih:∀ x∈e.l,N0 x):N0 e:=by
 intro cs w hV ag hb
 have ac:=Ku e ag
 have IH:=Jh ih
 clear ih
 obtain ⟨h1,h2,h3,h4⟩:=(Fd e).1 ag
 obtain ⟨s,rfl,hs⟩:=hV
 have HE:=Jh (Np e)
 rw [C7] at hb
 obtain ⟨a,b,o,cap,ax,ap,a1,ha,hr⟩:=hs.open
 have ak:=Jh hs
 obtain ⟨op,wd,v,sig,hi,lo,n,l⟩:=e
 simp only at ax ap HE ak IH h1 h2 h3 h4 ha hr hb ac
 subst ax
 have H1:=Jh h1
 have H2:=Jh h2
 have H3:=Jh h3
 have H4:=Jh h4
 have HR:=Jh hr
 have HA:=Jh ha
 have a0:=Jh ac
 clear h1 h2 h3 h4 hs ag hr ha ac
 have HX:=Ab w (.cells (E.cells ⟨op,wd,v,sig,hi,lo,n,l⟩ (.slice a l.length cap)).toArray 40)
 have HB:=Has.alloc w (E.cells ⟨op,wd,v,sig,hi,lo,n,l⟩ (.slice a l.length cap)) 40
 go_enter Tryz.func131,Tryz.ntmps131
 go_upto_region 1 with (fail)
 generalize w.alloc _=w0 at *
 have g0:=HB 0 _ rfl
 have g1:=HB 1 _ rfl
 have g4:=HB 4 _ rfl
 have g5:=HB 5 _ rfl
 have g6:=HB 6 _ rfl
 have al:=Jh (ak.out.ext HX)
 have HF:∀ W,Hid (Ext w0 W->Calls Tryz.prog 160 #[.slice a l.length cap] W fun r w'=>r=.returned (.int .i64 (own.fst l))/\Ext W w') :=
  fun W=>Jh fun hx=>Lr l IH.out H4.out (by omega) _ W (al.out.ext hx)
 have HH:∀ (x:E) (xs:List E),l=x::xs->∃ b o s,a=some ⟨b,o,Option.none⟩/\Has w0 b o (x.cells s)/\∀ W,Ext w0 W->Calls Tryz.prog 131 #[.agg (x.cells s).toArray] W fun r w'=>r=.returned (.int .i64 (own x))/\Ext W w':=by
  rintro x xs rfl
  obtain ⟨s1,q1,q2⟩:=Es.get (HR.out.mono fun x _ b o h=>EAt.ext' HX h) (k:=0) (by simp)
  refine ⟨b,o,s1,HA.out (by simp),by simpa using q1,fun W hx=>?_⟩
  have hm:=Bf nodes (x::xs) x (by simp)
  exact IH.out x (by simp) _ W ⟨s1,rfl,q2.ext hx⟩ (H4.out x (by simp)) (by omega)
 have an:=Jh HH
 clear HH
 by_cases o1:op=1
 ·obtain rfl:=o1
  go_wp2_with fail
  go_ret
  exact ⟨Bv (by rw [HE.out];simp),HX⟩
 by_cases o8:op=8
 ·obtain rfl:=o8
  go_wp2_with fail
  go_ret
  exact ⟨Bv (by rw [HE.out];simp),HX⟩
 by_cases o2:op=2
 ·obtain rfl:=o2
  have h2:=H2.out rfl
  go_wp2_with fail
  go_ret
  exact ⟨Bv (by rw [HE.out];simp),HX⟩
 by_cases o6:op=6
 ·obtain rfl:=o6
  have h3:=H3.out (by simp)
  have g7:=HB 7 _ rfl
  obtain ⟨x,xs,rfl⟩:∃ x xs,l=x::xs:=by cases l with | nil=>simp at h3 | cons x xs=>exact ⟨x,xs,rfl⟩
  have am:∀ (s':Value) W,Hid (Es w0 s' xs->Ext w0 W->Calls Tryz.prog 160 #[s'] W fun r w'=>r=.returned (.int .i64 (own.fst xs))/\Ext W w') :=
   fun s' W=>Jh fun aa hx=>Lr xs (fun y hy=>IH.out y (by simp [hy])) (fun y hy=>H4.out y (by simp [hy])) (by have:=hb;simp only [Ap] at this;omega) _ W (aa.ext hx)
  obtain rfl:=HA.out (by simp)
  have aw:=HR.out
  simp only [List.length_cons] at *
  have ay:=Jh (aw.2.mono (b:=b) (o:=o+8) fun x _ b o h=>EAt.ext' HX h)
  clear aw
  by_cases aq:cap=1
  ·subst aq
   have az:xs=[]:=by cases xs with | nil=>rfl | cons y ys=>simp at ap
   subst az
   have aa:Es w0 (.slice (some ⟨b,o,Option.none⟩) 0 0) []:=⟨b,o,⟨_,0,rfl,by simp,by simp [maxLen],by simp⟩,trivial⟩
   go_wp2_with (first | (go_at_call 160;refine ((am _ _).out aa (Below.refl _ _)).mono ?_;rintro r w1 ⟨rfl,j⟩))
   go_ret
   exact ⟨Bv (by rw [HE.out];simp [own.fst2]),HX.trans j⟩
  ·have aa:Es w0 (.slice (some ⟨b,o+8,Option.none⟩) xs.length (cap-1)) xs:=⟨b,o+8,⟨_,_,rfl,by omega,by unfold maxLen;omega,by simp⟩,ay.out⟩
   go_wp2_with (first | (go_at_call 160;refine ((am _ _).out aa (Below.refl _ _)).mono ?_;rintro r w1 ⟨rfl,j⟩))
   go_ret
   exact ⟨Bv (by rw [HE.out];simp [own.fst2]),HX.trans j⟩
 by_cases o4:op=4
 ·obtain rfl:=o4
  have h3:=H3.out (by simp)
  obtain ⟨x,xs,rfl⟩:∃ x xs,l=x::xs:=by cases l with | nil=>simp at h3 | cons x xs=>exact ⟨x,xs,rfl⟩
  obtain ⟨b1,o1,s1,rfl,q1,q2⟩:=an.out x xs rfl
  have Q2:=Jh q2
  clear q2
  have g7:=HB 7 _ rfl
  go_wp2_with (first | ((with_reducible show Jl 40);refine Aa rfl 40 _ rfl rfl (q1) Ah rfl ?_) | (go_at_call 131;refine (Q2.out _ (Below.refl _ _)).mono ?_;rintro r w1 ⟨rfl,j⟩))
  all_goals go_ret
  ·exact ⟨Bv (by rw [HE.out];simp [own.hd, *]),HX.trans j⟩
  ·exact ⟨Bv (by rw [HE.out];simp [own.hd];omega),HX⟩
 by_cases o5:op=5
 ·obtain rfl:=o5
  have h3:=H3.out (by simp)
  obtain ⟨x,xs,rfl⟩:∃ x xs,l=x::xs:=by cases l with | nil=>simp at h3 | cons x xs=>exact ⟨x,xs,rfl⟩
  obtain ⟨b1,o1,s1,rfl,q1,q2⟩:=an.out x xs rfl
  have Q2:=Jh q2
  clear q2
  have g7:=HB 7 _ rfl
  go_wp2_with (first | ((with_reducible show Jl 40);refine Aa rfl 40 _ rfl rfl (q1) Ah rfl ?_) | (go_at_call 131;refine (Q2.out _ (Below.refl _ _)).mono ?_;rintro r w1 ⟨rfl,j⟩) | (go_at_call 160;refine ((HF _).out (Below.refl _ _)).mono ?_;rintro r w1 ⟨rfl,j⟩))
  all_goals go_ret
  ·exact ⟨Bv (by rw [HE.out];simp [*]),HX.trans j⟩
  ·exact ⟨Bv (by rw [HE.out];simp [own.hd, *];omega),HX.trans j⟩
  ·exact ⟨Bv (by rw [HE.out];simp;omega),HX⟩
 by_cases o7:op=7
 ·obtain rfl:=o7
  have g7:=HB 7 _ rfl
  have HO:Hid (own ⟨7,wd,v,sig,hi,lo,n,l⟩=own.cat l 0):=Jh (by rw [HE.out];simp)
  go_wp2_with fail
  clear g0 g1 g4 g5 g6 g7
  go_loopw [3,5,6,27] (fun q _ _ i wr=>∃ k:Nat,∃ m:Int,k<=l.length/\i=.int .i64 k/\q=.int .i64 m/\0<=m/\m<=65*(Ap nodes (l.take k):Nat)/\own.cat l 0=own.cat (l.drop k) m/\Ext w0 wr) (fun _ _ _ i _=>l.length-(intOf i).toNat)
  case atStart=>exact ⟨0,0,Nat.zero_le _,rfl,rfl,by omega,by simp [Ap],rfl,Below.refl _ _⟩
  case round =>
   obtain ⟨k,m,hk,rfl,rfl,a2,a3,av,hB⟩:=hrel
   have ae:=Jh av
   clear av
   by_cases ab:k<l.length
   ·obtain ⟨cs,ar,hn,af⟩:=VE.get (HR.out.mono fun x _ b o h=>EAt.ext' (HX.trans hB) h) ab
    obtain rfl:=HA.out (by omega)
    have u:l[k]∈l:=List.getElem_mem ab
    have ac:=Bf nodes l _ u
    have ht:=Jh (Ct nodes l k ab)
    have au:=Bz nodes l (k+1)
    rw [ht.out] at au
    have ao:=Jh (Ab wr (.cells cs.toArray 40))
    have ai:=Jh (Has.alloc wr cs 40)
    have HC:=Jh (IH.out _ u cs _ (af.ext ao.out) (H4.out _ u) (by omega))
    have aj:=Jh (hB.trans ao.out)
    have HS:=Jh (own.cat_zero l k m ab)
    have HH:=Jh (own.cat_on l k m ab)
    have ah:=Ku _ (H4.out _ u)
    generalize own l[k]=q at *
    generalize l[k]=xk at *
    by_cases hq:q=0
    ·have g1:(q==0)=true:=by rw [beq_iff_eq];exact hq
     have HQ:=Jh hq
     clear hq
     go_wp2_with (first | ((with_reducible show Jl 40);refine Aa rfl 40 _ rfl rfl (ar) Ah hn ?_) | ((with_reducible show Jl 40);refine Aa rfl 40 _ rfl rfl (ai.out) Ah hn ?_) | ((with_reducible show Js 40);refine Ad rfl 40 _ _ rfl rfl (by first | rfl | simp) rfl Ah (hn) rfl (af.one) ?_) | (go_at_call 131;refine HC.out.mono ?_;rintro r w1 ⟨rfl,j⟩))
     go_ret
     exact ⟨Bv (by rw [HO.out,ae.out,HS.out HQ.out]),HX.trans (aj.out.trans j)⟩
    ·have g1:(q==0)=false:=by rw [beq_eq_false_iff_ne];exact hq
     have HQ:=Jh hq
     clear hq
     go_wp2_with (first | ((with_reducible show Jl 40);refine Aa rfl 40 _ rfl rfl (ar) Ah hn ?_) | ((with_reducible show Jl 40);refine Aa rfl 40 _ rfl rfl (ai.out) Ah hn ?_) | ((with_reducible show Js 40);refine Ad rfl 40 _ _ rfl rfl (by first | rfl | simp) rfl Ah (hn) rfl (af.one) ?_) | (go_at_call 131;refine HC.out.mono ?_;rintro r w1 ⟨rfl,j⟩))
     go_roundw
     case rel=>exact ⟨k+1,m+q,by omega,by go_num,rfl,by omega,by rw [ht.out];omega,by rw [ae.out,HH.out HQ.out],aj.out.trans j⟩
     case measure=>simp [intOf];omega
   ·go_wp2_with fail
    go_ret
    obtain rfl:k=l.length:=by omega
    exact ⟨Bv (by rw [HO.out,ae.out,List.drop_length];rfl),HX.trans hB⟩
 go_wp2_with fail
 go_ret
 exact ⟨Bv (by rw [HE.out];simp [*]),HX⟩
theorem O9 (e:E):N0 e:=E.ind (P:=N0) (fun e ih=>Aez e ih) e
end Go.Proofs.YtbliplladmamoaaGreat
