/- Laws and walks that a claim of this seat leans on: Meas2, Funcs, Own, Own2. -/
import Derived.Test.YtpngepnfinbaoaaGreatC01
import Derived.Deep.DeepCutAuto
import Derived.Deep.CutBlock
import Derived.Test.YtpngepnfinbaoaaGreatC00
set_option maxRecDepth 100000
set_option maxHeartbeats 8000000
set_option linter.all false
namespace Go.Proofs.YtpngepnfinbaoaaGreat
open Go.RowKit
theorem Has.tail {w:World} {b o:Nat} {c:Value} {cs:List Value} (h:Has w b o (c::cs)):Has w b (o+1) cs:=by
 intro j u hj
 have:=h (j+1) u (by simpa using hj)
 rw [show o+1+j=o+(j+1) by omega];exact this
theorem Procs.get {w:World} {l:List Proc} {b o k:Nat} (h:Rows 2 (ProcAt w) l b o) (hk:k<l.length):∃ s,Has w b (o+k*2) (l[k].cells s)/\Ts w s l[k].l :=
 h.get (List.getElem?_eq_getElem hk)
theorem Chks.get {w:World} {l:List Chk} {b o k:Nat} (h:Rows 9 (ChkAt w) l b o) (hk:k<l.length):∃ s,Has w b (o+k*9) (l[k].cells s)/\Es w s l[k].e.l :=
 h.get (List.getElem?_eq_getElem hk)
theorem Sigs.get {w:World} {l:List Signal} {b o k:Nat} (h:Rows 4 (SigAt w) l b o) (hk:k<l.length):Has w b (o+k*4) l[k].cells :=
 h.get (List.getElem?_eq_getElem hk)
def mNodes (d:Flat):Nat:=sumBy (fun p=>sumBy nodesT p.l) d.procs+sumBy (fun c=>nodes c.e) d.checks
def mDeep (d:Flat):Nat:=max (maxBy (fun p=>maxBy deepT p.l) d.procs) (maxBy (fun c=>deep c.e) d.checks)
theorem mNodes_eq (s:List Signal) (p:List Proc) (c:List Chk):mNodes ⟨s,p,c⟩=sumBy (fun p=>sumBy nodesT p.l) p+sumBy (fun c=>nodes c.e) c:=rfl
theorem mDeep_eq (s:List Signal) (p:List Proc) (c:List Chk):mDeep ⟨s,p,c⟩=max (maxBy (fun p=>maxBy deepT p.l) p) (maxBy (fun c=>deep c.e) c):=rfl
theorem mDeep_le (d:Flat):mDeep d<=mNodes d:=by
 unfold mDeep mNodes
 have h1:=maxBy_le_sumBy (fun p:Proc=>maxBy deepT p.l) (fun p=>sumBy nodesT p.l) d.procs (fun p _=>maxBy_le_sumBy deepT nodesT p.l (fun t _=>deepT_le_nodesT t))
 have h2:=maxBy_le_sumBy (fun c:Chk=>deep c.e) (fun c=>nodes c.e) d.checks (fun c _=>deep_le_nodes c.e)
 omega
theorem measure_calls (d:Flat) (v:Value) (w:World) (h:FlatV w v d) (hb:mNodes d<=1048576) :
  Calls Tryz.prog 38 #[v] w fun r w'=>r=.returned (.tuple #[.int .i64 (mNodes d),.int .i64 (mDeep d)])/\Ext w w':=by
 have hdn:=mDeep_le d
 unfold mNodes at hb hdn
 unfold mDeep at hdn
 obtain ⟨sv,pv,cv,rfl,hS,hP,hC⟩:=h
 obtain ⟨ps,bp,op,capp,e2,hp1,hp2,hp3,hpr⟩:=hP.open
 obtain ⟨cs,bc,oc,capc,e3,hq1,hq2,hq3,hqr⟩:=hC.open
 subst e2;subst e3
 have hbx:=Has.alloc w [sv,.slice ps d.procs.length capp,.slice cs d.checks.length capc] 26
 have hx0:=ext_alloc w (.cells [sv,.slice ps d.procs.length capp,.slice cs d.checks.length capc].toArray 26)
 clear hS hP hC
 obtain ⟨sigs,procs,checks⟩:=d
 simp only at *
 have HN:=Jh (mNodes_eq sigs procs checks)
 have HD:=Jh (mDeep_eq sigs procs checks)
 have hml:=maxBy_take_le (fun p:Proc=>maxBy deepT p.l) procs
 have hml2:=maxBy_take_le (fun c:Chk=>deep c.e) checks
 have Hml:=Jh hml
 have Hml2:=Jh hml2
 clear hml hml2
 go_enter Tryz.func38,Tryz.ntmps38
 go_wp2_with fail
 generalize w.alloc _=w0 at *
 go_loopw [4,5,6] (fun x y i wr=>∃ k:Nat,k<=procs.length/\i=.int .i64 k/\x=.int .i64 ((sumBy (fun p=>sumBy nodesT p.l) (procs.take k):Nat):Int)
   /\ y=.int .i64 ((maxBy (fun p=>maxBy deepT p.l) (procs.take k):Nat):Int)/\Ext w0 wr) (fun _ _ i _=>procs.length-(intOf i).toNat)
 case atStart=>exact ⟨0,Nat.zero_le _,rfl,by simp [sumBy],by simp [maxBy],Below.refl _ _⟩
 case round =>
  obtain ⟨k,hk,rfl,rfl,rfl,hB⟩:=hrel
  have hc:=(hbx.ext hB) 1 _ rfl
  have hc2:=(hbx.ext hB) 2 _ rfl
  by_cases hlt:k<procs.length
  ·obtain ⟨s1,he1,he2⟩:=Procs.get (hpr.mono fun x _ b o h=>ProcAt.ext h (hx0.trans hB)) hlt
   have ht:=Jh (sumBy_take (fun p:Proc=>sumBy nodesT p.l) procs k hlt)
   have hu:=Jh (maxBy_take (fun p:Proc=>maxBy deepT p.l) procs k hlt)
   have hle:=sumBy_take_le (fun p:Proc=>sumBy nodesT p.l) procs (k+1)
   rw [ht.out] at hle
   have hle2:=Hml.out (k+1)
   rw [hu.out] at hle2
   obtain rfl:=hp3 (by omega)
   generalize procs[k]=pk at *
   try simp only at hle hle2
   have hp1:=he1 1 _ rfl
   go_wp2_with (first | (go_at_call 71;refine (NodesT_calls _ _ _ he2 (by omega)).mono ?_;rintro r w1 ⟨rfl,hx1⟩);have hc:=((hbx.ext hB).ext hx1) 1 _ rfl;have hp1:=(he1.ext hx1) 1 _ rfl | (go_at_call 72;refine (deepT_calls _ _ _ (he2.ext hx1) (by omega)).mono ?_;rintro r w2 ⟨rfl,hx2⟩))
   go_roundw
   case rel=>exact ⟨k+1,by omega,by go_num,by rw [ht.out];rfl,by rw [hu.out];congr 1;split<;>omega,hB.trans (hx1.trans hx2)⟩
   case measure=>simp [intOf];omega
  ·have hle2:=Hml.out k
   go_wp2_with fail
   obtain rfl:k=procs.length:=by omega
   try rw [List.take_length,List.take_length]
   have hx1:=hx0.trans hB
   have hbx1:=hbx.ext hB
   clear hc hc2 hbx hB hx0
   generalize wr=w1 at *
   go_loopw [4,5,7] (fun x y i wr=>∃ k:Nat,k<=checks.length/\i=.int .i64 k/\x=.int .i64 ((sumBy (fun p=>sumBy nodesT p.l) procs+sumBy (fun c=>nodes c.e) (checks.take k):Nat):Int)
     /\ y=.int .i64 ((max (maxBy (fun p=>maxBy deepT p.l) procs) (maxBy (fun c=>deep c.e) (checks.take k)):Nat):Int)/\Ext w1 wr) (fun _ _ i _=>checks.length-(intOf i).toNat)
   case atStart=>exact ⟨0,Nat.zero_le _,rfl,by simp [sumBy],by simp [maxBy],Below.refl _ _⟩
   case round =>
    obtain ⟨k,hk,rfl,rfl,rfl,hB⟩:=hrel
    have hc:=(hbx1.ext hB) 2 _ rfl
    by_cases hlt:k<checks.length
    ·obtain ⟨s1,he1,he2⟩:=Chks.get (hqr.mono fun x _ b o h=>ChkAt.ext h (hx1.trans hB)) hlt
     have ht:=Jh (sumBy_take (fun c:Chk=>nodes c.e) checks k hlt)
     have hu:=Jh (maxBy_take (fun c:Chk=>deep c.e) checks k hlt)
     have hle:=sumBy_take_le (fun c:Chk=>nodes c.e) checks (k+1)
     rw [ht.out] at hle
     have hle2:=Hml2.out (k+1)
     rw [hu.out] at hle2
     obtain rfl:=hq3 (by omega)
     generalize checks[k]=pk at *
     try simp only at hle hle2
     have he1:=he1.tail
     go_wp2_with (first | ((with_reducible show Jl 31);refine Jm 31 (he1) agg_E rfl ?_) | (go_at_call 73;refine (Nodes_calls _ _ _ he2 (by omega)).mono ?_;rintro r w2 ⟨rfl,hx2⟩);have hc:=((hbx1.ext hB).ext hx2) 2 _ rfl;have he1:=he1.ext hx2 | (go_at_call 74;refine (Deep_calls _ _ _ (he2.ext hx2) (by omega)).mono ?_;rintro r w3 ⟨rfl,hx3⟩))
     go_roundw
     case rel=>exact ⟨k+1,by omega,by go_num,by rw [ht.out];congr 1;omega,by rw [hu.out];congr 1;split<;>omega,hB.trans (hx2.trans hx3)⟩
     case measure=>simp [intOf];omega
    ·have hle2:=Hml2.out k
     go_wp2_with fail
     go_ret2
     obtain rfl:k=checks.length:=by omega
     exact ⟨by rw [HN.out,HD.out];rw [List.take_length];rfl,hx1.trans hB⟩
def small (d:Flat):Bool:=decide (mNodes d<=2000)&&decide (mDeep d<=100)&&decide (d.signals.length<=100)&&decide (d.procs.length<=200)&&decide (d.checks.length<=100)
theorem Small_calls (d:Flat) (v:Value) (w:World) (h:FlatV w v d) (hb:mNodes d<=1048576) :
  Calls Tryz.prog 19 #[v] w fun r w'=>r=.returned (.bool (small d))/\Ext w w':=by
 have HF:=Jh h
 obtain ⟨sv,pv,cv,rfl,hS,hP,hC⟩:=h
 obtain ⟨xs,bs,os,caps,e1,-,-,-,-⟩:=hS.open
 obtain ⟨ap,bp,op,capp,e2,-,-,-,-⟩:=hP.open
 obtain ⟨ac,bc,oc,capc,e3,-,-,-,-⟩:=hC.open
 subst e1;subst e2;subst e3
 have hbx:=Has.alloc w [.slice xs d.signals.length caps,.slice ap d.procs.length capp,.slice ac d.checks.length capc] 26
 have hx0:=ext_alloc w (.cells [.slice xs d.signals.length caps,.slice ap d.procs.length capp,.slice ac d.checks.length capc].toArray 26)
 have hz:=mDeep_le d
 clear hS hP hC
 go_enter Tryz.func19,Tryz.ntmps19
 go_wp2_with fail
 generalize w.alloc _=w0 at *
 go_wp2_with (first | ((with_reducible show Jl 26);refine Jm 26 (hbx) agg_Flat rfl ?_) | (go_at_call 38;refine (measure_calls _ _ _ (HF.out.ext hx0) hb).mono ?_;rintro r w1 ⟨rfl,hx1⟩);have hc0:=(hbx.ext hx1) 0 _ rfl;have hc1:=(hbx.ext hx1) 1 _ rfl;have hc2:=(hbx.ext hx1) 2 _ rfl)
 all_goals go_ret
 all_goals exact ⟨ret_bool (Bool.eq_iff_iff.2 (by simp [small];omega)),hx0.trans hx1⟩
def few12 (d:Flat):Bool:=small d&&decide (d.procs.length<=40)&&decide (d.signals.length<=40)
def VE (w:World) (cs:List Value) (e:E):Prop:=∃ s,cs=e.cells s/\Es w s e.l
def VT (w:World) (cs:List Value) (t:T):Prop:=∃ s s',cs=t.cells s s'/\Es w s t.e/\Ts w s' t.l
def VSignal (_:World) (cs:List Value) (x:Signal):Prop:=cs=x.cells
def VProc (w:World) (cs:List Value) (p:Proc):Prop:=∃ s,cs=p.cells s/\Ts w s p.l
def VCheck (w:World) (cs:List Value) (c:Chk):Prop:=∃ s,cs=c.cells s/\Es w s c.e.l
theorem VE.ext {w w':World} {cs:List Value} {x:E} (h:VE w cs x) (hx:Ext w w'):VE w' cs x:=by
 obtain ⟨s,h1,h2⟩:=h;exact ⟨s,h1,h2.ext hx⟩
theorem VT.ext {w w':World} {cs:List Value} {x:T} (h:VT w cs x) (hx:Ext w w'):VT w' cs x:=by
 obtain ⟨s,s',h1,h2,h3⟩:=h;exact ⟨s,s',h1,h2.ext hx,h3.ext hx⟩
theorem VSignal.ext {w w':World} {cs:List Value} {x:Signal} (h:VSignal w cs x) (_:Ext w w'):VSignal w' cs x:=h
theorem VProc.ext {w w':World} {cs:List Value} {x:Proc} (h:VProc w cs x) (hx:Ext w w'):VProc w' cs x:=by
 obtain ⟨s,h1,h2⟩:=h;exact ⟨s,h1,h2.ext hx⟩
theorem VCheck.ext {w w':World} {cs:List Value} {x:Chk} (h:VCheck w cs x) (hx:Ext w w'):VCheck w' cs x:=by
 obtain ⟨s,h1,h2⟩:=h;exact ⟨s,h1,h2.ext hx⟩
theorem VE.get {w:World} {l:List E} {b o k:Nat} (h:Rows 8 (EAt w) l b o) (hk:k<l.length):∃ cs,Has w b (o+k*8) cs/\cs.length=8/\VE w cs l[k]:=by
 obtain ⟨s,h1,h2⟩:=Es.get h hk;exact ⟨_,h1,rfl,s,rfl,h2⟩
theorem VT.get {w:World} {l:List T} {b o k:Nat} (h:Rows 6 (TAt w) l b o) (hk:k<l.length):∃ cs,Has w b (o+k*6) cs/\cs.length=6/\VT w cs l[k]:=by
 obtain ⟨s,s',h1,h2,h3⟩:=Ts.get h hk;exact ⟨_,h1,rfl,s,s',rfl,h2,h3⟩
theorem VSignal.get {w:World} {l:List Signal} {b o k:Nat} (h:Rows 4 (SigAt w) l b o) (hk:k<l.length):∃ cs,Has w b (o+k*4) cs/\cs.length=4/\VSignal w cs l[k] :=
 ⟨_,Sigs.get h hk,rfl,rfl⟩
theorem VProc.get {w:World} {l:List Proc} {b o k:Nat} (h:Rows 2 (ProcAt w) l b o) (hk:k<l.length):∃ cs,Has w b (o+k*2) cs/\cs.length=2/\VProc w cs l[k]:=by
 obtain ⟨s,h1,h2⟩:=Procs.get h hk;exact ⟨_,h1,rfl,s,rfl,h2⟩
theorem VCheck.get {w:World} {l:List Chk} {b o k:Nat} (h:Rows 9 (ChkAt w) l b o) (hk:k<l.length):∃ cs,Has w b (o+k*9) cs/\cs.length=9/\VCheck w cs l[k]:=by
 obtain ⟨s,h1,h2⟩:=Chks.get h hk;exact ⟨_,h1,rfl,s,rfl,h2⟩
theorem Sl.one {α:Type} {size:Nat} {R:α->Nat->Nat->Prop} {s:Value} {l:List α} (h:Sl size R s l):s.oneCell'=true:=by
 obtain ⟨a,b,o,cap,rfl,-⟩:=h.open;rfl
theorem one_int (k:IntKind) (n:Int):(Value.int k n).oneCell'=true:=rfl
theorem one_string (x:ByteArray):(Value.string x).oneCell'=true:=rfl
theorem one_bool (x:Bool):(Value.bool x).oneCell'=true:=rfl
theorem VE.one {w:World} {cs:List Value} {x:E} (h:VE w cs x):cs.all (·.oneCell')=true:=by
 obtain ⟨s,rfl,h2⟩:=h;simp [h2.one,one_int]
theorem VT.one {w:World} {cs:List Value} {x:T} (h:VT w cs x):cs.all (·.oneCell')=true:=by
 obtain ⟨s,s',rfl,h2,h3⟩:=h;simp [h2.one,h3.one,one_int]
theorem VSignal.one {w:World} {cs:List Value} {x:Signal} (h:VSignal w cs x):cs.all (·.oneCell')=true:=by
 subst h;rfl
theorem VProc.one {w:World} {cs:List Value} {x:Proc} (h:VProc w cs x):cs.all (·.oneCell')=true:=by
 obtain ⟨s,rfl,h2⟩:=h;simp [h2.one,one_int,one_string,one_bool]
theorem VCheck.one {w:World} {cs:List Value} {x:Chk} (h:VCheck w cs x):cs.all (·.oneCell')=true:=by
 obtain ⟨s,rfl,h2⟩:=h;simp [h2.one,one_int,one_string,one_bool]
theorem EAt.ext' {w w':World} {x:E} {b o:Nat} (hx:Ext w w') (h:EAt w x b o):EAt w' x b o:=EAt.ext hx x b o h
theorem TAt.ext' {w w':World} {x:T} {b o:Nat} (hx:Ext w w') (h:TAt w x b o):TAt w' x b o:=TAt.ext hx x b o h
theorem SigAt.ext' {w w':World} {x:Signal} {b o:Nat} (hx:Ext w w') (h:SigAt w x b o):SigAt w' x b o:=Has.ext h hx
theorem ProcAt.ext' {w w':World} {x:Proc} {b o:Nat} (hx:Ext w w') (h:ProcAt w x b o):ProcAt w' x b o:=ProcAt.ext h hx
theorem ChkAt.ext' {w w':World} {x:Chk} {b o:Nat} (hx:Ext w w') (h:ChkAt w x b o):ChkAt w' x b o:=ChkAt.ext h hx
def idxOf {α:Type} (p:α->Bool) (l:List α):Int:=if l.any p then (l.findIdx p:Nat) else -1
theorem idxOf_found {α:Type} {p:α->Bool} {l:List α} {k:Nat} (h:k<l.length) (h0:∀ j (hj:j<k),p (l[j]'(by omega))=false) (h1:p l[k]=true):idxOf p l=k:=by
 have ha:l.any p=true:=List.any_eq_true.2 ⟨_,List.getElem_mem h,h1⟩
 have:l.findIdx p=k:=by
  rw [List.findIdx_eq h];exact ⟨h1,fun j hj=>by simpa using h0 j hj⟩
 simp [idxOf,ha,this]
theorem idxOf_none {α:Type} {p:α->Bool} {l:List α} (h0:∀ j (hj:j<l.length),p l[j]=false):idxOf p l = -1:=by
 have ha:l.any p=false:=by
  rw [List.any_eq_false];intro x hx
  obtain ⟨j,hj,rfl⟩:=List.getElem_of_mem hx
  simp [h0 j hj]
 simp [idxOf,ha]
theorem idxOf_lt {α:Type} {p:α->Bool} {l:List α}:idxOf p l<(l.length:Int)+1:=by
 unfold idxOf
 split
 ·have:=List.findIdx_le_length (p:=p) (xs:=l);omega
 ·omega
theorem idxOf_nonneg {α:Type} (p:α->Bool) (l:List α):decide (0<=idxOf p l)=l.any p:=by
 unfold idxOf
 split<;>rename_i h
 ·simp [h]
 ·simp at h;simpa using h
theorem IndexFunc_E (g:FuncId) (lb:Array Value) (p:E->Bool) (l:List E) (s:Value) (w:World) (h:Sl 8 (EAt w) s l) (eg:Leads Tryz.prog g)
  (hp:∀ wr,Ext w wr->∀ k (hk:k<l.length) cs,VE wr cs l[k]->Calls Tryz.prog g (#[.agg cs.toArray]++lb) wr fun r w'=>r=.returned (.bool (p l[k]))/\Ext wr w') :
  Calls Tryz.prog 120 #[s,.func (.func g) #[] lb] w fun r w'=>r=.returned (.int .i64 (idxOf p l))/\Ext w w':=by
 have HP:=Jh hp
 clear hp
 obtain ⟨a,b,o,cap,hs,hc1,hc2,ha,hr⟩:=h.open
 subst hs
 go_enter Tryz.func120,Tryz.ntmps120
 go_wp2_with fail
 go_loopw [5,8] (fun _ i wr=>∃ k:Nat,k<=l.length/\i=.int .i64 k/\(∀ j (hj:j<l.length),j<k->p l[j]=false)/\Ext w wr) (fun _ i _=>l.length-(intOf i).toNat)
 case atStart=>exact ⟨0,Nat.zero_le _,rfl,fun j hj h=>by omega,Below.refl _ _⟩
 case round =>
  obtain ⟨k,hk,rfl,hno,hB⟩:=hrel
  have HNO:=Jh hno
  clear hno
  by_cases hlt:k<l.length
  ·obtain ⟨cs,he1,hn,he2⟩:=VE.get (hr.mono fun x _ b o h=>EAt.ext' hB h) hlt
   obtain rfl:=ha (by omega)
   have HC:=(HP.out _ hB k hlt cs he2)
   cases hpk:p l[k] with
   | true =>
    rw [hpk] at HC
    have Hpk:=Jh hpk
    clear hpk
    go_wp2_with (first | ((with_reducible show Jl 31);refine Jm 31 (he1) agg_E hn ?_) | ((with_reducible show Jw (Op.call { callee:=.value (.tmp _),args:=_,argTypes:=_ }));refine wpList_call_fv rfl _ _ _ rfl rfl eg rfl HC ?_;intro w1 hx1))
    go_ret
    exact ⟨by rw [idxOf_found hlt (fun j hj=>HNO.out j _ hj) Hpk.out];rfl,hB.trans hx1⟩
   | false =>
    rw [hpk] at HC
    have Hpk:=Jh hpk
    clear hpk
    go_wp2_with (first | ((with_reducible show Jl 31);refine Jm 31 (he1) agg_E hn ?_) | ((with_reducible show Jw (Op.call { callee:=.value (.tmp _),args:=_,argTypes:=_ }));refine wpList_call_fv rfl _ _ _ rfl rfl eg rfl HC ?_;intro w1 hx1))
    go_roundw
    case rel =>
     refine ⟨k+1,by omega,by go_num,fun j hj hj2=>?_,hB.trans hx1⟩
     by_cases hjk:j=k
     ·subst hjk;exact Hpk.out
     ·exact HNO.out j hj (by omega)
    case measure=>simp [intOf];omega
  ·go_wp2_with fail
   go_ret
   exact ⟨by rw [idxOf_none (fun j hj=>HNO.out j hj (by omega))];rfl,hB⟩
theorem ContainsFunc_E (g:FuncId) (lb:Array Value) (p:E->Bool) (l:List E) (s:Value) (w:World) (h:Sl 8 (EAt w) s l) (eg:Leads Tryz.prog g)
  (hp:∀ wr,Ext w wr->∀ k (hk:k<l.length) cs,VE wr cs l[k]->Calls Tryz.prog g (#[.agg cs.toArray]++lb) wr fun r w'=>r=.returned (.bool (p l[k]))/\Ext wr w') :
  Calls Tryz.prog 95 #[s,.func (.func g) #[] lb] w fun r w'=>r=.returned (.bool (l.any p))/\Ext w w':=by
 have HI:=Jh (IndexFunc_E g lb p l s w h eg hp)
 clear hp
 go_enter Tryz.func95,Tryz.ntmps95
 go_wp2_with (first | (go_at_call 120;refine HI.out.mono ?_;rintro r w1 ⟨rfl,hx1⟩))
 go_ret
 exact ⟨ret_bool (idxOf_nonneg p l),hx1⟩
theorem IndexFunc_T (g:FuncId) (lb:Array Value) (p:T->Bool) (l:List T) (s:Value) (w:World) (h:Sl 6 (TAt w) s l) (eg:Leads Tryz.prog g)
  (hp:∀ wr,Ext w wr->∀ k (hk:k<l.length) cs,VT wr cs l[k]->Calls Tryz.prog g (#[.agg cs.toArray]++lb) wr fun r w'=>r=.returned (.bool (p l[k]))/\Ext wr w') :
  Calls Tryz.prog 93 #[s,.func (.func g) #[] lb] w fun r w'=>r=.returned (.int .i64 (idxOf p l))/\Ext w w':=by
 have HP:=Jh hp
 clear hp
 obtain ⟨a,b,o,cap,hs,hc1,hc2,ha,hr⟩:=h.open
 subst hs
 go_enter Tryz.func93,Tryz.ntmps93
 go_wp2_with fail
 go_loopw [5,8] (fun _ i wr=>∃ k:Nat,k<=l.length/\i=.int .i64 k/\(∀ j (hj:j<l.length),j<k->p l[j]=false)/\Ext w wr) (fun _ i _=>l.length-(intOf i).toNat)
 case atStart=>exact ⟨0,Nat.zero_le _,rfl,fun j hj h=>by omega,Below.refl _ _⟩
 case round =>
  obtain ⟨k,hk,rfl,hno,hB⟩:=hrel
  have HNO:=Jh hno
  clear hno
  by_cases hlt:k<l.length
  ·obtain ⟨cs,he1,hn,he2⟩:=VT.get (hr.mono fun x _ b o h=>TAt.ext' hB h) hlt
   obtain rfl:=ha (by omega)
   have HC:=(HP.out _ hB k hlt cs he2)
   cases hpk:p l[k] with
   | true =>
    rw [hpk] at HC
    have Hpk:=Jh hpk
    clear hpk
    go_wp2_with (first | ((with_reducible show Jl 39);refine Jm 39 (he1) agg_T hn ?_) | ((with_reducible show Jw (Op.call { callee:=.value (.tmp _),args:=_,argTypes:=_ }));refine wpList_call_fv rfl _ _ _ rfl rfl eg rfl HC ?_;intro w1 hx1))
    go_ret
    exact ⟨by rw [idxOf_found hlt (fun j hj=>HNO.out j _ hj) Hpk.out];rfl,hB.trans hx1⟩
   | false =>
    rw [hpk] at HC
    have Hpk:=Jh hpk
    clear hpk
    go_wp2_with (first | ((with_reducible show Jl 39);refine Jm 39 (he1) agg_T hn ?_) | ((with_reducible show Jw (Op.call { callee:=.value (.tmp _),args:=_,argTypes:=_ }));refine wpList_call_fv rfl _ _ _ rfl rfl eg rfl HC ?_;intro w1 hx1))
    go_roundw
    case rel =>
     refine ⟨k+1,by omega,by go_num,fun j hj hj2=>?_,hB.trans hx1⟩
     by_cases hjk:j=k
     ·subst hjk;exact Hpk.out
     ·exact HNO.out j hj (by omega)
    case measure=>simp [intOf];omega
  ·go_wp2_with fail
   go_ret
   exact ⟨by rw [idxOf_none (fun j hj=>HNO.out j hj (by omega))];rfl,hB⟩
theorem ContainsFunc_T (g:FuncId) (lb:Array Value) (p:T->Bool) (l:List T) (s:Value) (w:World) (h:Sl 6 (TAt w) s l) (eg:Leads Tryz.prog g)
  (hp:∀ wr,Ext w wr->∀ k (hk:k<l.length) cs,VT wr cs l[k]->Calls Tryz.prog g (#[.agg cs.toArray]++lb) wr fun r w'=>r=.returned (.bool (p l[k]))/\Ext wr w') :
  Calls Tryz.prog 82 #[s,.func (.func g) #[] lb] w fun r w'=>r=.returned (.bool (l.any p))/\Ext w w':=by
 have HI:=Jh (IndexFunc_T g lb p l s w h eg hp)
 clear hp
 go_enter Tryz.func82,Tryz.ntmps82
 go_wp2_with (first | (go_at_call 93;refine HI.out.mono ?_;rintro r w1 ⟨rfl,hx1⟩))
 go_ret
 exact ⟨ret_bool (idxOf_nonneg p l),hx1⟩
theorem IndexFunc_Signal (g:FuncId) (lb:Array Value) (p:Signal->Bool) (l:List Signal) (s:Value) (w:World) (h:Sl 4 (SigAt w) s l) (eg:Leads Tryz.prog g)
  (hp:∀ wr,Ext w wr->∀ k (hk:k<l.length) cs,VSignal wr cs l[k]->Calls Tryz.prog g (#[.agg cs.toArray]++lb) wr fun r w'=>r=.returned (.bool (p l[k]))/\Ext wr w') :
  Calls Tryz.prog 88 #[s,.func (.func g) #[] lb] w fun r w'=>r=.returned (.int .i64 (idxOf p l))/\Ext w w':=by
 have HP:=Jh hp
 clear hp
 obtain ⟨a,b,o,cap,hs,hc1,hc2,ha,hr⟩:=h.open
 subst hs
 go_enter Tryz.func88,Tryz.ntmps88
 go_wp2_with fail
 go_loopw [5,8] (fun _ i wr=>∃ k:Nat,k<=l.length/\i=.int .i64 k/\(∀ j (hj:j<l.length),j<k->p l[j]=false)/\Ext w wr) (fun _ i _=>l.length-(intOf i).toNat)
 case atStart=>exact ⟨0,Nat.zero_le _,rfl,fun j hj h=>by omega,Below.refl _ _⟩
 case round =>
  obtain ⟨k,hk,rfl,hno,hB⟩:=hrel
  have HNO:=Jh hno
  clear hno
  by_cases hlt:k<l.length
  ·obtain ⟨cs,he1,hn,he2⟩:=VSignal.get (hr.mono fun x _ b o h=>SigAt.ext' hB h) hlt
   obtain rfl:=ha (by omega)
   have HC:=(HP.out _ hB k hlt cs he2)
   cases hpk:p l[k] with
   | true =>
    rw [hpk] at HC
    have Hpk:=Jh hpk
    clear hpk
    go_wp2_with (first | ((with_reducible show Jl 50);refine Jm 50 (he1) agg_Signal hn ?_) | ((with_reducible show Jw (Op.call { callee:=.value (.tmp _),args:=_,argTypes:=_ }));refine wpList_call_fv rfl _ _ _ rfl rfl eg rfl HC ?_;intro w1 hx1))
    go_ret
    exact ⟨by rw [idxOf_found hlt (fun j hj=>HNO.out j _ hj) Hpk.out];rfl,hB.trans hx1⟩
   | false =>
    rw [hpk] at HC
    have Hpk:=Jh hpk
    clear hpk
    go_wp2_with (first | ((with_reducible show Jl 50);refine Jm 50 (he1) agg_Signal hn ?_) | ((with_reducible show Jw (Op.call { callee:=.value (.tmp _),args:=_,argTypes:=_ }));refine wpList_call_fv rfl _ _ _ rfl rfl eg rfl HC ?_;intro w1 hx1))
    go_roundw
    case rel =>
     refine ⟨k+1,by omega,by go_num,fun j hj hj2=>?_,hB.trans hx1⟩
     by_cases hjk:j=k
     ·subst hjk;exact Hpk.out
     ·exact HNO.out j hj (by omega)
    case measure=>simp [intOf];omega
  ·go_wp2_with fail
   go_ret
   exact ⟨by rw [idxOf_none (fun j hj=>HNO.out j hj (by omega))];rfl,hB⟩
theorem ContainsFunc_Signal (g:FuncId) (lb:Array Value) (p:Signal->Bool) (l:List Signal) (s:Value) (w:World) (h:Sl 4 (SigAt w) s l) (eg:Leads Tryz.prog g)
  (hp:∀ wr,Ext w wr->∀ k (hk:k<l.length) cs,VSignal wr cs l[k]->Calls Tryz.prog g (#[.agg cs.toArray]++lb) wr fun r w'=>r=.returned (.bool (p l[k]))/\Ext wr w') :
  Calls Tryz.prog 41 #[s,.func (.func g) #[] lb] w fun r w'=>r=.returned (.bool (l.any p))/\Ext w w':=by
 have HI:=Jh (IndexFunc_Signal g lb p l s w h eg hp)
 clear hp
 go_enter Tryz.func41,Tryz.ntmps41
 go_wp2_with (first | (go_at_call 88;refine HI.out.mono ?_;rintro r w1 ⟨rfl,hx1⟩))
 go_ret
 exact ⟨ret_bool (idxOf_nonneg p l),hx1⟩
theorem IndexFunc_Proc (g:FuncId) (lb:Array Value) (p:Proc->Bool) (l:List Proc) (s:Value) (w:World) (h:Sl 2 (ProcAt w) s l) (eg:Leads Tryz.prog g)
  (hp:∀ wr,Ext w wr->∀ k (hk:k<l.length) cs,VProc wr cs l[k]->Calls Tryz.prog g (#[.agg cs.toArray]++lb) wr fun r w'=>r=.returned (.bool (p l[k]))/\Ext wr w') :
  Calls Tryz.prog 115 #[s,.func (.func g) #[] lb] w fun r w'=>r=.returned (.int .i64 (idxOf p l))/\Ext w w':=by
 have HP:=Jh hp
 clear hp
 obtain ⟨a,b,o,cap,hs,hc1,hc2,ha,hr⟩:=h.open
 subst hs
 go_enter Tryz.func115,Tryz.ntmps115
 go_wp2_with fail
 go_loopw [5,8] (fun _ i wr=>∃ k:Nat,k<=l.length/\i=.int .i64 k/\(∀ j (hj:j<l.length),j<k->p l[j]=false)/\Ext w wr) (fun _ i _=>l.length-(intOf i).toNat)
 case atStart=>exact ⟨0,Nat.zero_le _,rfl,fun j hj h=>by omega,Below.refl _ _⟩
 case round =>
  obtain ⟨k,hk,rfl,hno,hB⟩:=hrel
  have HNO:=Jh hno
  clear hno
  by_cases hlt:k<l.length
  ·obtain ⟨cs,he1,hn,he2⟩:=VProc.get (hr.mono fun x _ b o h=>ProcAt.ext' hB h) hlt
   obtain rfl:=ha (by omega)
   have HC:=(HP.out _ hB k hlt cs he2)
   cases hpk:p l[k] with
   | true =>
    rw [hpk] at HC
    have Hpk:=Jh hpk
    clear hpk
    go_wp2_with (first | ((with_reducible show Jl 36);refine Jm 36 (he1) agg_Proc hn ?_) | ((with_reducible show Jw (Op.call { callee:=.value (.tmp _),args:=_,argTypes:=_ }));refine wpList_call_fv rfl _ _ _ rfl rfl eg rfl HC ?_;intro w1 hx1))
    go_ret
    exact ⟨by rw [idxOf_found hlt (fun j hj=>HNO.out j _ hj) Hpk.out];rfl,hB.trans hx1⟩
   | false =>
    rw [hpk] at HC
    have Hpk:=Jh hpk
    clear hpk
    go_wp2_with (first | ((with_reducible show Jl 36);refine Jm 36 (he1) agg_Proc hn ?_) | ((with_reducible show Jw (Op.call { callee:=.value (.tmp _),args:=_,argTypes:=_ }));refine wpList_call_fv rfl _ _ _ rfl rfl eg rfl HC ?_;intro w1 hx1))
    go_roundw
    case rel =>
     refine ⟨k+1,by omega,by go_num,fun j hj hj2=>?_,hB.trans hx1⟩
     by_cases hjk:j=k
     ·subst hjk;exact Hpk.out
     ·exact HNO.out j hj (by omega)
    case measure=>simp [intOf];omega
  ·go_wp2_with fail
   go_ret
   exact ⟨by rw [idxOf_none (fun j hj=>HNO.out j hj (by omega))];rfl,hB⟩
theorem ContainsFunc_Proc (g:FuncId) (lb:Array Value) (p:Proc->Bool) (l:List Proc) (s:Value) (w:World) (h:Sl 2 (ProcAt w) s l) (eg:Leads Tryz.prog g)
  (hp:∀ wr,Ext w wr->∀ k (hk:k<l.length) cs,VProc wr cs l[k]->Calls Tryz.prog g (#[.agg cs.toArray]++lb) wr fun r w'=>r=.returned (.bool (p l[k]))/\Ext wr w') :
  Calls Tryz.prog 86 #[s,.func (.func g) #[] lb] w fun r w'=>r=.returned (.bool (l.any p))/\Ext w w':=by
 have HI:=Jh (IndexFunc_Proc g lb p l s w h eg hp)
 clear hp
 go_enter Tryz.func86,Tryz.ntmps86
 go_wp2_with (first | (go_at_call 115;refine HI.out.mono ?_;rintro r w1 ⟨rfl,hx1⟩))
 go_ret
 exact ⟨ret_bool (idxOf_nonneg p l),hx1⟩
theorem IndexFunc_Check (g:FuncId) (lb:Array Value) (p:Chk->Bool) (l:List Chk) (s:Value) (w:World) (h:Sl 9 (ChkAt w) s l) (eg:Leads Tryz.prog g)
  (hp:∀ wr,Ext w wr->∀ k (hk:k<l.length) cs,VCheck wr cs l[k]->Calls Tryz.prog g (#[.agg cs.toArray]++lb) wr fun r w'=>r=.returned (.bool (p l[k]))/\Ext wr w') :
  Calls Tryz.prog 116 #[s,.func (.func g) #[] lb] w fun r w'=>r=.returned (.int .i64 (idxOf p l))/\Ext w w':=by
 have HP:=Jh hp
 clear hp
 obtain ⟨a,b,o,cap,hs,hc1,hc2,ha,hr⟩:=h.open
 subst hs
 go_enter Tryz.func116,Tryz.ntmps116
 go_wp2_with fail
 go_loopw [5,8] (fun _ i wr=>∃ k:Nat,k<=l.length/\i=.int .i64 k/\(∀ j (hj:j<l.length),j<k->p l[j]=false)/\Ext w wr) (fun _ i _=>l.length-(intOf i).toNat)
 case atStart=>exact ⟨0,Nat.zero_le _,rfl,fun j hj h=>by omega,Below.refl _ _⟩
 case round =>
  obtain ⟨k,hk,rfl,hno,hB⟩:=hrel
  have HNO:=Jh hno
  clear hno
  by_cases hlt:k<l.length
  ·obtain ⟨cs,he1,hn,he2⟩:=VCheck.get (hr.mono fun x _ b o h=>ChkAt.ext' hB h) hlt
   obtain rfl:=ha (by omega)
   have HC:=(HP.out _ hB k hlt cs he2)
   cases hpk:p l[k] with
   | true =>
    rw [hpk] at HC
    have Hpk:=Jh hpk
    clear hpk
    go_wp2_with (first | ((with_reducible show Jl 99);refine Jm 99 (he1) agg_Check hn ?_) | ((with_reducible show Jw (Op.call { callee:=.value (.tmp _),args:=_,argTypes:=_ }));refine wpList_call_fv rfl _ _ _ rfl rfl eg rfl HC ?_;intro w1 hx1))
    go_ret
    exact ⟨by rw [idxOf_found hlt (fun j hj=>HNO.out j _ hj) Hpk.out];rfl,hB.trans hx1⟩
   | false =>
    rw [hpk] at HC
    have Hpk:=Jh hpk
    clear hpk
    go_wp2_with (first | ((with_reducible show Jl 99);refine Jm 99 (he1) agg_Check hn ?_) | ((with_reducible show Jw (Op.call { callee:=.value (.tmp _),args:=_,argTypes:=_ }));refine wpList_call_fv rfl _ _ _ rfl rfl eg rfl HC ?_;intro w1 hx1))
    go_roundw
    case rel =>
     refine ⟨k+1,by omega,by go_num,fun j hj hj2=>?_,hB.trans hx1⟩
     by_cases hjk:j=k
     ·subst hjk;exact Hpk.out
     ·exact HNO.out j hj (by omega)
    case measure=>simp [intOf];omega
  ·go_wp2_with fail
   go_ret
   exact ⟨by rw [idxOf_none (fun j hj=>HNO.out j hj (by omega))];rfl,hB⟩
theorem ContainsFunc_Check (g:FuncId) (lb:Array Value) (p:Chk->Bool) (l:List Chk) (s:Value) (w:World) (h:Sl 9 (ChkAt w) s l) (eg:Leads Tryz.prog g)
  (hp:∀ wr,Ext w wr->∀ k (hk:k<l.length) cs,VCheck wr cs l[k]->Calls Tryz.prog g (#[.agg cs.toArray]++lb) wr fun r w'=>r=.returned (.bool (p l[k]))/\Ext wr w') :
  Calls Tryz.prog 87 #[s,.func (.func g) #[] lb] w fun r w'=>r=.returned (.bool (l.any p))/\Ext w w':=by
 have HI:=Jh (IndexFunc_Check g lb p l s w h eg hp)
 clear hp
 go_enter Tryz.func87,Tryz.ntmps87
 go_wp2_with (first | (go_at_call 116;refine HI.out.mono ?_;rintro r w1 ⟨rfl,hx1⟩))
 go_ret
 exact ⟨ret_bool (idxOf_nonneg p l),hx1⟩
def OwnOk:E->Prop
 | ⟨op,w,_,_,hi,lo,n,l⟩=>(op=1\/op=8->0<=w/\w<=64)/\(op=2->0<=lo/\lo<=hi/\hi<=64)/\(op=6\/op=4\/op=5\/op=8->1<=l.length)/\oks l
where oks:List E->Prop
 | []=>True
 | e::l=>OwnOk e/\oks l
theorem OwnOk.oks_iff (l:List E):OwnOk.oks l↔∀ e∈l,OwnOk e:=by
 induction l with
 | nil=>simp [OwnOk.oks]
 | cons e l ih=>simp [OwnOk.oks,ih]
theorem OwnOk_iff (e:E):OwnOk e↔(e.op=1\/e.op=8->0<=e.w/\e.w<=64)/\(e.op=2->0<=e.lo/\e.lo<=e.hi/\e.hi<=64)/\(e.op=6\/e.op=4\/e.op=5\/e.op=8->1<=e.l.length)/\∀ x∈e.l,OwnOk x:=by
 cases e;simp [OwnOk,OwnOk.oks_iff]
theorem own_eq (e:E):own e=(if e.op=1\/e.op=8 then e.w
  else if e.op=2 then e.hi-e.lo+1
  else if e.op=7 then own.cat e.l 0
  else if e.op=6 then own.fst2 e.l
  else if e.op=4 then (if e.n<=2 then own.hd e.l else 1)
  else if e.op=5 then (if e.n<=16 then own.fst e.l else if e.n<=18 then own.hd e.l else 1)
  else 1):=by cases e;rw [own]
theorem own_le (e:E) (h:OwnOk e):0<=own e/\own e<=65*nodes e:=by
 induction e using E.ind with
 | h e ih =>
  obtain ⟨h1,h2,h3,h4⟩:=(OwnOk_iff e).1 h
  have hn:=nodes_eq e
  have hl:∀ x∈e.l,0<=own x/\own x<=65*nodes x:=fun x hx=>ih x hx (h4 x hx)
  have hc:∀ (l:List E) (n:Int),(∀ x∈l,0<=own x/\own x<=65*nodes x)->0<=n->0<=own.cat l n/\own.cat l n<=n+65*sumBy nodes l:=by
   intro l
   induction l with
   | nil=>intro n _ hn;simp [own.cat,sumBy];omega
   | cons x l ih2 =>
    intro n hx hn
    have hx0:=hx x (by simp)
    have:=ih2 (n+own x) (fun y hy=>hx y (by simp [hy])) (by omega)
    simp only [own.cat,sumBy]
    split<;>omega
  have hf:∀ (l:List E),(∀ x∈l,0<=own x/\own x<=65*nodes x)->0<=own.fst l/\own.fst l<=65*sumBy nodes l:=by
   intro l
   induction l with
   | nil=>intro _;simp [own.fst,sumBy]
   | cons x l ih2 =>
    intro hx
    have hx0:=hx x (by simp)
    have:=ih2 (fun y hy=>hx y (by simp [hy]))
    simp only [own.fst,sumBy]
    split<;>omega
  have h1':=hc e.l 0 hl (by omega)
  have h2':=hf e.l hl
  have h3':0<=own.fst2 e.l/\own.fst2 e.l<=65*sumBy nodes e.l:=by
   cases hh:e.l with
   | nil=>simp [own.fst2,sumBy]
   | cons x l =>
    have:=hf l (fun y hy=>hl y (by simp [hh,hy]))
    simp only [own.fst2,sumBy];omega
  have h4':0<=own.hd e.l/\own.hd e.l<=65*sumBy nodes e.l:=by
   cases hh:e.l with
   | nil=>simp [own.hd,sumBy]
   | cons x l =>
    have:=hl x (by simp [hh])
    simp only [own.hd,sumBy];omega
  rw [own_eq]
  split
  ·have:=h1 ‹_›;omega
  ·split
   ·have:=h2 ‹_›;omega
   ·repeat' split
    all_goals omega
theorem own.fst_skip (l:List E) (k:Nat) (h:k<l.length) (h0:own l[k]=0):own.fst (l.drop k)=own.fst (l.drop (k+1)):=by
 rw [List.drop_eq_getElem_cons h,own.fst,if_pos h0]
theorem own.fst_here (l:List E) (k:Nat) (h:k<l.length) (h0:¬ own l[k]=0):own.fst (l.drop k)=own l[k]:=by
 rw [List.drop_eq_getElem_cons h,own.fst,if_neg h0]
theorem own.cat_zero (l:List E) (k:Nat) (n:Int) (h:k<l.length) (h0:own l[k]=0):own.cat (l.drop k) n=0:=by
 rw [List.drop_eq_getElem_cons h,own.cat,if_pos h0]
theorem own.cat_on (l:List E) (k:Nat) (n:Int) (h:k<l.length) (h0:¬ own l[k]=0):own.cat (l.drop k) n=own.cat (l.drop (k+1)) (n+own l[k]):=by
 rw [List.drop_eq_getElem_cons h,own.cat,if_neg h0]
def OwnSaid (x:E):Prop:=∀ (cs:List Value) (w:World),VE w cs x->OwnOk x->nodes x<=1048576 ->
 Calls Tryz.prog 117 #[.agg cs.toArray] w fun r w'=>r=.returned (.int .i64 (own x))/\Ext w w'
theorem first_calls (l:List E) (ih:∀ x∈l,OwnSaid x) (hok:∀ x∈l,OwnOk x) (hb:sumBy nodes l<=1048576) (s:Value) (w:World) (h:Es w s l) :
  Calls Tryz.prog 150 #[s] w fun r w'=>r=.returned (.int .i64 (own.fst l))/\Ext w w':=by
 have IH:=Jh ih
 have HOK:=Jh hok
 clear ih hok
 obtain ⟨a,b,o,cap,hs,hc1,hc2,ha,hr⟩:=h.open
 subst hs
 go_enter Tryz.func150,Tryz.ntmps150
 go_wp2_with fail
 go_loopw [4,5,8] (fun _ _ i wr=>∃ k:Nat,k<=l.length/\i=.int .i64 k/\own.fst l=own.fst (l.drop k)/\Ext w wr) (fun _ _ i _=>l.length-(intOf i).toNat)
 case atStart=>exact ⟨0,Nat.zero_le _,rfl,rfl,Below.refl _ _⟩
 case round =>
  obtain ⟨k,hk,rfl,hno,hB⟩:=hrel
  have HNO:=Jh hno
  clear hno
  by_cases hlt:k<l.length
  ·obtain ⟨cs,he1,hn,he2⟩:=VE.get (hr.mono fun x _ b o h=>EAt.ext' hB h) hlt
   obtain rfl:=ha (by omega)
   have hmem:l[k]∈l:=List.getElem_mem hlt
   have hle:=le_sumBy nodes l _ hmem
   have HX:=Jh (ext_alloc wr (.cells cs.toArray 31))
   have HBX:=Jh (Has.alloc wr cs 31)
   have HC:=Jh (IH.out _ hmem cs _ (he2.ext HX.out) (HOK.out _ hmem) (by omega))
   have HE:=Jh (hB.trans HX.out)
   have HS:=Jh (own.fst_skip l k hlt)
   have HH:=Jh (own.fst_here l k hlt)
   generalize own l[k]=q at *
   by_cases hq:q=0
   ·have g1:(q != 0)=false:=by rw [bne_eq_false_iff_eq];exact hq
    go_wp2_with (first | ((with_reducible show Jl 31);refine Jm 31 (he1) agg_E hn ?_) | ((with_reducible show Jl 31);refine Jm 31 (HBX.out) agg_E hn ?_) | ((with_reducible show Js 31);refine wpList_store_new rfl 31 _ _ rfl rfl (by first | rfl | simp) rfl agg_E (hn) rfl (he2.one) ?_) | (go_at_call 117;refine HC.out.mono ?_;rintro r w1 ⟨rfl,hx1⟩))
    go_roundw
    case rel=>exact ⟨k+1,by omega,by go_num,by rw [HNO.out,HS.out hq],HE.out.trans hx1⟩
    case measure=>simp [intOf];omega
   ·have g1:(q != 0)=true:=by rw [bne_iff_ne];exact hq
    have HQ:=Jh hq
    clear hq
    go_wp2_with (first | ((with_reducible show Jl 31);refine Jm 31 (he1) agg_E hn ?_) | ((with_reducible show Jl 31);refine Jm 31 (HBX.out) agg_E hn ?_) | ((with_reducible show Js 31);refine wpList_store_new rfl 31 _ _ rfl rfl (by first | rfl | simp) rfl agg_E (hn) rfl (he2.one) ?_) | (go_at_call 117;refine HC.out.mono ?_;rintro r w1 ⟨rfl,hx1⟩))
    go_ret
    exact ⟨by rw [HNO.out,HH.out HQ.out];rfl,HE.out.trans hx1⟩
  ·go_wp2_with fail
   go_ret
   obtain rfl:k=l.length:=by omega
   exact ⟨by rw [HNO.out,List.drop_length];rfl,hB⟩
theorem own_step (e:E) (ih:∀ x∈e.l,OwnSaid x):OwnSaid e:=by
 intro cs w hV hok hb
 have hle:=own_le e hok
 have IH:=Jh ih
 clear ih
 obtain ⟨h1,h2,h3,h4⟩:=(OwnOk_iff e).1 hok
 obtain ⟨s,rfl,hs⟩:=hV
 have HE:=Jh (own_eq e)
 rw [nodes_eq] at hb
 obtain ⟨a,b,o,cap,hsl,hc1,hc2,ha,hr⟩:=hs.open
 have HEs:=Jh hs
 obtain ⟨op,wd,v,sig,hi,lo,n,l⟩:=e
 simp only at hsl hc1 HE HEs IH h1 h2 h3 h4 ha hr hb hle
 subst hsl
 have H1:=Jh h1
 have H2:=Jh h2
 have H3:=Jh h3
 have H4:=Jh h4
 have HR:=Jh hr
 have HA:=Jh ha
 have HLE:=Jh hle
 clear h1 h2 h3 h4 hs hok hr ha hle
 have HX:=ext_alloc w (.cells (E.cells ⟨op,wd,v,sig,hi,lo,n,l⟩ (.slice a l.length cap)).toArray 31)
 have HB:=Has.alloc w (E.cells ⟨op,wd,v,sig,hi,lo,n,l⟩ (.slice a l.length cap)) 31
 go_enter Tryz.func117,Tryz.ntmps117
 go_upto_region 1 with (fail)
 generalize w.alloc _=w0 at *
 have g0:=HB 0 _ rfl
 have g1:=HB 1 _ rfl
 have g4:=HB 4 _ rfl
 have g5:=HB 5 _ rfl
 have g6:=HB 6 _ rfl
 have HEs0:=Jh (HEs.out.ext HX)
 have HF:∀ W,Hid (Ext w0 W->Calls Tryz.prog 150 #[.slice a l.length cap] W fun r w'=>r=.returned (.int .i64 (own.fst l))/\Ext W w') :=
  fun W=>Jh fun hx=>first_calls l IH.out H4.out (by omega) _ W (HEs0.out.ext hx)
 have HH:∀ (x:E) (xs:List E),l=x::xs->∃ b o s,a=some ⟨b,o,Option.none⟩/\Has w0 b o (x.cells s)/\∀ W,Ext w0 W->Calls Tryz.prog 117 #[.agg (x.cells s).toArray] W fun r w'=>r=.returned (.int .i64 (own x))/\Ext W w':=by
  rintro x xs rfl
  obtain ⟨s1,q1,q2⟩:=Es.get (HR.out.mono fun x _ b o h=>EAt.ext' HX h) (k:=0) (by simp)
  refine ⟨b,o,s1,HA.out (by simp),by simpa using q1,fun W hx=>?_⟩
  have hm:=le_sumBy nodes (x::xs) x (by simp)
  exact IH.out x (by simp) _ W ⟨s1,rfl,q2.ext hx⟩ (H4.out x (by simp)) (by omega)
 have HHH:=Jh HH
 clear HH
 by_cases o1:op=1
 ·obtain rfl:=o1
  go_wp2_with fail
  go_ret
  exact ⟨ret_int (by rw [HE.out];simp),HX⟩
 by_cases o8:op=8
 ·obtain rfl:=o8
  go_wp2_with fail
  go_ret
  exact ⟨ret_int (by rw [HE.out];simp),HX⟩
 by_cases o2:op=2
 ·obtain rfl:=o2
  have h2:=H2.out rfl
  go_wp2_with fail
  go_ret
  exact ⟨ret_int (by rw [HE.out];simp),HX⟩
 by_cases o6:op=6
 ·obtain rfl:=o6
  have h3:=H3.out (by simp)
  have g7:=HB 7 _ rfl
  obtain ⟨x,xs,rfl⟩:∃ x xs,l=x::xs:=by cases l with | nil=>simp at h3 | cons x xs=>exact ⟨x,xs,rfl⟩
  have HF2:∀ (s':Value) W,Hid (Es w0 s' xs->Ext w0 W->Calls Tryz.prog 150 #[s'] W fun r w'=>r=.returned (.int .i64 (own.fst xs))/\Ext W w') :=
   fun s' W=>Jh fun hes hx=>first_calls xs (fun y hy=>IH.out y (by simp [hy])) (fun y hy=>H4.out y (by simp [hy])) (by have:=hb;simp only [sumBy] at this;omega) _ W (hes.ext hx)
  obtain rfl:=HA.out (by simp)
  have hr0:=HR.out
  simp only [List.length_cons] at *
  have HR1:=Jh (hr0.2.mono (b:=b) (o:=o+8) fun x _ b o h=>EAt.ext' HX h)
  clear hr0
  by_cases hcap:cap=1
  ·subst hcap
   have hx0:xs=[]:=by cases xs with | nil=>rfl | cons y ys=>simp at hc1
   subst hx0
   have hes:Es w0 (.slice (some ⟨b,o,Option.none⟩) 0 0) []:=⟨b,o,⟨_,0,rfl,by simp,by simp [maxLen],by simp⟩,trivial⟩
   go_wp2_with (first | (go_at_call 150;refine ((HF2 _ _).out hes (Below.refl _ _)).mono ?_;rintro r w1 ⟨rfl,hx1⟩))
   go_ret
   exact ⟨ret_int (by rw [HE.out];simp [own.fst2]),HX.trans hx1⟩
  ·have hes:Es w0 (.slice (some ⟨b,o+8,Option.none⟩) xs.length (cap-1)) xs:=⟨b,o+8,⟨_,_,rfl,by omega,by unfold maxLen;omega,by simp⟩,HR1.out⟩
   go_wp2_with (first | (go_at_call 150;refine ((HF2 _ _).out hes (Below.refl _ _)).mono ?_;rintro r w1 ⟨rfl,hx1⟩))
   go_ret
   exact ⟨ret_int (by rw [HE.out];simp [own.fst2]),HX.trans hx1⟩
 by_cases o4:op=4
 ·obtain rfl:=o4
  have h3:=H3.out (by simp)
  obtain ⟨x,xs,rfl⟩:∃ x xs,l=x::xs:=by cases l with | nil=>simp at h3 | cons x xs=>exact ⟨x,xs,rfl⟩
  obtain ⟨b1,o1,s1,rfl,q1,q2⟩:=HHH.out x xs rfl
  have Q2:=Jh q2
  clear q2
  have g7:=HB 7 _ rfl
  go_wp2_with (first | ((with_reducible show Jl 31);refine Jm 31 (q1) agg_E rfl ?_) | (go_at_call 117;refine (Q2.out _ (Below.refl _ _)).mono ?_;rintro r w1 ⟨rfl,hx1⟩))
  all_goals go_ret
  ·exact ⟨ret_int (by rw [HE.out];simp [own.hd, *]),HX.trans hx1⟩
  ·exact ⟨ret_int (by rw [HE.out];simp [own.hd];omega),HX⟩
 by_cases o5:op=5
 ·obtain rfl:=o5
  have h3:=H3.out (by simp)
  obtain ⟨x,xs,rfl⟩:∃ x xs,l=x::xs:=by cases l with | nil=>simp at h3 | cons x xs=>exact ⟨x,xs,rfl⟩
  obtain ⟨b1,o1,s1,rfl,q1,q2⟩:=HHH.out x xs rfl
  have Q2:=Jh q2
  clear q2
  have g7:=HB 7 _ rfl
  go_wp2_with (first | ((with_reducible show Jl 31);refine Jm 31 (q1) agg_E rfl ?_) | (go_at_call 117;refine (Q2.out _ (Below.refl _ _)).mono ?_;rintro r w1 ⟨rfl,hx1⟩) | (go_at_call 150;refine ((HF _).out (Below.refl _ _)).mono ?_;rintro r w1 ⟨rfl,hx1⟩))
  all_goals go_ret
  ·exact ⟨ret_int (by rw [HE.out];simp [*]),HX.trans hx1⟩
  ·exact ⟨ret_int (by rw [HE.out];simp [own.hd, *];omega),HX.trans hx1⟩
  ·exact ⟨ret_int (by rw [HE.out];simp;omega),HX⟩
 by_cases o7:op=7
 ·obtain rfl:=o7
  have g7:=HB 7 _ rfl
  have HO:Hid (own ⟨7,wd,v,sig,hi,lo,n,l⟩=own.cat l 0):=Jh (by rw [HE.out];simp)
  go_wp2_with fail
  clear g0 g1 g4 g5 g6 g7
  go_loopw [3,5,6,27] (fun q _ _ i wr=>∃ k:Nat,∃ m:Int,k<=l.length/\i=.int .i64 k/\q=.int .i64 m/\0<=m/\m<=65*(sumBy nodes (l.take k):Nat)/\own.cat l 0=own.cat (l.drop k) m/\Ext w0 wr) (fun _ _ _ i _=>l.length-(intOf i).toNat)
  case atStart=>exact ⟨0,0,Nat.zero_le _,rfl,rfl,by omega,by simp [sumBy],rfl,Below.refl _ _⟩
  case round =>
   obtain ⟨k,m,hk,rfl,rfl,hm0,hm1,hno,hB⟩:=hrel
   have HNO:=Jh hno
   clear hno
   by_cases hlt:k<l.length
   ·obtain ⟨cs,he1,hn,he2⟩:=VE.get (HR.out.mono fun x _ b o h=>EAt.ext' (HX.trans hB) h) hlt
    obtain rfl:=HA.out (by omega)
    have hmem:l[k]∈l:=List.getElem_mem hlt
    have hle:=le_sumBy nodes l _ hmem
    have ht:=Jh (sumBy_take nodes l k hlt)
    have hle2:=sumBy_take_le nodes l (k+1)
    rw [ht.out] at hle2
    have HXX:=Jh (ext_alloc wr (.cells cs.toArray 31))
    have HBX:=Jh (Has.alloc wr cs 31)
    have HC:=Jh (IH.out _ hmem cs _ (he2.ext HXX.out) (H4.out _ hmem) (by omega))
    have HEE:=Jh (hB.trans HXX.out)
    have HS:=Jh (own.cat_zero l k m hlt)
    have HH:=Jh (own.cat_on l k m hlt)
    have hown:=own_le _ (H4.out _ hmem)
    generalize own l[k]=q at *
    generalize l[k]=xk at *
    by_cases hq:q=0
    ·have g1:(q==0)=true:=by rw [beq_iff_eq];exact hq
     have HQ:=Jh hq
     clear hq
     go_wp2_with (first | ((with_reducible show Jl 31);refine Jm 31 (he1) agg_E hn ?_) | ((with_reducible show Jl 31);refine Jm 31 (HBX.out) agg_E hn ?_) | ((with_reducible show Js 31);refine wpList_store_new rfl 31 _ _ rfl rfl (by first | rfl | simp) rfl agg_E (hn) rfl (he2.one) ?_) | (go_at_call 117;refine HC.out.mono ?_;rintro r w1 ⟨rfl,hx1⟩))
     go_ret
     exact ⟨ret_int (by rw [HO.out,HNO.out,HS.out HQ.out]),HX.trans (HEE.out.trans hx1)⟩
    ·have g1:(q==0)=false:=by rw [beq_eq_false_iff_ne];exact hq
     have HQ:=Jh hq
     clear hq
     go_wp2_with (first | ((with_reducible show Jl 31);refine Jm 31 (he1) agg_E hn ?_) | ((with_reducible show Jl 31);refine Jm 31 (HBX.out) agg_E hn ?_) | ((with_reducible show Js 31);refine wpList_store_new rfl 31 _ _ rfl rfl (by first | rfl | simp) rfl agg_E (hn) rfl (he2.one) ?_) | (go_at_call 117;refine HC.out.mono ?_;rintro r w1 ⟨rfl,hx1⟩))
     go_roundw
     case rel=>exact ⟨k+1,m+q,by omega,by go_num,rfl,by omega,by rw [ht.out];omega,by rw [HNO.out,HH.out HQ.out],HEE.out.trans hx1⟩
     case measure=>simp [intOf];omega
   ·go_wp2_with fail
    go_ret
    obtain rfl:k=l.length:=by omega
    exact ⟨ret_int (by rw [HO.out,HNO.out,List.drop_length];rfl),HX.trans hB⟩
 go_wp2_with fail
 go_ret
 exact ⟨ret_int (by rw [HE.out];simp [*]),HX⟩
theorem own_calls (e:E):OwnSaid e:=E.ind (P:=OwnSaid) (fun e ih=>own_step e ih) e
end Go.Proofs.YtpngepnfinbaoaaGreat
