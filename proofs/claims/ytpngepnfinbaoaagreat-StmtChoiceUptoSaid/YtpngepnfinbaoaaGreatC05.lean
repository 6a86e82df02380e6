/- Laws and walks that a claim of this seat leans on: SameD. -/
import Derived.Test.YtpngepnfinbaoaaGreatCSame
import Derived.Test.YtpngepnfinbaoaaGreatC03
import Derived.WalkSpells
import Derived.Deep.DeepCutAuto
import Derived.Deep.CutBlock
import Derived.Deep.QuietTactic
import Derived.BigQuiet
import Derived.Laws.StructEq
import Derived.Test.YtpngepnfinbaoaaGreatC00
set_option maxRecDepth 100000
set_option maxHeartbeats 8000000
set_option linter.all false
namespace Go.Proofs.YtpngepnfinbaoaaGreat
open Go.RowKit
/-! ### two statements are one -/
def eqT:T->T->Bool
 | ⟨op,sig,hi,lo,e,l⟩,t=>decide (op=t.op)&&decide (sig=t.sig)&&decide (hi=t.hi)&&decide (lo=t.lo)&&allEq2 eqE e t.e&&rows l t.l
where rows:List T->List T->Bool
 | [],[]=>true
 | x::l,y::r=>eqT x y&&rows l r
 | _,_=>false
theorem eqT.rows_eq (l r:List T):eqT.rows l r=allEq2 eqT l r:=by
 induction l generalizing r with
 | nil=>cases r<;>rfl
 | cons x l ih=>cases r with
  | nil=>rfl
  | cons y r=>simp [eqT.rows,allEq2,ih]
theorem eqT_eq (a b:T):eqT a b=(decide (a.op=b.op)&&decide (a.sig=b.sig)&&decide (a.hi=b.hi)&&decide (a.lo=b.lo)&&allEq2 eqE a.e b.e&&allEq2 eqT a.l b.l):=by
 cases a;simp [eqT,eqT.rows_eq]
theorem eqT_iff (a:T):∀ b,eqT a b=true↔a=b:=by
 induction a using T.ind with
 | h a ih =>
  intro b
  rw [eqT_eq]
  simp only [Bool.and_eq_true,decide_eq_true_eq,allEq2_iff eqT a.l b.l (fun x hx y=>ih x hx y),allEq2_iff eqE a.e b.e (fun x _ y=>eqE_iff x y)]
  cases a;cases b;simp [and_assoc]
theorem leads_sameT:Leads Tryz.prog 49:=leads_of Tryz.func49 (by kernel_rfl) rfl
theorem leads_Same1:Leads Tryz.prog 47:=leads_of Tryz.func47 (by kernel_rfl) rfl
theorem leads_Same2:Leads Tryz.prog 50:=leads_of Tryz.func50 (by kernel_rfl) rfl
def SameTSaid (x:T):Prop:=∀ (y:T) (cs cs':List Value) (w:World),VT w cs x->VT w cs' y ->
  Calls Tryz.prog 49 #[.agg cs.toArray,.agg cs'.toArray] w fun r w'=>r=.returned (.bool (eqT x y))/\Ext w w'
theorem sameT_step (x:T) (ih:∀ z∈x.l,SameTSaid z):SameTSaid x:=by
 intro y cs cs' w h h'
 have IH:=Jh ih
 clear ih
 obtain ⟨s,s2,rfl,hs,hs2⟩:=h
 obtain ⟨s',s2',rfl,hs',hs2'⟩:=h'
 have HE:=Jh (eqT_eq x y)
 have hX1:=ext_alloc w (.cells (x.cells s s2).toArray 39)
 have hX2:=ext_alloc (w.alloc (.cells (x.cells s s2).toArray 39)) (.cells (y.cells s' s2').toArray 39)
 have hb1:=(Has.alloc w (x.cells s s2) 39).ext hX2
 have hb2:=Has.alloc (w.alloc (.cells (x.cells s s2).toArray 39)) (y.cells s' s2') 39
 rw [World.size_alloc] at hb2
 have hX:=hX1.trans hX2
 have heq:=fun W (hx:Ext _ W)=>EqualFunc_E 51 eqE x.e y.e s s' W ((hs.ext hX).ext hx) ((hs'.ext hX).ext hx) leads_SameE
  (fun wr hx k hk hk' cs cs' h h'=>SameE_calls _ _ cs cs' wr h h')
 have heq2:=fun W (hx:Ext _ W)=>EqualFunc_T 49 eqT x.l y.l s2 s2' W ((hs2.ext hX).ext hx) ((hs2'.ext hX).ext hx) leads_sameT
  (fun wr hx k hk hk' cs cs' h h'=>IH.out _ (List.getElem_mem hk) _ cs cs' wr h h')
 clear hX1 hX2
 go_enter Tryz.func49,Tryz.ntmps49
 go_upto_region 1 with fail
 generalize (w.alloc _).alloc _=w0 at *
 have HQ:=Jh heq
 have HQ2:=Jh heq2
 have HB1:=Jh hb1
 have HB2:=Jh hb2
 clear heq heq2 hb1 hb2
 obtain ⟨op,sig,hi,lo,e,l⟩:=x
 obtain ⟨op',sig',hi',lo',e',l'⟩:=y
 have a0:=HB1.out 0 _ rfl
 have a1:=HB1.out 1 _ rfl
 have a2:=HB1.out 2 _ rfl
 have a3:=HB1.out 3 _ rfl
 have a4:=HB1.out 4 _ rfl
 have c0:=HB2.out 0 _ rfl
 have c1:=HB2.out 1 _ rfl
 have c2:=HB2.out 2 _ rfl
 have c3:=HB2.out 3 _ rfl
 have c4:=HB2.out 4 _ rfl
 obtain ⟨p0,h0⟩:∃ p,decide (op=op')=p:=⟨_,rfl⟩
 obtain ⟨p1,h1⟩:∃ p,decide (sig=sig')=p:=⟨_,rfl⟩
 obtain ⟨p2,h2⟩:∃ p,decide (hi=hi')=p:=⟨_,rfl⟩
 obtain ⟨p3,h3⟩:∃ p,decide (lo=lo')=p:=⟨_,rfl⟩
 obtain ⟨p4,h4⟩:∃ p,allEq2 eqE e e'=p:=⟨_,rfl⟩
 obtain ⟨p5,h5⟩:∃ p,allEq2 eqT l l'=p:=⟨_,rfl⟩
 have he:=HE.out
 simp only at he
 rw [h0,h1,h2,h3,h4,h5] at he
 simp only at HQ HQ2
 rw [h4] at HQ
 rw [h5] at HQ2
 have HE2:=Jh he
 have b0:(op==op')=p0:=by rw [<-h0,Bool.eq_iff_iff];simp
 have b1:(sig==sig')=p1:=by rw [<-h1,Bool.eq_iff_iff];simp
 have b2:(hi==hi')=p2:=by rw [<-h2,Bool.eq_iff_iff];simp
 have b3:(lo==lo')=p3:=by rw [<-h3,Bool.eq_iff_iff];simp
 clear he h0 h1 h2 h3 h4 h5 HE
 have fin:∀ (b:Bool) (W:World),(p0&&p1&&p2&&p3&&p4&&p5)=b->Ext w0 W->((Ending.returned (.bool b))=.returned (.bool (eqT ⟨op,sig,hi,lo,e,l⟩ ⟨op',sig',hi',lo',e',l'⟩))/\Ext w W):=by
  intro b W hb hx
  exact ⟨by rw [HE2.out,hb],hX.trans hx⟩
 have FIN:=Jh fin
 clear fin
 cases p0
 ·go_wp2_with fail
  all_goals go_ret
  all_goals exact FIN.out _ _ (by simp) (Below.refl _ _)
 cases p1
 ·go_wp2_with fail
  all_goals go_ret
  all_goals exact FIN.out _ _ (by simp) (Below.refl _ _)
 cases p2
 ·go_wp2_with fail
  all_goals go_ret
  all_goals exact FIN.out _ _ (by simp) (Below.refl _ _)
 cases p3
 ·go_wp2_with fail
  all_goals go_ret
  all_goals exact FIN.out _ _ (by simp) (Below.refl _ _)
 cases p4
 ·go_wp2_with (first | (go_at_call 91;refine (HQ.out _ (Below.refl _ _)).mono ?_;rintro r w1 ⟨rfl,hx1⟩))
  all_goals go_ret
  all_goals exact FIN.out _ _ (by simp) hx1
 ·go_wp2_with (first | (go_at_call 91;refine (HQ.out _ (Below.refl _ _)).mono ?_;rintro r w1 ⟨rfl,hx1⟩;have a5:=(HB1.out.ext hx1) 5 _ rfl;have c5:=(HB2.out.ext hx1) 5 _ rfl) | (go_at_call 48;refine (HQ2.out _ hx1).mono ?_;rintro r w2 ⟨rfl,hx2⟩))
  all_goals go_ret
  all_goals exact FIN.out _ _ (by simp) (hx1.trans hx2)
theorem sameT_calls (x:T):SameTSaid x:=T.ind (P:=SameTSaid) (fun x ih=>sameT_step x ih) x
/-! ### two processes, two checks -/
def eqP (p q:Proc):Bool:=(p.clocked==q.clocked)&&allEq2 eqT p.l q.l
def eqC (p q:Chk):Bool:=decide (p.name.toList=q.name.toList)&&eqE p.e q.e
theorem Same1_calls (x y:Proc) (cs cs':List Value) (w:World) (h:VProc w cs x) (h':VProc w cs' y) :
  Calls Tryz.prog 47 #[.agg cs.toArray,.agg cs'.toArray] w fun r w'=>r=.returned (.bool (eqP x y))/\Ext w w':=by
 obtain ⟨s,rfl,hs⟩:=h
 obtain ⟨s',rfl,hs'⟩:=h'
 have HE:=Jh (show eqP x y=_ from by unfold eqP;rfl)
 have hX1:=ext_alloc w (.cells (x.cells s).toArray 36)
 have hX2:=ext_alloc (w.alloc (.cells (x.cells s).toArray 36)) (.cells (y.cells s').toArray 36)
 have hb1:=(Has.alloc w (x.cells s) 36).ext hX2
 have hb2:=Has.alloc (w.alloc (.cells (x.cells s).toArray 36)) (y.cells s') 36
 rw [World.size_alloc] at hb2
 have hX:=hX1.trans hX2
 have heq:=fun W (hx:Ext _ W)=>EqualFunc_T 49 eqT x.l y.l s s' W ((hs.ext hX).ext hx) ((hs'.ext hX).ext hx) leads_sameT
  (fun wr hx k hk hk' cs cs' h h'=>sameT_calls _ _ cs cs' wr h h')
 clear hX1 hX2
 go_enter Tryz.func47,Tryz.ntmps47
 go_upto_region 1 with fail
 generalize (w.alloc _).alloc _=w0 at *
 have HQ:=Jh heq
 have a0:=hb1 0 _ rfl
 have a1:=hb1 1 _ rfl
 have c0:=hb2 0 _ rfl
 have c1:=hb2 1 _ rfl
 clear heq hb1 hb2
 obtain ⟨p0,h0⟩:∃ p,(x.clocked==y.clocked)=p:=⟨_,rfl⟩
 rw [h0] at HE
 cases p0
 ·go_wp2_with fail
  all_goals go_ret
  all_goals exact ⟨ret_bool (by rw [HE.out];rfl),hX⟩
 ·go_wp2_with (first | (go_at_call 48;refine (HQ.out _ (Below.refl _ _)).mono ?_;rintro r w1 ⟨rfl,hx1⟩))
  all_goals go_ret
  all_goals exact ⟨ret_bool (by rw [HE.out,Bool.true_and]),hX.trans hx1⟩
theorem Same2_calls (x y:Chk) (cs cs':List Value) (w:World) (h:VCheck w cs x) (h':VCheck w cs' y) :
  Calls Tryz.prog 50 #[.agg cs.toArray,.agg cs'.toArray] w fun r w'=>r=.returned (.bool (eqC x y))/\Ext w w':=by
 obtain ⟨s,rfl,hs⟩:=h
 obtain ⟨s',rfl,hs'⟩:=h'
 have HE:=Jh (show eqC x y=_ from by unfold eqC;rfl)
 have hX1:=ext_alloc w (.cells (x.cells s).toArray 99)
 have hX2:=ext_alloc (w.alloc (.cells (x.cells s).toArray 99)) (.cells (y.cells s').toArray 99)
 have hb1:=(Has.alloc w (x.cells s) 99).ext hX2
 have hb2:=Has.alloc (w.alloc (.cells (x.cells s).toArray 99)) (y.cells s') 99
 rw [World.size_alloc] at hb2
 have hX:=hX1.trans hX2
 have heq:=fun W (hx:Ext _ W)=>SameE_calls x.e y.e _ _ W ⟨s,rfl,(hs.ext hX).ext hx⟩ ⟨s',rfl,(hs'.ext hX).ext hx⟩
 clear hX1 hX2
 go_enter Tryz.func50,Tryz.ntmps50
 go_upto_region 1 with fail
 generalize (w.alloc _).alloc _=w0 at *
 have HQ:=Jh heq
 have a0:=hb1 0 _ rfl
 have c0:=hb2 0 _ rfl
 have T1:=Jh hb1.tail
 have T2:=Jh hb2.tail
 clear heq hb1 hb2
 by_cases hn:x.name.toList=y.name.toList
 ·go_wp2_with (first | ((with_reducible show Jl 31);refine Jm 31 (T1.out) agg_E rfl ?_) | ((with_reducible show Jl 31);refine Jm 31 (T2.out) agg_E rfl ?_) | (go_at_call 51;refine (HQ.out _ (Below.refl _ _)).mono ?_;rintro r w1 ⟨rfl,hx1⟩))
  all_goals go_ret
  all_goals exact ⟨ret_bool (by rw [HE.out];simp [hn]),hX.trans hx1⟩
 ·go_wp2_with (first | ((with_reducible show Jl 31);refine Jm 31 (T1.out) agg_E rfl ?_) | ((with_reducible show Jl 31);refine Jm 31 (T2.out) agg_E rfl ?_))
  all_goals go_ret
  all_goals exact ⟨ret_bool (by rw [HE.out];simp [hn]),hX⟩
theorem neq_signal (x:Signal) (w:World):(binOp .neq 50 (.agg x.cells.toArray) (.agg x.cells.toArray)).run Tryz.prog w=.ok (.bool false) w:=by
 have hS:Tryz.prog.underlying 50=some (.struct (Tryz.prog.fieldsOf 50)):=by kernel_rfl
 have hp:Tryz.prog.stoodInHeld 50=false:=by kernel_rfl
 have u3:=Tryz.underlying3
 have a3:=Tryz.isAgg3
 have z3:=Tryz.sizeOf3
 have u4:=Tryz.underlying28
 have a4:=Tryz.isAgg28
 have z4:=Tryz.sizeOf28
 have u5:=Tryz.underlying9
 have a5:=Tryz.isAgg9
 have z5:=Tryz.sizeOf9
 rw [run_neq_struct,show (10000:Nat)=9999+1 from rfl,run_equalIn_agg w 9999 _ _ _ hS hp]
 simp only [Program.fieldsOf,Tryz.underlying50]
 go_simp
theorem exec_neq_signal {o:Oper} {a:Act} {p q:Operand} {ty:TypeId} (ho:o.op=.binOp .neq 50 p q ty) (x:Signal) (hp:a.eval p=.agg x.cells.toArray) (hq:a.eval q=.agg x.cells.toArray) (W:World) :
  (execOp a.eval o).run Tryz.prog W=.ok (.value (.bool false)) W:=by
 have hg:=run_eqGuard_agg (P:=Tryz.prog) W .neq 50 p q x.cells.toArray x.cells.toArray (by kernel_rfl)
 unfold execOp
 simp only [ho,hp,hq,Sem.run_bind,hg,Result.andThen_ok,neq_signal x W,Sem.run_pure]
/-! ### the signals' copy, and two lists of them that are one -/
theorem SignalsEqual_calls (l:List Signal) (s s':Value) (w:World) (h:Sigs w s l) (h':Sigs w s' l) :
  Calls Tryz.prog 52 #[s,s'] w fun r w'=>r=.returned (.bool true)/\Ext w w':=by
 obtain ⟨a,b,o,cap,hs,hc1,hc2,ha,hr⟩:=h.open
 obtain ⟨a',b',o',cap',hs',hc1',hc2',ha',hr'⟩:=h'.open
 subst hs
 subst hs'
 have HR:=Jh hr
 have HR':=Jh hr'
 have HA:=Jh ha
 have HA':=Jh ha'
 clear h h' hr hr' ha ha'
 have hneq:(((l.length:Nat):Int) != ((l.length:Nat):Int))=false:=by simp
 go_enter Tryz.func52,Tryz.ntmps52
 go_wp2_with fail
 go_loopw [5,13] (fun _ i wr=>∃ k:Nat,k<=l.length/\i=.int .i64 k/\Ext w wr) (fun _ i _=>l.length-(intOf i).toNat)
 case atStart=>exact ⟨0,Nat.zero_le _,rfl,Below.refl _ _⟩
 case round =>
  obtain ⟨k,hk,rfl,hB⟩:=hrel
  by_cases hlt:k<l.length
  ·have he:=Sigs.get (HR.out.mono fun x _ b o h=>SigAt.ext' hB h) hlt
   have he':=Sigs.get (HR'.out.mono fun x _ b o h=>SigAt.ext' hB h) hlt
   obtain rfl:=HA.out (by omega)
   obtain rfl:=HA'.out (by omega)
   have hall:∀ W,Ext w W->Has W b (o+k*4) l[k].cells:=fun W hx=>Sigs.get (HR.out.mono fun x _ b o h=>SigAt.ext' hx h) hlt
   have hall':∀ W,Ext w W->Has W b' (o'+k*4) l[k].cells:=fun W hx=>Sigs.get (HR'.out.mono fun x _ b o h=>SigAt.ext' hx h) hlt
   have HL:=Jh hall
   have HL':=Jh hall'
   clear hall hall' he he'
   generalize l[k]=x at *
   go_upto_region 6 with fail
   refine wp_region_held_drew (S:=fun W=>Ext w W) (by kernel_rfl) hB.drew (fun hH=>?_)
   (refine Jt 0 (_) rfl (yif_load1 rfl fun _ _=>rfl) hH ?_;try simp only [J])
   (refine Jt 1 (_) rfl (yif_load1 rfl fun _ _=>rfl) hH ?_;try simp only [J])
   (refine Jt 2 (.pointer (some ⟨b,o+k*4,Option.none⟩)) rfl (yif_load1 rfl (by intro W hW;go_simp)) hH ?_;try simp only [J])
   (refine Jt 3 (.agg x.cells.toArray) rfl (yif_load rfl 50 _ rfl rfl (fun W hW=>HL.out W hW) agg_Signal rfl) hH ?_;try simp only [J])
   (refine Jt 4 (_) rfl (yif_load1 rfl fun _ _=>rfl) hH ?_;try simp only [J])
   (refine Jt 5 (_) rfl (yif_load1 rfl fun _ _=>rfl) hH ?_;try simp only [J])
   (refine Jt 6 (.pointer (some ⟨b',o'+k*4,Option.none⟩)) rfl (yif_load1 rfl (by intro W hW;go_simp)) hH ?_;try simp only [J])
   (refine Jt 7 (.agg x.cells.toArray) rfl (yif_load rfl 50 _ rfl rfl (fun W hW=>HL'.out W hW) agg_Signal rfl) hH ?_;try simp only [J])
   (refine Jt 8 (.bool false) rfl (yif_load1 rfl (fun W _=>exec_neq_signal rfl x rfl rfl W)) hH ?_;try simp only [J])
   refine Jz ?_
   go_wp2_with fail
   go_roundw
   case rel=>exact ⟨k+1,by omega,by go_num,hH⟩
   case measure=>simp [intOf];omega
  ·go_wp2_with fail
   go_ret
   exact ⟨rfl,hB⟩
end Go.Proofs.YtpngepnfinbaoaaGreat
