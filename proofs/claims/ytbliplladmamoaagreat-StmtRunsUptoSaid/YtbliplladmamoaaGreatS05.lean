/- Laws and walks that a claim of this seat leans on: SameD. -/
import Derived.Test.YtbliplladmamoaaGreatSSame
import Derived.Test.YtbliplladmamoaaGreatS03
import Derived.WalkSpells
import Derived.Deep.DeepCutAuto
import Derived.Deep.CutBlock
import Derived.Deep.QuietTactic
import Derived.BigQuiet
import Derived.Laws.StructEq
import Derived.Test.YtbliplladmamoaaGreatS00
set_option maxRecDepth 100000
set_option maxHeartbeats 8000000
set_option linter.all false
namespace Go.Proofs.YtbliplladmamoaaGreat
open Go.RowKit
/-! ### two statements are one -/
def eqT:T->T->Bool
 | ⟨op,sig,hi,lo,e,l⟩,t=>decide (op=t.op)&&decide (sig=t.sig)&&decide (hi=t.hi)&&decide (lo=t.lo)&&Bg eqE e t.e&&rows l t.l
where rows:List T->List T->Bool
 | [],[]=>true
 | x::l,y::r=>eqT x y&&rows l r
 | _,_=>false
theorem eqT.rows_eq (l r:List T):eqT.rows l r=Bg eqT l r:=by
 induction l generalizing r with
 | nil=>cases r<;>rfl
 | cons x l ih=>cases r with
  | nil=>rfl
  | cons y r=>simp [eqT.rows,Bg,ih]
theorem Adv (a b:T):eqT a b=(decide (a.op=b.op)&&decide (a.sig=b.sig)&&decide (a.hi=b.hi)&&decide (a.lo=b.lo)&&Bg eqE a.e b.e&&Bg eqT a.l b.l):=by
 cases a;simp [eqT,eqT.rows_eq]
theorem Aa6 (a:T):∀ b,eqT a b=true↔a=b:=by
 induction a using T.ind with
 | h a ih =>
  intro b
  rw [Adv]
  simp only [Bool.and_eq_true,decide_eq_true_eq,G0 eqT a.l b.l (fun x hx y=>ih x hx y),G0 eqE a.e b.e (fun x _ y=>Kq x y)]
  cases a;cases b;simp [and_assoc]
theorem Pr:Bj Tryz.prog 63:=A9 Tryz.func63 (by kernel_rfl) rfl
theorem Yi:Bj Tryz.prog 61:=A9 Tryz.func61 (by kernel_rfl) rfl
theorem Yj:Bj Tryz.prog 64:=A9 Tryz.func64 (by kernel_rfl) rfl
def Me (x:T):Prop:=∀ (y:T) (cs cs':List Value) (w:World),VT w cs x->VT w cs' y ->
  Calls Tryz.prog 63 #[.agg cs.toArray,.agg cs'.toArray] w fun r w'=>r=.returned (.bool (eqT x y))/\Ext w w'
theorem Aam (x:T) (ih:∀ z∈x.l,Me z):Me x:=by
 intro y cs ae w h h'
 have IH:=Jh ih
 clear ih
 obtain ⟨s,s2,rfl,hs,ay⟩:=h
 obtain ⟨s',an,rfl,ax,au⟩:=h'
 have HE:=Jh (Adv x y)
 have ap:=Ab w (.cells (x.cells s s2).toArray 44)
 have ai:=Ab (w.alloc (.cells (x.cells s s2).toArray 44)) (.cells (y.cells s' an).toArray 44)
 have aq:=(Has.alloc w (x.cells s s2) 44).ext ai
 have aj:=Has.alloc (w.alloc (.cells (x.cells s s2).toArray 44)) (y.cells s' an) 44
 rw [World.size_alloc] at aj
 have hX:=ap.trans ai
 have ar:=fun W (hx:Ext _ W)=>Pg 65 eqE x.e y.e s s' W ((hs.ext hX).ext hx) ((ax.ext hX).ext hx) Pq
  (fun wr hx k hk aw cs ae h h'=>Ia _ _ cs ae wr h h')
 have af:=fun W (hx:Ext _ W)=>Ph 63 eqT x.l y.l s2 an W ((ay.ext hX).ext hx) ((au.ext hX).ext hx) Pr
  (fun wr hx k hk aw cs ae h h'=>IH.out _ (List.getElem_mem hk) _ cs ae wr h h')
 clear ap ai
 go_enter Tryz.func63,Tryz.ntmps63
 go_upto_region 1 with fail
 generalize (w.alloc _).alloc _=w0 at *
 have HQ:=Jh ar
 have ag:=Jh af
 have u:=Jh aq
 have aa:=Jh aj
 clear ar af aq aj
 obtain ⟨op,sig,hi,lo,e,l⟩:=x
 obtain ⟨am,ac,ak,al,e',l'⟩:=y
 have a0:=u.out 0 _ rfl
 have a1:=u.out 1 _ rfl
 have a2:=u.out 2 _ rfl
 have a3:=u.out 3 _ rfl
 have a4:=u.out 4 _ rfl
 have c0:=aa.out 0 _ rfl
 have c1:=aa.out 1 _ rfl
 have c2:=aa.out 2 _ rfl
 have c3:=aa.out 3 _ rfl
 have c4:=aa.out 4 _ rfl
 obtain ⟨p0,h0⟩:∃ p,decide (op=am)=p:=⟨_,rfl⟩
 obtain ⟨p1,h1⟩:∃ p,decide (sig=ac)=p:=⟨_,rfl⟩
 obtain ⟨p2,h2⟩:∃ p,decide (hi=ak)=p:=⟨_,rfl⟩
 obtain ⟨p3,h3⟩:∃ p,decide (lo=al)=p:=⟨_,rfl⟩
 obtain ⟨p4,h4⟩:∃ p,Bg eqE e e'=p:=⟨_,rfl⟩
 obtain ⟨p5,h5⟩:∃ p,Bg eqT l l'=p:=⟨_,rfl⟩
 have he:=HE.out
 simp only at he
 rw [h0,h1,h2,h3,h4,h5] at he
 simp only at HQ ag
 rw [h4] at HQ
 rw [h5] at ag
 have av:=Jh he
 have b0:(op==am)=p0:=by rw [<-h0,Bool.eq_iff_iff];simp
 have b1:(sig==ac)=p1:=by rw [<-h1,Bool.eq_iff_iff];simp
 have b2:(hi==ak)=p2:=by rw [<-h2,Bool.eq_iff_iff];simp
 have b3:(lo==al)=p3:=by rw [<-h3,Bool.eq_iff_iff];simp
 clear he h0 h1 h2 h3 h4 h5 HE
 have ao:∀ (b:Bool) (W:World),(p0&&p1&&p2&&p3&&p4&&p5)=b->Ext w0 W->((Ending.returned (.bool b))=.returned (.bool (eqT ⟨op,sig,hi,lo,e,l⟩ ⟨am,ac,ak,al,e',l'⟩))/\Ext w W):=by
  intro b W hb hx
  exact ⟨by rw [av.out,hb],hX.trans hx⟩
 have j:=Jh ao
 clear ao
 cases p0
 ·go_wp2_with fail
  all_goals go_ret
  all_goals exact j.out _ _ (by simp) (Below.refl _ _)
 cases p1
 ·go_wp2_with fail
  all_goals go_ret
  all_goals exact j.out _ _ (by simp) (Below.refl _ _)
 cases p2
 ·go_wp2_with fail
  all_goals go_ret
  all_goals exact j.out _ _ (by simp) (Below.refl _ _)
 cases p3
 ·go_wp2_with fail
  all_goals go_ret
  all_goals exact j.out _ _ (by simp) (Below.refl _ _)
 cases p4
 ·go_wp2_with (first | (go_at_call 99;refine (HQ.out _ (Below.refl _ _)).mono ?_;rintro r w1 ⟨rfl,ab⟩))
  all_goals go_ret
  all_goals exact j.out _ _ (by simp) ab
 ·go_wp2_with (first | (go_at_call 99;refine (HQ.out _ (Below.refl _ _)).mono ?_;rintro r w1 ⟨rfl,ab⟩;have a5:=(u.out.ext ab) 5 _ rfl;have c5:=(aa.out.ext ab) 5 _ rfl) | (go_at_call 62;refine (ag.out _ ab).mono ?_;rintro r w2 ⟨rfl,az⟩))
  all_goals go_ret
  all_goals exact j.out _ _ (by simp) (ab.trans az)
theorem Y2 (x:T):Me x:=T.ind (P:=Me) (fun x ih=>Aam x ih) x
/-! ### two processes, two checks -/
def eqP (p q:C0):Bool:=(p.clocked==q.clocked)&&Bg eqT p.l q.l
def eqC (p q:Chk):Bool:=decide (p.name.toList=q.name.toList)&&eqE p.e q.e
theorem Xf (x y:C0) (cs j:List Value) (w:World) (h:C9 w cs x) (h':C9 w j y) :
  Calls Tryz.prog 61 #[.agg cs.toArray,.agg j.toArray] w fun r w'=>r=.returned (.bool (eqP x y))/\Ext w w':=by
 obtain ⟨s,rfl,hs⟩:=h
 obtain ⟨s',rfl,af⟩:=h'
 have HE:=Jh (show eqP x y=_ from by unfold eqP;rfl)
 have ac:=Ab w (.cells (x.cells s).toArray 48)
 have aa:=Ab (w.alloc (.cells (x.cells s).toArray 48)) (.cells (y.cells s').toArray 48)
 have ab:=(Has.alloc w (x.cells s) 48).ext aa
 have u:=Has.alloc (w.alloc (.cells (x.cells s).toArray 48)) (y.cells s') 48
 rw [World.size_alloc] at u
 have hX:=ac.trans aa
 have ae:=fun W (hx:Ext _ W)=>Ph 63 eqT x.l y.l s s' W ((hs.ext hX).ext hx) ((af.ext hX).ext hx) Pr
  (fun wr hx k hk ai cs j h h'=>Y2 _ _ cs j wr h h')
 clear ac aa
 go_enter Tryz.func61,Tryz.ntmps61
 go_upto_region 1 with fail
 generalize (w.alloc _).alloc _=w0 at *
 have HQ:=Jh ae
 have a0:=ab 0 _ rfl
 have a1:=ab 1 _ rfl
 have c0:=u 0 _ rfl
 have c1:=u 1 _ rfl
 clear ae ab u
 obtain ⟨p0,h0⟩:∃ p,(x.clocked==y.clocked)=p:=⟨_,rfl⟩
 rw [h0] at HE
 cases p0
 ·go_wp2_with fail
  all_goals go_ret
  all_goals exact ⟨Af (by rw [HE.out];rfl),hX⟩
 ·go_wp2_with (first | (go_at_call 62;refine (HQ.out _ (Below.refl _ _)).mono ?_;rintro r w1 ⟨rfl,ag⟩))
  all_goals go_ret
  all_goals exact ⟨Af (by rw [HE.out,Bool.true_and]),hX.trans ag⟩
theorem Xg (x y:Chk) (cs ab:List Value) (w:World) (h:Cf w cs x) (h':Cf w ab y) :
  Calls Tryz.prog 64 #[.agg cs.toArray,.agg ab.toArray] w fun r w'=>r=.returned (.bool (eqC x y))/\Ext w w':=by
 obtain ⟨s,rfl,hs⟩:=h
 obtain ⟨s',rfl,af⟩:=h'
 have HE:=Jh (show eqC x y=_ from by unfold eqC;rfl)
 have ac:=Ab w (.cells (x.cells s).toArray 96)
 have u:=Ab (w.alloc (.cells (x.cells s).toArray 96)) (.cells (y.cells s').toArray 96)
 have aa:=(Has.alloc w (x.cells s) 96).ext u
 have j:=Has.alloc (w.alloc (.cells (x.cells s).toArray 96)) (y.cells s') 96
 rw [World.size_alloc] at j
 have hX:=ac.trans u
 have ae:=fun W (hx:Ext _ W)=>Ia x.e y.e _ _ W ⟨s,rfl,(hs.ext hX).ext hx⟩ ⟨s',rfl,(af.ext hX).ext hx⟩
 clear ac u
 go_enter Tryz.func64,Tryz.ntmps64
 go_upto_region 1 with fail
 generalize (w.alloc _).alloc _=w0 at *
 have HQ:=Jh ae
 have a0:=aa 0 _ rfl
 have c0:=j 0 _ rfl
 have T1:=Jh aa.tail
 have T2:=Jh j.tail
 clear ae aa j
 by_cases hn:x.name.toList=y.name.toList
 ·go_wp2_with (first | ((with_reducible show Jl 40);refine Aa rfl 40 _ rfl rfl (T1.out) Ah rfl ?_) | ((with_reducible show Jl 40);refine Aa rfl 40 _ rfl rfl (T2.out) Ah rfl ?_) | (go_at_call 65;refine (HQ.out _ (Below.refl _ _)).mono ?_;rintro r w1 ⟨rfl,ag⟩))
  all_goals go_ret
  all_goals exact ⟨Af (by rw [HE.out];simp [hn]),hX.trans ag⟩
 ·go_wp2_with (first | ((with_reducible show Jl 40);refine Aa rfl 40 _ rfl rfl (T1.out) Ah rfl ?_) | ((with_reducible show Jl 40);refine Aa rfl 40 _ rfl rfl (T2.out) Ah rfl ?_))
  all_goals go_ret
  all_goals exact ⟨Af (by rw [HE.out];simp [hn]),hX⟩
theorem Aad (x:Ai) (w:World):(binOp .neq 37 (.agg x.cells.toArray) (.agg x.cells.toArray)).run Tryz.prog w=.ok (.bool false) w:=by
 have hS:Tryz.prog.underlying 37=some (.struct (Tryz.prog.fieldsOf 37)):=by kernel_rfl
 have hp:Tryz.prog.stoodInHeld 37=false:=by kernel_rfl
 have u3:=Tryz.underlying3
 have a3:=Tryz.isAgg3
 have z3:=Tryz.sizeOf3
 have u4:=Tryz.underlying35
 have a4:=Tryz.isAgg35
 have z4:=Tryz.sizeOf35
 have u5:=Tryz.underlying9
 have a5:=Tryz.isAgg9
 have z5:=Tryz.sizeOf9
 rw [run_neq_struct,show (10000:Nat)=9999+1 from rfl,run_equalIn_agg w 9999 _ _ _ hS hp]
 simp only [Program.fieldsOf,Tryz.underlying37]
 go_simp
theorem La {o:Oper} {a:Act} {p q:Operand} {ty:TypeId} (ho:o.op=.binOp .neq 37 p q ty) (x:Ai) (hp:a.eval p=.agg x.cells.toArray) (hq:a.eval q=.agg x.cells.toArray) (W:World) :
  (execOp a.eval o).run Tryz.prog W=.ok (.value (.bool false)) W:=by
 have hg:=run_eqGuard_agg (P:=Tryz.prog) W .neq 37 p q x.cells.toArray x.cells.toArray (by kernel_rfl)
 unfold execOp
 simp only [ho,hp,hq,Sem.run_bind,hg,Result.andThen_ok,Aad x W,Sem.run_pure]
/-! ### the signals' copy, and two lists of them that are one -/
theorem Na (l:List Ai) (s s':Value) (w:World) (h:Cq w s l) (h':Cq w s' l) :
  Calls Tryz.prog 66 #[s,s'] w fun r w'=>r=.returned (.bool true)/\Ext w w':=by
 obtain ⟨a,b,o,cap,hs,ao,ap,ha,hr⟩:=h.open
 obtain ⟨a',b',o',ak,aj,al,am,ac,ae⟩:=h'.open
 subst hs
 subst aj
 have HR:=Jh hr
 have ab:=Jh ae
 have HA:=Jh ha
 have af:=Jh ac
 clear h h' hr ae ha ac
 have an:(((l.length:Nat):Int) != ((l.length:Nat):Int))=false:=by simp
 go_enter Tryz.func66,Tryz.ntmps66
 go_wp2_with fail
 go_loopw [5,13] (fun _ i wr=>∃ k:Nat,k<=l.length/\i=.int .i64 k/\Ext w wr) (fun _ i _=>l.length-(intOf i).toNat)
 case atStart=>exact ⟨0,Nat.zero_le _,rfl,Below.refl _ _⟩
 case round =>
  obtain ⟨k,hk,rfl,hB⟩:=hrel
  by_cases u:k<l.length
  ·have he:=Cq.get (HR.out.mono fun x _ b o h=>C6.ext' hB h) u
   have ai:=Cq.get (ab.out.mono fun x _ b o h=>C6.ext' hB h) u
   obtain rfl:=HA.out (by omega)
   obtain rfl:=af.out (by omega)
   have aa:∀ W,Ext w W->Has W b (o+k*4) l[k].cells:=fun W hx=>Cq.get (HR.out.mono fun x _ b o h=>C6.ext' hx h) u
   have j:∀ W,Ext w W->Has W b' (o'+k*4) l[k].cells:=fun W hx=>Cq.get (ab.out.mono fun x _ b o h=>C6.ext' hx h) u
   have HL:=Jh aa
   have ag:=Jh j
   clear aa j he ai
   generalize l[k]=x at *
   go_upto_region 6 with fail
   refine wp_region_held_drew (S:=fun W=>Ext w W) (by kernel_rfl) hB.drew (fun hH=>?_)
   (refine Ji 0 _ rfl hH ?_;try simp only [J])
   (refine Ji 1 _ rfl hH ?_;try simp only [J])
   (refine Jt 2 (.pointer (some ⟨b,o+k*4,Option.none⟩)) rfl (yif_load1 rfl (by intro W hW;go_simp)) hH ?_;try simp only [J])
   (refine Jt 3 (.agg x.cells.toArray) rfl (Ar rfl 37 _ rfl rfl (fun W hW=>HL.out W hW) Br rfl) hH ?_;try simp only [J])
   (refine Ji 4 _ rfl hH ?_;try simp only [J])
   (refine Ji 5 _ rfl hH ?_;try simp only [J])
   (refine Jt 6 (.pointer (some ⟨b',o'+k*4,Option.none⟩)) rfl (yif_load1 rfl (by intro W hW;go_simp)) hH ?_;try simp only [J])
   (refine Jt 7 (.agg x.cells.toArray) rfl (Ar rfl 37 _ rfl rfl (fun W hW=>ag.out W hW) Br rfl) hH ?_;try simp only [J])
   (refine Jt 8 (.bool false) rfl (yif_load1 rfl (fun W _=>La rfl x rfl rfl W)) hH ?_;try simp only [J])
   refine Jz ?_
   go_wp2_with fail
   go_roundw
   case rel=>exact ⟨k+1,by omega,by go_num,hH⟩
   case measure=>simp [intOf];omega
  ·go_wp2_with fail
   go_ret
   exact ⟨rfl,hB⟩
end Go.Proofs.YtbliplladmamoaaGreat
