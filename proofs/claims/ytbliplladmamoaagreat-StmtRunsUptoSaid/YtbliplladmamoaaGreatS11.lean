/- Laws and walks that a claim of this seat leans on: Shaped. -/
import Derived.Test.YtbliplladmamoaaGreatS10
import Derived.Test.YtbliplladmamoaaGreatSSigs
import Derived.Laws.EntriesVeiled
import Derived.Test.YtbliplladmamoaaGreatS00
set_option maxRecDepth 100000
set_option maxHeartbeats 8000000
set_option linter.all false
namespace Go.Proofs.YtbliplladmamoaaGreat
open Go.RowKit
theorem Has.pre {w:World} {b o:Nat} {cs ds:List Value} (h:Has w b o (cs++ds)):Has w b o cs:=fun j u hj=>h j u (by rw [List.getElem?_append_left (List.getElem?_eq_some_iff.1 hj).1];exact hj)
theorem Se:Bj Tryz.prog 89:=A9 Tryz.func89 (by kernel_rfl) rfl
theorem Sf:Bj Tryz.prog 91:=A9 Tryz.func91 (by kernel_rfl) rfl
theorem Yk:Bj Tryz.prog 56:=A9 Tryz.func56 (by kernel_rfl) rfl
theorem So (ls:List Ai) (p:C0) (sl:Value) (N M:Nat) (cs:List Value) (w:World) (hS:Cq w sl ls) (hN:Has w N 0 [sl]) (hM:Has w M 0 [.func (.func 87) #[] #[.pointer (some ⟨N,0,none⟩)]])
  (hV:C9 w cs p) (ae:∀ t∈p.l,t.wf) :
  Calls Tryz.prog 89 #[.agg cs.toArray,.pointer (some ⟨M,0,none⟩)] w fun r w'=>r=.returned (.bool (p.l.any fun t=>!An ls t))/\Ext w w':=by
 have HX:=Jh (Ab w (.cells cs.toArray 48))
 have hb:=Has.alloc w cs 48
 have hm:=(hM.ext HX.out) 0 _ rfl
 have HV:=Jh (hV.ext HX.out)
 obtain ⟨s,rfl,hs⟩:=hV
 have g1:=hb 1 _ rfl
 have HT:∀ W,Hid (Ext w W->Calls Tryz.prog 90 #[s,.func (.func 87) #[] #[.pointer (some ⟨N,0,none⟩)]] W fun r w'=>r=.returned (.bool (p.l.any fun t=>!An ls t))/\Ext W w'):=by
  intro W
  refine Jh fun hx=>?_
  refine Ht 87 #[.pointer (some ⟨N,0,none⟩)] (fun x=>!An ls x) p.l _ W (hs.ext hx) Sd ?_
  intro W' ab j hj cs aa
  have h6:cs.length=6:=by obtain ⟨s,s',rfl,-⟩:=aa;rfl
  exact Sn _ N cs h6 W' ((hN.ext hx).ext ab) (An ls p.l[j]) fun ac u=>Vu ls _ _ _ ac (hS.ext ((hx.trans ab).trans u)) (aa.ext u) (ae _ (List.getElem_mem hj))
 go_enter Tryz.func89,Tryz.ntmps89
 go_wp2_with (first | (go_at_call 90;refine ((HT _).out HX.out).mono ?_;rintro r w1 ⟨rfl,af⟩))
 go_ret
 exact ⟨rfl,HX.out.trans af⟩
theorem Sp (ls:List Ai) (c:Chk) (sl:Value) (N:Nat) (cs:List Value) (w:World) (hS:Cq w sl ls) (hN:Has w N 0 [sl]) (hV:Cf w cs c) (u:c.e.wf) :
  Calls Tryz.prog 91 #[.agg cs.toArray,.pointer (some ⟨N,0,none⟩)] w fun r w'=>r=.returned (.bool (!A7 ls c.e))/\Ext w w':=by
 have HX:=Jh (Ab w (.cells cs.toArray 96))
 have hb:=Has.alloc w cs 96
 have hm:=(hN.ext HX.out) 0 _ rfl
 obtain ⟨s,rfl,hs⟩:=hV
 have j:=hb.tail
 have HE:∀ W,Hid (Ext w W->Calls Tryz.prog 92 #[sl,.agg (c.e.cells s).toArray] W fun r w'=>r=.returned (.bool (A7 ls c.e))/\Ext W w') :=
  fun W=>Jh fun hx=>Ii ls c.e u _ _ W (hS.ext hx) ⟨s,rfl,hs.ext hx⟩
 go_enter Tryz.func91,Tryz.ntmps91
 go_wp2_with (first | ((with_reducible show Jl 40);refine Aa rfl 40 _ rfl rfl (j) Ah rfl ?_) | (go_at_call 92;refine ((HE _).out HX.out).mono ?_;rintro r w1 ⟨rfl,aa⟩))
 all_goals go_ret
 all_goals exact ⟨rfl,HX.out.trans aa⟩
theorem Xj (x:Ai) (w:World) (j:x.wf) :
  Calls Tryz.prog 56 #[.agg x.cells.toArray] w fun r w'=>r=.returned (.bool (!holds x.w x.init))/\Ext w w':=by
 have HX:=Jh (Ab w (.cells x.cells.toArray 37))
 have hb:=Has.alloc w x.cells 37
 have g1:=hb 1 _ rfl
 have g3:=hb 3 _ rfl
 go_enter Tryz.func56,Tryz.ntmps56
 go_wp2_with (first | (go_at_call 57;refine (Ie _ _ _ j.2.2.1).mono ?_;rintro r w1 ⟨rfl,rfl⟩))
 all_goals go_ret
 all_goals exact ⟨rfl,HX.out⟩
def C4 (d:Bb):Bool :=
 Cp [[]] d.signals&&!(d.procs.any fun p=>p.l.any fun t=>!An d.signals t)&&!(d.checks.any fun c=>!A7 d.signals c.e)
theorem Vv (d:Bb) (v:Value) (w:World) (h:Ck w v d) (am:d.wf) (hl:d.signals.length<=1048576) :
  Calls Tryz.prog 54 #[v] w fun r w'=>r=.returned (.bool (C4 d))/\Ext w w':=by
 obtain ⟨sv,pv,cv,rfl,hS,hP,hC⟩:=h
 have HM:=Jh (show C4 d=_ from by unfold C4;rfl)
 have HS:=Jh hS
 have HP:=Jh hP
 have HC:=Jh hC
 obtain ⟨xs,bs,os,ae,e1,-,-,-,-⟩:=hS.open
 obtain ⟨ap,bp,op,ab,e2,-,-,-,-⟩:=hP.open
 obtain ⟨ac,bc,oc,aa,e3,-,-,-,-⟩:=hC.open
 subst e1;subst e2;subst e3
 clear hS hP hC
 obtain ⟨fo,aw⟩:∃ fo:Value,fo=.func (.func 87) #[] #[.pointer (some ⟨w.heap.size,0,none⟩)]:=⟨_,rfl⟩
 have HX:=Jh ((Ab w (.cells [.slice xs d.signals.length ae,.slice ap d.procs.length ab,.slice ac d.checks.length aa].toArray 26)).alloc (.cells [fo].toArray 87))
 have ao:=(Has.alloc w [.slice xs d.signals.length ae,.slice ap d.procs.length ab,.slice ac d.checks.length aa] 26).ext (Ab _ (.cells [fo].toArray 87))
 have ak:=Has.alloc (w.alloc (.cells [.slice xs d.signals.length ae,.slice ap d.procs.length ab,.slice ac d.checks.length aa].toArray 26)) [fo] 87
 simp only [World.size_alloc] at ak
 subst aw
 go_enter Tryz.func54,Tryz.ntmps54
 go_upto_region 2 with fail
 generalize (w.alloc _).alloc _=w0 at *
 have HB:=Jh ao
 have av:=Jh ak
 clear ao ak
 have ai:∀ W,Hid (Ext w0 W->Calls Tryz.prog 93 #[.slice xs d.signals.length ae] W fun r w'=>r=.returned (.bool (Cp [[]] d.signals))/\Ext W w') :=
  fun W=>Jh fun hx=>M4 _ _ W (HS.out.ext (HX.out.trans hx)) am.signals hl
 have aj:∀ W,Hid (Ext w0 W->Calls Tryz.prog 94 #[.slice ap d.procs.length ab,.func (.func 89) #[] #[.pointer (some ⟨w.heap.size+1,0,none⟩)]] W
   fun r w'=>r=.returned (.bool (d.procs.any fun p=>p.l.any fun t=>!An d.signals t))/\Ext W w'):=by
  intro W
  refine Jh fun hx=>?_
  refine Nz 89 #[.pointer (some ⟨w.heap.size+1,0,none⟩)] _ d.procs _ W (HP.out.ext (HX.out.trans hx)) Se ?_
  intro W' af j hj cs al
  exact So d.signals d.procs[j] _ w.heap.size (w.heap.size+1) cs W' (HS.out.ext ((HX.out.trans hx).trans af)) ((Has.pre (ds:=[.slice ap d.procs.length ab,.slice ac d.checks.length aa]) HB.out).ext (hx.trans af)) (av.out.ext (hx.trans af)) al (am.procs _ (List.getElem_mem hj))
 have an:∀ W,Hid (Ext w0 W->Calls Tryz.prog 95 #[.slice ac d.checks.length aa,.func (.func 91) #[] #[.pointer (some ⟨w.heap.size,0,none⟩)]] W
   fun r w'=>r=.returned (.bool (d.checks.any fun c=>!A7 d.signals c.e))/\Ext W w'):=by
  intro W
  refine Jh fun hx=>?_
  refine M6 91 #[.pointer (some ⟨w.heap.size,0,none⟩)] (fun c=>!A7 d.signals c.e) d.checks _ W (HC.out.ext (HX.out.trans hx)) Sf ?_
  intro W' af j hj cs al
  exact Sp d.signals d.checks[j] _ w.heap.size cs W' (HS.out.ext ((HX.out.trans hx).trans af)) ((Has.pre (ds:=[.slice ap d.procs.length ab,.slice ac d.checks.length aa]) HB.out).ext (hx.trans af)) al (am.checks _ (List.getElem_mem hj))
 have g0:=HB.out 0 _ rfl
 obtain ⟨p1,aq⟩:∃ p,Cp [[]] d.signals=p:=⟨_,rfl⟩
 obtain ⟨p2,ar⟩:∃ p,(d.procs.any fun p=>p.l.any fun t=>!An d.signals t)=p:=⟨_,rfl⟩
 obtain ⟨p3,au⟩:∃ p,(d.checks.any fun c=>!A7 d.signals c.e)=p:=⟨_,rfl⟩
 rw [aq] at ai HM
 rw [ar] at aj HM
 rw [au] at an HM
 clear aq ar au
 cases p1
 ·go_wp2_with (first | (go_at_call 93;refine ((ai _).out (Below.refl _ _)).mono ?_;rintro r w1 ⟨rfl,u⟩))
  all_goals go_ret
  all_goals exact ⟨Af (by rw [HM.out];simp),HX.out.trans u⟩
 ·cases p2
  ·go_wp2_with (first | (go_at_call 93;refine ((ai _).out (Below.refl _ _)).mono ?_;rintro r w1 ⟨rfl,u⟩;have g1:=(HB.out.ext u) 1 _ rfl) | (go_at_call 94;refine ((aj _).out u).mono ?_;rintro r w2 ⟨rfl,ag⟩;have g2:=(HB.out.ext (u.trans ag)) 2 _ rfl) | (go_at_call 95;refine ((an _).out (u.trans ag)).mono ?_;rintro r w3 ⟨rfl,ax⟩))
   all_goals go_ret
   all_goals exact ⟨Af (by rw [HM.out];simp),HX.out.trans ((u.trans ag).trans ax)⟩
  ·go_wp2_with (first | (go_at_call 93;refine ((ai _).out (Below.refl _ _)).mono ?_;rintro r w1 ⟨rfl,u⟩;have g1:=(HB.out.ext u) 1 _ rfl) | (go_at_call 94;refine ((aj _).out u).mono ?_;rintro r w2 ⟨rfl,ag⟩;have g2:=(HB.out.ext (u.trans ag)) 2 _ rfl))
   all_goals go_ret
   all_goals exact ⟨Af (by rw [HM.out];simp),HX.out.trans (u.trans ag)⟩
end Go.Proofs.YtbliplladmamoaaGreat
