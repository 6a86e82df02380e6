/- Laws and walks that a claim of this seat leans on: Shaped. -/
import Derived.Test.YtpngepnfinbaoaaGreatC10
import Derived.Test.YtpngepnfinbaoaaGreatCSigs
import Derived.Laws.EntriesVeiled
import Derived.Test.YtpngepnfinbaoaaGreatC00
set_option maxRecDepth 100000
set_option maxHeartbeats 8000000
set_option linter.all false
namespace Go.Proofs.YtpngepnfinbaoaaGreat
open Go.RowKit
theorem Has.pre {w:World} {b o:Nat} {cs ds:List Value} (h:Has w b o (cs++ds)):Has w b o cs:=fun j u hj=>h j u (by rw [List.getElem?_append_left (List.getElem?_eq_some_iff.1 hj).1];exact hj)
theorem leads_shaped2:Leads Tryz.prog 81:=leads_of Tryz.func81 (by kernel_rfl) rfl
theorem leads_shaped3:Leads Tryz.prog 83:=leads_of Tryz.func83 (by kernel_rfl) rfl
theorem leads_Size1:Leads Tryz.prog 42:=leads_of Tryz.func42 (by kernel_rfl) rfl
theorem shaped2_calls (ls:List Signal) (p:Proc) (sl:Value) (N M:Nat) (cs:List Value) (w:World) (hS:Sigs w sl ls) (hN:Has w N 0 [sl]) (hM:Has w M 0 [.func (.func 79) #[] #[.pointer (some ⟨N,0,none⟩)]])
  (hV:VProc w cs p) (hwf:∀ t∈p.l,t.wf) :
  Calls Tryz.prog 81 #[.agg cs.toArray,.pointer (some ⟨M,0,none⟩)] w fun r w'=>r=.returned (.bool (p.l.any fun t=>!shapeT ls t))/\Ext w w':=by
 have HX:=Jh (ext_alloc w (.cells cs.toArray 36))
 have hb:=Has.alloc w cs 36
 have hm:=(hM.ext HX.out) 0 _ rfl
 have HV:=Jh (hV.ext HX.out)
 obtain ⟨s,rfl,hs⟩:=hV
 have g1:=hb 1 _ rfl
 have HT:∀ W,Hid (Ext w W->Calls Tryz.prog 82 #[s,.func (.func 79) #[] #[.pointer (some ⟨N,0,none⟩)]] W fun r w'=>r=.returned (.bool (p.l.any fun t=>!shapeT ls t))/\Ext W w'):=by
  intro W
  refine Jh fun hx=>?_
  refine ContainsFunc_T 79 #[.pointer (some ⟨N,0,none⟩)] (fun x=>!shapeT ls x) p.l _ W (hs.ext hx) leads_shaped1 ?_
  intro W' hx' j hj cs hcs
  have h6:cs.length=6:=by obtain ⟨s,s',rfl,-⟩:=hcs;rfl
  exact shaped1_calls _ N cs h6 W' ((hN.ext hx).ext hx') (shapeT ls p.l[j]) fun W'' hx''=>shapeT_calls ls _ _ _ W'' (hS.ext ((hx.trans hx').trans hx'')) (hcs.ext hx'') (hwf _ (List.getElem_mem hj))
 go_enter Tryz.func81,Tryz.ntmps81
 go_wp2_with (first | (go_at_call 82;refine ((HT _).out HX.out).mono ?_;rintro r w1 ⟨rfl,hx1⟩))
 go_ret
 exact ⟨rfl,HX.out.trans hx1⟩
theorem shaped3_calls (ls:List Signal) (c:Chk) (sl:Value) (N:Nat) (cs:List Value) (w:World) (hS:Sigs w sl ls) (hN:Has w N 0 [sl]) (hV:VCheck w cs c) (hwf:c.e.wf) :
  Calls Tryz.prog 83 #[.agg cs.toArray,.pointer (some ⟨N,0,none⟩)] w fun r w'=>r=.returned (.bool (!shape ls c.e))/\Ext w w':=by
 have HX:=Jh (ext_alloc w (.cells cs.toArray 99))
 have hb:=Has.alloc w cs 99
 have hm:=(hN.ext HX.out) 0 _ rfl
 obtain ⟨s,rfl,hs⟩:=hV
 have hb1:=hb.tail
 have HE:∀ W,Hid (Ext w W->Calls Tryz.prog 84 #[sl,.agg (c.e.cells s).toArray] W fun r w'=>r=.returned (.bool (shape ls c.e))/\Ext W w') :=
  fun W=>Jh fun hx=>shape_calls ls c.e hwf _ _ W (hS.ext hx) ⟨s,rfl,hs.ext hx⟩
 go_enter Tryz.func83,Tryz.ntmps83
 go_wp2_with (first | ((with_reducible show Jl 31);refine Jm 31 (hb1) agg_E rfl ?_) | (go_at_call 84;refine ((HE _).out HX.out).mono ?_;rintro r w1 ⟨rfl,hx1⟩))
 all_goals go_ret
 all_goals exact ⟨rfl,HX.out.trans hx1⟩
theorem Size1_calls (x:Signal) (w:World) (hwf:x.wf) :
  Calls Tryz.prog 42 #[.agg x.cells.toArray] w fun r w'=>r=.returned (.bool (!holds x.w x.init))/\Ext w w':=by
 have HX:=Jh (ext_alloc w (.cells x.cells.toArray 50))
 have hb:=Has.alloc w x.cells 50
 have g1:=hb 1 _ rfl
 have g3:=hb 3 _ rfl
 go_enter Tryz.func42,Tryz.ntmps42
 go_wp2_with (first | (go_at_call 43;refine (holds_calls _ _ _ hwf.2.2.1).mono ?_;rintro r w1 ⟨rfl,rfl⟩))
 all_goals go_ret
 all_goals exact ⟨rfl,HX.out⟩
def shapedM (d:Flat):Bool :=
 sigsOk [[]] d.signals&&!(d.procs.any fun p=>p.l.any fun t=>!shapeT d.signals t)&&!(d.checks.any fun c=>!shape d.signals c.e)
theorem shaped_calls (d:Flat) (v:Value) (w:World) (h:FlatV w v d) (hwf:d.wf) (hl:d.signals.length<=1048576) :
  Calls Tryz.prog 40 #[v] w fun r w'=>r=.returned (.bool (shapedM d))/\Ext w w':=by
 obtain ⟨sv,pv,cv,rfl,hS,hP,hC⟩:=h
 have HM:=Jh (show shapedM d=_ from by unfold shapedM;rfl)
 have HS:=Jh hS
 have HP:=Jh hP
 have HC:=Jh hC
 obtain ⟨xs,bs,os,caps,e1,-,-,-,-⟩:=hS.open
 obtain ⟨ap,bp,op,capp,e2,-,-,-,-⟩:=hP.open
 obtain ⟨ac,bc,oc,capc,e3,-,-,-,-⟩:=hC.open
 subst e1;subst e2;subst e3
 clear hS hP hC
 obtain ⟨fo,hfo⟩:∃ fo:Value,fo=.func (.func 79) #[] #[.pointer (some ⟨w.heap.size,0,none⟩)]:=⟨_,rfl⟩
 have HX:=Jh ((ext_alloc w (.cells [.slice xs d.signals.length caps,.slice ap d.procs.length capp,.slice ac d.checks.length capc].toArray 26)).alloc (.cells [fo].toArray 121))
 have hbx:=(Has.alloc w [.slice xs d.signals.length caps,.slice ap d.procs.length capp,.slice ac d.checks.length capc] 26).ext (ext_alloc _ (.cells [fo].toArray 121))
 have hby:=Has.alloc (w.alloc (.cells [.slice xs d.signals.length caps,.slice ap d.procs.length capp,.slice ac d.checks.length capc].toArray 26)) [fo] 121
 simp only [World.size_alloc] at hby
 subst hfo
 go_enter Tryz.func40,Tryz.ntmps40
 go_upto_region 2 with fail
 generalize (w.alloc _).alloc _=w0 at *
 have HB:=Jh hbx
 have HBY:=Jh hby
 clear hbx hby
 have HSG:∀ W,Hid (Ext w0 W->Calls Tryz.prog 85 #[.slice xs d.signals.length caps] W fun r w'=>r=.returned (.bool (sigsOk [[]] d.signals))/\Ext W w') :=
  fun W=>Jh fun hx=>signals_calls _ _ W (HS.out.ext (HX.out.trans hx)) hwf.signals hl
 have HPR:∀ W,Hid (Ext w0 W->Calls Tryz.prog 86 #[.slice ap d.procs.length capp,.func (.func 81) #[] #[.pointer (some ⟨w.heap.size+1,0,none⟩)]] W
   fun r w'=>r=.returned (.bool (d.procs.any fun p=>p.l.any fun t=>!shapeT d.signals t))/\Ext W w'):=by
  intro W
  refine Jh fun hx=>?_
  refine ContainsFunc_Proc 81 #[.pointer (some ⟨w.heap.size+1,0,none⟩)] _ d.procs _ W (HP.out.ext (HX.out.trans hx)) leads_shaped2 ?_
  intro W' hx' j hj cs hcs
  exact shaped2_calls d.signals d.procs[j] _ w.heap.size (w.heap.size+1) cs W' (HS.out.ext ((HX.out.trans hx).trans hx')) ((Has.pre (ds:=[.slice ap d.procs.length capp,.slice ac d.checks.length capc]) HB.out).ext (hx.trans hx')) (HBY.out.ext (hx.trans hx')) hcs (hwf.procs _ (List.getElem_mem hj))
 have HCK:∀ W,Hid (Ext w0 W->Calls Tryz.prog 87 #[.slice ac d.checks.length capc,.func (.func 83) #[] #[.pointer (some ⟨w.heap.size,0,none⟩)]] W
   fun r w'=>r=.returned (.bool (d.checks.any fun c=>!shape d.signals c.e))/\Ext W w'):=by
  intro W
  refine Jh fun hx=>?_
  refine ContainsFunc_Check 83 #[.pointer (some ⟨w.heap.size,0,none⟩)] (fun c=>!shape d.signals c.e) d.checks _ W (HC.out.ext (HX.out.trans hx)) leads_shaped3 ?_
  intro W' hx' j hj cs hcs
  exact shaped3_calls d.signals d.checks[j] _ w.heap.size cs W' (HS.out.ext ((HX.out.trans hx).trans hx')) ((Has.pre (ds:=[.slice ap d.procs.length capp,.slice ac d.checks.length capc]) HB.out).ext (hx.trans hx')) hcs (hwf.checks _ (List.getElem_mem hj))
 have g0:=HB.out 0 _ rfl
 obtain ⟨p1,hp1⟩:∃ p,sigsOk [[]] d.signals=p:=⟨_,rfl⟩
 obtain ⟨p2,hp2⟩:∃ p,(d.procs.any fun p=>p.l.any fun t=>!shapeT d.signals t)=p:=⟨_,rfl⟩
 obtain ⟨p3,hp3⟩:∃ p,(d.checks.any fun c=>!shape d.signals c.e)=p:=⟨_,rfl⟩
 rw [hp1] at HSG HM
 rw [hp2] at HPR HM
 rw [hp3] at HCK HM
 clear hp1 hp2 hp3
 cases p1
 ·go_wp2_with (first | (go_at_call 85;refine ((HSG _).out (Below.refl _ _)).mono ?_;rintro r w1 ⟨rfl,hx1⟩))
  all_goals go_ret
  all_goals exact ⟨ret_bool (by rw [HM.out];simp),HX.out.trans hx1⟩
 ·cases p2
  ·go_wp2_with (first | (go_at_call 85;refine ((HSG _).out (Below.refl _ _)).mono ?_;rintro r w1 ⟨rfl,hx1⟩;have g1:=(HB.out.ext hx1) 1 _ rfl) | (go_at_call 86;refine ((HPR _).out hx1).mono ?_;rintro r w2 ⟨rfl,hx2⟩;have g2:=(HB.out.ext (hx1.trans hx2)) 2 _ rfl) | (go_at_call 87;refine ((HCK _).out (hx1.trans hx2)).mono ?_;rintro r w3 ⟨rfl,hx3⟩))
   all_goals go_ret
   all_goals exact ⟨ret_bool (by rw [HM.out];simp),HX.out.trans ((hx1.trans hx2).trans hx3)⟩
  ·go_wp2_with (first | (go_at_call 85;refine ((HSG _).out (Below.refl _ _)).mono ?_;rintro r w1 ⟨rfl,hx1⟩;have g1:=(HB.out.ext hx1) 1 _ rfl) | (go_at_call 86;refine ((HPR _).out hx1).mono ?_;rintro r w2 ⟨rfl,hx2⟩;have g2:=(HB.out.ext (hx1.trans hx2)) 2 _ rfl))
   all_goals go_ret
   all_goals exact ⟨ret_bool (by rw [HM.out];simp),HX.out.trans (hx1.trans hx2)⟩
end Go.Proofs.YtpngepnfinbaoaaGreat
