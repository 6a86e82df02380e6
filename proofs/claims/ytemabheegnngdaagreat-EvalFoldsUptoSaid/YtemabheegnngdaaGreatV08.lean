/- Laws and walks that a claim of this seat leans on: Numbers, SameE. -/
import Derived.Test.YtemabheegnngdaaGreatV06
import Derived.Test.YtemabheegnngdaaGreatVStmtS
import Derived.Test.YtemabheegnngdaaGreatV05
import Derived.Test.YtemabheegnngdaaGreatV03
import Derived.Test.YtemabheegnngdaaGreatV00
set_option linter.all false
namespace Go.Proofs.YtemabheegnngdaaGreat
open Go.RowKit
/-! ### numbers: the bits of these spans, rising -/
def numsOf (offs:List Int) (s:Span):List Int:=(List.range (s.hi - s.lo + 1).toNat).map fun (j:Nat)=>offs.getD s.sig.toNat 0 + (s.lo + (j:Int))
def allNums (offs:List Int) (xs:List Span):List Int:=(xs.map (numsOf offs)).flatten
open Go.RowKit
theorem appSignal:AppT Tryz.prog 22 36 4 40:=⟨Tryz.underlying22,by kernel_rfl,by decide,by decide⟩
theorem VSignal.at {W:World} {cs:List Value} {x:Signal} {b o:Nat} (h:Has W b o cs) (hv:VSignal W cs x):SigAt W x b o:=by
 subst hv;exact h
theorem sigs_flat {w:World} (l:List Signal):∀ (b o:Nat),Rows 4 (SigAt w) l b o→Has w b o (l.map Signal.cells).flatten:=by
 induction l with
 | nil=>intro b o _ j u hj;simp at hj
 | cons x l ih =>
  intro b o h j u hj
  rw [List.map_cons,List.flatten_cons] at hj
  by_cases hlt:j < x.cells.length
  ·rw [List.getElem?_append_left hlt] at hj
   exact h.1 j u hj
  ·rw [List.getElem?_append_right (by omega)] at hj
   have:=ih b (o + 4) h.2 (j - 4) u hj
   have h4:x.cells.length=4:=rfl
   rw [show o + j=o + 4 + (j - 4) by omega];exact this
theorem sigs_len (l:List Signal):(l.map Signal.cells).flatten.length=l.length * 4:=by
 induction l with
 | nil=>rfl
 | cons x l ih=>rw [List.map_cons,List.flatten_cons,List.length_append,ih];show 4 + l.length * 4=(l.length + 1) * 4;omega
theorem sigs_one (l:List Signal):(l.map Signal.cells).flatten.all (·.oneCell')=true:=by
 rw [List.all_eq_true]
 intro v hv
 obtain ⟨cs,hcs,hv⟩:=List.mem_flatten.1 hv
 obtain ⟨x,-,rfl⟩:=List.mem_map.1 hcs
 have:x.cells.all (·.oneCell')=true:=rfl
 exact List.all_eq_true.1 this v hv
def ClonePost (w:World) (l:List Signal) (r:Ending) (w':World):Prop:=∃ a cap,r=.returned (.slice a l.length cap)∧Ext w w'∧∀ W,Since w.heap.size w' W→Sigs W (.slice a l.length cap) l
set_option maxHeartbeats 800000 in
theorem Clone_calls (l:List Signal) (s:Value) (w:World) (h:Sigs w s l) (hl:l.length ≤ 1048576) :
  Calls Tryz.prog 122 #[s] w (ClonePost w l):=by
 obtain ⟨a,b,o,cap,hs,hc1,hc2,ha,hr⟩:=h.open
 subst hs
 have hnil:=fun W=>Lib.run_eql_slice_nil (P:=Tryz.prog) W 22 36 a l.length cap 0 0 Tryz.underlying22
 cases a with
 | none =>
  have h0:l.length=0:=by
   by_cases hh:0 < l.length
   ·have:=ha hh;cases this
   ·omega
  have H0:=Lib.hid h0
  clear h0 ha hr h
  go_enter Tryz.func122,Tryz.ntmps122
  go_wp2_with fail
  go_ret
  obtain rfl:l=[]:=List.eq_nil_of_length_eq_zero H0.out
  exact ⟨Option.none,0,rfl,Below.refl _ _,fun W _=>Sl.nil _ _⟩
 | some ad =>
  have HR:=Lib.hid hr
  have HA:=Lib.hid ha
  have HX:=Lib.hid (ext_alloc w (.cells #[] 36))
  have hown:=Lib.hid (World.ownsRow_made (size:=4) (base:=w.heap.size) (e:=36) w #[] 0 (Nat.le_refl _) (by decide) rfl)
  have hcells:∀ j u,(l.map Signal.cells).flatten[j]? = some u→(w.alloc (.cells #[] 36)).cell? (ad.add j)=some u:=by
   intro j u hj
   have hlt:j < l.length * 4:=by rw [← sigs_len];exact (List.getElem?_eq_some_iff.1 hj).1
   have hpos:0 < l.length:=by omega
   obtain rfl:=Option.some.inj (HA.out hpos)
   have hadd:(⟨b,o,none⟩ : Addr).add j=⟨b,o + j,none⟩:=by unfold Addr.add;split <;> simp_all
   rw [hadd]
   exact ((sigs_flat l b o HR.out).ext HX.out) j u hj
  have HC:=Lib.hid hcells
  clear hcells hr ha h
  go_enter Tryz.func122,Tryz.ntmps122
  go_wp2_with (first | ((with_reducible show Jw (Op.buildSlice _ _ _));refine wpList_bs0 rfl _ rfl appSignal ?_) | ((with_reducible show Jw (Op.call { callee:=.builtin .append,args:=_,argTypes:=_ }));refine wpList_app rfl _ _ _ rfl appSignal rfl hown.out rfl (fun h=>by cases h) (sigs_len l) HC.out (sigs_one l) (by omega) (by simp) ?_;rw [Nat.zero_add];intro g4 cap4 w4 hrow4 hg4 hgg))
  go_ret
  have hgx:Ext w w4:=Below.grown HX.out hg4 HX.out.size (fun k hk=>by cases hk;exact Nat.le_refl _)
  refine ⟨_,cap4,rfl,hgx,fun W hW=>?_⟩
  refine RowIs.sl (V:=VSignal) (At:=SigAt) (e:=36) (N:=w.heap.size) (w:=w4) (fun _ _ _ _ _ h hv=>VSignal.at h hv) ?_ hW
  refine ⟨l.map Signal.cells,by simpa using hrow4,by simp,?_,?_⟩
  ·intro cs h;obtain ⟨x,-,rfl⟩:=List.mem_map.1 h;rfl
  ·intro i hi hi' W _ _
   simp [VSignal]
def sameProcs (a b:List Proc):Bool:=allEq2 eqP a b
def sameChecks (a b:List Chk):Bool:=allEq2 eqC a b
set_option maxHeartbeats 1600000 in
theorem Same_calls (x y:Flat) (v v':Value) (w:World) (h:FlatV w v x) (h':FlatV w v' y) (hs:x.signals=y.signals) :
  Calls Tryz.prog 74 #[v,v'] w fun r w'=>r=.returned (.bool (sameProcs x.procs y.procs && sameChecks x.checks y.checks))∧Ext w w':=by
 obtain ⟨sv,pv,cv,rfl,hS,hP,hC⟩:=h
 obtain ⟨sv',pv',cv',rfl,hS',hP',hC'⟩:=h'
 rw [← hs] at hS'
 clear hs
 obtain ⟨p2,h2⟩ : ∃ p,sameProcs x.procs y.procs=p:=⟨_,rfl⟩
 have h2':allEq2 eqP x.procs y.procs=p2:=h2
 rw [h2]
 have hX1:=ext_alloc w (.cells [sv,pv,cv].toArray 26)
 have hX2:=ext_alloc (w.alloc (.cells [sv,pv,cv].toArray 26)) (.cells [sv',pv',cv'].toArray 26)
 have hb1:=(Has.alloc w [sv,pv,cv] 26).ext hX2
 have hb2:=Has.alloc (w.alloc (.cells [sv,pv,cv].toArray 26)) [sv',pv',cv'] 26
 rw [World.size_alloc] at hb2
 have hX:=hX1.trans hX2
 have hq1:=fun W (hx:Ext _ W)=>SignalsEqual_calls x.signals sv sv' W ((hS.ext hX).ext hx) ((hS'.ext hX).ext hx)
 have hq2:=fun W (hx:Ext _ W)=>EqualFunc_Proc 125 eqP x.procs y.procs pv pv' W ((hP.ext hX).ext hx) ((hP'.ext hX).ext hx) leads_Same1
  (fun wr hx k hk hk' cs cs' h h'=>Same1_calls _ _ cs cs' wr h h')
 have hq3:=fun W (hx:Ext _ W)=>EqualFunc_Check 128 eqC x.checks y.checks cv cv' W ((hC.ext hX).ext hx) ((hC'.ext hX).ext hx) leads_Same2
  (fun wr hx k hk hk' cs cs' h h'=>Same2_calls _ _ cs cs' wr h h')
 obtain ⟨xs,bs,os,caps,e1,-,-,-,-⟩:=hS.open
 obtain ⟨ap,bp,op,capp,e2,-,-,-,-⟩:=hP.open
 obtain ⟨ac,bc,oc,capc,e3,-,-,-,-⟩:=hC.open
 obtain ⟨xs',bs',os',caps',e1',-,-,-,-⟩:=hS'.open
 obtain ⟨ap',bp',op',capp',e2',-,-,-,-⟩:=hP'.open
 obtain ⟨ac',bc',oc',capc',e3',-,-,-,-⟩:=hC'.open
 subst e1;subst e2;subst e3;subst e1';subst e2';subst e3'
 rw [h2'] at hq2
 clear hX1 hX2 hS hP hC hS' hP' hC' h2 h2'
 go_enter Tryz.func74,Tryz.ntmps74
 go_upto_region 1 with fail
 generalize (w.alloc _).alloc _=w0 at *
 have Q1:=Lib.hid hq1
 have Q2:=Lib.hid hq2
 have Q3:=Lib.hid hq3
 have B1:=Lib.hid hb1
 have B2:=Lib.hid hb2
 clear hq1 hq2 hq3 hb1 hb2
 have a0:=B1.out 0 _ rfl
 have c0:=B2.out 0 _ rfl
 cases p2
 ·go_wp2_with (first | (go_at_call 129;refine (Q1.out _ (Below.refl _ _)).mono ?_;rintro r w1 ⟨rfl,hx1⟩;have a1:=(B1.out.ext hx1) 1 _ rfl;have c1:=(B2.out.ext hx1) 1 _ rfl) | (go_at_call 130;refine (Q2.out _ hx1).mono ?_;rintro r w2 ⟨rfl,hx2⟩))
  all_goals go_ret
  all_goals exact ⟨rfl,hX.trans (hx1.trans hx2)⟩
 ·go_wp2_with (first | (go_at_call 129;refine (Q1.out _ (Below.refl _ _)).mono ?_;rintro r w1 ⟨rfl,hx1⟩;have a1:=(B1.out.ext hx1) 1 _ rfl;have c1:=(B2.out.ext hx1) 1 _ rfl) | (go_at_call 130;refine (Q2.out _ hx1).mono ?_;rintro r w2 ⟨rfl,hx2⟩;have a2:=(B1.out.ext (hx1.trans hx2)) 2 _ rfl;have c2:=(B2.out.ext (hx1.trans hx2)) 2 _ rfl) | (go_at_call 131;refine (Q3.out _ (hx1.trans hx2)).mono ?_;rintro r w3 ⟨rfl,hx3⟩))
  all_goals go_ret
  all_goals exact ⟨ret_bool (by rw [Bool.true_and];rfl),hX.trans ((hx1.trans hx2).trans hx3)⟩
end Go.Proofs.YtemabheegnngdaaGreat
