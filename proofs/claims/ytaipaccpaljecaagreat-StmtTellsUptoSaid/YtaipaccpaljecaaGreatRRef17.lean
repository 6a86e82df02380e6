/- Laws and walks that a claim of this seat leans on: Ref17. -/
import Derived.Test.YtaipaccpaljecaaGreatR30
import Derived.Test.YtaipaccpaljecaaGreatR00
set_option maxRecDepth 100000
set_option maxHeartbeats 8000000
set_option linter.all false
namespace Go.Proofs.YtaipaccpaljecaaGreat
open Go.RowKit
theorem Ext.drewNR {w w':World} (h:Ext w w') (n:Nat):Ext w (w'.drewN n):=h.trans ⟨rfl,rfl,rfl,Nat.le_refl _,fun _ _=>rfl⟩
theorem allEq2_get {α:Type} (f:α->α->Bool) (a:List α):∀ b:List α,allEq2 f a b=true↔a.length=b.length/\∀ j (h:j<a.length) (h':j<b.length),f a[j] b[j]=true:=by
 induction a with
 | nil=>intro b;cases b<;>simp [allEq2]
 | cons x a ih =>
  intro b
  cases b with
  | nil=>simp [allEq2]
  | cons y b =>
   simp only [allEq2,Bool.and_eq_true,ih,List.length_cons,Nat.add_right_cancel_iff]
   constructor
   ·rintro ⟨h1,h2,h3⟩
    refine ⟨h2,fun j h h'=>?_⟩
    cases j with
    | zero=>exact h1
    | succ j=>simpa using h3 j (by omega) (by omega)
   ·rintro ⟨h2,h3⟩
    exact ⟨h3 0 (by omega) (by omega),h2,fun j h h'=>h3 (j+1) (by omega) (by omega)⟩
theorem allEq2_bad {α:Type} {f:α->α->Bool} {a b:List α} (h:¬ (a.length=b.length/\∀ j (h:j<a.length) (h':j<b.length),f a[j] b[j]=true)):allEq2 f a b=false:=by
 cases e:allEq2 f a b
 ·rfl
 ·exact absurd ((allEq2_get f a b).1 e) h
theorem Same_callsR (x y:Flat) (v v':Value) (w:World) (h:FlatV w v x) (h':FlatV w v' y) (hs:x.signals=y.signals) :
  Calls Tryz.prog 101 #[v,v'] w fun r w'=>r=.returned (.bool (sameProcs x.procs y.procs&&sameChecks x.checks y.checks))/\Ext w w':=by
 obtain ⟨sv,pv,cv,rfl,hS,hP,hC⟩:=h
 obtain ⟨sv',pv',cv',rfl,hS',hP',hC'⟩:=h'
 obtain ⟨a1,b1,o1,c1,rfl,hc1,hd1,ha1,hr1⟩:=hS.open
 obtain ⟨a2,b2,o2,c2,rfl,hc2,hd2,ha2,hr2⟩:=hP.open
 obtain ⟨a3,b3,o3,c3,rfl,hc3,hd3,ha3,hr3⟩:=hC.open
 obtain ⟨a1',b1',o1',c1',rfl,hc1',hd1',ha1',hr1'⟩:=hS'.open
 obtain ⟨a2',b2',o2',c2',rfl,hc2',hd2',ha2',hr2'⟩:=hP'.open
 obtain ⟨a3',b3',o3',c3',rfl,hc3',hd3',ha3',hr3'⟩:=hC'.open
 have HA1:=Jh ha1
 have HA2:=Jh ha2
 have HA3:=Jh ha3
 have HA1':=Jh ha1'
 have HA2':=Jh ha2'
 have HA3':=Jh ha3'
 have HR1:=Jh hr1
 have HR2:=Jh hr2
 have HR3:=Jh hr3
 have HR1':=Jh hr1'
 have HR2':=Jh hr2'
 have HR3':=Jh hr3'
 have HSS:=Jh hs
 have HLS:=Jh (show x.signals.length=y.signals.length by rw [hs])
 have hX1:=ext_alloc w (.cells [.slice a1 x.signals.length c1,.slice a2 x.procs.length c2,.slice a3 x.checks.length c3].toArray 26)
 have hX2:=ext_alloc (w.alloc (.cells [.slice a1 x.signals.length c1,.slice a2 x.procs.length c2,.slice a3 x.checks.length c3].toArray 26)) (.cells [.slice a1' y.signals.length c1',.slice a2' y.procs.length c2',.slice a3' y.checks.length c3'].toArray 26)
 have hb1:=(Has.alloc w [.slice a1 x.signals.length c1,.slice a2 x.procs.length c2,.slice a3 x.checks.length c3] 26).ext hX2
 have hb2:=Has.alloc (w.alloc (.cells [.slice a1 x.signals.length c1,.slice a2 x.procs.length c2,.slice a3 x.checks.length c3].toArray 26)) [.slice a1' y.signals.length c1',.slice a2' y.procs.length c2',.slice a3' y.checks.length c3'] 26
 rw [World.size_alloc] at hb2
 have hX:=hX1.trans hX2
 clear hX1 hX2 hS hP hC hS' hP' hC' ha1 ha2 ha3 ha1' ha2' ha3' hr1 hr2 hr3 hr1' hr2' hr3'
 obtain ⟨tp,htp⟩:∃ t,sameProcs x.procs y.procs=t:=⟨_,rfl⟩
 obtain ⟨tc,htc⟩:∃ t,sameChecks x.checks y.checks=t:=⟨_,rfl⟩
 rw [htp,htc]
 have HTP:=Jh (show allEq2 eqP x.procs y.procs=tp from htp)
 have HTC:=Jh (show allEq2 eqC x.checks y.checks=tc from htc)
 clear htp htc hs
 go_enter Tryz.func101,Tryz.ntmps101
 go_upto_region 1 with fail
 generalize (w.alloc _).alloc _=w0 at *
 have HB1:=Jh hb1
 have HB2:=Jh hb2
 have HX:=Jh hX
 have f0:=hb1 0 _ rfl
 have f1:=hb1 1 _ rfl
 have f2:=hb1 2 _ rfl
 have g0:=hb2 0 _ rfl
 have g1:=hb2 1 _ rfl
 have g2:=hb2 2 _ rfl
 clear hb1 hb2 hX
 have d0:(((x.signals.length:Nat):Int) != ((y.signals.length:Nat):Int))=false:=by have:=HLS.out;rw [bne_eq_false_iff_eq];omega
 by_cases q1:x.procs.length=y.procs.length
 rotate_left
 ·have d1:(((x.procs.length:Nat):Int) != ((y.procs.length:Nat):Int))=true:=by rw [bne_iff_ne];omega
  have HF:=Jh (show tp=false by rw [<-HTP.out];exact allEq2_bad (fun h=>q1 h.1))
  clear q1
  go_wp2_with fail
  go_ret
  exact ⟨ret_bool (by rw [HF.out];rfl),HX.out⟩
 have d1:(((x.procs.length:Nat):Int) != ((y.procs.length:Nat):Int))=false:=by rw [bne_eq_false_iff_eq];omega
 have HL1:=Jh q1
 clear q1
 by_cases q2:x.checks.length=y.checks.length
 rotate_left
 ·have d2:(((x.checks.length:Nat):Int) != ((y.checks.length:Nat):Int))=true:=by rw [bne_iff_ne];omega
  have HF:=Jh (show tc=false by rw [<-HTC.out];exact allEq2_bad (fun h=>q2 h.1))
  clear q2
  go_wp2_with fail
  go_ret
  exact ⟨ret_bool (by rw [HF.out,Bool.and_false]),HX.out⟩
 have d2:(((x.checks.length:Nat):Int) != ((y.checks.length:Nat):Int))=false:=by rw [bne_eq_false_iff_eq];omega
 have HL2:=Jh q2
 clear q2
 go_upto_region 3 with fail
 clear d0 d1 d2 f0 f1 f2 g0 g1 g2
 go_wp2_with fail
 go_loopw [5] (fun i wr=>∃ k:Nat,k<=x.signals.length/\i=.int .i64 k/\Ext w0 wr) (fun i _=>x.signals.length-(intOf i).toNat)
 case atStart=>exact ⟨0,Nat.zero_le _,rfl,Below.refl _ _⟩
 case round =>
  obtain ⟨k,hk,rfl,hB⟩:=hrel
  have HBX:=Jh hB
  have f0:=(HB1.out.ext hB) 0 _ rfl
  rw [Nat.add_zero] at f0
  clear hB
  by_cases hlt:k<x.signals.length
  ·have hlt':k<y.signals.length:=by have:=HLS.out;omega
   have he:=Sigs.get (HR1.out.mono fun x _ b o h=>SigAt.ext' (HX.out.trans HBX.out) h) hlt
   have he':=Sigs.get (HR1'.out.mono fun x _ b o h=>SigAt.ext' (HX.out.trans HBX.out) h) hlt'
   obtain rfl:=HA1.out (by omega)
   obtain rfl:=HA1'.out (by omega)
   have hee:y.signals[k]=x.signals[k]:=by
    have h1:x.signals[k]? = y.signals[k]?:=by rw [HSS.out]
    rw [List.getElem?_eq_getElem hlt,List.getElem?_eq_getElem hlt'] at h1
    injection h1 with h1;exact h1.symm
   rw [hee] at he'
   have HE:=Jh he
   have HE':=Jh he'
   clear he he' hee
   generalize x.signals[k]=z at *
   go_upto_region 6 with fail
   clear f0
   refine Jg wr fun hH=>?_
   try simp only [J]
   (refine Jt 0 (_) rfl (yif_load1 rfl (by intro W hW;clear hW;go_simp;rfl)) hH ?_;try simp only [J])
   (refine Jt 1 (.slice (some ⟨b1,o1,Option.none⟩) x.signals.length c1) rfl (yif_load1 rfl (by intro W hW;have y7:=(HB1.out.ext (HBX.out.trans hW)) 0 _ rfl;rw [Nat.add_zero] at y7;clear hW;go_simp)) hH ?_;try simp only [J])
   (refine Jt 2 (_) rfl (yif_load1 rfl fun _ _=>rfl) hH ?_;try simp only [J])
   (refine Jt 3 (.pointer (some ⟨b1,o1+k*4,Option.none⟩)) rfl (yif_load1 rfl (by intro W hW;clear hW;go_simp;try (intro h;omega))) hH ?_;try simp only [J])
   (refine Jt 4 (.agg z.cells.toArray) rfl (yif_load rfl 36 _ rfl rfl (fun W hW=>HE.out.ext hW) agg_Signal rfl) hH ?_;try simp only [J])
   (refine Jt 5 (_) rfl (yif_load1 rfl (by intro W hW;clear hW;go_simp;rfl)) hH ?_;try simp only [J])
   (refine Jt 6 (.slice (some ⟨b1',o1',Option.none⟩) y.signals.length c1') rfl (yif_load1 rfl (by intro W hW;have y7:=(HB2.out.ext (HBX.out.trans hW)) 0 _ rfl;rw [Nat.add_zero] at y7;clear hW;go_simp)) hH ?_;try simp only [J])
   (refine Jt 7 (_) rfl (yif_load1 rfl fun _ _=>rfl) hH ?_;try simp only [J])
   (refine Jt 8 (.pointer (some ⟨b1',o1'+k*4,Option.none⟩)) rfl (yif_load1 rfl (by intro W hW;clear hW;go_simp;try (intro h;omega))) hH ?_;try simp only [J])
   (refine Jt 9 (.agg z.cells.toArray) rfl (yif_load rfl 36 _ rfl rfl (fun W hW=>HE'.out.ext hW) agg_Signal rfl) hH ?_;try simp only [J])
   (refine Jt 10 (.bool false) rfl (yif_load1 rfl (fun W _=>exec_neq_signal rfl z rfl rfl W)) hH ?_;try simp only [J])
   refine Jz ?_
   go_wp2_with fail
   go_roundw
   case rel=>exact ⟨k+1,by omega,by go_num,HBX.out.trans hH⟩
   case measure=>simp [intOf];omega
  ·obtain ⟨wo,rfl⟩:∃ x,x=wr:=⟨_,rfl⟩
   have HX2:=Jh (HX.out.trans HBX.out)
   have HC1:=Jh (HB1.out.ext HBX.out)
   have HC2:=Jh (HB2.out.ext HBX.out)
   go_wp2_with fail
   clear f0
   go_loopw [6] (fun i wr=>∃ k:Nat,k<=x.procs.length/\i=.int .i64 k/\(∀ j,j<k->∀ (h:j<x.procs.length) (h':j<y.procs.length),eqP x.procs[j] y.procs[j]=true)/\Ext wo wr) (fun i _=>x.procs.length-(intOf i).toNat)
   case atStart=>exact ⟨0,Nat.zero_le _,rfl,fun j hj=>absurd hj (by omega),Below.refl _ _⟩
   case round =>
    obtain ⟨k,hk,rfl,hall,hB⟩:=hrel
    have HALL:=Jh hall
    have HBX:=Jh hB
    have f1:=(HC1.out.ext hB) 1 _ rfl
    clear hall hB
    by_cases hlt:k<x.procs.length
    ·have hlt':k<y.procs.length:=by have:=HL1.out;omega
     obtain ⟨s1,q1,q2⟩:=Procs.get (HR2.out.mono fun x _ b o h=>ProcAt.ext' (HX2.out.trans HBX.out) h) hlt
     obtain ⟨s2,q3,q4⟩:=Procs.get (HR2'.out.mono fun x _ b o h=>ProcAt.ext' (HX2.out.trans HBX.out) h) hlt'
     obtain rfl:=HA2.out (by omega)
     obtain rfl:=HA2'.out (by omega)
     have HBAD:=Jh (fun (h:¬ eqP x.procs[k] y.procs[k]=true)=>(show tp=false by rw [<-HTP.out];exact allEq2_bad (fun g=>h (g.2 k hlt hlt'))))
     have HNX:=Jh (fun (h:eqP x.procs[k] y.procs[k]=true)=>(show ∀ j,j<k+1->∀ (h:j<x.procs.length) (h':j<y.procs.length),eqP x.procs[j] y.procs[j]=true from fun j hj h1 h2=>by
      by_cases e:j=k
      ·subst e;exact h
      ·exact HALL.out j (by omega) h1 h2))
     obtain ⟨p,hp⟩:∃ p,x.procs[k]=p:=⟨_,rfl⟩
     obtain ⟨p',hp'⟩:∃ p,y.procs[k]=p:=⟨_,rfl⟩
     rw [hp,hp'] at HBAD HNX
     rw [hp] at q1 q2
     rw [hp'] at q3 q4
     clear hp hp'
     have HC:=Jh (fun W (hx:Ext wr W)=>sameT_callsR p.l p'.l s1 s2 W (q2.ext hx) (q4.ext hx))
     obtain ⟨c,hc⟩:∃ c,(p.clocked==p'.clocked)=c:=⟨_,rfl⟩
     obtain ⟨e,he⟩:∃ e,allEq2 eqT p.l p'.l=e:=⟨_,rfl⟩
     rw [he] at HC
     have HEQ:=Jh (show eqP p p'=(c&&e) by unfold eqP;rw [hc,he])
     have HCC:=Jh hc
     have HQ1:=Jh q1
     have HQ3:=Jh q3
     have HQ1T:=Jh q1.tail
     have HQ3T:=Jh q3.tail
     clear hc he q1 q2 q3 q4
     cases c
     ·have HF:=Jh (HBAD.out (by rw [HEQ.out];simp))
      have yp:wr.cell? ⟨b2,o2+k*2,Option.none⟩=some (.bool p.clocked):=HQ1.out 0 _ rfl
      have yq:wr.cell? ⟨b2',o2'+k*2,Option.none⟩=some (.bool p'.clocked):=HQ3.out 0 _ rfl
      have g1:=(HC2.out.ext HBX.out) 1 _ rfl
      have hcc:=HCC.out
      have hlr:k<y.procs.length:=hlt'
      go_upto_region 11 with fail
      go_quiet (fail)
      go_wp2_with fail
      go_ret
      exact ⟨ret_bool (by rw [HF.out];simp),HX2.out.trans (HBX.out.drewNR _)⟩
     ·go_upto_region 11 with fail
      clear f1
      refine Jg wr fun hH=>?_
      try simp only [J]
      (refine Jt 0 (_) rfl (yif_load1 rfl (by intro W hW;clear hW;go_simp;rfl)) hH ?_;try simp only [J])
      (refine Jt 1 (.slice (some ⟨b2,o2,Option.none⟩) x.procs.length c2) rfl (yif_load1 rfl (by intro W hW;have y7:=(HC1.out.ext (HBX.out.trans hW)) 1 _ rfl;clear hW;go_simp)) hH ?_;try simp only [J])
      (refine Jt 2 (_) rfl (yif_load1 rfl fun _ _=>rfl) hH ?_;try simp only [J])
      (refine Jt 3 (.pointer (some ⟨b2,o2+k*2,Option.none⟩)) rfl (yif_load1 rfl (by intro W hW;clear hW;go_simp;try (intro h;omega))) hH ?_;try simp only [J])
      (refine Jt 4 (.pointer (some ⟨b2,o2+k*2,Option.none⟩)) rfl (yif_load1 rfl (by intro W hW;clear hW;go_simp)) hH ?_;try simp only [J])
      (refine Jt 5 (.bool p.clocked) rfl (yif_load1 rfl (by intro W hW;have y0:W.cell? ⟨b2,o2+k*2,none⟩=some (.bool p.clocked):=(HQ1.out.ext hW) 0 _ rfl;clear hW;go_simp)) hH ?_;try simp only [J])
      (refine Jt 6 (_) rfl (yif_load1 rfl (by intro W hW;clear hW;go_simp;rfl)) hH ?_;try simp only [J])
      (refine Jt 7 (.slice (some ⟨b2',o2',Option.none⟩) y.procs.length c2') rfl (yif_load1 rfl (by intro W hW;have y7:=(HC2.out.ext (HBX.out.trans hW)) 1 _ rfl;clear hW;go_simp)) hH ?_;try simp only [J])
      (refine Jt 8 (_) rfl (yif_load1 rfl fun _ _=>rfl) hH ?_;try simp only [J])
      (refine Jt 9 (.pointer (some ⟨b2',o2'+k*2,Option.none⟩)) rfl (yif_load1 rfl (by intro W hW;clear hW;go_simp;try (intro h;omega))) hH ?_;try simp only [J])
      (refine Jt 10 (.pointer (some ⟨b2',o2'+k*2,Option.none⟩)) rfl (yif_load1 rfl (by intro W hW;clear hW;go_simp)) hH ?_;try simp only [J])
      (refine Jt 11 (.bool p'.clocked) rfl (yif_load1 rfl (by intro W hW;have y0:W.cell? ⟨b2',o2'+k*2,none⟩=some (.bool p'.clocked):=(HQ3.out.ext hW) 0 _ rfl;clear hW;go_simp)) hH ?_;try simp only [J])
      (refine Jt 12 (.bool false) rfl (yif_load1 rfl (by intro W hW;clear hW;first | (go_simp;done) | (go_simp;simp [HCC.out];done) | (go_simp;simpa using HCC.out))) hH ?_;try simp only [J])
      (refine Jt 13 (_) rfl (yif_load1 rfl fun _ _=>rfl) hH ?_;try simp only [J])
      (refine Jt 14 (_) rfl (yif_load1 rfl (by intro W hW;clear hW;go_simp;rfl)) hH ?_;try simp only [J])
      (refine Jt 15 (.slice (some ⟨b2,o2,Option.none⟩) x.procs.length c2) rfl (yif_load1 rfl (by intro W hW;have y7:=(HC1.out.ext (HBX.out.trans hW)) 1 _ rfl;clear hW;go_simp)) hH ?_;try simp only [J])
      (refine Jt 16 (_) rfl (yif_load1 rfl fun _ _=>rfl) hH ?_;try simp only [J])
      (refine Jt 17 (.pointer (some ⟨b2,o2+k*2,Option.none⟩)) rfl (yif_load1 rfl (by intro W hW;clear hW;go_simp;try (intro h;omega))) hH ?_;try simp only [J])
      (refine Jt 18 (.pointer (some ⟨b2,o2+k*2+1,Option.none⟩)) rfl (yif_load1 rfl (by intro W hW;clear hW;go_simp)) hH ?_;try simp only [J])
      (refine Jt 19 (s1) rfl (yif_load1 rfl (by intro W hW;have y0:W.cell? ⟨b2,o2+k*2+1,none⟩=some s1:=(HQ1.out.ext hW) 1 _ rfl;clear hW;go_simp)) hH ?_;try simp only [J])
      (refine Jt 20 (_) rfl (yif_load1 rfl (by intro W hW;clear hW;go_simp;rfl)) hH ?_;try simp only [J])
      (refine Jt 21 (.slice (some ⟨b2',o2',Option.none⟩) y.procs.length c2') rfl (yif_load1 rfl (by intro W hW;have y7:=(HC2.out.ext (HBX.out.trans hW)) 1 _ rfl;clear hW;go_simp)) hH ?_;try simp only [J])
      (refine Jt 22 (_) rfl (yif_load1 rfl fun _ _=>rfl) hH ?_;try simp only [J])
      (refine Jt 23 (.pointer (some ⟨b2',o2'+k*2,Option.none⟩)) rfl (yif_load1 rfl (by intro W hW;clear hW;go_simp;try (intro h;omega))) hH ?_;try simp only [J])
      (refine Jt 24 (.pointer (some ⟨b2',o2'+k*2+1,Option.none⟩)) rfl (yif_load1 rfl (by intro W hW;clear hW;go_simp)) hH ?_;try simp only [J])
      (refine Jt 25 (s2) rfl (yif_load1 rfl (by intro W hW;have y0:W.cell? ⟨b2',o2'+k*2+1,none⟩=some s2:=(HQ3.out.ext hW) 1 _ rfl;clear hW;go_simp)) hH ?_;try simp only [J])
      refine Jr 26 rfl fun K hK=>?_
      go_simp
      refine (HC.out _ hH).mono ?_
      rintro r w1 ⟨rfl,hx1⟩
      refine hK.out _ _ (hH.trans hx1) (fun hH=>?_)
      clear hK K
      try simp only [J]
      (refine Jt 27 (.bool (!e)) rfl (yif_load1 rfl (by intro W hW;clear hW;go_simp)) hH ?_;try simp only [J])
      (refine Jt 28 (.bool (!e)) rfl (yif_load1 rfl (by intro W hW;clear hW;go_simp)) hH ?_;try simp only [J])
      refine Jz ?_
      cases e
      ·have HF:=Jh (HBAD.out (by rw [HEQ.out];simp))
       go_wp2_with fail
       go_ret
       exact ⟨ret_bool (by rw [HF.out];simp),HX2.out.trans (HBX.out.trans hH)⟩
      ·have HN:=Jh (HNX.out (by rw [HEQ.out];rfl))
       go_wp2_with fail
       go_roundw
       case rel=>exact ⟨k+1,by omega,by go_num,HN.out,HBX.out.trans hH⟩
       case measure=>simp [intOf];omega
    ·obtain rfl:k=x.procs.length:=by omega
     have HTT:=Jh (show tp=true by rw [<-HTP.out];exact (allEq2_get _ _ _).2 ⟨HL1.out,fun j h h'=>HALL.out j h h h'⟩)
     have HTPT:=HTT
     have HX3:=Jh (HX2.out.trans HBX.out)
     have HD1:=Jh (HC1.out.ext HBX.out)
     have HD2:=Jh (HC2.out.ext HBX.out)
     clear HTT HX2 HC1 HC2
     have HX2:=HX3
     have HC1:=HD1
     have HC2:=HD2
     clear HX3 HD1 HD2
     obtain ⟨wp,rfl⟩:∃ x,x=wr:=⟨_,rfl⟩
     go_wp2_with fail
     clear f1
     go_loopw [7] (fun i wr=>∃ k:Nat,k<=x.checks.length/\i=.int .i64 k/\(∀ j,j<k->∀ (h:j<x.checks.length) (h':j<y.checks.length),eqC x.checks[j] y.checks[j]=true)/\Ext wp wr) (fun i _=>x.checks.length-(intOf i).toNat)
     case atStart=>exact ⟨0,Nat.zero_le _,rfl,fun j hj=>absurd hj (by omega),Below.refl _ _⟩
     case round =>
      obtain ⟨k,hk,rfl,hall,hB⟩:=hrel
      have HALL:=Jh hall
      have HBX:=Jh hB
      have f1:=(HC1.out.ext hB) 2 _ rfl
      clear hall hB
      by_cases hlt:k<x.checks.length
      ·have hlt':k<y.checks.length:=by have:=HL2.out;omega
       obtain ⟨s1,q1,q2⟩:=Chks.get (HR3.out.mono fun x _ b o h=>ChkAt.ext' (HX2.out.trans HBX.out) h) hlt
       obtain ⟨s2,q3,q4⟩:=Chks.get (HR3'.out.mono fun x _ b o h=>ChkAt.ext' (HX2.out.trans HBX.out) h) hlt'
       obtain rfl:=HA3.out (by omega)
       obtain rfl:=HA3'.out (by omega)
       have HBAD:=Jh (fun (h:¬ eqC x.checks[k] y.checks[k]=true)=>(show tc=false by rw [<-HTC.out];exact allEq2_bad (fun g=>h (g.2 k hlt hlt'))))
       have HNX:=Jh (fun (h:eqC x.checks[k] y.checks[k]=true)=>(show ∀ j,j<k+1->∀ (h:j<x.checks.length) (h':j<y.checks.length),eqC x.checks[j] y.checks[j]=true from fun j hj h1 h2=>by
        by_cases e:j=k
        ·subst e;exact h
        ·exact HALL.out j (by omega) h1 h2))
       obtain ⟨p,hp⟩:∃ p,x.checks[k]=p:=⟨_,rfl⟩
       obtain ⟨p',hp'⟩:∃ p,y.checks[k]=p:=⟨_,rfl⟩
       rw [hp,hp'] at HBAD HNX
       rw [hp] at q1 q2
       rw [hp'] at q3 q4
       clear hp hp'
       have HC:=Jh (fun W (hx:Ext wr W)=>SameE_callsR p.e p'.e _ _ W ⟨s1,rfl,q2.ext hx⟩ ⟨s2,rfl,q4.ext hx⟩)
       obtain ⟨c,hc⟩:∃ c,(p.name.toList==p'.name.toList)=c:=⟨_,rfl⟩
       obtain ⟨e,he⟩:∃ e,eqE p.e p'.e=e:=⟨_,rfl⟩
       rw [he] at HC
       have HEQ:=Jh (show eqC p p'=(c&&e) by unfold eqC;rw [he,<-hc];congr 1;rw [Bool.eq_iff_iff];simp)
       have HCC:=Jh hc
       have HQ1:=Jh q1
       have HQ3:=Jh q3
       have HQ1T:=Jh q1.tail
       have HQ3T:=Jh q3.tail
       clear hc he q1 q2 q3 q4
       cases c
       ·have HF:=Jh (HBAD.out (by rw [HEQ.out];simp))
        have yp:wr.cell? ⟨b3,o3+k*9,Option.none⟩=some (.string p.name):=HQ1.out 0 _ rfl
        have yq:wr.cell? ⟨b3',o3'+k*9,Option.none⟩=some (.string p'.name):=HQ3.out 0 _ rfl
        have g1:=(HC2.out.ext HBX.out) 2 _ rfl
        have hcc:=HCC.out
        have hlr:k<y.checks.length:=hlt'
        go_upto_region 16 with fail
        go_quiet (fail)
        go_wp2_with fail
        go_ret
        exact ⟨ret_bool (by rw [HF.out];simp),HX2.out.trans (HBX.out.drewNR _)⟩
       ·go_upto_region 16 with fail
        clear f1
        refine Jg wr fun hH=>?_
        try simp only [J]
        (refine Jt 0 (_) rfl (yif_load1 rfl (by intro W hW;clear hW;go_simp;rfl)) hH ?_;try simp only [J])
        (refine Jt 1 (.slice (some ⟨b3,o3,Option.none⟩) x.checks.length c3) rfl (yif_load1 rfl (by intro W hW;have y7:=(HC1.out.ext (HBX.out.trans hW)) 2 _ rfl;clear hW;go_simp)) hH ?_;try simp only [J])
        (refine Jt 2 (_) rfl (yif_load1 rfl fun _ _=>rfl) hH ?_;try simp only [J])
        (refine Jt 3 (.pointer (some ⟨b3,o3+k*9,Option.none⟩)) rfl (yif_load1 rfl (by intro W hW;clear hW;go_simp;try (intro h;omega))) hH ?_;try simp only [J])
        (refine Jt 4 (.pointer (some ⟨b3,o3+k*9,Option.none⟩)) rfl (yif_load1 rfl (by intro W hW;clear hW;go_simp)) hH ?_;try simp only [J])
        (refine Jt 5 (.string p.name) rfl (yif_load1 rfl (by intro W hW;have y0:W.cell? ⟨b3,o3+k*9,none⟩=some (.string p.name):=(HQ1.out.ext hW) 0 _ rfl;clear hW;go_simp)) hH ?_;try simp only [J])
        (refine Jt 6 (_) rfl (yif_load1 rfl (by intro W hW;clear hW;go_simp;rfl)) hH ?_;try simp only [J])
        (refine Jt 7 (.slice (some ⟨b3',o3',Option.none⟩) y.checks.length c3') rfl (yif_load1 rfl (by intro W hW;have y7:=(HC2.out.ext (HBX.out.trans hW)) 2 _ rfl;clear hW;go_simp)) hH ?_;try simp only [J])
        (refine Jt 8 (_) rfl (yif_load1 rfl fun _ _=>rfl) hH ?_;try simp only [J])
        (refine Jt 9 (.pointer (some ⟨b3',o3'+k*9,Option.none⟩)) rfl (yif_load1 rfl (by intro W hW;clear hW;go_simp;try (intro h;omega))) hH ?_;try simp only [J])
        (refine Jt 10 (.pointer (some ⟨b3',o3'+k*9,Option.none⟩)) rfl (yif_load1 rfl (by intro W hW;clear hW;go_simp)) hH ?_;try simp only [J])
        (refine Jt 11 (.string p'.name) rfl (yif_load1 rfl (by intro W hW;have y0:W.cell? ⟨b3',o3'+k*9,none⟩=some (.string p'.name):=(HQ3.out.ext hW) 0 _ rfl;clear hW;go_simp)) hH ?_;try simp only [J])
        (refine Jt 12 (.bool false) rfl (yif_load1 rfl (by intro W hW;clear hW;first | (go_simp;done) | (go_simp;simp [HCC.out];done) | (go_simp;simpa using HCC.out))) hH ?_;try simp only [J])
        (refine Jt 13 (_) rfl (yif_load1 rfl fun _ _=>rfl) hH ?_;try simp only [J])
        (refine Jt 14 (_) rfl (yif_load1 rfl (by intro W hW;clear hW;go_simp;rfl)) hH ?_;try simp only [J])
        (refine Jt 15 (.slice (some ⟨b3,o3,Option.none⟩) x.checks.length c3) rfl (yif_load1 rfl (by intro W hW;have y7:=(HC1.out.ext (HBX.out.trans hW)) 2 _ rfl;clear hW;go_simp)) hH ?_;try simp only [J])
        (refine Jt 16 (_) rfl (yif_load1 rfl fun _ _=>rfl) hH ?_;try simp only [J])
        (refine Jt 17 (.pointer (some ⟨b3,o3+k*9,Option.none⟩)) rfl (yif_load1 rfl (by intro W hW;clear hW;go_simp;try (intro h;omega))) hH ?_;try simp only [J])
        (refine Jt 18 (.pointer (some ⟨b3,o3+k*9+1,Option.none⟩)) rfl (yif_load1 rfl (by intro W hW;clear hW;go_simp)) hH ?_;try simp only [J])
        (refine Jt 19 (.agg (p.e.cells s1).toArray) rfl (yif_load rfl 64 _ rfl rfl (fun W hW=>HQ1T.out.ext hW) agg_E rfl) hH ?_;try simp only [J])
        (refine Jt 20 (_) rfl (yif_load1 rfl (by intro W hW;clear hW;go_simp;rfl)) hH ?_;try simp only [J])
        (refine Jt 21 (.slice (some ⟨b3',o3',Option.none⟩) y.checks.length c3') rfl (yif_load1 rfl (by intro W hW;have y7:=(HC2.out.ext (HBX.out.trans hW)) 2 _ rfl;clear hW;go_simp)) hH ?_;try simp only [J])
        (refine Jt 22 (_) rfl (yif_load1 rfl fun _ _=>rfl) hH ?_;try simp only [J])
        (refine Jt 23 (.pointer (some ⟨b3',o3'+k*9,Option.none⟩)) rfl (yif_load1 rfl (by intro W hW;clear hW;go_simp;try (intro h;omega))) hH ?_;try simp only [J])
        (refine Jt 24 (.pointer (some ⟨b3',o3'+k*9+1,Option.none⟩)) rfl (yif_load1 rfl (by intro W hW;clear hW;go_simp)) hH ?_;try simp only [J])
        (refine Jt 25 (.agg (p'.e.cells s2).toArray) rfl (yif_load rfl 64 _ rfl rfl (fun W hW=>HQ3T.out.ext hW) agg_E rfl) hH ?_;try simp only [J])
        refine Jr 26 rfl fun K hK=>?_
        go_simp
        refine (HC.out _ hH).mono ?_
        rintro r w1 ⟨rfl,hx1⟩
        refine hK.out _ _ (hH.trans hx1) (fun hH=>?_)
        clear hK K
        try simp only [J]
        (refine Jt 27 (.bool (!e)) rfl (yif_load1 rfl (by intro W hW;clear hW;go_simp)) hH ?_;try simp only [J])
        (refine Jt 28 (.bool (!e)) rfl (yif_load1 rfl (by intro W hW;clear hW;go_simp)) hH ?_;try simp only [J])
        refine Jz ?_
        cases e
        ·have HF:=Jh (HBAD.out (by rw [HEQ.out];simp))
         go_wp2_with fail
         go_ret
         exact ⟨ret_bool (by rw [HF.out];simp),HX2.out.trans (HBX.out.trans hH)⟩
        ·have HN:=Jh (HNX.out (by rw [HEQ.out];rfl))
         go_wp2_with fail
         go_roundw
         case rel=>exact ⟨k+1,by omega,by go_num,HN.out,HBX.out.trans hH⟩
         case measure=>simp [intOf];omega
      ·obtain rfl:k=x.checks.length:=by omega
       have HTT:=Jh (show tc=true by rw [<-HTC.out];exact (allEq2_get _ _ _).2 ⟨HL2.out,fun j h h'=>HALL.out j h h h'⟩)
       go_wp2_with fail
       go_ret
       exact ⟨ret_bool (by rw [HTT.out,HTPT.out];rfl),HX2.out.trans HBX.out⟩
theorem Check_callsR (d:Flat) (v:Value) (w:World) (h:FlatV w v d) (hok:d.ok) :
  Calls Tryz.prog 73 #[v] w fun r w'=>r=.returned (.int .i64 (checkM d))/\Ext w w':=by
 have HF:=Jh h
 obtain ⟨sv,pv,cv,rfl,hS,hP,hC⟩:=h
 have HX:=Jh (ext_alloc w (.cells [sv,pv,cv].toArray 26))
 have HB:=Jh (Has.alloc w [sv,pv,cv] 26)
 have HM:=Jh (show checkM d=_ from by unfold checkM;rfl)
 have HSZ:=Jh (Size_callsR d _ _ (HF.out.ext HX.out) hok.wf hok.nodes hok.signals hok.procs hok.checks)
 obtain ⟨xs,bs,os,caps,e1,-,-,-,-⟩:=hS.open
 obtain ⟨ap,bp,op,capp,e2,-,-,-,-⟩:=hP.open
 obtain ⟨ac,bc,oc,capc,e3,-,-,-,-⟩:=hC.open
 subst e1;subst e2;subst e3
 clear hS hP hC
 go_enter Tryz.func73,Tryz.ntmps73
 go_upto_region 1 with fail
 generalize w.alloc _=w0 at *
 cases hs:sizeD d with
 | error g =>
  have hm:=HM.out
  rw [hs] at HSZ hm
  have HM2:=Jh hm
  have hg:g≠0:=by
   unfold sizeD at hs
   repeat' split at hs
   all_goals first | (injection hs with hs;rw [<-hs];decide) | (injection hs with hs;rw [<-hs];assumption) | (cases hs)
  have b1:(g==0)=false:=by rw [beq_eq_false_iff_ne];exact hg
  clear hs hm hg HM
  go_upto_region 2 with (first | ((with_reducible show Jl 26);refine Jm 26 (HB.out) agg_Flat rfl ?_) | (go_at_call 100;refine HSZ.out.mono ?_;rintro r w1 hq;rcases hq with ⟨g',h1,-,rfl,hx1⟩ | ⟨y,a,b,c,h1,-⟩) | ((with_reducible show Js 26);refine wpList_store_new rfl 26 _ _ rfl rfl (by first | rfl | simp) rfl agg_Flat (rfl) rfl (by rfl) ?_))
  ·obtain rfl:g=g':=by injection h1
   have hx2:=Jh (hx1.alloc (.cells zero3.toArray 26))
   clear h1
   generalize w1.alloc _=w2 at *
   go_wp2_with fail
   go_ret
   exact ⟨ret_int HM2.out.symm,HX.out.trans hx2.out⟩
 | ok y =>
  have hsy:=sizeD_signals hs
  have hm:=HM.out
  rw [hs] at HSZ hm
  have HM2:=Jh hm
  have HSY:=Jh hsy
  clear hs hm hsy HM
  go_upto_region 2 with (first | ((with_reducible show Jl 26);refine Jm 26 (HB.out) agg_Flat rfl ?_) | (go_at_call 100;refine HSZ.out.mono ?_;rintro r w1 hq;rcases hq with ⟨g',h1,-⟩ | ⟨y',a,b,c,h1,rfl,hv1,hx1⟩) | ((with_reducible show Js 26);refine wpList_store_new rfl 26 _ _ rfl rfl (by first | rfl | simp) rfl agg_Flat (rfl) rfl (by (obtain ⟨s',p',c',e,q1,q2,q3⟩:=hv1;injection e with e;injection e with e;injection e with e1 e2;injection e2 with e2 e3;injection e3 with e3 e4;subst e1;subst e2;subst e3;simp [q1.one,q2.one,q3.one])) ?_))
  ·obtain rfl:y=y':=by injection h1
   have hx2:=hx1.alloc (.cells [a,b,c].toArray 26)
   have hy2:=Jh (Has.alloc w1 [a,b,c] 26)
   have hv2:=hv1.ext (ext_alloc w1 (.cells [a,b,c].toArray 26))
   have HSM:=Jh (fun W (hx:Ext _ W)=>Same_callsR y d _ _ W (hv2.ext hx) (HF.out.ext ((HX.out.trans hx2).trans hx)) HSY.out)
   have HB2:=Jh (HB.out.ext hx2)
   have HX2:=Jh (HX.out.trans hx2)
   clear h1 hv1 hv2 hx2 hx1
   generalize w1.alloc _=w2 at *
   obtain ⟨p,hp⟩:∃ p,(sameProcs y.procs d.procs&&sameChecks y.checks d.checks)=p:=⟨_,rfl⟩
   have hm:=HM2.out
   try simp only at hm
   rw [hp] at HSM hm
   have HM3:=Jh hm
   clear hm hp HM2
   cases p
   ·go_wp2_with (first | ((with_reducible show Jl 26);refine Jm 26 (hy2.out) agg_Flat rfl ?_) | ((with_reducible show Jl 26);refine Jm 26 (HB2.out) agg_Flat rfl ?_) | (go_at_call 101;refine (HSM.out _ (Below.refl _ _)).mono ?_;rintro r w3 ⟨rfl,hx3⟩))
    all_goals go_ret
    all_goals exact ⟨ret_int (by rw [HM3.out];rfl),HX2.out.trans hx3⟩
   ·go_wp2_with (first | ((with_reducible show Jl 26);refine Jm 26 (hy2.out) agg_Flat rfl ?_) | ((with_reducible show Jl 26);refine Jm 26 (HB2.out) agg_Flat rfl ?_) | (go_at_call 101;refine (HSM.out _ (Below.refl _ _)).mono ?_;rintro r w3 ⟨rfl,hx3⟩))
    all_goals go_ret
    all_goals exact ⟨ret_int (by rw [HM3.out];rfl),HX2.out.trans hx3⟩
end Go.Proofs.YtaipaccpaljecaaGreat
