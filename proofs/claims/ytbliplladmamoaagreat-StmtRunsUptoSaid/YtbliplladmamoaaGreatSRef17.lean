/- Laws and walks that a claim of this seat leans on: Ref17. -/
import Derived.Test.YtbliplladmamoaaGreatS30
import Derived.Test.YtbliplladmamoaaGreatS00
set_option maxRecDepth 100000
set_option maxHeartbeats 8000000
set_option linter.all false
namespace Go.Proofs.YtbliplladmamoaaGreat
open Go.RowKit
theorem Ext.drewNR {w w':World} (h:Ext w w') (n:Nat):Ext w (w'.drewN n):=h.trans ⟨rfl,rfl,rfl,Nat.le_refl _,fun _ _=>rfl⟩
theorem Nd {α:Type} (f:α->α->Bool) (a:List α):∀ b:List α,Bg f a b=true↔a.length=b.length/\∀ j (h:j<a.length) (h':j<b.length),f a[j] b[j]=true:=by
 induction a with
 | nil=>intro b;cases b<;>simp [Bg]
 | cons x a ih =>
  intro b
  cases b with
  | nil=>simp [Bg]
  | cons y b =>
   simp only [Bg,Bool.and_eq_true,ih,List.length_cons,Nat.add_right_cancel_iff]
   constructor
   ·rintro ⟨h1,h2,h3⟩
    refine ⟨h2,fun j h h'=>?_⟩
    cases j with
    | zero=>exact h1
    | succ j=>simpa using h3 j (by omega) (by omega)
   ·rintro ⟨h2,h3⟩
    exact ⟨h3 0 (by omega) (by omega),h2,fun j h h'=>h3 (j+1) (by omega) (by omega)⟩
theorem Kj {α:Type} {f:α->α->Bool} {a b:List α} (h:¬ (a.length=b.length/\∀ j (h:j<a.length) (h':j<b.length),f a[j] b[j]=true)):Bg f a b=false:=by
 cases e:Bg f a b
 ·rfl
 ·exact absurd ((Nd f a b).1 e) h
theorem Xi (x y:Bb) (v v':Value) (w:World) (h:Ck w v x) (h':Ck w v' y) (hs:x.signals=y.signals) :
  Calls Tryz.prog 75 #[v,v'] w fun r w'=>r=.returned (.bool (Gj x.procs y.procs&&Ga x.checks y.checks))/\Ext w w':=by
 obtain ⟨sv,pv,cv,rfl,hS,hP,hC⟩:=h
 obtain ⟨dd,dc,c5,rfl,b9,b8,b7⟩:=h'
 obtain ⟨a1,b1,o1,c1,rfl,c6,c9,cb,cf⟩:=hS.open
 obtain ⟨a2,b2,o2,c2,rfl,c7,da,cc,cg⟩:=hP.open
 obtain ⟨a3,b3,o3,c3,rfl,c8,db,cd,ci⟩:=hC.open
 obtain ⟨b0,b6,cj,be,rfl,cx,ch,a5,a8⟩:=b9.open
 obtain ⟨b4,ag,ai,az,rfl,cy,c0,a6,a9⟩:=b8.open
 obtain ⟨b5,ak,an,ah,rfl,cz,c4,a7,ba⟩:=b7.open
 have cl:=Jh cb
 have cm:=Jh cc
 have cn:=Jh cd
 have bl:=Jh a5
 have bm:=Jh a6
 have bo:=Jh a7
 have cp:=Jh cf
 have cq:=Jh cg
 have cr:=Jh ci
 have bv:=Jh a8
 have bw:=Jh a9
 have bx:=Jh ba
 have ct:=Jh hs
 have bu:=Jh (show x.signals.length=y.signals.length by rw [hs])
 have ca:=Ab w (.cells [.slice a1 x.signals.length c1,.slice a2 x.procs.length c2,.slice a3 x.checks.length c3].toArray 26)
 have bf:=Ab (w.alloc (.cells [.slice a1 x.signals.length c1,.slice a2 x.procs.length c2,.slice a3 x.checks.length c3].toArray 26)) (.cells [.slice b0 y.signals.length be,.slice b4 y.procs.length az,.slice b5 y.checks.length ah].toArray 26)
 have ax:=(Has.alloc w [.slice a1 x.signals.length c1,.slice a2 x.procs.length c2,.slice a3 x.checks.length c3] 26).ext bf
 have av:=Has.alloc (w.alloc (.cells [.slice a1 x.signals.length c1,.slice a2 x.procs.length c2,.slice a3 x.checks.length c3].toArray 26)) [.slice b0 y.signals.length be,.slice b4 y.procs.length az,.slice b5 y.checks.length ah] 26
 rw [World.size_alloc] at av
 have hX:=ca.trans bf
 clear ca bf hS hP hC b9 b8 b7 cb cc cd a5 a6 a7 cf cg ci a8 a9 ba
 obtain ⟨tp,bj⟩:∃ t,Gj x.procs y.procs=t:=⟨_,rfl⟩
 obtain ⟨tc,bi⟩:∃ t,Ga x.checks y.checks=t:=⟨_,rfl⟩
 rw [bj,bi]
 have bd:=Jh (show Bg eqP x.procs y.procs=tp from bj)
 have bc:=Jh (show Bg eqC x.checks y.checks=tc from bi)
 clear bj bi hs
 go_enter Tryz.func75,Tryz.ntmps75
 go_upto_region 1 with fail
 generalize (w.alloc _).alloc _=w0 at *
 have bb:=Jh ax
 have bp:=Jh av
 have HX:=Jh hX
 have f0:=ax 0 _ rfl
 have f1:=ax 1 _ rfl
 have f2:=ax 2 _ rfl
 have g0:=av 0 _ rfl
 have g1:=av 1 _ rfl
 have g2:=av 2 _ rfl
 clear ax av hX
 have d0:(((x.signals.length:Nat):Int) != ((y.signals.length:Nat):Int))=false:=by have:=bu.out;rw [bne_eq_false_iff_eq];omega
 by_cases q1:x.procs.length=y.procs.length
 rotate_left
 ·have d1:(((x.procs.length:Nat):Int) != ((y.procs.length:Nat):Int))=true:=by rw [bne_iff_ne];omega
  have HF:=Jh (show tp=false by rw [<-bd.out];exact Kj (fun h=>q1 h.1))
  clear q1
  go_wp2_with fail
  go_ret
  exact ⟨Af (by rw [HF.out];rfl),HX.out⟩
 have d1:(((x.procs.length:Nat):Int) != ((y.procs.length:Nat):Int))=false:=by rw [bne_eq_false_iff_eq];omega
 have bs:=Jh q1
 clear q1
 by_cases q2:x.checks.length=y.checks.length
 rotate_left
 ·have d2:(((x.checks.length:Nat):Int) != ((y.checks.length:Nat):Int))=true:=by rw [bne_iff_ne];omega
  have HF:=Jh (show tc=false by rw [<-bc.out];exact Kj (fun h=>q2 h.1))
  clear q2
  go_wp2_with fail
  go_ret
  exact ⟨Af (by rw [HF.out,Bool.and_false]),HX.out⟩
 have d2:(((x.checks.length:Nat):Int) != ((y.checks.length:Nat):Int))=false:=by rw [bne_eq_false_iff_eq];omega
 have bt:=Jh q2
 clear q2
 go_upto_region 3 with fail
 clear d0 d1 d2 f0 f1 f2 g0 g1 g2
 go_wp2_with fail
 go_loopw [5] (fun i wr=>∃ k:Nat,k<=x.signals.length/\i=.int .i64 k/\Ext w0 wr) (fun i _=>x.signals.length-(intOf i).toNat)
 case atStart=>exact ⟨0,Nat.zero_le _,rfl,Below.refl _ _⟩
 case round =>
  obtain ⟨k,hk,rfl,hB⟩:=hrel
  have u:=Jh hB
  have f0:=(bb.out.ext hB) 0 _ rfl
  rw [Nat.add_zero] at f0
  clear hB
  by_cases am:k<x.signals.length
  ·have aa:k<y.signals.length:=by have:=bu.out;omega
   have he:=Cq.get (cp.out.mono fun x _ b o h=>C6.ext' (HX.out.trans u.out) h) am
   have bg:=Cq.get (bv.out.mono fun x _ b o h=>C6.ext' (HX.out.trans u.out) h) aa
   obtain rfl:=cl.out (by omega)
   obtain rfl:=bl.out (by omega)
   have ce:y.signals[k]=x.signals[k]:=by
    have h1:x.signals[k]? = y.signals[k]?:=by rw [ct.out]
    rw [List.getElem?_eq_getElem am,List.getElem?_eq_getElem aa] at h1
    injection h1 with h1;exact h1.symm
   rw [ce] at bg
   have HE:=Jh he
   have co:=Jh bg
   clear he bg ce
   generalize x.signals[k]=z at *
   go_upto_region 6 with fail
   clear f0
   refine Jg wr fun hH=>?_
   try simp only [J]
   (refine Jt 0 _ rfl (yif_load1 rfl (by intro W hW;clear hW;go_simp;rfl)) hH ?_;try simp only [J])
   (refine Jt 1 (.slice (some ⟨b1,o1,Option.none⟩) x.signals.length c1) rfl (yif_load1 rfl (by intro W hW;have y7:=(bb.out.ext (u.out.trans hW)) 0 _ rfl;rw [Nat.add_zero] at y7;clear hW;go_simp)) hH ?_;try simp only [J])
   (refine Ji 2 _ rfl hH ?_;try simp only [J])
   (refine Jp 3 (.pointer (some ⟨b1,o1+k*4,Option.none⟩)) rfl hH ?_;try simp only [J])
   (refine Jt 4 (.agg z.cells.toArray) rfl (Ar rfl 37 _ rfl rfl (fun W hW=>HE.out.ext hW) Br rfl) hH ?_;try simp only [J])
   (refine Jt 5 _ rfl (yif_load1 rfl (by intro W hW;clear hW;go_simp;rfl)) hH ?_;try simp only [J])
   (refine Jt 6 (.slice (some ⟨b6,cj,Option.none⟩) y.signals.length be) rfl (yif_load1 rfl (by intro W hW;have y7:=(bp.out.ext (u.out.trans hW)) 0 _ rfl;rw [Nat.add_zero] at y7;clear hW;go_simp)) hH ?_;try simp only [J])
   (refine Ji 7 _ rfl hH ?_;try simp only [J])
   (refine Jp 8 (.pointer (some ⟨b6,cj+k*4,Option.none⟩)) rfl hH ?_;try simp only [J])
   (refine Jt 9 (.agg z.cells.toArray) rfl (Ar rfl 37 _ rfl rfl (fun W hW=>co.out.ext hW) Br rfl) hH ?_;try simp only [J])
   (refine Jt 10 (.bool false) rfl (yif_load1 rfl (fun W _=>La rfl z rfl rfl W)) hH ?_;try simp only [J])
   refine Jz ?_
   go_wp2_with fail
   go_roundw
   case rel=>exact ⟨k+1,by omega,by go_num,u.out.trans hH⟩
   case measure=>simp [intOf];omega
  ·obtain ⟨wo,rfl⟩:∃ x,x=wr:=⟨_,rfl⟩
   have ab:=Jh (HX.out.trans u.out)
   have ae:=Jh (bb.out.ext u.out)
   have af:=Jh (bp.out.ext u.out)
   go_wp2_with fail
   clear f0
   go_loopw [6] (fun i wr=>∃ k:Nat,k<=x.procs.length/\i=.int .i64 k/\(∀ j,j<k->∀ (h:j<x.procs.length) (h':j<y.procs.length),eqP x.procs[j] y.procs[j]=true)/\Ext wo wr) (fun i _=>x.procs.length-(intOf i).toNat)
   case atStart=>exact ⟨0,Nat.zero_le _,rfl,fun j hj=>absurd hj (by omega),Below.refl _ _⟩
   case round =>
    obtain ⟨k,hk,rfl,al,hB⟩:=hrel
    have aj:=Jh al
    have u:=Jh hB
    have f1:=(ae.out.ext hB) 1 _ rfl
    clear al hB
    by_cases am:k<x.procs.length
    ·have aa:k<y.procs.length:=by have:=bs.out;omega
     obtain ⟨s1,q1,q2⟩:=Hg.get (cq.out.mono fun x _ b o h=>Cy.ext' (ab.out.trans u.out) h) am
     obtain ⟨s2,q3,q4⟩:=Hg.get (bw.out.mono fun x _ b o h=>Cy.ext' (ab.out.trans u.out) h) aa
     obtain rfl:=cm.out (by omega)
     obtain rfl:=bm.out (by omega)
     have ac:=Jh (fun (h:¬ eqP x.procs[k] y.procs[k]=true)=>(show tp=false by rw [<-bd.out];exact Kj (fun g=>h (g.2 k am aa))))
     have aw:=Jh (fun (h:eqP x.procs[k] y.procs[k]=true)=>(show ∀ j,j<k+1->∀ (h:j<x.procs.length) (h':j<y.procs.length),eqP x.procs[j] y.procs[j]=true from fun j hj h1 h2=>by
      by_cases e:j=k
      ·subst e;exact h
      ·exact aj.out j (by omega) h1 h2))
     obtain ⟨p,hp⟩:∃ p,x.procs[k]=p:=⟨_,rfl⟩
     obtain ⟨p',aq⟩:∃ p,y.procs[k]=p:=⟨_,rfl⟩
     rw [hp,aq] at ac aw
     rw [hp] at q1 q2
     rw [aq] at q3 q4
     clear hp aq
     have HC:=Jh (fun W (hx:Ext wr W)=>Vq p.l p'.l s1 s2 W (q2.ext hx) (q4.ext hx))
     obtain ⟨c,hc⟩:∃ c,(p.clocked==p'.clocked)=c:=⟨_,rfl⟩
     obtain ⟨e,he⟩:∃ e,Bg eqT p.l p'.l=e:=⟨_,rfl⟩
     rw [he] at HC
     have ap:=Jh (show eqP p p'=(c&&e) by unfold eqP;rw [hc,he])
     have ao:=Jh hc
     have ar:=Jh q1
     have au:=Jh q3
     have a0:=Jh q1.tail
     have a4:=Jh q3.tail
     clear hc he q1 q2 q3 q4
     cases c
     ·have HF:=Jh (ac.out (by rw [ap.out];simp))
      have yp:wr.cell? ⟨b2,o2+k*2,Option.none⟩=some (.bool p.clocked):=ar.out 0 _ rfl
      have yq:wr.cell? ⟨ag,ai+k*2,Option.none⟩=some (.bool p'.clocked):=au.out 0 _ rfl
      have g1:=(af.out.ext u.out) 1 _ rfl
      have cu:=ao.out
      have cw:k<y.procs.length:=aa
      go_upto_region 11 with fail
      go_quiet (fail)
      go_wp2_with fail
      go_ret
      exact ⟨Af (by rw [HF.out];simp),ab.out.trans (u.out.drewNR _)⟩
     ·go_upto_region 11 with fail
      clear f1
      refine Jg wr fun hH=>?_
      try simp only [J]
      (refine Jt 0 _ rfl (yif_load1 rfl (by intro W hW;clear hW;go_simp;rfl)) hH ?_;try simp only [J])
      (refine Jt 1 (.slice (some ⟨b2,o2,Option.none⟩) x.procs.length c2) rfl (yif_load1 rfl (by intro W hW;have y7:=(ae.out.ext (u.out.trans hW)) 1 _ rfl;clear hW;go_simp)) hH ?_;try simp only [J])
      (refine Ji 2 _ rfl hH ?_;try simp only [J])
      (refine Jp 3 (.pointer (some ⟨b2,o2+k*2,Option.none⟩)) rfl hH ?_;try simp only [J])
      (refine Jk 4 (.pointer (some ⟨b2,o2+k*2,Option.none⟩)) rfl hH ?_;try simp only [J])
      (refine Jt 5 (.bool p.clocked) rfl (yif_load1 rfl (by intro W hW;have y0:W.cell? ⟨b2,o2+k*2,none⟩=some (.bool p.clocked):=(ar.out.ext hW) 0 _ rfl;clear hW;go_simp)) hH ?_;try simp only [J])
      (refine Jt 6 _ rfl (yif_load1 rfl (by intro W hW;clear hW;go_simp;rfl)) hH ?_;try simp only [J])
      (refine Jt 7 (.slice (some ⟨ag,ai,Option.none⟩) y.procs.length az) rfl (yif_load1 rfl (by intro W hW;have y7:=(af.out.ext (u.out.trans hW)) 1 _ rfl;clear hW;go_simp)) hH ?_;try simp only [J])
      (refine Ji 8 _ rfl hH ?_;try simp only [J])
      (refine Jp 9 (.pointer (some ⟨ag,ai+k*2,Option.none⟩)) rfl hH ?_;try simp only [J])
      (refine Jk 10 (.pointer (some ⟨ag,ai+k*2,Option.none⟩)) rfl hH ?_;try simp only [J])
      (refine Jt 11 (.bool p'.clocked) rfl (yif_load1 rfl (by intro W hW;have y0:W.cell? ⟨ag,ai+k*2,none⟩=some (.bool p'.clocked):=(au.out.ext hW) 0 _ rfl;clear hW;go_simp)) hH ?_;try simp only [J])
      (refine Jt 12 (.bool false) rfl (yif_load1 rfl (by intro W hW;clear hW;first | (go_simp;done) | (go_simp;simp [ao.out];done) | (go_simp;simpa using ao.out))) hH ?_;try simp only [J])
      (refine Ji 13 _ rfl hH ?_;try simp only [J])
      (refine Jt 14 _ rfl (yif_load1 rfl (by intro W hW;clear hW;go_simp;rfl)) hH ?_;try simp only [J])
      (refine Jt 15 (.slice (some ⟨b2,o2,Option.none⟩) x.procs.length c2) rfl (yif_load1 rfl (by intro W hW;have y7:=(ae.out.ext (u.out.trans hW)) 1 _ rfl;clear hW;go_simp)) hH ?_;try simp only [J])
      (refine Ji 16 _ rfl hH ?_;try simp only [J])
      (refine Jp 17 (.pointer (some ⟨b2,o2+k*2,Option.none⟩)) rfl hH ?_;try simp only [J])
      (refine Jk 18 (.pointer (some ⟨b2,o2+k*2+1,Option.none⟩)) rfl hH ?_;try simp only [J])
      (refine Jt 19 (s1) rfl (yif_load1 rfl (by intro W hW;have y0:W.cell? ⟨b2,o2+k*2+1,none⟩=some s1:=(ar.out.ext hW) 1 _ rfl;clear hW;go_simp)) hH ?_;try simp only [J])
      (refine Jt 20 _ rfl (yif_load1 rfl (by intro W hW;clear hW;go_simp;rfl)) hH ?_;try simp only [J])
      (refine Jt 21 (.slice (some ⟨ag,ai,Option.none⟩) y.procs.length az) rfl (yif_load1 rfl (by intro W hW;have y7:=(af.out.ext (u.out.trans hW)) 1 _ rfl;clear hW;go_simp)) hH ?_;try simp only [J])
      (refine Ji 22 _ rfl hH ?_;try simp only [J])
      (refine Jp 23 (.pointer (some ⟨ag,ai+k*2,Option.none⟩)) rfl hH ?_;try simp only [J])
      (refine Jk 24 (.pointer (some ⟨ag,ai+k*2+1,Option.none⟩)) rfl hH ?_;try simp only [J])
      (refine Jt 25 (s2) rfl (yif_load1 rfl (by intro W hW;have y0:W.cell? ⟨ag,ai+k*2+1,none⟩=some s2:=(au.out.ext hW) 1 _ rfl;clear hW;go_simp)) hH ?_;try simp only [J])
      refine Jr 26 rfl fun K hK=>?_
      go_simp
      refine (HC.out _ hH).mono ?_
      rintro r w1 ⟨rfl,bk⟩
      refine hK.out _ _ (hH.trans bk) (fun hH=>?_)
      clear hK K
      try simp only [J]
      (refine Jk 27 (.bool (!e)) rfl hH ?_;try simp only [J])
      (refine Jk 28 (.bool (!e)) rfl hH ?_;try simp only [J])
      refine Jz ?_
      cases e
      ·have HF:=Jh (ac.out (by rw [ap.out];simp))
       go_wp2_with fail
       go_ret
       exact ⟨Af (by rw [HF.out];simp),ab.out.trans (u.out.trans hH)⟩
      ·have HN:=Jh (aw.out (by rw [ap.out];rfl))
       go_wp2_with fail
       go_roundw
       case rel=>exact ⟨k+1,by omega,by go_num,HN.out,u.out.trans hH⟩
       case measure=>simp [intOf];omega
    ·obtain rfl:k=x.procs.length:=by omega
     have ay:=Jh (show tp=true by rw [<-bd.out];exact (Nd _ _ _).2 ⟨bs.out,fun j h h'=>aj.out j h h h'⟩)
     have bz:=ay
     have bh:=Jh (ab.out.trans u.out)
     have bq:=Jh (ae.out.ext u.out)
     have br:=Jh (af.out.ext u.out)
     clear ay ab ae af
     have ab:=bh
     have ae:=bq
     have af:=br
     clear bh bq br
     obtain ⟨wp,rfl⟩:∃ x,x=wr:=⟨_,rfl⟩
     go_wp2_with fail
     clear f1
     go_loopw [7] (fun i wr=>∃ k:Nat,k<=x.checks.length/\i=.int .i64 k/\(∀ j,j<k->∀ (h:j<x.checks.length) (h':j<y.checks.length),eqC x.checks[j] y.checks[j]=true)/\Ext wp wr) (fun i _=>x.checks.length-(intOf i).toNat)
     case atStart=>exact ⟨0,Nat.zero_le _,rfl,fun j hj=>absurd hj (by omega),Below.refl _ _⟩
     case round =>
      obtain ⟨k,hk,rfl,al,hB⟩:=hrel
      have aj:=Jh al
      have u:=Jh hB
      have f1:=(ae.out.ext hB) 2 _ rfl
      clear al hB
      by_cases am:k<x.checks.length
      ·have aa:k<y.checks.length:=by have:=bt.out;omega
       obtain ⟨s1,q1,q2⟩:=Nx.get (cr.out.mono fun x _ b o h=>Dr.ext' (ab.out.trans u.out) h) am
       obtain ⟨s2,q3,q4⟩:=Nx.get (bx.out.mono fun x _ b o h=>Dr.ext' (ab.out.trans u.out) h) aa
       obtain rfl:=cn.out (by omega)
       obtain rfl:=bo.out (by omega)
       have ac:=Jh (fun (h:¬ eqC x.checks[k] y.checks[k]=true)=>(show tc=false by rw [<-bc.out];exact Kj (fun g=>h (g.2 k am aa))))
       have aw:=Jh (fun (h:eqC x.checks[k] y.checks[k]=true)=>(show ∀ j,j<k+1->∀ (h:j<x.checks.length) (h':j<y.checks.length),eqC x.checks[j] y.checks[j]=true from fun j hj h1 h2=>by
        by_cases e:j=k
        ·subst e;exact h
        ·exact aj.out j (by omega) h1 h2))
       obtain ⟨p,hp⟩:∃ p,x.checks[k]=p:=⟨_,rfl⟩
       obtain ⟨p',aq⟩:∃ p,y.checks[k]=p:=⟨_,rfl⟩
       rw [hp,aq] at ac aw
       rw [hp] at q1 q2
       rw [aq] at q3 q4
       clear hp aq
       have HC:=Jh (fun W (hx:Ext wr W)=>Kg p.e p'.e _ _ W ⟨s1,rfl,q2.ext hx⟩ ⟨s2,rfl,q4.ext hx⟩)
       obtain ⟨c,hc⟩:∃ c,(p.name.toList==p'.name.toList)=c:=⟨_,rfl⟩
       obtain ⟨e,he⟩:∃ e,eqE p.e p'.e=e:=⟨_,rfl⟩
       rw [he] at HC
       have ap:=Jh (show eqC p p'=(c&&e) by unfold eqC;rw [he,<-hc];congr 1;rw [Bool.eq_iff_iff];simp)
       have ao:=Jh hc
       have ar:=Jh q1
       have au:=Jh q3
       have a0:=Jh q1.tail
       have a4:=Jh q3.tail
       clear hc he q1 q2 q3 q4
       cases c
       ·have HF:=Jh (ac.out (by rw [ap.out];simp))
        have yp:wr.cell? ⟨b3,o3+k*9,Option.none⟩=some (.string p.name):=ar.out 0 _ rfl
        have yq:wr.cell? ⟨ak,an+k*9,Option.none⟩=some (.string p'.name):=au.out 0 _ rfl
        have g1:=(af.out.ext u.out) 2 _ rfl
        have cu:=ao.out
        have cw:k<y.checks.length:=aa
        go_upto_region 16 with fail
        go_quiet (fail)
        go_wp2_with fail
        go_ret
        exact ⟨Af (by rw [HF.out];simp),ab.out.trans (u.out.drewNR _)⟩
       ·go_upto_region 16 with fail
        clear f1
        refine Jg wr fun hH=>?_
        try simp only [J]
        (refine Jt 0 _ rfl (yif_load1 rfl (by intro W hW;clear hW;go_simp;rfl)) hH ?_;try simp only [J])
        (refine Jt 1 (.slice (some ⟨b3,o3,Option.none⟩) x.checks.length c3) rfl (yif_load1 rfl (by intro W hW;have y7:=(ae.out.ext (u.out.trans hW)) 2 _ rfl;clear hW;go_simp)) hH ?_;try simp only [J])
        (refine Ji 2 _ rfl hH ?_;try simp only [J])
        (refine Jp 3 (.pointer (some ⟨b3,o3+k*9,Option.none⟩)) rfl hH ?_;try simp only [J])
        (refine Jk 4 (.pointer (some ⟨b3,o3+k*9,Option.none⟩)) rfl hH ?_;try simp only [J])
        (refine Jt 5 (.string p.name) rfl (yif_load1 rfl (by intro W hW;have y0:W.cell? ⟨b3,o3+k*9,none⟩=some (.string p.name):=(ar.out.ext hW) 0 _ rfl;clear hW;go_simp)) hH ?_;try simp only [J])
        (refine Jt 6 _ rfl (yif_load1 rfl (by intro W hW;clear hW;go_simp;rfl)) hH ?_;try simp only [J])
        (refine Jt 7 (.slice (some ⟨ak,an,Option.none⟩) y.checks.length ah) rfl (yif_load1 rfl (by intro W hW;have y7:=(af.out.ext (u.out.trans hW)) 2 _ rfl;clear hW;go_simp)) hH ?_;try simp only [J])
        (refine Ji 8 _ rfl hH ?_;try simp only [J])
        (refine Jp 9 (.pointer (some ⟨ak,an+k*9,Option.none⟩)) rfl hH ?_;try simp only [J])
        (refine Jk 10 (.pointer (some ⟨ak,an+k*9,Option.none⟩)) rfl hH ?_;try simp only [J])
        (refine Jt 11 (.string p'.name) rfl (yif_load1 rfl (by intro W hW;have y0:W.cell? ⟨ak,an+k*9,none⟩=some (.string p'.name):=(au.out.ext hW) 0 _ rfl;clear hW;go_simp)) hH ?_;try simp only [J])
        (refine Jt 12 (.bool false) rfl (yif_load1 rfl (by intro W hW;clear hW;first | (go_simp;done) | (go_simp;simp [ao.out];done) | (go_simp;simpa using ao.out))) hH ?_;try simp only [J])
        (refine Ji 13 _ rfl hH ?_;try simp only [J])
        (refine Jt 14 _ rfl (yif_load1 rfl (by intro W hW;clear hW;go_simp;rfl)) hH ?_;try simp only [J])
        (refine Jt 15 (.slice (some ⟨b3,o3,Option.none⟩) x.checks.length c3) rfl (yif_load1 rfl (by intro W hW;have y7:=(ae.out.ext (u.out.trans hW)) 2 _ rfl;clear hW;go_simp)) hH ?_;try simp only [J])
        (refine Ji 16 _ rfl hH ?_;try simp only [J])
        (refine Jp 17 (.pointer (some ⟨b3,o3+k*9,Option.none⟩)) rfl hH ?_;try simp only [J])
        (refine Jk 18 (.pointer (some ⟨b3,o3+k*9+1,Option.none⟩)) rfl hH ?_;try simp only [J])
        (refine Jt 19 (.agg (p.e.cells s1).toArray) rfl (Ar rfl 40 _ rfl rfl (fun W hW=>a0.out.ext hW) Ah rfl) hH ?_;try simp only [J])
        (refine Jt 20 _ rfl (yif_load1 rfl (by intro W hW;clear hW;go_simp;rfl)) hH ?_;try simp only [J])
        (refine Jt 21 (.slice (some ⟨ak,an,Option.none⟩) y.checks.length ah) rfl (yif_load1 rfl (by intro W hW;have y7:=(af.out.ext (u.out.trans hW)) 2 _ rfl;clear hW;go_simp)) hH ?_;try simp only [J])
        (refine Ji 22 _ rfl hH ?_;try simp only [J])
        (refine Jp 23 (.pointer (some ⟨ak,an+k*9,Option.none⟩)) rfl hH ?_;try simp only [J])
        (refine Jk 24 (.pointer (some ⟨ak,an+k*9+1,Option.none⟩)) rfl hH ?_;try simp only [J])
        (refine Jt 25 (.agg (p'.e.cells s2).toArray) rfl (Ar rfl 40 _ rfl rfl (fun W hW=>a4.out.ext hW) Ah rfl) hH ?_;try simp only [J])
        refine Jr 26 rfl fun K hK=>?_
        go_simp
        refine (HC.out _ hH).mono ?_
        rintro r w1 ⟨rfl,bk⟩
        refine hK.out _ _ (hH.trans bk) (fun hH=>?_)
        clear hK K
        try simp only [J]
        (refine Jk 27 (.bool (!e)) rfl hH ?_;try simp only [J])
        (refine Jk 28 (.bool (!e)) rfl hH ?_;try simp only [J])
        refine Jz ?_
        cases e
        ·have HF:=Jh (ac.out (by rw [ap.out];simp))
         go_wp2_with fail
         go_ret
         exact ⟨Af (by rw [HF.out];simp),ab.out.trans (u.out.trans hH)⟩
        ·have HN:=Jh (aw.out (by rw [ap.out];rfl))
         go_wp2_with fail
         go_roundw
         case rel=>exact ⟨k+1,by omega,by go_num,HN.out,u.out.trans hH⟩
         case measure=>simp [intOf];omega
      ·obtain rfl:k=x.checks.length:=by omega
       have ay:=Jh (show tc=true by rw [<-bc.out];exact (Nd _ _ _).2 ⟨bt.out,fun j h h'=>aj.out j h h h'⟩)
       go_wp2_with fail
       go_ret
       exact ⟨Af (by rw [ay.out,bz.out];rfl),ab.out.trans u.out⟩
theorem Nw (d:Bb) (v:Value) (w:World) (h:Ck w v d) (u:d.ok) :
  Calls Tryz.prog 39 #[v] w fun r w'=>r=.returned (.int .i64 (By d))/\Ext w w':=by
 have HF:=Jh h
 obtain ⟨sv,pv,cv,rfl,hS,hP,hC⟩:=h
 have HX:=Jh (Ab w (.cells [sv,pv,cv].toArray 26))
 have HB:=Jh (Has.alloc w [sv,pv,cv] 26)
 have HM:=Jh (show By d=_ from by unfold By;rfl)
 have ab:=Jh (Xk d _ _ (HF.out.ext HX.out) u.wf u.nodes u.signals u.procs u.checks)
 obtain ⟨xs,bs,os,av,e1,-,-,-,-⟩:=hS.open
 obtain ⟨ap,bp,op,au,e2,-,-,-,-⟩:=hP.open
 obtain ⟨ac,bc,oc,ar,e3,-,-,-,-⟩:=hC.open
 subst e1;subst e2;subst e3
 clear hS hP hC
 go_enter Tryz.func39,Tryz.ntmps39
 go_upto_region 1 with fail
 generalize w.alloc _=w0 at *
 cases hs:Dp d with
 | error g =>
  have hm:=HM.out
  rw [hs] at ab hm
  have aa:=Jh hm
  have hg:g≠0:=by
   unfold Dp at hs
   repeat' split at hs
   all_goals first | (injection hs with hs;rw [<-hs];decide) | (injection hs with hs;rw [<-hs];assumption) | (cases hs)
  have b1:(g==0)=false:=by rw [beq_eq_false_iff_ne];exact hg
  clear hs hm hg HM
  go_upto_region 2 with (first | ((with_reducible show Jl 26);refine Aa rfl 26 _ rfl rfl (HB.out) Aj rfl ?_) | (go_at_call 74;refine ab.out.mono ?_;rintro r w1 hq;rcases hq with ⟨g',h1,-,rfl,ae⟩ | ⟨y,a,b,c,h1,-⟩) | ((with_reducible show Js 26);refine Ad rfl 26 _ _ rfl rfl (by first | rfl | simp) rfl Aj (rfl) rfl (by rfl) ?_))
  ·obtain rfl:g=g':=by injection h1
   have j:=Jh (ae.alloc (.cells Fk.toArray 26))
   clear h1
   generalize w1.alloc _=w2 at *
   go_wp2_with fail
   go_ret
   exact ⟨Bv aa.out.symm,HX.out.trans j.out⟩
 | ok y =>
  have am:=M5 hs
  have hm:=HM.out
  rw [hs] at ab hm
  have aa:=Jh hm
  have aq:=Jh am
  clear hs hm am HM
  go_upto_region 2 with (first | ((with_reducible show Jl 26);refine Aa rfl 26 _ rfl rfl (HB.out) Aj rfl ?_) | (go_at_call 74;refine ab.out.mono ?_;rintro r w1 hq;rcases hq with ⟨g',h1,-⟩ | ⟨y',a,b,c,h1,rfl,ag,ae⟩) | ((with_reducible show Js 26);refine Ad rfl 26 _ _ rfl rfl (by first | rfl | simp) rfl Aj (rfl) rfl (by (obtain ⟨s',p',c',e,q1,q2,q3⟩:=ag;injection e with e;injection e with e;injection e with e1 e2;injection e2 with e2 e3;injection e3 with e3 e4;subst e1;subst e2;subst e3;simp [q1.one,q2.one,q3.one])) ?_))
  ·obtain rfl:y=y':=by injection h1
   have j:=ae.alloc (.cells [a,b,c].toArray 26)
   have ao:=Jh (Has.alloc w1 [a,b,c] 26)
   have an:=ag.ext (Ab w1 (.cells [a,b,c].toArray 26))
   have af:=Jh (fun W (hx:Ext _ W)=>Xi y d _ _ W (an.ext hx) (HF.out.ext ((HX.out.trans j).trans hx)) aq.out)
   have aj:=Jh (HB.out.ext j)
   have al:=Jh (HX.out.trans j)
   clear h1 ag an j ae
   generalize w1.alloc _=w2 at *
   obtain ⟨p,hp⟩:∃ p,(Gj y.procs d.procs&&Ga y.checks d.checks)=p:=⟨_,rfl⟩
   have hm:=aa.out
   try simp only at hm
   rw [hp] at af hm
   have ak:=Jh hm
   clear hm hp aa
   cases p
   ·go_wp2_with (first | ((with_reducible show Jl 26);refine Aa rfl 26 _ rfl rfl (ao.out) Aj rfl ?_) | ((with_reducible show Jl 26);refine Aa rfl 26 _ rfl rfl (aj.out) Aj rfl ?_) | (go_at_call 75;refine (af.out _ (Below.refl _ _)).mono ?_;rintro r w3 ⟨rfl,ai⟩))
    all_goals go_ret
    all_goals exact ⟨Bv (by rw [ak.out];rfl),al.out.trans ai⟩
   ·go_wp2_with (first | ((with_reducible show Jl 26);refine Aa rfl 26 _ rfl rfl (ao.out) Aj rfl ?_) | ((with_reducible show Jl 26);refine Aa rfl 26 _ rfl rfl (aj.out) Aj rfl ?_) | (go_at_call 75;refine (af.out _ (Below.refl _ _)).mono ?_;rintro r w3 ⟨rfl,ai⟩))
    all_goals go_ret
    all_goals exact ⟨Bv (by rw [ak.out];rfl),al.out.trans ai⟩
end Go.Proofs.YtbliplladmamoaaGreat
