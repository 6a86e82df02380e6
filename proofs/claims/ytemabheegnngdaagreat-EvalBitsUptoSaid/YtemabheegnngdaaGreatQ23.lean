/- Laws and walks that a claim of this seat leans on: RefS, Ref7, Ref8, Ref9, Few, LiveE1, FoldM, EvLawL. -/
import Derived.Test.YtemabheegnngdaaGreatQRef1
import Derived.Test.YtemabheegnngdaaGreatQ03
import Derived.Test.YtemabheegnngdaaGreatQRef6
import Derived.Test.YtemabheegnngdaaGreatQ07
import Derived.Test.YtemabheegnngdaaGreatQ05
import Derived.Test.YtemabheegnngdaaGreatQ21
import Derived.Test.YtemabheegnngdaaGreatQ14
import Derived.Test.YtemabheegnngdaaGreatQ00
set_option linter.all false
namespace Go.Proofs.YtemabheegnngdaaGreat
open Go.RowKit
def sigGood (ls:List Signal) (k:Nat):Prop:=∀ h:k < ls.length,(ls[k].name.toList.isEmpty=false)∧sigNum ls[k]=true∧∀ j (hj:j < k),ls[j].name.toList ≠ ls[k].name.toList
theorem sigsOk_good (ls:List Signal):sigsOk [[]] ls=true ↔ ∀ k,sigGood ls k:=by
 rw [sigsOk_iff]
 constructor
 ·intro h k hk
  obtain ⟨h1,h2,h3⟩:=h k hk
  exact ⟨by simpa [ByteArray.toList_eq] using h1,h2,fun j hj=>by simpa [ByteArray.toList_eq] using h3 j hj⟩
 ·intro h k hk
  obtain ⟨h1,h2,h3⟩:=h k hk
  exact ⟨by simpa [ByteArray.toList_eq] using h1,h2,fun j hj=>by simpa [ByteArray.toList_eq] using h3 j hj⟩
theorem sigsOk_bad {ls:List Signal} {k:Nat} (h : ¬ sigGood ls k):sigsOk [[]] ls=false:=by
 cases e:sigsOk [[]] ls
 ·rfl
 ·exact absurd ((sigsOk_good ls).1 e k) h
set_option maxHeartbeats 2000000 in
theorem Signals_callsR (ls:List Signal) (s:Value) (w:World) (hS:Sigs w s ls) (hlen:ls.length ≤ 1048576) :
  Calls Tryz.prog 109 #[s] w fun r w'=>r=.returned (.bool (sigsOk [[]] ls))∧Ext w w':=by
 obtain ⟨a,b,o,cap,rfl,hc1,hc2,ha,hr⟩:=hS.open
 have HR:=Lib.hid hr
 have HA:=Lib.hid ha
 clear hr ha hS
 go_enter Tryz.func109,Tryz.ntmps109
 go_wp2_with fail
 go_loopw [3,4,5] (fun i _ _ wr=>∃ k:Nat,k ≤ ls.length∧i=.int .i64 k∧(∀ j,j < k→sigGood ls j)∧Ext w wr) (fun i _ _ _=>ls.length - (intOf i).toNat)
 case atStart=>exact ⟨0,Nat.zero_le _,rfl,fun j hj=>absurd hj (by omega),Below.refl _ _⟩
 case round =>
  obtain ⟨k,hk,rfl,hgood,hB⟩:=hrel
  have HGOOD:=Lib.hid hgood
  clear hgood
  by_cases hlt:k < ls.length
  ·have he:=Sigs.get (HR.out.mono fun x _ b o h=>SigAt.ext' hB h) hlt
   obtain rfl:=HA.out (by omega)
   have HGET:=Lib.hid (fun (j:Nat) (hj:j < ls.length) W (hx:Ext wr W)=>Sigs.get (HR.out.mono fun x _ b o h=>SigAt.ext' (hB.trans hx) h) hj)
   have HBAD:=Lib.hid (fun (h : ¬ (ls[k].name.toList.isEmpty=false∧sigNum ls[k]=true∧∀ j (hj:j < k),ls[j].name.toList ≠ ls[k].name.toList))=>sigsOk_bad (ls:=ls) (k:=k) (fun g=>h (g hlt)))
   have HGD:=Lib.hid (fun (h:ls[k].name.toList.isEmpty=false∧sigNum ls[k]=true∧∀ j (hj:j < k),ls[j].name.toList ≠ ls[k].name.toList)=>(show sigGood ls k from fun _=>h))
   have hx2:=ext_alloc wr (.cells ls[k].cells.toArray 36)
   have hb2:=Has.alloc wr ls[k].cells 36
   obtain ⟨x,hx⟩ : ∃ x,ls[k]=x:=⟨_,rfl⟩
   rw [hx] at he hx2 hb2 HBAD HGD
   clear hx
   go_upto_region 5 with (first | ((with_reducible show wpList _ _ _ (⟨_,Op.load 36 _,_,_,_,_⟩ :: _) _ _);refine wpList_load_has rfl 36 _ rfl rfl (he) agg_Signal rfl ?_) | ((with_reducible show wpList _ _ _ (⟨_,Op.store 36 _ _,_,_,_,_⟩ :: _) _ _);refine wpList_store_new rfl 36 _ _ rfl rfl (by first | rfl | simp) rfl agg_Signal (rfl) rfl (by rfl) ?_))
   generalize wr.alloc _=w2 at *
   have HB:=Lib.hid hb2
   have HX2:=Lib.hid hx2
   have g0:=hb2 0 _ rfl
   have g1:=hb2 1 _ rfl
   have g2:=hb2 2 _ rfl
   have g3:=hb2 3 _ rfl
   clear hb2 hx2 he
   cases q0:x.name.toList.isEmpty with
   | true =>
    have HF:=Lib.hid (HBAD.out (fun h=>by rw [q0] at h;cases h.1))
    clear HBAD
    go_wp2_with fail
    go_ret
    exact ⟨ret_bool HF.out.symm,hB.trans HX2.out⟩
   | false =>
    cases hn:sigNum x with
    | false =>
     have HF:=Lib.hid (HBAD.out (fun h=>by rw [hn] at h;cases h.2.1))
     clear HBAD HGD
     have b1:x.kind ≠ 4→(x.kind != 4)=true:=fun h=>by rw [bne_iff_ne];exact h
     have b2:x.init ≠ 0→(x.init != 0)=true:=fun h=>by rw [bne_iff_ne];exact h
     have B1:=Lib.hid b1
     have B2:=Lib.hid b2
     clear b1 b2
     have hbad:x.w < 1 ∨ 64 < x.w ∨ x.kind < 1 ∨ 4 < x.kind ∨ (1 ≤ x.w∧x.w ≤ 64∧1 ≤ x.kind∧x.kind ≤ 4∧x.kind ≠ 4∧x.init ≠ 0):=by
      unfold sigNum at hn
      by_cases h1:x.w < 1
      ·exact .inl h1
      by_cases h2:64 < x.w
      ·exact .inr (.inl h2)
      by_cases h3:x.kind < 1
      ·exact .inr (.inr (.inl h3))
      by_cases h4:4 < x.kind
      ·exact .inr (.inr (.inr (.inl h4)))
      by_cases h5:x.kind=4
      ·exfalso;simp [h5] at hn;omega
      by_cases h6:x.init=0
      ·exfalso;simp [h6] at hn;omega
      exact .inr (.inr (.inr (.inr ⟨by omega,by omega,by omega,by omega,h5,h6⟩)))
     clear hn
     rcases hbad with h1 | h1 | h1 | h1 | ⟨h1,h2,h3,h4,h5,h6⟩
     rotate_left 4
     ·have b1:=B1.out h5
      have b2:=B2.out h6
      clear h5 h6
      go_wp2_with fail
      all_goals go_ret
      all_goals exact ⟨ret_bool HF.out.symm,hB.trans HX2.out⟩
     all_goals (go_wp2_with fail)
     all_goals go_ret
     all_goals exact ⟨ret_bool HF.out.symm,hB.trans HX2.out⟩
    | true =>
     have hn':=hn
     unfold sigNum at hn'
     simp only [Bool.and_eq_true,Bool.or_eq_true,decide_eq_true_eq] at hn'
     obtain ⟨⟨⟨⟨q1,q2⟩,q3⟩,q4⟩,q5⟩:=hn'
     have HNUM:=Lib.hid hn
     have hb4:(x.kind != 4)=false ∨ ((x.kind != 4)=true∧(x.init != 0)=false):=by
      by_cases hk4:x.kind=4
      ·exact .inl (by rw [bne_eq_false_iff_eq];exact hk4)
      ·exact .inr ⟨by rw [bne_iff_ne];exact hk4,by rw [bne_eq_false_iff_eq];exact q5.resolve_left hk4⟩
     clear hn q5
     rcases hb4 with b1 | ⟨b1,b2⟩
     all_goals (
      go_upto_region 7 with fail
      clear g1 g2 g3 q1 q2 q3 q4
      go_wp2_with fail
      go_loopw [5] (fun i wr'=>∃ j:Nat,j ≤ k∧i=.int .i64 j∧(∀ j',(hj':j' < j)→(hj2:j' < ls.length)→ls[j'].name.toList ≠ x.name.toList)∧Ext w2 wr') (fun i _=>k - (intOf i).toNat)
      case atStart=>exact ⟨0,Nat.zero_le _,rfl,fun j' hj'=>absurd hj' (by omega),Below.refl _ _⟩
      case round =>
       obtain ⟨j,hj,rfl,hne,hB2⟩:=hrel
       have HNE:=Lib.hid hne
       have HBB:=Lib.hid hB2
       clear hne hB2
       by_cases hjk:j < k
       ·have HGJ:=Lib.hid (HGET.out j (by omega))
        obtain ⟨y,hy⟩ : ∃ y,ls[j]=y:=⟨_,rfl⟩
        rw [hy] at HGJ
        have HY:=Lib.hid hy
        clear hy
        obtain ⟨c,hc⟩ : ∃ c,(y.name.toList == x.name.toList)=c:=⟨_,rfl⟩
        have HC:=Lib.hid hc
        clear hc
        go_upto_region 10 with fail
        refine wp_region_held_drew (S:=fun W=>Ext w2 W) (by kernel_rfl) (Below.drew HBB.out) (fun hHeld=>?_)
        try simp only [J]
        (refine Jt 0 (_) rfl (yif_load1 rfl fun _ _=>rfl) hHeld ?_;try simp only [J])
        (refine Jt 1 (_) rfl (yif_load1 rfl fun _ _=>rfl) hHeld ?_;try simp only [J])
        (refine Jt 2 (.pointer (some ⟨b,o + j * 4,Option.none⟩)) rfl (yif_load1 rfl (by intro W hW;clear hW;go_simp;try (intro h;omega))) hHeld ?_;try simp only [J])
        (refine Jt 3 (_) rfl (yif_load1 rfl (by intro W hW;clear hW;go_simp;rfl)) hHeld ?_;try simp only [J])
        (refine Jt 4 (.string y.name) rfl (yif_load1 rfl (by intro W hW;have y0:W.cell? ⟨b,o + j * 4,none⟩=some (.string y.name):=(HGJ.out W (HX2.out.trans hW)) 0 _ rfl;clear hW;go_simp)) hHeld ?_;try simp only [J])
        (refine Jt 5 (_) rfl (yif_load1 rfl (by intro W hW;clear hW;go_simp;rfl)) hHeld ?_;try simp only [J])
        (refine Jt 6 (.string x.name) rfl (yif_load1 rfl (by intro W hW;have y0:=(HB.out.ext hW) 0 _ rfl;clear hW g0;rw [Nat.add_zero] at y0;go_simp)) hHeld ?_;try simp only [J])
        (refine Jt 7 (.bool c) rfl (yif_load1 rfl (by intro W hW;clear hW;go_simp;exact HC.out)) hHeld ?_;try simp only [J])
        refine wpAnyH_done (by kernel_rfl) ?_ _
        cases c
        ·go_wp2_with fail
         go_roundw
         case rel=>exact ⟨j + 1,by omega,by go_num,fun j' h1 h2=>by
          by_cases e:j'=j
          ·subst e;rw [HY.out];simpa using HC.out
          ·exact HNE.out j' (by omega) h2,hHeld⟩
         case measure=>simp [intOf];omega
        ·have HF:=Lib.hid (HBAD.out (fun h=>h.2.2 j hjk (by rw [HY.out];simpa using HC.out)))
         go_wp2_with fail
         go_ret
         exact ⟨ret_bool HF.out.symm,hB.trans (HX2.out.trans hHeld)⟩
       ·obtain rfl:j=k:=by omega
        have HF:=Lib.hid (HGD.out ⟨q0,HNUM.out,fun j' h=>HNE.out j' h (by omega)⟩)
        clear q0
        go_wp2_with fail
        go_roundw
        case rel=>exact ⟨j + 1,by omega,by go_num,fun j' h=>by
         by_cases e:j'=j
         ·subst e;exact HF.out
         ·exact HGOOD.out j' (by omega),hB.trans (HX2.out.trans HBB.out)⟩
        case measure=>simp [intOf];omega)
  ·obtain rfl:k=ls.length:=by omega
   have HF:=Lib.hid ((sigsOk_good ls).2 (fun k=>by
    by_cases h:k < ls.length
    ·exact HGOOD.out k h
    ·exact fun h'=>absurd h' h))
   go_wp2_with fail
   go_ret
   exact ⟨ret_bool HF.out.symm,hB⟩
open Go.RowKit
open Go.RowKit
def StR (ls:List Signal) (t:T):Prop:=∀ (s0:Value) (cs:List Value) (w:World),Sigs w s0 ls→VT w cs t→t.wf →
 Calls Tryz.prog 230 #[s0,.agg cs.toArray] w fun r w'=>r=.returned (.bool (shapeT ls t))∧Ext w w'
def armOk (ls:List Signal) (l:List T) (k:Nat):Prop:=∀ h:k < l.length,(decide (l[k].e.length=0) == decide (k + 1=l.length))=true∧shapeT.armT ls l[k]=true
open Go.RowKit
theorem eqE_ne {x y:E} (h : ¬ x=y):eqE x y=false:=by
 cases e:eqE x y
 ·rfl
 ·exact absurd ((eqE_iff x y).1 e) h
theorem eqE_same {x y:E} (h:x=y):eqE x y=true:=(eqE_iff x y).2 h
theorem take_eq {α : Type} {l r:List α} {k:Nat} (h:l.take k=r.take k) (hk:k < l.length) (hk':k < r.length) (e:l[k]=r[k]):l.take (k + 1)=r.take (k + 1):=by
 rw [take_snoc l k hk,take_snoc r k hk',h,e]
def SameER (x:E):Prop:=∀ (y:E) (cs cs':List Value) (w:World),VE w cs x→VE w cs' y →
  Calls Tryz.prog 27 #[.agg cs.toArray,.agg cs'.toArray] w fun r w'=>r=.returned (.bool (eqE x y))∧Ext w w'
set_option maxRecDepth 100000 in
set_option maxHeartbeats 4000000 in
theorem SameE_stepR (x:E) (ih:∀ z ∈ x.l,SameER z):SameER x:=by
 intro y cs cs' w h h'
 have IH:=Lib.hid ih
 clear ih
 have HNE:=Lib.hid (fun (h : ¬ x=y)=>eqE_ne h)
 have HEQ:=Lib.hid (fun (h:x=y)=>eqE_same h)
 obtain ⟨op,ew,v,sig,hi,lo,n,l⟩:=x
 obtain ⟨op',ew',v',sig',hi',lo',n',l'⟩:=y
 obtain ⟨s,rfl,hs⟩:=h
 obtain ⟨s',rfl,hs'⟩:=h'
 obtain ⟨a,b,o,cap,rfl,hc1,hc2,ha,hr⟩:=hs.open
 obtain ⟨a',b',o',cap',rfl,hc1',hc2',ha',hr'⟩:=hs'.open
 simp only at hc1 hc1' ha ha' hr hr' IH
 have HR:=Lib.hid hr
 have HR':=Lib.hid hr'
 have HA:=Lib.hid ha
 have HA':=Lib.hid ha'
 clear hr hr' ha ha' hs hs'
 have hX1:=ext_alloc w (.cells (E.cells ⟨op,ew,v,sig,hi,lo,n,l⟩ (.slice a l.length cap)).toArray 44)
 have hX2:=ext_alloc (w.alloc (.cells (E.cells ⟨op,ew,v,sig,hi,lo,n,l⟩ (.slice a l.length cap)).toArray 44)) (.cells (E.cells ⟨op',ew',v',sig',hi',lo',n',l'⟩ (.slice a' l'.length cap')).toArray 44)
 have hb1:=(Has.alloc w (E.cells ⟨op,ew,v,sig,hi,lo,n,l⟩ (.slice a l.length cap)) 44).ext hX2
 have hb2:=Has.alloc (w.alloc (.cells (E.cells ⟨op,ew,v,sig,hi,lo,n,l⟩ (.slice a l.length cap)).toArray 44)) (E.cells ⟨op',ew',v',sig',hi',lo',n',l'⟩ (.slice a' l'.length cap')) 44
 rw [World.size_alloc] at hb2
 have hX:=hX1.trans hX2
 clear hX1 hX2
 go_enter Tryz.func27,Tryz.ntmps27
 go_upto_region 1 with fail
 generalize (w.alloc _).alloc _=w0 at *
 have HB1:=Lib.hid hb1
 have HB2:=Lib.hid hb2
 have HX:=Lib.hid hX
 have f0:=hb1 0 _ rfl
 have g0:=hb2 0 _ rfl
 have f1:=hb1 1 _ rfl
 have g1:=hb2 1 _ rfl
 have f2:=hb1 2 _ rfl
 have g2:=hb2 2 _ rfl
 have f3:=hb1 3 _ rfl
 have g3:=hb2 3 _ rfl
 have f4:=hb1 4 _ rfl
 have g4:=hb2 4 _ rfl
 have f5:=hb1 5 _ rfl
 have g5:=hb2 5 _ rfl
 have f6:=hb1 6 _ rfl
 have g6:=hb2 6 _ rfl
 have f7:=hb1 7 _ rfl
 have g7:=hb2 7 _ rfl
 clear hb1 hb2 hX
 by_cases qop:op=op'
 rotate_left
 ·have cop:(op != op')=true:=by rw [bne_iff_ne];exact qop
  have HF:=Lib.hid (HNE.out (fun h=>by injection h with h1 h2 h3 h4 h5 h6 h7 h8;exact qop (by assumption)))
  clear qop
  go_wp2_with fail
  go_ret
  exact ⟨ret_bool HF.out.symm,HX.out⟩
 subst qop
 by_cases qew:ew=ew'
 rotate_left
 ·have cew:(ew != ew')=true:=by rw [bne_iff_ne];exact qew
  have HF:=Lib.hid (HNE.out (fun h=>by injection h with h1 h2 h3 h4 h5 h6 h7 h8;exact qew (by assumption)))
  clear qew
  go_wp2_with fail
  go_ret
  exact ⟨ret_bool HF.out.symm,HX.out⟩
 subst qew
 by_cases qv:v=v'
 rotate_left
 ·have cv:(v != v')=true:=by rw [bne_iff_ne];exact qv
  have HF:=Lib.hid (HNE.out (fun h=>by injection h with h1 h2 h3 h4 h5 h6 h7 h8;exact qv (by assumption)))
  clear qv
  go_wp2_with fail
  go_ret
  exact ⟨ret_bool HF.out.symm,HX.out⟩
 subst qv
 by_cases qsig:sig=sig'
 rotate_left
 ·have csig:(sig != sig')=true:=by rw [bne_iff_ne];exact qsig
  have HF:=Lib.hid (HNE.out (fun h=>by injection h with h1 h2 h3 h4 h5 h6 h7 h8;exact qsig (by assumption)))
  clear qsig
  go_wp2_with fail
  go_ret
  exact ⟨ret_bool HF.out.symm,HX.out⟩
 subst qsig
 by_cases qhi:hi=hi'
 rotate_left
 ·have chi:(hi != hi')=true:=by rw [bne_iff_ne];exact qhi
  have HF:=Lib.hid (HNE.out (fun h=>by injection h with h1 h2 h3 h4 h5 h6 h7 h8;exact qhi (by assumption)))
  clear qhi
  go_wp2_with fail
  go_ret
  exact ⟨ret_bool HF.out.symm,HX.out⟩
 subst qhi
 by_cases qlo:lo=lo'
 rotate_left
 ·have clo:(lo != lo')=true:=by rw [bne_iff_ne];exact qlo
  have HF:=Lib.hid (HNE.out (fun h=>by injection h with h1 h2 h3 h4 h5 h6 h7 h8;exact qlo (by assumption)))
  clear qlo
  go_wp2_with fail
  go_ret
  exact ⟨ret_bool HF.out.symm,HX.out⟩
 subst qlo
 by_cases qn:n=n'
 rotate_left
 ·have cn:(n != n')=true:=by rw [bne_iff_ne];exact qn
  have HF:=Lib.hid (HNE.out (fun h=>by injection h with h1 h2 h3 h4 h5 h6 h7 h8;exact qn (by assumption)))
  clear qn
  go_wp2_with fail
  go_ret
  exact ⟨ret_bool HF.out.symm,HX.out⟩
 subst qn
 by_cases ql:l.length=l'.length
 rotate_left
 ·have cl:(((l.length:Nat):Int) != ((l'.length:Nat):Int))=true:=by rw [bne_iff_ne];omega
  have HF:=Lib.hid (HNE.out (fun h=>by injection h with h1 h2 h3 h4 h5 h6 h7 h8;exact ql (by rw [h8])))
  clear ql
  go_wp2_with fail
  go_ret
  exact ⟨ret_bool HF.out.symm,HX.out⟩
 have cl:(((l.length:Nat):Int) != ((l'.length:Nat):Int))=false:=by rw [bne_eq_false_iff_eq];omega
 have QL:=Lib.hid ql
 clear ql
 go_upto_region 3 with fail
 clear cl f0 g0 f1 g1 f2 g2 f3 g3 f4 g4 f5 g5 f6 g6 f7 g7
 go_wp2_with fail
 go_loopw [5] (fun i wr=>∃ k:Nat,k ≤ l.length∧i=.int .i64 k∧l.take k=l'.take k∧Ext w0 wr) (fun i _=>l.length - (intOf i).toNat)
 case atStart=>exact ⟨0,Nat.zero_le _,rfl,rfl,Below.refl _ _⟩
 case round =>
  obtain ⟨k,hk,rfl,htk,hB⟩:=hrel
  have HTK:=Lib.hid htk
  have HBX:=Lib.hid hB
  have f7:=(HB1.out.ext hB) 7 _ rfl
  clear htk hB
  by_cases hlt:k < l.length
  ·have hlt':k < l'.length:=by have:=QL.out;omega
   obtain ⟨s1,he1,he2⟩:=Es.get (HR.out.mono fun x _ b o h=>EAt.ext' (HX.out.trans HBX.out) h) hlt
   obtain ⟨s2,he3,he4⟩:=Es.get (HR'.out.mono fun x _ b o h=>EAt.ext' (HX.out.trans HBX.out) h) hlt'
   obtain rfl:=HA.out (by omega)
   obtain rfl:=HA'.out (by omega)
   have hmem:=List.getElem_mem hlt
   have HC:=Lib.hid (fun W (hx:Ext wr W)=>IH.out _ hmem l'[k] _ _ W ⟨s1,rfl,he2.ext hx⟩ ⟨s2,rfl,he4.ext hx⟩)
   have HTE:=Lib.hid (fun (h:l[k]=l'[k])=>take_eq HTK.out hlt hlt' h)
   have HTN:=Lib.hid (fun (h : ¬ l[k]=l'[k])=>HNE.out (fun h2=>by injection h2 with h1 h2 h3 h4 h5 h6 h7 h8;subst h8;exact h rfl))
   have HE1:=Lib.hid he1
   have HE3:=Lib.hid he3
   obtain ⟨x,hx⟩ : ∃ x,l[k]=x:=⟨_,rfl⟩
   obtain ⟨y,hy⟩ : ∃ y,l'[k]=y:=⟨_,rfl⟩
   rw [hx,hy] at HC HTE HTN
   rw [hx] at HE1
   rw [hy] at HE3
   obtain ⟨c,hc⟩ : ∃ c,eqE x y=c:=⟨_,rfl⟩
   rw [hc] at HC
   have HCC:=Lib.hid hc
   clear hx hy hc he1 he2 he3 he4 hmem
   go_upto_region 6 with fail
   refine wp_region_held_drew (S:=fun W=>Ext wr W) (by kernel_rfl) (Below.drew (Below.refl _ _)) (fun hHeld=>?_)
   try simp only [J]
   (refine Jt 0 (_) rfl (yif_load1 rfl (by intro W hW;clear hW;go_simp;rfl)) hHeld ?_;try simp only [J])
   (refine Jt 1 (.slice (some ⟨b,o,Option.none⟩) l.length cap) rfl (yif_load1 rfl (by intro W hW;have y7:=(HB1.out.ext (HBX.out.trans hW)) 7 _ rfl;clear hW f7;go_simp)) hHeld ?_;try simp only [J])
   (refine Jt 2 (_) rfl (yif_load1 rfl fun _ _=>rfl) hHeld ?_;try simp only [J])
   (refine Jt 3 (.pointer (some ⟨b,o + k * 8,Option.none⟩)) rfl (yif_load1 rfl (by intro W hW;clear hW;go_simp;try (intro h;omega))) hHeld ?_;try simp only [J])
   (refine Jt 4 (.agg (x.cells s1).toArray) rfl (yif_load rfl 44 _ rfl rfl (fun W hW=>HE1.out.ext hW) agg_E rfl) hHeld ?_;try simp only [J])
   (refine Jt 5 (_) rfl (yif_load1 rfl (by intro W hW;clear hW;go_simp;rfl)) hHeld ?_;try simp only [J])
   (refine Jt 6 (.slice (some ⟨b',o',Option.none⟩) l'.length cap') rfl (yif_load1 rfl (by intro W hW;have y7:=(HB2.out.ext (HBX.out.trans hW)) 7 _ rfl;clear hW f7;go_simp)) hHeld ?_;try simp only [J])
   (refine Jt 7 (_) rfl (yif_load1 rfl fun _ _=>rfl) hHeld ?_;try simp only [J])
   (refine Jt 8 (.pointer (some ⟨b',o' + k * 8,Option.none⟩)) rfl (yif_load1 rfl (by intro W hW;clear hW;go_simp;try (intro h;omega))) hHeld ?_;try simp only [J])
   (refine Jt 9 (.agg (y.cells s2).toArray) rfl (yif_load rfl 44 _ rfl rfl (fun W hW=>HE3.out.ext hW) agg_E rfl) hHeld ?_;try simp only [J])
   refine wpAnyH_ready (rs:=[10]) (by kernel_rfl) (by simp) ?_
   refine AllReadyH.cons rfl (fun K hK=>?_) AllReadyH.nil
   go_simp
   refine (HC.out _ hHeld).mono ?_
   rintro r w1 ⟨rfl,hx1⟩
   refine hK.out _ _ (hHeld.trans hx1) (fun hHeld=>?_)
   clear hK K
   try simp only [J]
   (refine Jt 11 (.bool (!c)) rfl (yif_load1 rfl (by intro W hW;clear hW;go_simp)) hHeld ?_;try simp only [J])
   refine wpAnyH_done (by kernel_rfl) ?_ _
   cases c
   ·have HF:=Lib.hid (HTN.out (fun h=>by rw [eqE_same h] at HCC;exact absurd HCC.out (by decide)))
    go_wp2_with fail
    go_ret
    exact ⟨ret_bool HF.out.symm,HX.out.trans (HBX.out.trans hHeld)⟩
   ·have HF:=Lib.hid (HTE.out ((eqE_iff x y).1 HCC.out))
    go_wp2_with fail
    go_roundw
    case rel=>exact ⟨k + 1,by omega,by go_num,HF.out,HBX.out.trans hHeld⟩
    case measure=>simp [intOf];omega
  ·obtain rfl:k=l.length:=by omega
   have htk:=HTK.out
   rw [List.take_length,QL.out,List.take_length] at htk
   have HF:=Lib.hid (HEQ.out (by rw [htk]))
   clear htk
   go_wp2_with fail
   go_ret
   exact ⟨ret_bool HF.out.symm,HX.out.trans HBX.out⟩
theorem SameE_callsR (x:E):SameER x:=E.ind SameE_stepR x
open Go.RowKit
def fewM (d:Flat) (e:E):Bool:=small d && decide (nodes e ≤ 2000) && decide (deep e ≤ 100)
set_option maxRecDepth 100000 in
set_option maxHeartbeats 2000000 in
theorem few_calls (d:Flat) (v:Value) (e:E) (cs:List Value) (w:World) (hF:FlatV w v d) (hok:d.ok) (hV:VE w cs e) (hn:nodes e ≤ 1048576) (hd:deep e ≤ 1048576) :
  Calls Tryz.prog 18 #[v,.agg cs.toArray] w fun r w'=>r=.returned (.bool (fewM d e))∧Ext w w':=by
 have HSM:=Lib.hid (fun W (h:Ext w W)=>Small_calls d v W (hF.ext h) hok.nodes)
 obtain ⟨s,rfl,hs⟩:=hV
 have HND:=Lib.hid (fun W (h:Ext w W)=>Nodes_calls e s W (hs.ext h) hn)
 have HDP:=Lib.hid (fun W (h:Ext w W)=>Deep_calls e s W (hs.ext h) hd)
 obtain ⟨sv,pv,cv,rfl,hS,hP,hC⟩:=hF
 have x1:=ext_alloc w (.cells [sv,pv,cv].toArray 26)
 have x2:=ext_alloc (w.alloc (.cells [sv,pv,cv].toArray 26)) (.cells (e.cells s).toArray 44)
 have hD:=(Blk.new w [sv,pv,cv].toArray 26).ext x2
 have hE:=Blk.new (w.alloc (.cells [sv,pv,cv].toArray 26)) (e.cells s).toArray 44
 have hX:=x1.trans x2
 simp only [World.size_alloc] at hE
 clear x1 x2 hS hP hC hok hs hn hd
 have hfew:fewM d e=(small d && decide ((nodes e:Int) ≤ 2000) && decide ((deep e:Int) ≤ 100)):=by
  unfold fewM
  rw [show decide (nodes e ≤ 2000)=decide ((nodes e:Int) ≤ 2000) by simp only [decide_eq_decide];omega,show decide (deep e ≤ 100)=decide ((deep e:Int) ≤ 100) by simp only [decide_eq_decide];omega]
 rw [hfew]
 clear hfew
 generalize small d=q1 at *
 generalize nodes e=N at *
 generalize deep e=De at *
 go_enter Tryz.func18,Tryz.ntmps18
 go_upto_region 1 with fail
 generalize (w.alloc _).alloc _=w0 at *
 have HD:=Lib.hid hD
 have HE:=Lib.hid hE
 have HX:=Lib.hid hX
 have d0:=hD.has
 clear hD hE hX
 cases q1
 ·go_wp2_with (first | ((with_reducible show wpList _ _ _ (⟨_,Op.load 26 _,_,_,_,_⟩ :: _) _ _);refine wpList_load_has rfl 26 _ rfl rfl (d0) agg_Flat rfl ?_) | (go_at_call 35;refine (HSM.out w0 HX.out).mono ?_;rintro r w1 ⟨rfl,hx1⟩))
  go_ret
  exact ⟨rfl,HX.out.trans hx1⟩
 ·by_cases h2:(N:Int) ≤ 2000
  ·have b2:decide ((N:Int) ≤ 2000)=true:=decide_eq_true h2
   clear h2
   go_wp2_with (first | ((with_reducible show wpList _ _ _ (⟨_,Op.load 26 _,_,_,_,_⟩ :: _) _ _);refine wpList_load_has rfl 26 _ rfl rfl (d0) agg_Flat rfl ?_) | (go_at_call 35;refine (HSM.out w0 HX.out).mono ?_;rintro r w1 ⟨rfl,hx1⟩;have e1:=(HE.out.ext hx1).has) | ((with_reducible show wpList _ _ _ (⟨_,Op.load 44 _,_,_,_,_⟩ :: _) _ _);refine wpList_load_has rfl 44 _ rfl rfl (e1) agg_E rfl ?_) | (go_at_call 29;refine (HND.out w1 (HX.out.trans hx1)).mono ?_;rintro r w2 ⟨rfl,hx2⟩;have e2:=(HE.out.ext (hx1.trans hx2)).has) | ((with_reducible show wpList _ _ _ (⟨_,Op.load 44 _,_,_,_,_⟩ :: _) _ _);refine wpList_load_has rfl 44 _ rfl rfl (e2) agg_E rfl ?_) | (go_at_call 32;refine (HDP.out w2 (HX.out.trans (hx1.trans hx2))).mono ?_;rintro r w3 ⟨rfl,hx3⟩))
   go_ret
   exact ⟨by rw [b2];rfl,HX.out.trans ((hx1.trans hx2).trans hx3)⟩
  ·have b2:decide ((N:Int) ≤ 2000)=false:=decide_eq_false h2
   clear h2
   go_wp2_with (first | ((with_reducible show wpList _ _ _ (⟨_,Op.load 26 _,_,_,_,_⟩ :: _) _ _);refine wpList_load_has rfl 26 _ rfl rfl (d0) agg_Flat rfl ?_) | (go_at_call 35;refine (HSM.out w0 HX.out).mono ?_;rintro r w1 ⟨rfl,hx1⟩;have e1:=(HE.out.ext hx1).has) | ((with_reducible show wpList _ _ _ (⟨_,Op.load 44 _,_,_,_,_⟩ :: _) _ _);refine wpList_load_has rfl 44 _ rfl rfl (e1) agg_E rfl ?_) | (go_at_call 29;refine (HND.out w1 (HX.out.trans hx1)).mono ?_;rintro r w2 ⟨rfl,hx2⟩))
   go_ret
   exact ⟨by rw [b2];rfl,HX.out.trans (hx1.trans hx2)⟩
def numE (wd v:Int):E:=⟨1,wd,v,0,0,0,0,[]⟩
def sigX (wd n hi lo:Int):E:=⟨2,wd,0,n,hi,lo,0,[]⟩
def binE (wd n:Int) (a b:E):E:=⟨5,wd,0,0,0,0,n,[a,b]⟩
theorem num_calls (wd v:Int) (w:World):Calls Tryz.prog 36 #[.int .i64 wd,.int .u64 v] w fun r w'=>r=.returned (.agg ((numE wd v).cells (.slice none 0 0)).toArray)∧Ext w w':=by
 have x1:=ext_alloc w (.cells (zE.cells (.slice none 0 0)).toArray 44)
 have hR:=Blk.new w (zE.cells (.slice none 0 0)).toArray 44
 rw [zE_cells] at *
 go_enter Tryz.func36,Tryz.ntmps36
 go_upto_region 1 with fail
 generalize w.alloc _=w0 at *
 have HR:=Lib.hid hR
 clear hR
 go_wp2_with (first | ((with_reducible show wpList _ _ _ (⟨_,Op.store 44 _ _,_,_,_,_⟩ :: _) _ _);refine wpList_store_blk rfl 44 _ _ rfl (HR.out) rfl (cs:=(numE wd v).cells (.slice none 0 0)) (rfl) agg_E (rfl) rfl (rfl) ?_;intro w6 hb6 hg6) | ((with_reducible show bodyPost _ _ _ _ _ _);refine Hid.out ?_))
 refine Lib.hid ?_
 exact post_ret_blk rfl rfl hb6.has agg_E rfl rfl ⟨rfl,x1.grown hg6 (by omega)⟩
theorem sig_calls (wd n hi lo:Int) (w:World):Calls Tryz.prog 37 #[.int .i64 wd,.int .i64 n,.int .i64 hi,.int .i64 lo] w fun r w'=>r=.returned (.agg ((sigX wd n hi lo).cells (.slice none 0 0)).toArray)∧Ext w w':=by
 have x1:=ext_alloc w (.cells (zE.cells (.slice none 0 0)).toArray 44)
 have hR:=Blk.new w (zE.cells (.slice none 0 0)).toArray 44
 rw [zE_cells] at *
 go_enter Tryz.func37,Tryz.ntmps37
 go_upto_region 1 with fail
 generalize w.alloc _=w0 at *
 have HR:=Lib.hid hR
 clear hR
 go_wp2_with (first | ((with_reducible show wpList _ _ _ (⟨_,Op.store 44 _ _,_,_,_,_⟩ :: _) _ _);refine wpList_store_blk rfl 44 _ _ rfl (HR.out) rfl (cs:=(sigX wd n hi lo).cells (.slice none 0 0)) (rfl) agg_E (rfl) rfl (rfl) ?_;intro w6 hb6 hg6) | ((with_reducible show bodyPost _ _ _ _ _ _);refine Hid.out ?_))
 refine Lib.hid ?_
 exact post_ret_blk rfl rfl hb6.has agg_E rfl rfl ⟨rfl,x1.grown hg6 (by omega)⟩
open Go.RowKit
set_option maxRecDepth 100000 in
set_option maxHeartbeats 1000000 in
theorem bin_calls (wd n:Int) (a b:E) (ca cb:List Value) (w:World) (ha:VE w ca a) (hb:VE w cb b) :
  Calls Tryz.prog 33 #[.int .i64 wd,.int .i64 n,.agg ca.toArray,.agg cb.toArray] w fun r w'=>∃ cs',r=.returned (.agg cs'.toArray)∧VE w' cs' (binE wd n a b)∧Ext w w':=by
 have ha8:ca.length=8:=by obtain ⟨s,rfl,-⟩:=ha;rfl
 have hb8:cb.length=8:=by obtain ⟨s,rfl,-⟩:=hb;rfl
 have ho1:=ha.one
 have ho2:=hb.one
 have HA:=Lib.hid (fun W (h:Ext w W)=>ha.ext h)
 have HB:=Lib.hid (fun W (h:Ext w W)=>hb.ext h)
 have x1:=ext_alloc w (.cells ca.toArray 44)
 have x2:=ext_alloc (w.alloc (.cells ca.toArray 44)) (.cells cb.toArray 44)
 have x3:=ext_alloc ((w.alloc (.cells ca.toArray 44)).alloc (.cells cb.toArray 44)) (.cells (zE.cells (.slice none 0 0)).toArray 44)
 have hA:=((Blk.new w ca.toArray 44).ext x2).ext x3
 have hB:=(Blk.new (w.alloc (.cells ca.toArray 44)) cb.toArray 44).ext x3
 have hR:=Blk.new ((w.alloc (.cells ca.toArray 44)).alloc (.cells cb.toArray 44)) (zE.cells (.slice none 0 0)).toArray 44
 have hX:=(x1.trans x2).trans x3
 simp only [World.size_alloc] at hB hR
 have HSZ:w.heap.size + 1 + 1 < (((w.alloc (.cells ca.toArray 44)).alloc (.cells cb.toArray 44)).alloc (.cells (zE.cells (.slice none 0 0)).toArray 44)).heap.size:=by simp only [World.size_alloc];omega
 clear x1 x2 x3 ha hb
 rw [zE_cells] at *
 go_enter Tryz.func33,Tryz.ntmps33
 go_upto_region 1 with fail
 generalize ((w.alloc _).alloc _).alloc _=w0 at *
 have x4:=ext_alloc w0 (.cells [ca,cb].flatten.toArray 44)
 have h4:=Has.alloc w0 [ca,cb].flatten 44
 have hA0:=hA.has
 have hB0:=hB.has
 have hR4:=hR.ext x4
 have hXX:=hX.trans x4
 clear hA hB hR
 go_wp2_with (first | ((with_reducible show wpList _ _ _ (⟨_,Op.load 44 _,_,_,_,_⟩ :: _) _ _);refine wpList_load_has rfl 44 _ rfl rfl (hA0) agg_E ha8 ?_) | ((with_reducible show wpList _ _ _ (⟨_,Op.load 44 _,_,_,_,_⟩ :: _) _ _);refine wpList_load_has rfl 44 _ rfl rfl (hB0) agg_E hb8 ?_) | ((with_reducible show wpList _ _ _ (⟨_,Op.buildSlice _ _ _,_,_,_,_⟩ :: _) _ _);refine Hid.out ?_))
 refine Lib.hid ?_
 refine wpList_bsN rfl _ 2 _ rfl appE (vs:=[.agg ca.toArray,.agg cb.toArray]) rfl rfl (css:=[ca,cb]) rfl (by intro c hc;simp at hc;rcases hc with rfl | rfl <;> assumption) (by decide) (by decide) ?_
 have hsz0:=hX.size
 have HG:=Lib.hid (show w.heap.size + 1 + 1 < w0.heap.size from HSZ)
 generalize w0.heap.size=G at *
 generalize w0.alloc _=w4 at *
 clear hA0 hB0 x4 hX hsz0
 go_wp2_with (first | ((with_reducible show wpList _ _ _ (⟨_,Op.store 44 _ _,_,_,_,_⟩ :: _) _ _);refine wpList_store_blk rfl 44 _ _ rfl (hR4) rfl (cs:=(binE wd n a b).cells (.slice (some ⟨G,0,none⟩) 2 2)) (rfl) agg_E (rfl) rfl (rfl) ?_;intro w6 hb6 hg6) | ((with_reducible show bodyPost _ _ _ _ _ _);refine Hid.out ?_))
 refine Lib.hid ?_
 have hx6:Ext w w6:=hXX.grown hg6 (by omega)
 refine post_ret_blk rfl rfl hb6.has agg_E rfl rfl ⟨_,rfl,⟨_,rfl,?_⟩,hx6⟩
 refine ⟨G,0,⟨_,2,rfl,Nat.le_refl _,by simp [maxLen],fun _=>rfl⟩,rows_of_flat (V:=VE) (At:=EAt) (fun _ _ _ _ _ h hv=>VE.at h hv) [a,b] [ca,cb] w6 G 0 ?_ rfl (by intro c hc;simp at hc;rcases hc with rfl | rfl <;> assumption) ?_⟩
 ·exact h4.grown hg6 (by have:=HG.out;omega)
 ·intro i hi hi'
  match i,hi with
  | 0,_=>exact HA.out w6 hx6
  | 1,_=>exact HB.out w6 hx6
def evD:Flat:=⟨[⟨⟨#[97]⟩,4,1,0⟩],[],[]⟩
def evX:E:=binE 3 14 (sigX 3 0 3 1) (numE 3 5)
def evY:E:=⟨3,1,0,0,0,0,0,[numE 2 3]⟩
def evZ:E:=binE 2 14 (numE 2 1) (numE 2 2)
theorem VE.len8 {w:World} {cs:List Value} {x:E} (h:VE w cs x):cs.length=8:=by obtain ⟨s,rfl,-⟩:=h;rfl
theorem appU64:AppT Tryz.prog 41 34 1 8:=⟨Tryz.underlying41,by kernel_rfl,by decide,by decide⟩
abbrev evS:List Value:=[.string ⟨#[97]⟩,.int .i64 4,.int .i64 1,.int .u64 0]
theorem evD_at {W:World} {N:Nat} (h:Blk W N evS.toArray 36):FlatV W (.agg #[.slice (some ⟨N,0,none⟩) 1 1,.slice none 0 0,.slice none 0 0]) evD :=
 ⟨_,_,_,rfl,⟨N,0,⟨_,1,rfl,Nat.le_refl _,by simp [maxLen],fun _=>rfl⟩,⟨h.has,trivial⟩⟩,Sl.nil _ _,Sl.nil _ _⟩
theorem evD_ok:evD.ok where
 wf:={
  signals:=by
   intro x hx
   simp [evD] at hx
   subst hx
   refine ⟨by unfold i64r;decide,by unfold i64r;decide,by unfold u64r;decide,by decide⟩
  procs:=by intro p hp;cases hp
  checks:=by intro c hc;cases hc }
 nodes:=by decide +kernel
 signals:=by decide
 procs:=by decide
 checks:=by decide
theorem evX_wf:evX.wf:=by simp [E.wf,E.wf.wfs,evX,binE,sigX,numE,i64r,u64r]
theorem evY_wf:evY.wf:=by simp [E.wf,E.wf.wfs,evY,numE,i64r,u64r]
theorem evZ_wf:evZ.wf:=by simp [E.wf,E.wf.wfs,evZ,binE,numE,i64r,u64r]
theorem ev_ck:checkM evD=0:=by decide +kernel
theorem ev_may {e:E} (h:checkEM evD.signals e=0):mayM evD e=true:=by unfold mayM;rw [h,ev_ck];rfl
theorem ev_cx:checkEM evD.signals evX=0:=by decide +kernel
theorem ev_cy:checkEM evD.signals evY=0:=by decide +kernel
theorem ev_cz:checkEM evD.signals evZ=0:=by decide +kernel
theorem ev_1:evalM evD [9] evX=(1,0):=by unfold evalM;rw [if_pos ⟨by decide +kernel,ev_cx⟩,show evM [9] evX=1 by decide +kernel]
theorem ev_2:evalM evD [9] evY=(1,0):=by unfold evalM;rw [if_pos ⟨by decide +kernel,ev_cy⟩,show evM [9] evY=1 by decide +kernel]
theorem ev_3:evalM evD [16] evX=(0,1):=by unfold evalM;rw [if_neg (fun h=>absurd h.1 (by decide +kernel))]
theorem ev_f1:(foldR evD evY).2=0∧eqE (foldR evD evY).1 (sigX 1 0 3 3)=true:=by unfold foldR;rw [if_pos (ev_may ev_cy)];exact ⟨rfl,by decide +kernel⟩
theorem ev_f2:(foldR evD evZ).2=0∧eqE (foldR evD evZ).1 (numE 2 3)=true:=by unfold foldR;rw [if_pos (ev_may ev_cz)];exact ⟨rfl,by decide +kernel⟩
theorem ev_n1:needsM evD evX=([1,2,3],0):=by
 unfold needsM;rw [if_pos (ev_may ev_cx),show bitsM evD.signals evX=[1,2,3] by decide +kernel,setI_eq _ [1,2,3] (by decide) (fun _=>Iff.rfl)]
theorem ev_n2:needsM evD evY=([0,1,2,3],0):=by
 unfold needsM;rw [if_pos (ev_may ev_cy),show bitsM evD.signals evY=[0,1,2,3] by decide +kernel,setI_eq _ [0,1,2,3] (by decide) (fun _=>Iff.rfl)]
theorem ev_v1:valsOk evD [15]=true:=by decide +kernel
theorem ev_v2:valsOk evD []=false:=by decide +kernel
open Go.RowKit
theorem foldM_leaf (ls:List Signal) (e:E) (h:e.l=[]):foldM ls e=e:=by rw [foldM_eq,h];exact if_pos rfl
theorem foldM_idem (ls:List Signal) (e:E):foldM ls (foldM ls e)=foldM ls e:=by
 induction e using E.ind with
 | h e ih =>
  rw [foldM_eq ls e]
  have hm:(e.l.map (foldM ls)).map (foldM ls)=e.l.map (foldM ls):=by
   rw [List.map_map];exact List.map_congr_left fun x hx=>ih x hx
  have hid:∀ x ∈ e.l.map (foldM ls),foldM ls x=x:=by
   intro x hx
   obtain ⟨y,hy,rfl⟩:=List.mem_map.1 hx
   exact ih y hy
  have hlen:(e.l.map (foldM ls)).length=e.l.length:=List.length_map ..
  generalize e.l.map (foldM ls)=l at *
  unfold foldN
  by_cases c0:l.length=0
  ·rw [if_pos c0,foldM_leaf]
   exact List.eq_nil_of_length_eq_zero (by omega)
  rw [if_neg c0]
  by_cases c1:e.op=3∧isNum (hdE l)=true∧(hdE l).v < sigW ls e.sig
  ·rw [if_pos c1,foldM_leaf _ _ rfl]
  rw [if_neg c1]
  by_cases c2:e.op=6∧isNum (hdE l)=true
  ·rw [if_pos c2]
   cases hq:l[(2 - (hdE l).v).toNat]? with
   | none=>rw [List.getD_eq_getElem?_getD,hq,Option.getD_none,foldM_leaf _ _ rfl]
   | some x=>rw [List.getD_eq_getElem?_getD,hq,Option.getD_some,hid x (List.mem_of_getElem? hq)]
  rw [if_neg c2]
  by_cases c3:l.all isNum=false
  ·rw [if_pos c3,foldM_eq]
   have h1:(e.with l).l=l:=rfl
   have h2:(e.with l).op=e.op:=rfl
   have h3:(e.with l).sig=e.sig:=rfl
   have h4:(e.with l).with l=e.with l:=rfl
   rw [h1,hm]
   unfold foldN
   rw [h2,h3,h4,if_neg c0,if_neg c1,if_neg c2,if_pos c3]
  rw [if_neg c3,foldM_leaf _ _ rfl]
theorem foldM_num {ls:List Signal} (hls:∀ x ∈ ls,1 ≤ x.w∧x.w ≤ 64) (e:E):WS ls e→e.wf→bitsM ls e=[]→isNum (foldM ls e)=true:=by
 induction e using E.ind with
 | h e ih =>
  intro h hwf hb
  have hls':∀ x ∈ ls,x.w ≤ 64:=fun x hx=>(hls x hx).2
  obtain ⟨h0,hp⟩:=(WS_iff ls e).1 h
  have hwp:=((E.wf_iff e).1 hwf).2.2.2.2.2.2.2
  have hs:=ws_sig hls h
  rw [bitsM_eq hls h,List.append_eq_nil_iff] at hb
  obtain ⟨hb1,hb2⟩:=hb
  have hc:cntB ls e=0:=by
   have:=congrArg List.length hb1
   unfold ownB at this
   simpa using this
  have hpn:∀ x ∈ e.l,isNum (foldM ls x)=true:=fun x hx=>ih x hx (hp x hx) (hwp x hx) (List.flatten_eq_nil_iff.1 hb2 _ (List.mem_map_of_mem hx))
  obtain ⟨m1,m2,m3⟩:=foldM_map hls' h hwf
  rw [foldM_eq]
  have hall:∀ x ∈ e.l.map (foldM ls),isNum x=true:=by
   intro x hx
   obtain ⟨y,hy,rfl⟩:=List.mem_map.1 hx
   exact hpn y hy
  have hlen:(e.l.map (foldM ls)).length=e.l.length:=List.length_map ..
  clear ih hp hwp hb1 hb2 hpn
  generalize e.l.map (foldM ls)=l at *
  unfold foldN
  by_cases c0:l.length=0
  ·rw [if_pos c0]
   have hl:l=[]:=List.eq_nil_of_length_eq_zero c0
   subst hl
   unfold wsN at m1
   simp at m1
   unfold cntB lo0 hi0 at hc
   rcases m1 with m1 | m1
   ·exact decide_eq_true m1.1
   ·exfalso
    have:=slice_le ls hls' m1.2.1
    rw [if_pos m1.1,if_pos m1.1] at hc
    omega
  rw [if_neg c0]
  have o3:e.op ≠ 3:=by
   intro o3
   obtain ⟨x,-,i1,i2,-⟩:=ws_idx h0 o3
   obtain ⟨k,hk⟩:=Int.eq_ofNat_of_zero_le i1
   have hlt:k < ls.length:=by omega
   have hsw:sigW ls e.sig=ls[k].w:=by rw [hk];simp [sigW,List.getElem?_eq_getElem hlt]
   have:=hls _ (List.getElem_mem hlt)
   unfold cntB lo0 hi0 at hc
   have o2 : ¬ e.op=2:=by omega
   rw [if_neg o2,if_pos o3,if_neg o2,hsw] at hc
   omega
  rw [if_neg (fun h=>o3 h.1)]
  by_cases c2:e.op=6∧isNum (hdE l)=true
  ·rw [if_pos c2]
   obtain ⟨c,x,y,rfl,q1,-,-⟩:=ws_cond m1 c2.1
   have hx:hdE [c,x,y]=c:=rfl
   rw [hx] at c2 ⊢
   rcases cond_told (m2 c (by simp)).1 (m2 c (by simp)).2 q1 c2.2 with hv | hv
   ·rw [hv];exact hall y (by simp)
   ·rw [hv];exact hall x (by simp)
  rw [if_neg c2,if_neg (by rw [List.all_eq_true.2 hall];simp)]
  rfl
theorem ws_shape {ls:List Signal} (hls:∀ x ∈ ls,x.w ≤ 64) (e:E):WS ls e→shape ls e=true:=by
 induction e using E.ind with
 | h e ih =>
  intro h
  obtain ⟨h0,hp⟩:=(WS_iff ls e).1 h
  have hown:=ws_own hls e h
  rw [shape_eq,Bool.and_eq_true,List.all_eq_true]
  refine ⟨?_,fun x hx=>ih x hx (hp x hx)⟩
  have hlen:(e.l.map (·.w)).length=e.l.length:=List.length_map ..
  generalize e.l.map (·.w)=ws at *
  clear ih hp h
  unfold wsN at h0
  unfold shape0
  rcases h0 with ⟨ho,rfl,h1,h2,h3,h4,h5,h6,h7⟩ | ⟨ho,rfl,h1,h2,h3,h4⟩ | ⟨ho,⟨k,rfl⟩,h1,h2,h3,h4,h5,h6,h7⟩ | ⟨ho,⟨k,rfl,h1⟩,h2,h3,h4,h5⟩ | ⟨ho,⟨j,k,rfl,h1⟩,h2,h3,h4,h5⟩ | ⟨ho,rfl,h1,h2,h3,h4,h5⟩ | ⟨ho,h1,h2,h3,h4,h5,h6,h7,h8⟩ | ⟨ho,⟨k,rfl,h1⟩,h2,h3,h4,h5,h6,h7⟩
  case inr.inr.inr.inr.inr.inr.inl =>
   have:0 < e.l.length:=by
    rw [← hlen]
    cases ws with
    | nil=>exact absurd rfl h1
    | cons=>simp
   simp [ho,this,h4,h5,h6,h7,h8]
  all_goals (simp only [List.length_nil,List.length_cons] at hlen)
  ·simp [ho,← hlen,h3,h4,h5,h6,h7];omega
  ·simp [ho,← hlen,h1,h3,h4]
  ·simp [ho,← hlen,h1,h2,h4,h5,h6,h7]
  ·simp [ho,← hlen,h2,h3,h4,h5];omega
  ·simp [ho,← hlen,h2,h3,h4,h5];omega
  ·simp [ho,← hlen,h1,h2,h3,h4,h5]
  ·simp [ho,← hlen,h2,h3,h4,h5,h6,h7];omega
theorem checkEM_of_ws {ls:List Signal} (hls:∀ x ∈ ls,x.w ≤ 64) {e x:E} (h:checkEM ls e=0) (hx:WS ls x) (hn:nodes x ≤ nodes e) (hd:deep x ≤ deep e):checkEM ls x=0:=by
 obtain ⟨-,hn0,hd0⟩:=checkEM_ws hls h
 obtain ⟨-,o1,o2⟩:=ws_own hls x hx
 have hsg:sigsOk [[]] ls=true:=by
  cases hs:sigsOk [[]] ls with
  | true=>rfl
  | false =>
   exfalso
   have hbad:exprBad ls e e.w=true:=by unfold exprBad;rw [hs];rfl
   unfold checkEM exprM at h
   rw [if_pos hbad] at h
   simp at h
 have hbad : ¬ exprBad ls x x.w=true:=by
  unfold exprBad
  rw [hsg,ws_shape hls x hx]
  simp
  omega
 unfold checkEM exprM
 rw [if_neg hbad,if_neg (by simp;omega),ws_size hls x hx x.w (.inr (.inl rfl))]
 simp only
 rw [if_neg (by
  rintro (h1 | h1)
  ·omega
  ·rw [(eqE_iff x x).2 rfl] at h1;cases h1)]
open Go.RowKit
theorem checkM_sigs {d:Flat} (h:checkM d=0):sigsOk [[]] d.signals=true:=by
 have h1:=checkM_shaped h
 unfold shapedM at h1
 simp only [Bool.and_eq_true] at h1
 exact h1.1.1
theorem checkEM_ok {ls:List Signal} (hls:∀ x ∈ ls,x.w ≤ 64) (hsg:sigsOk [[]] ls=true) {x:E} (hx:WS ls x) (hn:nodes x ≤ 65536) (hd:deep x ≤ 64):checkEM ls x=0:=by
 obtain ⟨-,o1,o2⟩:=ws_own hls x hx
 have hbad : ¬ exprBad ls x x.w=true:=by
  unfold exprBad
  rw [hsg,ws_shape hls x hx]
  simp
  omega
 unfold checkEM exprM
 rw [if_neg hbad,if_neg (by simp;omega),ws_size hls x hx x.w (.inr (.inl rfl))]
 simp only
 rw [if_neg (by
  rintro (h1 | h1)
  ·omega
  ·rw [(eqE_iff x x).2 rfl] at h1;cases h1)]
theorem valsOk_ck {d:Flat} {vs:List Nat} (h:valsOk d vs=true):vs.length=d.signals.length∧checkM d=0∧Vals d.signals vs:=by
 unfold valsOk at h
 simp only [Bool.and_eq_true,decide_eq_true_eq] at h
 exact ⟨h.1,h.2.1,valB_vals h.2.2⟩
theorem evalM_ok {d:Flat} {vs:List Nat} {e:E} (h:(evalM d vs e).2=0):valsOk d vs=true∧checkEM d.signals e=0∧evalM d vs e=(evM vs e,0):=by
 unfold evalM at h ⊢
 by_cases c:valsOk d vs=true∧checkEM d.signals e=0
 ·rw [if_pos c];exact ⟨c.1,c.2,rfl⟩
 ·rw [if_neg c] at h;simp at h
theorem mayM_of {d:Flat} {e:E} (h1:checkM d=0) (h2:checkEM d.signals e=0):mayM d e=true:=by unfold mayM;rw [h1,h2];rfl
theorem mayM_ok {d:Flat} {e:E} (h:mayM d e=true):checkM d=0∧checkEM d.signals e=0:=by
 unfold mayM at h
 simpa using h
structure EvOk (d:Flat) (vs:List Nat) (e:E):Prop where
 vals:valsOk d vs=true
 len:vs.length=d.signals.length
 ck:checkM d=0
 ce:checkEM d.signals e=0
 vv:Vals d.signals vs
 hls:∀ x ∈ d.signals,1 ≤ x.w∧x.w ≤ 64
 ws:WS d.signals e
 nodes:nodes e ≤ 65536
 deep:deep e ≤ 64
 ev:evalM d vs e=(evM vs e,0)
theorem evOk {d:Flat} {vs:List Nat} {e:E} (h:(evalM d vs e).2=0):EvOk d vs e:=by
 obtain ⟨h1,h2,h3⟩:=evalM_ok h
 obtain ⟨h4,h5,h6⟩:=valsOk_ck h1
 have h7:=checkM_w h5
 obtain ⟨h8,h9,h10⟩:=checkEM_ws (fun x hx=>(h7 x hx).2) h2
 exact ⟨h1,h4,h5,h2,h6,h7,h8,h9,h10,h3⟩
theorem EvOk.le {d:Flat} {vs:List Nat} {e:E} (h:EvOk d vs e):∀ x ∈ d.signals,x.w ≤ 64:=fun x hx=>(h.hls x hx).2
theorem EvOk.of {d:Flat} {vs:List Nat} {e:E} (h:EvOk d vs e) {x:E} (hx:WS d.signals x) (hn:Go.Proofs.YtemabheegnngdaaGreat.nodes x ≤ 65536) (hd:Go.Proofs.YtemabheegnngdaaGreat.deep x ≤ 64):evalM d vs x=(evM vs x,0):=by
 unfold evalM
 rw [if_pos ⟨h.vals,checkEM_ok h.le (checkM_sigs h.ck) hx hn hd⟩]
theorem same_law {d:Flat} {vs:List Nat} {e:E} (hwf:e.wf) (h:(evalM d vs e).2=0) :
  (foldR d e).2=0∧(foldR d e).1.w=e.w∧nodes (foldR d e).1 ≤ nodes e∧checkEM d.signals (foldR d e).1=0∧evalM d vs (foldR d e).1=evalM d vs e∧foldR d (foldR d e).1=foldR d e∧(foldR d e).1.wf:=by
 have H:=evOk h
 have hf:foldR d e=(foldM d.signals e,0):=by unfold foldR;rw [if_pos (mayM_of H.ck H.ce)]
 obtain ⟨f1,f2,f3⟩:=foldM_ws H.le e H.ws hwf
 obtain ⟨n1,n2⟩:=foldM_nodes d.signals e
 have hc:=checkEM_of_ws H.le H.ce f1 n1 n2
 rw [hf]
 refine ⟨rfl,f2,n1,hc,?_,?_,f3⟩
 ·rw [H.of f1 (by have:=H.nodes;omega) (by have:=H.deep;omega),H.ev,foldM_ev H.le H.vv e H.ws hwf]
 ·unfold foldR
  rw [if_pos (mayM_of H.ck hc),foldM_idem]
theorem setI_nil {l:List Int} (h:setI l=[]):l=[]:=by
 cases l with
 | nil=>rfl
 | cons x l=>have:=(setI_mem (x :: l) x).2 (by simp);rw [h] at this;cases this
theorem fits_law {d:Flat} {vs:List Nat} {e:E} (hwf:e.wf) (h:(evalM d vs e).2=0) :
  1 ≤ e.w∧e.w ≤ 64∧(evalM d vs e).1 < 2 ^ e.w.toNat∧(needsM d e).2=0∧(foldR d e).2=0∧((needsM d e).1=[]→(foldR d e).1.op=1∧(foldR d e).1.v=((evalM d vs e).1:Nat)):=by
 have H:=evOk h
 have hf:foldR d e=(foldM d.signals e,0):=by unfold foldR;rw [if_pos (mayM_of H.ck H.ce)]
 have hn:needsM d e=(setI (bitsM d.signals e),0):=by unfold needsM;rw [if_pos (mayM_of H.ck H.ce)]
 obtain ⟨f1,f2,f3⟩:=foldM_ws H.le e H.ws hwf
 obtain ⟨-,o1,o2⟩:=ws_own H.le e H.ws
 rw [hf,hn,H.ev]
 refine ⟨o1,o2,ev_lt H.le e H.ws hwf,rfl,rfl,fun hb=>?_⟩
 have hN:=foldM_num H.hls e H.ws hwf (setI_nil hb)
 have h2:=foldM_ev H.le H.vv e H.ws hwf
 rw [num_ev vs hN] at h2
 have h3:=((E.wf_iff _).1 f3).2.2.1
 unfold u64r at h3
 refine ⟨of_decide_eq_true hN,?_⟩
 show (foldM d.signals e).v=((evM vs e:Nat):Int)
 omega
theorem bitsM_range {ls:List Signal} (hls:∀ x ∈ ls,1 ≤ x.w∧x.w ≤ 64) (e:E):WS ls e→∀ x ∈ bitsM ls e,0 ≤ x∧x < sumW ls ls.length:=by
 induction e using E.ind with
 | h e ih =>
  intro h x hx
  obtain ⟨h0,hp⟩:=(WS_iff ls e).1 h
  rw [bitsM_eq hls h,List.mem_append] at hx
  rcases hx with hx | hx
  ·obtain ⟨s0,s1,s2,s3,s4,s5,s6,s7⟩:=ws_sig hls h
   unfold ownB at hx
   obtain ⟨j,hj,rfl⟩:=List.mem_map.1 hx
   rw [List.mem_range] at hj
   unfold cntB at hj
   have hop:e.op=2 ∨ e.op=3:=by
    by_cases o2:e.op=2
    ·exact .inl o2
    ·by_cases o3:e.op=3
     ·exact .inr o3
     ·exfalso
      unfold hi0 lo0 at hj
      rw [if_neg o2,if_neg o2,if_neg o3] at hj
      simp at hj
   have hlt:=s7 hop
   obtain ⟨k,hk⟩:=Int.eq_ofNat_of_zero_le s0
   have hkl:k < ls.length:=by omega
   have hsw:sigW ls e.sig=ls[k].w:=by rw [hk];simp [sigW,List.getElem?_eq_getElem hkl]
   have hhi:hi0 ls e < sigW ls e.sig:=by
    unfold hi0
    rcases hop with o2 | o3
    ·rw [if_pos o2]
     unfold wsN at h0
     rcases h0 with h0 | ⟨-,-,hs,-⟩ | h0 | h0 | h0 | h0 | h0 | h0
     case inr.inl=>exact (slice_le ls (fun x hx=>(hls x hx).2) hs).2.2.2.2.1
     all_goals (exfalso;have:=h0.1;omega)
    ·rw [if_neg (by omega),if_pos o3];omega
   have hm:=sumW_mono ls hls (k + 1) ls.length (by omega) (Nat.le_refl _)
   have hs:=sumW_succ ls k hkl
   have h0':=(sumW_le ls hls k (by omega)).1
   rw [show e.sig.toNat=k by omega]
   omega
  ·obtain ⟨l,hl,hxl⟩:=List.mem_flatten.1 hx
   obtain ⟨y,hy,rfl⟩:=List.mem_map.1 hl
   exact ih y hy (hp y hy) x hxl
theorem bitsM_sub {ls:List Signal} (hls:∀ x ∈ ls,1 ≤ x.w∧x.w ≤ 64) {e:E} (h:WS ls e) {y:E} (hy:y ∈ e.l) {x:Int} (hx:x ∈ bitsM ls y):x ∈ bitsM ls e:=by
 rw [bitsM_eq hls h,List.mem_append]
 exact .inr (List.mem_flatten.2 ⟨_,List.mem_map_of_mem hy,hx⟩)
theorem deep_part {e x:E} (h:x ∈ e.l):deep x ≤ deep e:=by
 rw [deep_eq e]
 have h2:deep x ≤ maxBy deep e.l:=by
  generalize e.l=l at h
  induction l with
  | nil=>cases h
  | cons y l ih =>
   rw [maxBy]
   rcases List.mem_cons.1 h with rfl | hm
   ·omega
   ·have:=ih hm;omega
 omega
structure NeedsL (d:Flat) (e:E):Prop where
 rise:(needsM d e).1.Pairwise (· < ·)
 range:∀ x ∈ (needsM d e).1,0 ≤ x∧x < sumW d.signals d.signals.length
 parts:∀ y ∈ e.l,(needsM d y).2=0∧(needsM d y).1.Pairwise (· < ·)∧∀ x ∈ (needsM d y).1,x ∈ (needsM d e).1
 hls:∀ x ∈ d.signals,1 ≤ x.w∧x.w ≤ 64
theorem needs_law {d:Flat} {e:E} (h:(needsM d e).2=0):NeedsL d e:=by
 have hm:mayM d e=true:=by
  cases hq:mayM d e with
  | true=>rfl
  | false=>unfold needsM at h;rw [hq] at h;simp at h
 obtain ⟨h1,h2⟩:=mayM_ok hm
 have hls:=checkM_w h1
 have hls':∀ x ∈ d.signals,x.w ≤ 64:=fun x hx=>(hls x hx).2
 obtain ⟨hws,hn,hd⟩:=checkEM_ws hls' h2
 have he:needsM d e=(setI (bitsM d.signals e),0):=by unfold needsM;rw [if_pos hm]
 refine ⟨by rw [he];exact setI_lt _,fun x hx=>?_,fun y hy=>?_,hls⟩
 ·rw [he] at hx;exact bitsM_range hls e hws x ((setI_mem _ _).1 hx)
 ·have hwy:=((WS_iff _ e).1 hws).2 y hy
  have hny:nodes y ≤ nodes e:=by have:=nodes_eq e;have:=le_sumBy nodes e.l y hy;omega
  have hy2:needsM d y=(setI (bitsM d.signals y),0):=by
   unfold needsM;rw [if_pos (mayM_of h1 (checkEM_of_ws hls' h2 hwy hny (deep_part hy)))]
  rw [hy2,he]
  exact ⟨rfl,setI_lt _,fun x hx=>(setI_mem _ _).2 (bitsM_sub hls hws hy ((setI_mem _ _).1 hx))⟩
theorem needs_step {l:List Int} (hl:l.Pairwise (· < ·)) {x:Int} (hx:x ∈ l) {j:Nat} (hb:∀ i,i < j→∀ y,l[i]? = some y→y < x) (hj:∀ y,l[j]? = some y→¬ y < x):l[j]? = some x:=by
 obtain ⟨t,ht,hxt⟩:=List.getElem_of_mem hx
 by_cases c:t < j
 ·have:=hb t c x (by rw [List.getElem?_eq_getElem ht,hxt]);omega
 ·by_cases c2:t=j
  ·subst c2;rw [List.getElem?_eq_getElem ht,hxt]
  ·have hjl:j < l.length:=by omega
   have h1:=hj l[j] (List.getElem?_eq_getElem hjl)
   have h2:=List.pairwise_iff_getElem.1 hl j t hjl ht (by omega)
   omega
theorem bin_ws {ls:List Signal} {a b:E} (ha:WS ls a) (hb:WS ls b) {wd n:Int} (h:11 ≤ n∧n ≤ 16∧a.w=wd∧b.w=wd ∨ 19 ≤ n∧n ≤ 24∧wd=1∧a.w=b.w):WS ls (binE wd n a b):=by
 refine (WS_iff ls _).2 ⟨.inr (.inr (.inr (.inr (.inl ⟨rfl,⟨a.w,b.w,rfl,?_⟩,rfl,rfl,rfl,rfl⟩)))),?_⟩
 ·show 11 ≤ n∧n ≤ 16∧a.w=wd∧b.w=wd ∨ 17 ≤ n∧n ≤ 18∧a.w=wd ∨ 19 ≤ n∧n ≤ 24∧wd=1∧a.w=b.w ∨ 25 ≤ n∧n ≤ 26∧wd=1∧a.w=1∧b.w=1
  rcases h with h | h
  ·exact .inl h
  ·exact .inr (.inr (.inl h))
 ·intro x hx
  rcases List.mem_cons.1 hx with rfl | hx
  ·exact ha
  ·rcases List.mem_cons.1 hx with rfl | hx
   ·exact hb
   ·cases hx
def condE (wd:Int) (c a b:E):E:=⟨6,wd,0,0,0,0,0,[c,a,b]⟩
theorem cond_ws {ls:List Signal} {c a b:E} (hc:WS ls c) (ha:WS ls a) (hb:WS ls b) {wd:Int} (h1:c.w=1) (h2:a.w=wd) (h3:b.w=wd):WS ls (condE wd c a b):=by
 refine (WS_iff ls _).2 ⟨.inr (.inr (.inr (.inr (.inr (.inl ⟨rfl,?_,rfl,rfl,rfl,rfl,rfl⟩))))),?_⟩
 ·show [c.w,a.w,b.w]=[1,wd,wd]
  rw [h1,h2,h3]
 ·intro x hx
  rcases List.mem_cons.1 hx with rfl | hx
  ·exact hc
  ·rcases List.mem_cons.1 hx with rfl | hx
   ·exact ha
   ·rcases List.mem_cons.1 hx with rfl | hx
    ·exact hb
    ·cases hx
theorem bin_ev (vs:List Nat) (wd n:Int) (a b:E):evM vs (binE wd n a b)=binM n a.w.toNat (evM vs a) (evM vs b):=by rw [evM_eq];rfl
theorem cond_ev (vs:List Nat) (wd:Int) (c a b:E):evM vs (condE wd c a b)=if evM vs c=1 then evM vs a else evM vs b:=by rw [evM_eq];rfl
theorem bin_nodes (wd n:Int) (a b:E):nodes (binE wd n a b)=1 + (nodes a + nodes b)∧deep (binE wd n a b)=1 + max (deep a) (deep b):=by
 rw [nodes_eq,deep_eq]
 simp [binE,sumBy,maxBy]
 omega
theorem cond_nodes (wd:Int) (c a b:E):nodes (condE wd c a b)=1 + (nodes c + (nodes a + nodes b))∧deep (condE wd c a b)=1 + max (deep c) (max (deep a) (deep b)):=by
 rw [nodes_eq,deep_eq]
 simp [condE,sumBy,maxBy]
 omega
theorem i64_0:i64r 0:=by unfold i64r;decide
theorem u64_0:u64r 0:=by unfold u64r;decide
theorem bin_wf {wd n:Int} {a b:E} (h1:i64r wd) (h2:i64r n) (ha:a.wf) (hb:b.wf):(binE wd n a b).wf:=by
 refine (E.wf_iff _).2 ⟨(by decide : -9223372036854775808 ≤ (5:Int)∧(5:Int) ≤ 9223372036854775807),h1,u64_0,i64_0,i64_0,i64_0,h2,?_⟩
 intro x hx
 rcases List.mem_cons.1 hx with rfl | hx
 ·exact ha
 ·rcases List.mem_cons.1 hx with rfl | hx
  ·exact hb
  ·cases hx
theorem cond_wf {wd:Int} {c a b:E} (h1:i64r wd) (hc:c.wf) (ha:a.wf) (hb:b.wf):(condE wd c a b).wf:=by
 refine (E.wf_iff _).2 ⟨(by decide : -9223372036854775808 ≤ (6:Int)∧(6:Int) ≤ 9223372036854775807),h1,u64_0,i64_0,i64_0,i64_0,i64_0,?_⟩
 intro x hx
 rcases List.mem_cons.1 hx with rfl | hx
 ·exact hc
 ·rcases List.mem_cons.1 hx with rfl | hx
  ·exact ha
  ·rcases List.mem_cons.1 hx with rfl | hx
   ·exact hb
   ·cases hx
theorem parts_law {d:Flat} {vs:List Nat} {a b:E} (ha:EvOk d vs a) (hb:EvOk d vs b) (hw:a.w=b.w) (na:nodes a ≤ 2000) (nb:nodes b ≤ 2000) (da:deep a ≤ 60) (db:deep b ≤ 60) (k:Int) (h0:0 ≤ k) (h1:k < 6) :
  evalM d vs (binE a.w (11 + k) a b)=(binM (11 + k) a.w.toNat (evM vs a) (evM vs b),0)∧evalM d vs (binE 1 (19 + k) a b)=(binM (19 + k) a.w.toNat (evM vs a) (evM vs b),0) ∧
  evalM d vs (condE a.w (binE 1 (19 + k) a b) a b)=(if binM (19 + k) a.w.toNat (evM vs a) (evM vs b)=1 then evM vs a else evM vs b,0):=by
 have w1:=bin_ws (wd:=a.w) (n:=11 + k) ha.ws hb.ws (.inl ⟨by omega,by omega,rfl,hw.symm⟩)
 have w2:=bin_ws (wd:=1) (n:=19 + k) ha.ws hb.ws (.inr ⟨by omega,by omega,rfl,hw⟩)
 have w3:=cond_ws (wd:=a.w) w2 ha.ws hb.ws rfl rfl hw.symm
 obtain ⟨n1,d1⟩:=bin_nodes a.w (11 + k) a b
 obtain ⟨n2,d2⟩:=bin_nodes 1 (19 + k) a b
 obtain ⟨n3,d3⟩:=cond_nodes a.w (binE 1 (19 + k) a b) a b
 refine ⟨?_,?_,?_⟩
 ·rw [ha.of w1 (by omega) (by omega),bin_ev]
 ·rw [ha.of w2 (by omega) (by omega),bin_ev]
 ·rw [ha.of w3 (by omega) (by omega),cond_ev,bin_ev]
def idxE (sg:Int) (x:E):E:=⟨3,1,0,sg,0,0,0,[x]⟩
def bitL (sg:Int):Nat→Nat→List E
 | 0,_=>[]
 | k + 1,j=>idxE sg (numE 7 ((j + k:Nat):Int)) :: bitL sg k j
theorem bitL_snoc (sg:Int) (k j:Nat):bitL sg (k + 1) j=bitL sg k (j + 1) ++ [idxE sg (numE 7 (j:Int))]:=by
 induction k with
 | zero=>rfl
 | succ k ih =>
  rw [bitL,ih,bitL,show j + 1 + k=j + (k + 1) by omega]
  rfl
theorem bitL_length (sg:Int) (k j:Nat):(bitL sg k j).length=k:=by
 induction k with
 | zero=>rfl
 | succ k ih=>rw [bitL,List.length_cons,ih]
def catE (wd:Int) (l:List E):E:=⟨7,wd,0,0,0,0,0,l⟩
theorem bitL_mem {sg:Int} {x:E} {k j:Nat} (h:x ∈ bitL sg k j):∃ i:Nat,j ≤ i∧i < j + k∧x=idxE sg (numE 7 (i:Int)):=by
 induction k with
 | zero=>cases h
 | succ k ih =>
  rw [bitL] at h
  rcases List.mem_cons.1 h with rfl | h
  ·exact ⟨j + k,by omega,by omega,rfl⟩
  ·obtain ⟨i,h1,h2,h3⟩:=ih h;exact ⟨i,h1,by omega,h3⟩
theorem num_ws {ls:List Signal} {wd v:Int} (h1:1 ≤ wd) (h2:wd ≤ 64) (h3:0 ≤ v) (h4:v.toNat < 2 ^ wd.toNat):WS ls (numE wd v):=by
 have h5:v < 18446744073709551616:=by
  have:(2:Nat) ^ wd.toNat ≤ 2 ^ 64:=Nat.pow_le_pow_right (by decide) (by omega)
  omega
 exact (WS_iff ls _).2 ⟨.inl ⟨rfl,rfl,h1,h2,(holds_lt (w:=wd) (v:=v) h3 h5 (by omega)).2 h4,rfl,rfl,rfl,rfl⟩,by intro x hx;cases hx⟩
theorem idx_ws {ls:List Signal} {sg:Int} {x:E} (h0:0 ≤ sg) (h1:sg < ls.length) (hx:WS ls x):WS ls (idxE sg x) :=
 (WS_iff ls _).2 ⟨.inr (.inr (.inl ⟨rfl,⟨x.w,rfl⟩,h0,h1,rfl,rfl,rfl,rfl,rfl⟩)),by
  intro y hy
  rcases List.mem_cons.1 hy with rfl | hy
  ·exact hx
  ·cases hy⟩
theorem idx_ev (vs:List Nat) (sg wd v:Int):evM vs (idxE sg (numE wd v))=vs.getD sg.toNat 0 / 2 ^ v.toNat % 2:=by rw [evM_eq];rfl
theorem idx_nodes (sg wd v:Int):nodes (idxE sg (numE wd v))=2∧deep (idxE sg (numE wd v))=2:=⟨rfl,rfl⟩
theorem bitL_cat (vs:List Nat) (sg:Int) (k:Nat):∀ acc,catM (((bitL sg k 0).map (·.w)).zip ((bitL sg k 0).map (evM vs))) acc=acc * 2 ^ k + vs.getD sg.toNat 0 % 2 ^ k:=by
 induction k with
 | zero=>intro acc;simp [bitL,catM,Nat.mod_one]
 | succ k ih =>
  intro acc
  rw [bitL,List.map_cons,List.map_cons,List.zip_cons_cons,catM,ih,idx_ev]
  generalize vs.getD sg.toNat 0=v
  simp only [idxE,Nat.zero_add,Int.toNat_natCast,show (1:Int).toNat=1 from rfl,Nat.pow_one]
  have h1:v % 2 ^ (k + 1)=v % 2 ^ k + 2 ^ k * (v / 2 ^ k % 2):=by rw [Nat.pow_succ,Nat.mod_mul]
  rw [h1,Nat.pow_succ,Nat.add_mul,Nat.mul_comm (v / 2 ^ k % 2),← Nat.mul_assoc,Nat.mul_right_comm acc (2 ^ k) 2]
  omega
theorem bitL_sum (sg:Int) (k j:Nat):((bitL sg k j).map (·.w)).sum=k∧sumBy nodes (bitL sg k j)=2 * k∧maxBy deep (bitL sg k j) ≤ 2:=by
 induction k with
 | zero=>exact ⟨rfl,rfl,Nat.zero_le _⟩
 | succ k ih =>
  obtain ⟨h1,h2,h3⟩:=ih
  obtain ⟨h4,h5⟩:=idx_nodes sg 7 ((j + k:Nat):Int)
  rw [bitL,List.map_cons,List.sum_cons,sumBy,maxBy,h1,h2,h4,h5]
  refine ⟨?_,by omega,by omega⟩
  simp only [idxE];omega
structure BitsL (d:Flat) (vs:List Nat) (s:Nat) (n:Int):Prop where
 w:1 ≤ n∧n ≤ 64
 lt:vs.getD s 0 < 2 ^ n.toNat
 all:evalM d vs (catE n (bitL s n.toNat 0))=(vs.getD s 0,0)
 one:evalM d vs (sigX n s (n - 1) 0)=(vs.getD s 0,0)
 bit:∀ far:Nat,far < 256→evalM d vs (idxE s (numE 8 far))=(vs.getD s 0 / 2 ^ far % 2,0)
theorem bits_law {d:Flat} {vs:List Nat} (h:valsOk d vs=true) {s:Nat} (hs:s < d.signals.length):BitsL d vs s d.signals[s].w:=by
 obtain ⟨h4,h5,h6⟩:=valsOk_ck h
 have hls:=checkM_w h5
 have hls':∀ x ∈ d.signals,x.w ≤ 64:=fun x hx=>(hls x hx).2
 have hsw:sigW d.signals (s:Int)=d.signals[s].w:=by simp [sigW,List.getElem?_eq_getElem hs]
 have hv:=h6 (s:Int) (by omega) (by omega)
 rw [hsw] at hv
 have hw:=hls _ (List.getElem_mem hs)
 have hsg:=checkM_sigs h5
 generalize d.signals[s].w=n at *
 have hv':vs.getD s 0 < 2 ^ n.toNat:=hv
 have hev:∀ x,WS d.signals x→nodes x ≤ 65536→deep x ≤ 64→evalM d vs x=(evM vs x,0):=fun x hx hn hd=>by
  unfold evalM;rw [if_pos ⟨h,checkEM_ok hls' hsg hx hn hd⟩]
 refine ⟨hw,hv',?_,?_,fun far hf=>?_⟩
 ·obtain ⟨b1,b2,b3⟩:=bitL_sum (s:Int) n.toNat 0
  have hws:WS d.signals (catE n (bitL s n.toNat 0)):=by
   refine (WS_iff _ _).2 ⟨.inr (.inr (.inr (.inr (.inr (.inr (.inl ⟨rfl,?_,?_,hw.2,rfl,rfl,rfl,rfl,rfl⟩)))))),?_⟩
   ·intro h0
    have:=congrArg List.length h0
    simp [catE,bitL_length] at this
    omega
   ·show n=((bitL s n.toNat 0).map (·.w)).sum
    rw [b1];omega
   ·intro x hx
    obtain ⟨i,h1,h2,rfl⟩:=bitL_mem hx
    refine idx_ws (by omega) (by omega) (num_ws (by decide) (by decide) (by omega) ?_)
    rw [show (7:Int).toNat=7 from rfl]
    omega
  rw [hev _ hws (by rw [nodes_eq];show 1 + sumBy nodes (bitL s n.toNat 0) ≤ _;omega) (by rw [deep_eq];show maxBy deep (bitL s n.toNat 0) + 1 ≤ _;omega),evM_eq]
  show (catM (((bitL s n.toNat 0).map (·.w)).zip ((bitL s n.toNat 0).map (evM vs))) 0,(0:Int))=_
  rw [bitL_cat,Nat.zero_mul,Nat.zero_add,Int.toNat_natCast,Nat.mod_eq_of_lt hv']
 ·have hws:WS d.signals (sigX n s (n - 1) 0):=by
   refine (WS_iff _ _).2 ⟨.inr (.inl ⟨rfl,rfl,?_,?_,rfl,rfl⟩),by intro x hx;cases hx⟩
   ·show slice d.signals (s:Int) (n - 1) 0=true
    unfold slice
    rw [hsw]
    simp
    omega
   ·show n=n - 1 - 0 + 1;omega
  rw [hev _ hws (by rw [show nodes (sigX n s (n - 1) 0)=1 from rfl];omega) (by rw [show deep (sigX n s (n - 1) 0)=1 from rfl];omega),evM_eq]
  show (vs.getD (s:Int).toNat 0 / 2 ^ (0:Int).toNat % 2 ^ (n - 1 - 0 + 1).toNat,(0:Int))=_
  rw [show n - 1 - 0 + 1=n by omega,show (0:Int).toNat=0 from rfl,Nat.pow_zero,Nat.div_one,Int.toNat_natCast,Nat.mod_eq_of_lt hv']
 ·have hws:WS d.signals (idxE s (numE 8 far)):=idx_ws (by omega) (by omega) (num_ws (by decide) (by decide) (by omega) (by rw [show (8:Int).toNat=8 from rfl];omega))
  obtain ⟨n1,n2⟩:=idx_nodes (s:Int) 8 (far:Int)
  rw [hev _ hws (by omega) (by omega),idx_ev]
  rfl
end Go.Proofs.YtemabheegnngdaaGreat
