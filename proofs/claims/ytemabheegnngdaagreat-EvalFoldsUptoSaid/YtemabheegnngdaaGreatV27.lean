/- Laws and walks that a claim of this seat leans on: Ref10, Ref11, Ref12, Ref13. -/
import Derived.Test.YtemabheegnngdaaGreatV24
import Derived.Test.YtemabheegnngdaaGreatV00
set_option linter.all false
namespace Go.Proofs.YtemabheegnngdaaGreat
open Go.RowKit
def SameTR (l:List T):Prop:=∀ (r:List T) (s s':Value) (w:World),Ts w s l→Ts w s' r →
  Calls Tryz.prog 155 #[s,s'] w fun r' w'=>r'=.returned (.bool (allEq2 eqT l r))∧Ext w w'
set_option maxRecDepth 100000 in
set_option maxHeartbeats 8000000 in
theorem sameT_stepR (l:List T) (ih:∀ t ∈ l,SameTR t.l):SameTR l:=by
 intro r s s' w h h'
 have IH:=Lib.hid ih
 clear ih
 obtain ⟨a,b,o,cap,rfl,hc1,hc2,ha,hr⟩:=h.open
 obtain ⟨a',b',o',cap',rfl,hc1',hc2',ha',hr'⟩:=h'.open
 have HR:=Lib.hid hr
 have HR':=Lib.hid hr'
 have HA:=Lib.hid ha
 have HA':=Lib.hid ha'
 clear hr hr' ha ha' h h'
 go_enter Tryz.func155,Tryz.ntmps155
 by_cases ql:l.length=r.length
 rotate_left
 ·have cl:(((l.length:Nat):Int) != ((r.length:Nat):Int))=true:=by rw [bne_iff_ne];omega
  have HF:=Lib.hid (allT_ne (l:=l) (r:=r) (fun h=>ql (by rw [h])))
  clear ql
  go_wp2_with fail
  go_ret
  exact ⟨ret_bool HF.out.symm,Below.refl _ _⟩
 have cl:(((l.length:Nat):Int) != ((r.length:Nat):Int))=false:=by rw [bne_eq_false_iff_eq];omega
 have QL:=Lib.hid ql
 clear ql
 go_upto_region 3 with fail
 clear cl
 go_wp2_with fail
 go_loopw [5,6,7,8] (fun i _ _ _ wr=>∃ k:Nat,k ≤ l.length∧i=.int .i64 k∧l.take k=r.take k∧Ext w wr) (fun i _ _ _ _=>l.length - (intOf i).toNat)
 case atStart=>exact ⟨0,Nat.zero_le _,rfl,rfl,Below.refl _ _⟩
 case round =>
  obtain ⟨k,hk,rfl,htk,hB⟩:=hrel
  have HTK:=Lib.hid htk
  have HBX:=Lib.hid hB
  clear htk hB
  by_cases hlt:k < l.length
  ·have hlt':k < r.length:=by have:=QL.out;omega
   obtain ⟨cs1,he1,hn1,he2⟩:=VT.get (HR.out.mono fun x _ b o h=>TAt.ext' HBX.out h) hlt
   obtain ⟨cs2,he3,hn2,he4⟩:=VT.get (HR'.out.mono fun x _ b o h=>TAt.ext' HBX.out h) hlt'
   obtain rfl:=HA.out (by omega)
   obtain rfl:=HA'.out (by omega)
   have hih:=IH.out _ (List.getElem_mem hlt)
   have HTE:=Lib.hid (fun (h:l[k]=r[k])=>take_eq HTK.out hlt hlt' h)
   have HTN:=Lib.hid (fun (h : ¬ l[k]=r[k])=>allT_ne (l:=l) (r:=r) (fun h2=>by subst h2;exact h rfl))
   obtain ⟨x,hx⟩ : ∃ x,l[k]=x:=⟨_,rfl⟩
   obtain ⟨y,hy⟩ : ∃ y,r[k]=y:=⟨_,rfl⟩
   rw [hx,hy] at HTE HTN
   rw [hx] at he2 hih
   rw [hy] at he4
   clear hx hy
   obtain ⟨op,sig,hi,lo,e,tl⟩:=x
   obtain ⟨op',sig',hi',lo',e',tl'⟩:=y
   obtain ⟨se,sl,rfl,hse,hsl⟩:=he2
   obtain ⟨se',sl',rfl,hse',hsl'⟩:=he4
   simp only at hse hsl hse' hsl' hih
   have HC:=Lib.hid (fun W (hx:Ext wr W)=>hih tl' sl sl' W (hsl.ext hx) (hsl'.ext hx))
   obtain ⟨a1,b1,o1,cap1,rfl,hd1,hd2,ha1,hr1⟩:=hse.open
   obtain ⟨a2,b2,o2,cap2,rfl,hd3,hd4,ha2,hr2⟩:=hse'.open
   have HA1:=Lib.hid ha1
   have HR1:=Lib.hid hr1
   have HA2:=Lib.hid ha2
   have HR2:=Lib.hid hr2
   have HONE1:=Lib.hid (show (T.cells ⟨op,sig,hi,lo,e,tl⟩ (.slice a1 e.length cap1) sl).all (·.oneCell')=true by simp [hsl.one,hse.one,one_int])
   have HONE2:=Lib.hid (show (T.cells ⟨op',sig',hi',lo',e',tl'⟩ (.slice a2 e'.length cap2) sl').all (·.oneCell')=true by simp [hsl'.one,hse'.one,one_int])
   have HE3:=Lib.hid he3
   clear ha1 hr1 ha2 hr2 hse hse' hsl hsl' hih he3
   have hx2:=ext_alloc wr (.cells (T.cells ⟨op,sig,hi,lo,e,tl⟩ (.slice a1 e.length cap1) sl).toArray 99)
   have hb2:=Has.alloc wr (T.cells ⟨op,sig,hi,lo,e,tl⟩ (.slice a1 e.length cap1) sl) 99
   go_upto_region 7 with (first | ((with_reducible show Jw (Op.load 99 _));refine wpList_load_has rfl 99 _ rfl rfl (he1) agg_T hn1 ?_) | ((with_reducible show Jw (Op.store 99 _ _));refine wpList_store_new rfl 99 _ _ rfl rfl (by first | rfl | simp) rfl agg_T (hn1) rfl (HONE1.out) ?_))
   generalize wr.alloc _=w2 at *
   have hx3:=ext_alloc w2 (.cells (T.cells ⟨op',sig',hi',lo',e',tl'⟩ (.slice a2 e'.length cap2) sl').toArray 99)
   have hb3:=Has.alloc w2 (T.cells ⟨op',sig',hi',lo',e',tl'⟩ (.slice a2 e'.length cap2) sl') 99
   go_upto_region 8 with (first | ((with_reducible show Jw (Op.load 99 _));refine wpList_load_has rfl 99 _ rfl rfl (HE3.out.ext hx2) agg_T hn2 ?_) | ((with_reducible show Jw (Op.store 99 _ _));refine wpList_store_new rfl 99 _ _ rfl rfl (by first | rfl | simp) rfl agg_T (hn2) rfl (HONE2.out) ?_))
   generalize w2.alloc _=w3 at *
   have HB1:=Lib.hid (hb2.ext hx3)
   have HB2:=Lib.hid hb3
   have HX3:=Lib.hid (hx2.trans hx3)
   clear hx2 hb2 hx3 hb3 he1
   have f0:=HB1.out 0 _ rfl
   have g0:=HB2.out 0 _ rfl
   have f1:=HB1.out 1 _ rfl
   have g1:=HB2.out 1 _ rfl
   have f2:=HB1.out 2 _ rfl
   have g2:=HB2.out 2 _ rfl
   have f3:=HB1.out 3 _ rfl
   have g3:=HB2.out 3 _ rfl
   have f4:=HB1.out 4 _ rfl
   have g4:=HB2.out 4 _ rfl
   have f5:=HB1.out 5 _ rfl
   have g5:=HB2.out 5 _ rfl
   by_cases qop:op=op'
   rotate_left
   ·have cop:(op != op')=true:=by rw [bne_iff_ne];exact qop
    have HF:=Lib.hid (HTN.out (fun h=>by injection h with h1 h2 h3 h4 h5 h6;exact qop (by assumption)))
    clear qop
    go_wp2_with fail
    go_ret
    exact ⟨ret_bool HF.out.symm,HBX.out.trans HX3.out⟩
   subst qop
   by_cases qsig:sig=sig'
   rotate_left
   ·have csig:(sig != sig')=true:=by rw [bne_iff_ne];exact qsig
    have HF:=Lib.hid (HTN.out (fun h=>by injection h with h1 h2 h3 h4 h5 h6;exact qsig (by assumption)))
    clear qsig
    go_wp2_with fail
    go_ret
    exact ⟨ret_bool HF.out.symm,HBX.out.trans HX3.out⟩
   subst qsig
   by_cases qhi:hi=hi'
   rotate_left
   ·have chi:(hi != hi')=true:=by rw [bne_iff_ne];exact qhi
    have HF:=Lib.hid (HTN.out (fun h=>by injection h with h1 h2 h3 h4 h5 h6;exact qhi (by assumption)))
    clear qhi
    go_wp2_with fail
    go_ret
    exact ⟨ret_bool HF.out.symm,HBX.out.trans HX3.out⟩
   subst qhi
   by_cases qlo:lo=lo'
   rotate_left
   ·have clo:(lo != lo')=true:=by rw [bne_iff_ne];exact qlo
    have HF:=Lib.hid (HTN.out (fun h=>by injection h with h1 h2 h3 h4 h5 h6;exact qlo (by assumption)))
    clear qlo
    go_wp2_with fail
    go_ret
    exact ⟨ret_bool HF.out.symm,HBX.out.trans HX3.out⟩
   subst qlo
   by_cases qe:e.length=e'.length
   rotate_left
   ·have ce:(((e.length:Nat):Int) != ((e'.length:Nat):Int))=true:=by rw [bne_iff_ne];omega
    have HF:=Lib.hid (HTN.out (fun h=>by injection h with h1 h2 h3 h4 h5 h6;exact qe (by rw [h5])))
    clear qe
    go_wp2_with fail
    go_ret
    exact ⟨ret_bool HF.out.symm,HBX.out.trans HX3.out⟩
   have ce:(((e.length:Nat):Int) != ((e'.length:Nat):Int))=false:=by rw [bne_eq_false_iff_eq];omega
   have QE:=Lib.hid qe
   clear qe
   obtain ⟨bq,hbq⟩ : ∃ bq,allEq2 eqT tl tl'=bq:=⟨_,rfl⟩
   rw [hbq] at HC
   have HBQ:=Lib.hid hbq
   clear hbq
   cases bq
   ·have HF:=Lib.hid (HTN.out (fun h=>by injection h with h1 h2 h3 h4 h5 h6;have h7:=(allT_iff tl tl').2 h6;rw [HBQ.out] at h7;cases h7))
    go_wp2_with (first | (go_at_call 155;refine (HC.out _ HX3.out).mono ?_;rintro r' w4 ⟨rfl,hx4⟩))
    go_ret
    exact ⟨ret_bool HF.out.symm,HBX.out.trans (HX3.out.trans hx4)⟩
   ·go_upto_region 10 with (first | (go_at_call 155;refine (HC.out _ HX3.out).mono ?_;rintro r' w4 ⟨rfl,hx4⟩))
    have HB14:=Lib.hid (HB1.out.ext hx4)
    have HB24:=Lib.hid (HB2.out.ext hx4)
    have HX4:=Lib.hid (HX3.out.trans hx4)
    clear ce hx4 HC f0 g0 f1 g1 f2 g2 f3 g3 f4 g4 f5 g5
    go_wp2_with fail
    go_loopw [8] (fun i wr'=>∃ j:Nat,j ≤ e.length∧i=.int .i64 j∧e.take j=e'.take j∧Ext w4 wr') (fun i _=>e.length - (intOf i).toNat)
    case atStart=>exact ⟨0,Nat.zero_le _,rfl,rfl,Below.refl _ _⟩
    case round =>
     obtain ⟨j,hj,rfl,htj,hB4⟩:=hrel
     have HTJ:=Lib.hid htj
     have HB4:=Lib.hid hB4
     have f4:=(HB14.out.ext hB4) 4 _ rfl
     clear htj hB4
     by_cases hjt:j < e.length
     ·have hjt':j < e'.length:=by have:=QE.out;omega
      obtain ⟨s1,q1,q2⟩:=Es.get (HR1.out.mono fun x _ b o h=>EAt.ext' (HX4.out.trans HB4.out) h) hjt
      obtain ⟨s2,q3,q4⟩:=Es.get (HR2.out.mono fun x _ b o h=>EAt.ext' (HX4.out.trans HB4.out) h) hjt'
      obtain rfl:=HA1.out (by omega)
      obtain rfl:=HA2.out (by omega)
      have HCE:=Lib.hid (fun W (hx:Ext wr W)=>SameE_callsR e[j] e'[j] _ _ W ⟨s1,rfl,q2.ext hx⟩ ⟨s2,rfl,q4.ext hx⟩)
      have HJE:=Lib.hid (fun (h:e[j]=e'[j])=>take_eq HTJ.out hjt hjt' h)
      have HJN:=Lib.hid (fun (h : ¬ e[j]=e'[j])=>HTN.out (fun h2=>by injection h2 with h1 h2 h3 h4 h5 h6;subst h5;exact h rfl))
      have HE1:=Lib.hid q1
      have HE3:=Lib.hid q3
      obtain ⟨x,hx⟩ : ∃ x,e[j]=x:=⟨_,rfl⟩
      obtain ⟨y,hy⟩ : ∃ y,e'[j]=y:=⟨_,rfl⟩
      rw [hx,hy] at HCE HJE HJN
      rw [hx] at HE1
      rw [hy] at HE3
      obtain ⟨c,hc⟩ : ∃ c,eqE x y=c:=⟨_,rfl⟩
      rw [hc] at HCE
      have HCC:=Lib.hid hc
      clear hx hy hc q1 q2 q3 q4
      go_upto_region 13 with fail
      refine wp_region_held_drew (S:=fun W=>Ext wr W) (by kernel_rfl) (Below.drew (Below.refl _ _)) (fun hHeld=>?_)
      try simp only [J]
      (refine Jt 0 (_) rfl (yif_load1 rfl (by intro W hW;clear hW;go_simp;rfl)) hHeld ?_;try simp only [J])
      (refine Jt 1 (.slice (some ⟨b1,o1,Option.none⟩) e.length cap1) rfl (yif_load1 rfl (by intro W hW;have y7:=(HB14.out.ext (HB4.out.trans hW)) 4 _ rfl;clear hW f4;go_simp)) hHeld ?_;try simp only [J])
      (refine Jt 2 (_) rfl (yif_load1 rfl fun _ _=>rfl) hHeld ?_;try simp only [J])
      (refine Jt 3 (.pointer (some ⟨b1,o1 + j * 8,Option.none⟩)) rfl (yif_load1 rfl (by intro W hW;clear hW;go_simp;try (intro h;omega))) hHeld ?_;try simp only [J])
      (refine Jt 4 (.agg (x.cells s1).toArray) rfl (yif_load rfl 44 _ rfl rfl (fun W hW=>HE1.out.ext hW) agg_E rfl) hHeld ?_;try simp only [J])
      (refine Jt 5 (_) rfl (yif_load1 rfl (by intro W hW;clear hW;go_simp;rfl)) hHeld ?_;try simp only [J])
      (refine Jt 6 (.slice (some ⟨b2,o2,Option.none⟩) e'.length cap2) rfl (yif_load1 rfl (by intro W hW;have y7:=(HB24.out.ext (HB4.out.trans hW)) 4 _ rfl;clear hW f4;go_simp)) hHeld ?_;try simp only [J])
      (refine Jt 7 (_) rfl (yif_load1 rfl fun _ _=>rfl) hHeld ?_;try simp only [J])
      (refine Jt 8 (.pointer (some ⟨b2,o2 + j * 8,Option.none⟩)) rfl (yif_load1 rfl (by intro W hW;clear hW;go_simp;try (intro h;omega))) hHeld ?_;try simp only [J])
      (refine Jt 9 (.agg (y.cells s2).toArray) rfl (yif_load rfl 44 _ rfl rfl (fun W hW=>HE3.out.ext hW) agg_E rfl) hHeld ?_;try simp only [J])
      refine wpAnyH_ready (rs:=[10]) (by kernel_rfl) (by simp) ?_
      refine AllReadyH.cons rfl (fun K hK=>?_) AllReadyH.nil
      go_simp
      refine (HCE.out _ hHeld).mono ?_
      rintro r' w1 ⟨rfl,hx1⟩
      refine hK.out _ _ (hHeld.trans hx1) (fun hHeld=>?_)
      clear hK K
      try simp only [J]
      (refine Jt 11 (.bool (!c)) rfl (yif_load1 rfl (by intro W hW;clear hW;go_simp)) hHeld ?_;try simp only [J])
      refine wpAnyH_done (by kernel_rfl) ?_ _
      cases c
      ·have HF:=Lib.hid (HJN.out (fun h=>by rw [eqE_same h] at HCC;exact absurd HCC.out (by decide)))
       go_wp2_with fail
       go_ret
       exact ⟨ret_bool HF.out.symm,HBX.out.trans (HX4.out.trans (HB4.out.trans hHeld))⟩
      ·have HF:=Lib.hid (HJE.out ((eqE_iff x y).1 HCC.out))
       go_wp2_with fail
       go_roundw
       case rel=>exact ⟨j + 1,by omega,by go_num,HF.out,HB4.out.trans hHeld⟩
       case measure=>simp [intOf];omega
     ·obtain rfl:j=e.length:=by omega
      have htj:=HTJ.out
      rw [List.take_length,QE.out,List.take_length] at htj
      have HF:=Lib.hid (HTE.out (by rw [htj,(allT_iff tl tl').1 HBQ.out]))
      clear htj
      go_wp2_with fail
      go_roundw
      case rel=>exact ⟨k + 1,by omega,by go_num,HF.out,HBX.out.trans (HX4.out.trans HB4.out)⟩
      case measure=>simp [intOf];omega
  ·obtain rfl:k=l.length:=by omega
   have htk:=HTK.out
   rw [List.take_length,QL.out,List.take_length] at htk
   have HF:=Lib.hid ((allT_iff l r).2 htk)
   clear htk
   go_wp2_with fail
   go_ret
   exact ⟨ret_bool HF.out.symm,HBX.out⟩
theorem sameT_callsR (l:List T):SameTR l:=sameT_stepR l fun t _=>T.ind (P:=fun t=>SameTR t.l) (fun t ih=>sameT_stepR t.l ih) t
open Go.RowKit
def OnePost (w:World) (q:T × Int) (r:Ending) (w':World):Prop:=∃ cs g,r=.returned (.tuple #[.agg cs.toArray,.int .i64 g])∧g=q.2∧cs.length=6∧cs.all (·.oneCell')=true∧Ext w w'∧(g=0→FV VT w.heap.size w' cs q.1)
def SomePost (w:World) (q:List T × Int) (r:Ending) (w':World):Prop:=∃ v g,r=.returned (.tuple #[v,.int .i64 g])∧g=q.2∧Ext w w'∧(g=0→RowIs VT 99 6 w.heap.size v q.1 w')∧(g ≠ 0→v=.slice Option.none 0 0)
def OneR (ls:List Signal) (ck:Bool) (t:T):Prop:=∀ (s0:Value) (cs:List Value) (w:World),Sigs w s0 ls→VT w cs t →
 Calls Tryz.prog 206 #[s0,.agg cs.toArray,.bool ck] w (OnePost w (szT ls ck t 0 0))
def SomeR (ls:List Signal) (ck:Bool) (l:List T):Prop:=∀ (s0 s:Value) (w:World),Sigs w s0 ls→Ts w s l →
 Calls Tryz.prog 153 #[s0,s,.bool ck] w (SomePost w (szTL ls ck 0 0 l))
set_option maxRecDepth 100000 in
set_option maxHeartbeats 2000000 in
theorem some_stepR (ls:List Signal) (ck:Bool) (l:List T) (ih:∀ t ∈ l,OneR ls ck t) (hl:l.length ≤ 1048576):SomeR ls ck l:=by
 intro s0 s w hS h
 have IH:=Lib.hid ih
 have HS:=Lib.hid hS
 clear ih hS
 obtain ⟨a,b,o,cap,rfl,hc1,hc2,ha,hr⟩:=h.open
 have HR:=Lib.hid hr
 have HA:=Lib.hid ha
 clear hr ha h
 go_enter Tryz.func153,Tryz.ntmps153
 go_wp2_with fail
 go_loopw [8,9,10,11] (fun u i _ _ wr=>∃ (k:Nat) (vv:Value),vv=u∧k ≤ l.length∧i=.int .i64 k∧(szTL ls ck 0 0 (l.take k)).2=0∧RowIs VT 99 6 w.heap.size vv (szTL ls ck 0 0 (l.take k)).1 wr∧Ext w wr) (fun _ i _ _ _=>l.length - (intOf i).toNat)
 case atStart=>exact ⟨0,_,rfl,Nat.zero_le _,rfl,rfl,RowIs.nil,Below.refl _ _⟩
 case round =>
  obtain ⟨k,vv,rfl,hk,rfl,hz,hrow,hB⟩:=hrel
  have HZ:=Lib.hid hz
  have HEX:=Lib.hid hB
  have hszr:=hB.size
  clear hB
  by_cases hlt:k < l.length
  ·obtain ⟨cs,he1,hn,he2⟩:=VT.get (HR.out.mono fun x _ b o h=>TAt.ext' HEX.out h) hlt
   obtain rfl:=HA.out (by omega)
   have hmem:l[k] ∈ l:=List.getElem_mem hlt
   have HC:=Lib.hid (IH.out _ hmem s0 cs wr (HS.out.ext HEX.out) he2)
   have htk:=szTL_take ls ck 0 0 l k hlt
   rw [hz] at htk
   have hlen:(szTL ls ck 0 0 (l.take k)).1.length=k:=by rw [szTL_length,List.length_take];omega
   have hstop:=szTL_stop ls ck l 0 0 (k + 1)
   rw [htk] at hstop
   obtain ⟨rr,hrr⟩ : ∃ rr,(szTL ls ck 0 0 (l.take k)).1=rr:=⟨_,rfl⟩
   rw [hrr] at hrow htk hlen
   obtain ⟨q,hq⟩ : ∃ q,szT ls ck l[k] 0 0=q:=⟨_,rfl⟩
   rw [hq] at HC htk hstop
   have HTK:=Lib.hid htk
   have HSTOP:=Lib.hid hstop
   have HLN:=Lib.hid hlen
   have HROW:=Lib.hid hrow
   clear hz htk hstop hlen hrr hq hrow hmem he2
   go_wp2_with (first | ((with_reducible show Jw (Op.load 99 _));refine wpList_load_has rfl 99 _ rfl rfl (he1) agg_T hn ?_) | (go_at_call 206;refine HC.out.mono ?_;intro r w3 hp3;obtain ⟨cs2,g,rfl,hg,h6,hone,hx3,hfv⟩:=hp3;replace hg:=Lib.hid hg;refine Hid.out ?_))
   refine Lib.hid ?_
   have hxb:=ext_alloc w3 (.cells cs2.toArray 99)
   have hbb:=Lib.hid (Has.alloc w3 cs2 99)
   have HXX:=Lib.hid (hx3.trans hxb)
   have hsz4:w3.heap.size < (w3.alloc (.cells cs2.toArray 99)).heap.size:=by simp
   have hsz3:=hx3.size
   by_cases hg0:g=0
   ·have HFV:=Lib.hid (show FV VT wr.heap.size (w3.alloc (.cells cs2.toArray 99)) cs2 q.1 from (hfv hg0).ext hxb)
    have HG:=Lib.hid (hg.out.symm.trans hg0)
    subst hg0
    clear hfv hxb hg
    go_upto_region 6 with (first | ((with_reducible show Jw (Op.store 99 _ _));refine wpList_store_new rfl 99 _ _ rfl rfl (by first | rfl | simp) rfl agg_T (h6) rfl (hone) ?_))
    generalize w3.alloc _=w4 at *
    go_wp2_with (first | ((with_reducible show Jw (Op.load 99 _));refine wpList_load_has rfl 99 _ rfl rfl (hbb.out) agg_T h6 ?_) | ((with_reducible show Jw (Op.buildSlice _ _ _));refine wpList_bs1 rfl _ _ rfl appT rfl (cs:=cs2) rfl h6 (by decide) ?_) | ((with_reducible show Jw (Op.call { callee:=.builtin .append,args:=_,argTypes:=_ }));refine wpList_app1 (V:=VT) rfl _ _ _ rfl appT rfl ((HROW.out.since (Since.of_ext HXX.out)).since (Since.of_ext (ext_alloc w4 (.cells cs2.toArray 99)))) rfl h6 (Has.alloc w4 cs2 99) hone ((HFV.out.ext (ext_alloc w4 (.cells cs2.toArray 99))).st (N:=w.heap.size) (by omega) (fun k hk=>by have:=(HROW.out.lt k hk).2;omega)) (by rw [HLN.out];omega) (by simp;omega) ?_;rw [HLN.out];intro g5 cap5 w5 hrow5 hg5))
    have hx4:=ext_alloc w4 (.cells cs2.toArray 99)
    have hR:∀ j,vv.ownBlock=some j→w.heap.size ≤ j:=fun j hj=>(HROW.out.lt j hj).1
    have hexx:=((HEX.out.trans (HXX.out.trans hx4)).grownO hg5 (fun j hj=>by have:=hR j hj;omega))
    go_roundw
    case rel=>exact ⟨k + 1,_,rfl,by omega,by go_num,by rw [HTK.out];exact HG.out,by rw [HTK.out];exact hrow5,hexx⟩
    case measure=>simp [intOf];omega
   ·have g1:(g != 0)=true:=by rw [bne_iff_ne];omega
    have HF:=Lib.hid (show g=(szTL ls ck 0 0 l).2 by rw [HSTOP.out (show q.2 ≠ 0 by rw [← hg.out];exact hg0)];exact hg.out)
    have HG0:=Lib.hid hg0
    clear hfv hg hxb hg0
    go_upto_region 6 with (first | ((with_reducible show Jw (Op.store 99 _ _));refine wpList_store_new rfl 99 _ _ rfl rfl (by first | rfl | simp) rfl agg_T (h6) rfl (hone) ?_))
    generalize w3.alloc _=w4 at *
    go_wp2_with fail
    go_ret2
    exact ⟨_,g,rfl,HF.out,HEX.out.trans HXX.out,fun h=>absurd h HG0.out,fun _=>rfl⟩
  ·obtain rfl:k=l.length:=by omega
   rw [List.take_length] at hrow
   have hz':=HZ.out
   rw [List.take_length] at hz'
   have HZ2:=Lib.hid hz'
   have HROW:=Lib.hid hrow
   clear hz hz' hrow
   go_wp2_with fail
   go_ret2
   exact ⟨_,0,rfl,HZ2.out.symm,HEX.out,fun _=>HROW.out,fun h=>absurd rfl h⟩
open Go.RowKit
theorem armT_szT {ls:List Signal} {ck:Bool} {t:T} (h:shapeT.armT ls t=true) (wd:Int):szT ls ck t wd 0 =
  (⟨t.op,t.sig,t.hi,t.lo,(szEs 0 wd t.e).1,(szTL ls ck 0 (szEs 0 wd t.e).2 t.l).1⟩,(szTL ls ck 0 (szEs 0 wd t.e).2 t.l).2):=by
 rw [shapeT.armT_eq] at h
 simp only [Bool.and_eq_true,decide_eq_true_eq] at h
 have h4:t.op=4:=h.1.1.1.1.1
 have e0:szErr0 ls ck t 0=0:=by unfold szErr0;rw [if_neg (by omega)]
 have e1:szW t wd=wd:=by unfold szW;rw [if_neg (by omega),if_neg (by omega),if_neg (by omega)]
 rw [szT_eq,e0,e1,if_neg (by omega),szTL_lab h.2 wd 0]
set_option maxRecDepth 100000 in
set_option maxHeartbeats 4000000 in
theorem cases_stepR (ls:List Signal) (ck:Bool) (wd:Int) (hw0:0 ≤ wd) (hw1:wd ≤ 9223372036854775807) (l:List T) (harm:∀ t ∈ l,shapeT.armT ls t=true) (hsz:∀ t ∈ l,∀ x ∈ t.e,SizedRSaid x) (hso:∀ t ∈ l,SomeR ls ck t.l)
  (hl:l.length ≤ 1048576) (hle:∀ t ∈ l,t.e.length ≤ 1048576) (s0 s:Value) (w:World) (hS:Sigs w s0 ls) (h:Ts w s l) :
  Calls Tryz.prog 231 #[s0,s,.bool ck,.int .i64 wd] w (SomePost w (szTL ls ck wd 0 l)):=by
 have HARM:=Lib.hid harm
 have HSZ:=Lib.hid hsz
 have HSO:=Lib.hid hso
 have HLE:=Lib.hid hle
 have HS:=Lib.hid hS
 have HW:=Lib.hid (And.intro hw0 hw1)
 clear harm hsz hso hS hle hw0 hw1
 obtain ⟨a,b,o,cap,rfl,hc1,hc2,ha,hr⟩:=h.open
 have HR:=Lib.hid hr
 have HA:=Lib.hid ha
 clear hr ha h
 go_enter Tryz.func231,Tryz.ntmps231
 go_wp2_with fail
 go_loopw [10,11,12,13,14,15,16,17,18] (fun u i _ _ _ _ _ _ _ wr=>∃ (k:Nat) (vv:Value),vv=u∧k ≤ l.length∧i=.int .i64 k∧(szTL ls ck wd 0 (l.take k)).2=0∧RowIs VT 99 6 w.heap.size vv (szTL ls ck wd 0 (l.take k)).1 wr∧Ext w wr) (fun _ i _ _ _ _ _ _ _ _=>l.length - (intOf i).toNat)
 case atStart=>exact ⟨0,_,rfl,Nat.zero_le _,rfl,rfl,RowIs.nil,Below.refl _ _⟩
 case round =>
  obtain ⟨k,vv,rfl,hk,rfl,hz,hrow,hB⟩:=hrel
  have HZ:=Lib.hid hz
  have HEX:=Lib.hid hB
  have hszr:=hB.size
  clear hB
  by_cases hlt:k < l.length
  ·obtain ⟨cs,he1,hn,he2⟩:=VT.get (HR.out.mono fun x _ b o h=>TAt.ext' HEX.out h) hlt
   obtain rfl:=HA.out (by omega)
   have hmem:l[k] ∈ l:=List.getElem_mem hlt
   have ham:=armT_szT (ck:=ck) (HARM.out _ hmem) wd
   have hse:=HSZ.out _ hmem
   have hso:=HSO.out _ hmem
   have hel:=HLE.out _ hmem
   have htk:=szTL_take ls ck wd 0 l k hlt
   rw [hz,ham] at htk
   have hlen:(szTL ls ck wd 0 (l.take k)).1.length=k:=by rw [szTL_length,List.length_take];omega
   have hstop:=szTL_stop ls ck l wd 0 (k + 1)
   rw [htk] at hstop
   obtain ⟨rr,hrr⟩ : ∃ rr,(szTL ls ck wd 0 (l.take k)).1=rr:=⟨_,rfl⟩
   rw [hrr] at hrow htk hlen
   obtain ⟨x,hx⟩ : ∃ x,l[k]=x:=⟨_,rfl⟩
   rw [hx] at he2 hse hso htk hstop hel
   clear hz hrr hx ham hmem
   obtain ⟨op,sig,hi,lo,e,tl⟩:=x
   obtain ⟨se,sl,rfl,hse1,hsl1⟩:=he2
   simp only at hse hso htk hstop hse1 hsl1 hel
   have HTK:=Lib.hid htk
   have HSTOP:=Lib.hid hstop
   have HLN:=Lib.hid hlen
   have HROW:=Lib.hid hrow
   have HSE:=Lib.hid hse
   have HSOM:=Lib.hid (fun W (hx:Ext wr W)=>hso s0 sl W (HS.out.ext (HEX.out.trans hx)) (hsl1.ext hx))
   obtain ⟨a1,b1,o1,cap1,rfl,hd1,hd2,ha1,hr1⟩:=hse1.open
   have HA1:=Lib.hid ha1
   have HR1:=Lib.hid hr1
   have HONE1:=Lib.hid (show (T.cells ⟨op,sig,hi,lo,e,tl⟩ (.slice a1 e.length cap1) sl).all (·.oneCell')=true by simp [hsl1.one,hse1.one,one_int])
   have HEL:=Lib.hid hel
   clear htk hstop hlen hrow hse hso ha1 hr1 hse1 hsl1 hel
   have hx2:=ext_alloc wr (.cells (T.cells ⟨op,sig,hi,lo,e,tl⟩ (.slice a1 e.length cap1) sl).toArray 99)
   have hb2:=Blk.new wr (T.cells ⟨op,sig,hi,lo,e,tl⟩ (.slice a1 e.length cap1) sl).toArray 99
   have hs2:wr.heap.size < (wr.alloc (.cells (T.cells ⟨op,sig,hi,lo,e,tl⟩ (.slice a1 e.length cap1) sl).toArray 99)).heap.size:=by simp
   go_upto_region 6 with (first | ((with_reducible show Jw (Op.load 99 _));refine wpList_load_has rfl 99 _ rfl rfl (he1) agg_T hn ?_) | ((with_reducible show Jw (Op.store 99 _ _));refine wpList_store_new rfl 99 _ _ rfl rfl (by first | rfl | simp) rfl agg_T (hn) rfl (HONE1.out) ?_))
   generalize wr.alloc _=w2 at *
   have HB2:=Lib.hid hb2
   have HX2:=Lib.hid hx2
   clear hb2 hx2 he1
   obtain ⟨wo,rfl⟩ : ∃ x,x=wr:=⟨_,rfl⟩
   go_wp2_with fail
   go_loopw [13,14,15,16] (fun u i _ _ wj=>∃ (j:Nat) (ve:Value),ve=u∧j ≤ e.length∧i=.int .i64 j∧(szEs 0 wd (e.take j)).2=0∧RowIs VE 44 8 w2.heap.size ve (szEs 0 wd (e.take j)).1 wj∧Ext w2 wj) (fun _ i _ _ _=>e.length - (intOf i).toNat)
   case atStart=>exact ⟨0,_,rfl,Nat.zero_le _,rfl,rfl,RowIs.nil,Below.refl _ _⟩
   case round =>
    obtain ⟨j,ve,rfl,hj,rfl,hzj,hrowj,hB2⟩:=hrel
    have HEJ:=Lib.hid hB2
    have hszj:=hB2.size
    have f4:=(HB2.out.ext hB2).has 4 _ rfl
    clear hB2
    by_cases hjt:j < e.length
    ·obtain ⟨cs1,q1,qn,q2⟩:=VE.get (HR1.out.mono fun x _ b o h=>EAt.ext' (HX2.out.trans HEJ.out) h) hjt
     obtain rfl:=HA1.out (by omega)
     have hmem:=List.getElem_mem hjt
     have HC:=Lib.hid (HSE.out _ hmem wd cs1 _ q2 HW.out.1 HW.out.2)
     have htj:=szEs_take 0 wd e j hjt
     rw [hzj] at htj
     have hlenj:(szEs 0 wd (e.take j)).1.length=j:=by rw [szEs_length,List.length_take];omega
     have hstopj:=szEs_stop wd 0 e (j + 1)
     rw [htj] at hstopj
     obtain ⟨re,hre⟩ : ∃ re,(szEs 0 wd (e.take j)).1=re:=⟨_,rfl⟩
     rw [hre] at hrowj htj hlenj
     obtain ⟨x,hx⟩ : ∃ x,e[j]=x:=⟨_,rfl⟩
     rw [hx] at HC htj hstopj
     have HTJ:=Lib.hid htj
     have HSTJ:=Lib.hid hstopj
     have HLJ:=Lib.hid hlenj
     have HRJ:=Lib.hid hrowj
     have HSZE:=Lib.hid (show szE 0 x wd=_ from by unfold szE;rw [if_neg (by decide)])
     clear hzj htj hstopj hlenj hrowj hre hx hmem q2
     go_wp2_with (first | ((with_reducible show Jw (Op.load 44 _));refine wpList_load_has rfl 44 _ rfl rfl (q1) agg_E qn ?_) | (go_at_call 111;refine HC.out.mono ?_;intro r w3 hp3;obtain ⟨cs2,g,rfl,h8,hone,hx3,ho⟩:=hp3.open;clear hp3;refine Hid.out ?_))
     refine Lib.hid ?_
     have hxb:=ext_alloc w3 (.cells cs2.toArray 44)
     have hbb:=Lib.hid (Has.alloc w3 cs2 44)
     have HXX:=Lib.hid (hx3.trans hxb)
     have hsz4:w3.heap.size < (w3.alloc (.cells cs2.toArray 44)).heap.size:=by simp
     have hsz3:=hx3.size
     rcases ho with ⟨rfl,y,hy,hfe⟩ | ⟨hg,hy⟩
     ·have HFE:=Lib.hid (show FV VE wr.heap.size (w3.alloc (.cells cs2.toArray 44)) cs2 y from fun W hW=>(hfe.ext hxb) W hW)
      have HSY:=Lib.hid (show szE 0 x wd=(y,0) by rw [HSZE.out,hy])
      clear hfe hy hxb
      go_upto_region 11 with (first | ((with_reducible show Jw (Op.store 44 _ _));refine wpList_store_new rfl 44 _ _ rfl rfl (by first | rfl | simp) rfl agg_E (h8) rfl (hone) ?_))
      generalize w3.alloc _=w4 at *
      go_wp2_with (first | ((with_reducible show Jw (Op.load 44 _));refine wpList_load_has rfl 44 _ rfl rfl (hbb.out) agg_E h8 ?_) | ((with_reducible show Jw (Op.buildSlice _ _ _));refine wpList_bs1 rfl _ _ rfl appE rfl (cs:=cs2) rfl h8 (by decide) ?_) | ((with_reducible show Jw (Op.call { callee:=.builtin .append,args:=_,argTypes:=_ }));refine wpList_app1 (V:=VE) rfl _ _ _ rfl appE rfl ((HRJ.out.since (Since.of_ext HXX.out)).since (Since.of_ext (ext_alloc w4 (.cells cs2.toArray 44)))) rfl h8 (Has.alloc w4 cs2 44) hone ((HFE.out.ext (ext_alloc w4 (.cells cs2.toArray 44))).st (N:=w2.heap.size) (by omega) (fun k hk=>by have:=(HRJ.out.lt k hk).2;omega)) (by rw [HLJ.out];have:=HEL.out;omega) (by simp;omega) ?_;rw [HLJ.out];intro g5 cap5 w5 hrow5 hg5))
      have hx4:=ext_alloc w4 (.cells cs2.toArray 44)
      have hR:∀ i,ve.ownBlock=some i→w2.heap.size ≤ i:=fun i hi=>(HRJ.out.lt i hi).1
      have hexx:=((HEJ.out.trans (HXX.out.trans hx4)).grownO hg5 (fun i hi=>by have:=hR i hi;omega))
      go_roundw
      case rel=>exact ⟨j + 1,_,rfl,by omega,by go_num,by rw [HTJ.out,HSY.out],by rw [HTJ.out,HSY.out];exact hrow5,hexx⟩
      case measure=>simp [intOf];omega
     ·have g1:(g != 0)=true:=by rw [bne_iff_ne];omega
      have HSY:=Lib.hid (show szE 0 x wd=(zE,g) by rw [HSZE.out,hy])
      have hge:(szEs 0 wd e).2=g:=by
       have h1:=HSTJ.out (by rw [HSY.out];show g ≠ 0;omega)
       rw [HSY.out] at h1;exact h1
      have hgt:(szTL ls ck 0 (szEs 0 wd e).2 tl).2=g:=by rw [hge];exact szTL_err ls ck tl 0 g (by omega)
      have HF:=Lib.hid (show g=(szTL ls ck wd 0 l).2 by
       have h1:=HSTOP.out (by show (szTL ls ck 0 (szEs 0 wd e).2 tl).2 ≠ 0;omega)
       rw [h1];exact hgt.symm)
      have HG0:=Lib.hid (show g ≠ 0 by omega)
      clear hy hxb hge hgt
      go_upto_region 11 with (first | ((with_reducible show Jw (Op.store 44 _ _));refine wpList_store_new rfl 44 _ _ rfl rfl (by first | rfl | simp) rfl agg_E (h8) rfl (hone) ?_))
      generalize w3.alloc _=w4 at *
      go_wp2_with fail
      go_ret2
      exact ⟨_,g,rfl,HF.out,HEX.out.trans (HX2.out.trans (HEJ.out.trans HXX.out)),fun h=>absurd h HG0.out,fun _=>rfl⟩
    ·obtain rfl:j=e.length:=by omega
     rw [List.take_length] at hrowj hzj
     have HZE:=Lib.hid hzj
     have HRE:=Lib.hid hrowj
     have hlenE:=szEs_length 0 wd e
     obtain ⟨qe,hqe⟩ : ∃ qe,(szEs 0 wd e).1=qe:=⟨_,rfl⟩
     rw [hqe] at HRE HTK hlenE
     rw [hzj] at HTK HSTOP
     have HLENE:=Lib.hid hlenE
     obtain ⟨ae,cape,hve,-⟩:=HRE.out.open
     rw [hlenE] at hve
     subst hve
     have f5:=(HB2.out.ext HEJ.out).has 5 _ rfl
     have HBW:=Lib.hid (HB2.out.ext HEJ.out)
     have HXE:=Lib.hid (HX2.out.trans HEJ.out)
     have HRW:=Lib.hid (HROW.out.since (Since.of_ext HXE.out))
     clear hqe hlenE hzj hrowj
     go_wp2_with (first | (go_at_call 153;refine (HSOM.out _ HXE.out).mono ?_;intro r w3 hp3;obtain ⟨m,g,rfl,hg,hx3,hrow3,hnil⟩:=hp3;replace hg:=Lib.hid hg;refine Hid.out ?_))
     refine Lib.hid ?_
     have hsz3:=hx3.size
     by_cases hg0:g=0
     ·have HROW3:=Lib.hid (hrow3 hg0)
      have HG:=Lib.hid (hg.out.symm.trans hg0)
      subst hg0
      obtain ⟨am,capm,hm,-⟩:=HROW3.out.open
      obtain ⟨qm,hqm⟩ : ∃ qm,(szTL ls ck 0 0 tl).1=qm:=⟨_,rfl⟩
      rw [hqm] at HROW3 HTK hm
      have HLQ:=Lib.hid (show qm.length=tl.length by rw [← hqm];exact szTL_length _ _ _ _ _)
      clear hrow3 hnil hqm hg
      subst hm
      have HB3:=Lib.hid (HBW.out.ext hx3)
      have z4:=HB3.out.has 4 _ rfl
      have z5:=HB3.out.has 5 _ rfl
      have r4:=HB3.out.frozen 4
      have r5:=HB3.out.frozen 5
      go_upto_region 19 with fail
      have hb4:Blk _ wo.heap.size (T.cells ⟨op,sig,hi,lo,qe,qm⟩ (.slice ae e.length cape) (.slice am qm.length capm)).toArray 99:=(HB3.out.set 4 (.slice ae e.length cape)).set 5 (.slice am qm.length capm)
      have hg4:=gb_trans (gb_set w3 wo.heap.size 4 (.slice ae e.length cape)) (gb_set _ wo.heap.size 5 (.slice am qm.length capm))
      have hs4:=hg4.size
      clear z4 z5 r4 r5
      generalize (w3.setCell _ _).setCell _ _=w4 at *
      have hfv:FV VT wo.heap.size w4 (T.cells ⟨op,sig,hi,lo,qe,qm⟩ (.slice ae e.length cape) (.slice am qm.length capm)) ⟨op,sig,hi,lo,qe,qm⟩:=by
       intro W hW
       refine ⟨_,_,rfl,?_,?_⟩
       ·exact HRE.out.sl (V:=VE) (At:=EAt) (fun _ _ _ _ _ h hv=>VE.at h hv) ((Since.of_ext hx3).trans ((Since.of_grown hg4 (by omega)).trans (hW.mono (by omega))))
       ·exact HROW3.out.sl (V:=VT) (At:=TAt) (fun _ _ _ _ _ h hv=>VT.at h hv) ((Since.of_grown hg4 (by omega)).trans (hW.mono (by omega)))
      have hsw:Since w.heap.size wo w4:=⟨by omega,fun b h1 h2=>(hg4.block b (by omega) (by intro e;injection e;omega)).trans ((HXE.out.trans hx3).block b h2)⟩
      have hexw:Ext w w4:=(HEX.out.trans (HXE.out.trans hx3)).grown hg4 (by omega)
      have HFV:=Lib.hid hfv
      have HONE4:=Lib.hid (show (T.cells ⟨op,sig,hi,lo,qe,qm⟩ (.slice ae e.length cape) (.slice am qm.length capm)).all (·.oneCell')=true by rfl)
      have HB4:=Lib.hid hb4
      have HRW4:=Lib.hid (HROW.out.since hsw)
      have HEXW:=Lib.hid hexw
      clear hsw hexw hfv hb4 hg4 HRW
      go_wp2_with (first | ((with_reducible show Jw (Op.load 99 _));refine wpList_load_has rfl 99 _ rfl rfl (HB4.out.has) agg_T rfl ?_) | ((with_reducible show Jw (Op.buildSlice _ _ _));refine wpList_bs1 rfl _ _ rfl appT rfl (cs:=T.cells ⟨op,sig,hi,lo,qe,qm⟩ (.slice ae e.length cape) (.slice am qm.length capm)) rfl rfl (by decide) ?_) | ((with_reducible show Jw (Op.call { callee:=.builtin .append,args:=_,argTypes:=_ }));refine wpList_app1 (V:=VT) rfl _ _ _ rfl appT rfl (HRW4.out.since (Since.of_ext (ext_alloc w4 (.cells (T.cells ⟨op,sig,hi,lo,qe,qm⟩ (.slice ae e.length cape) (.slice am qm.length capm)).toArray 99)))) rfl rfl (Has.alloc w4 (T.cells ⟨op,sig,hi,lo,qe,qm⟩ (.slice ae e.length cape) (.slice am qm.length capm)) 99) HONE4.out ((HFV.out.ext (ext_alloc w4 (.cells (T.cells ⟨op,sig,hi,lo,qe,qm⟩ (.slice ae e.length cape) (.slice am qm.length capm)).toArray 99))).st (N:=w.heap.size) (by omega) (fun k hk=>by have:=(HROW.out.lt k hk).2;omega)) (by rw [HLN.out];omega) (by simp;omega) ?_;rw [HLN.out];intro g5 cap5 w5 hrow5 hg5))
      have hx4:=ext_alloc w4 (.cells (T.cells ⟨op,sig,hi,lo,qe,qm⟩ (.slice ae e.length cape) (.slice am qm.length capm)).toArray 99)
      have hR:∀ i,vv.ownBlock=some i→w.heap.size ≤ i:=fun i hi=>(HROW.out.lt i hi).1
      have hexx:=((HEXW.out.trans hx4).grownO hg5 (fun i hi=>by have:=hR i hi;omega))
      go_roundw
      case rel=>exact ⟨k + 1,_,rfl,by omega,by go_num,by rw [HTK.out];exact HG.out,by rw [HTK.out];exact hrow5,hexx⟩
      case measure=>simp [intOf];omega
     ·have g1:(g != 0)=true:=by rw [bne_iff_ne];omega
      have HF:=Lib.hid (show g=(szTL ls ck wd 0 l).2 by
       have h1:=HSTOP.out (by show (szTL ls ck 0 0 tl).2 ≠ 0;rw [← hg.out];exact hg0)
       rw [h1];exact hg.out)
      have HG0:=Lib.hid hg0
      clear hg hrow3 hg0
      go_wp2_with fail
      go_ret2
      exact ⟨_,g,rfl,HF.out,HEX.out.trans (HXE.out.trans hx3),fun h=>absurd h HG0.out,fun _=>rfl⟩
  ·obtain rfl:k=l.length:=by omega
   rw [List.take_length] at hrow
   have hz':=HZ.out
   rw [List.take_length] at hz'
   have HZ2:=Lib.hid hz'
   have HROW:=Lib.hid hrow
   clear hz hz' hrow
   go_wp2_with fail
   go_ret2
   exact ⟨_,0,rfl,HZ2.out.symm,HEX.out,fun _=>HROW.out,fun h=>absurd rfl h⟩
open Go.RowKit
theorem szEs_one (err w:Int) (x:E):szEs err w [x]=([(szE err x w).1],(szE err x w).2):=rfl
theorem szEs_nil (err w:Int):szEs err w []=([],err):=rfl
theorem es_one {W:World} {B:Nat} {cs:List Value} {y:E} (h:Has W B 0 cs) (hv:VE W cs y):Es W (.slice (some ⟨B,0,none⟩) 1 1) [y] :=
 ⟨B,0,⟨_,1,rfl,Nat.le_refl _,by simp only [maxLen];decide,fun _=>rfl⟩,VE.at h hv,trivial⟩
structure OneHyp (ls:List Signal) (ck:Bool) (t:T):Prop where
 sh:shapeT ls t=true
 wf:t.wf
 sized:∀ x ∈ t.e,SizedRSaid x
 bit:∀ x ∈ t.e,∀ (cs:List Value) (w:World),VE w cs x→Calls Tryz.prog 154 #[.agg cs.toArray] w (SizePost w (sizeE x (-1)))
 wid:∀ x ∈ t.e,∀ y,sizeE x 0=.ok y→0 ≤ y.w∧y.w ≤ 9223372036854775807
 some:t.op ≠ 3→SomeR ls ck t.l
 cases:t.op=3→∀ (wd:Int),0 ≤ wd→wd ≤ 9223372036854775807→∀ (s0 s:Value) (w:World),Sigs w s0 ls→Ts w s t.l→Calls Tryz.prog 231 #[s0,s,.bool ck,.int .i64 wd] w (SomePost w (szTL ls ck wd 0 t.l))
abbrev zeroT6:List Value:=[.int .i64 0,.int .i64 0,.int .i64 0,.int .i64 0,.slice Option.none 0 0,.slice Option.none 0 0]
set_option maxRecDepth 100000 in
set_option maxHeartbeats 8000000 in
theorem one_stepR (ls:List Signal) (hls:∀ x ∈ ls,x.w ≤ 64) (ck:Bool) (t:T) (hyp:OneHyp ls ck t):OneR ls ck t:=by
 intro s0 cs w hS hV
 obtain ⟨hsh,hwf,hsz,hbt,hwid,hso,hca⟩:=hyp
 have hst:=(stOk_of_shapeT ls hls t).1 hsh
 have hst1:=((StOk_iff ls t).1 hst).1
 have hq:=szT_eq ls ck t 0 0
 rw [shapeT_eq] at hsh
 obtain ⟨op,sig,hi,lo,e,l⟩:=t
 simp only at hsh hsz hbt hwid hso hca hst1 hq
 obtain ⟨se,sl,rfl,hse,hsl⟩:=hV
 have HSO:=Lib.hid hso
 have HCA:=Lib.hid hca
 have HSZ:=Lib.hid hsz
 have HBT:=Lib.hid hbt
 have HWID:=Lib.hid hwid
 have HS:=Lib.hid hS
 have HSE:=Lib.hid hse
 have HSL:=Lib.hid hsl
 have HST1:=Lib.hid hst1
 have HSH:=Lib.hid hsh
 obtain ⟨q,hqq⟩ : ∃ q,szT ls ck ⟨op,sig,hi,lo,e,l⟩ 0 0=q:=⟨_,rfl⟩
 rw [hqq] at hq
 have HQ:=Lib.hid hq
 obtain ⟨a0,b0,o0,cap0,rfl,hz1,hz2,ha0,hr0⟩:=hS.open
 obtain ⟨a1,b1,o1,cap1,rfl,hd1,hd2,ha1,hr1⟩:=hse.open
 obtain ⟨a2,b2,o2,cap2,rfl,hd3,hd4,-,-⟩:=hsl.open
 have HA0:=Lib.hid ha0
 have HR0:=Lib.hid hr0
 have HA1:=Lib.hid ha1
 have HR1:=Lib.hid hr1
 rw [hqq]
 clear hqq hq hsh hsz hbt hwid hso hca hst hst1 hS hse hsl ha0 hr0 ha1 hr1 hwf
 have HONE:=Lib.hid (show (T.cells ⟨op,sig,hi,lo,e,l⟩ (.slice a1 e.length cap1) (.slice a2 l.length cap2)).all (·.oneCell')=true by rfl)
 have hx:=(ext_alloc w (.cells (T.cells ⟨op,sig,hi,lo,e,l⟩ (.slice a1 e.length cap1) (.slice a2 l.length cap2)).toArray 99)).alloc (.cells zeroT6.toArray 99)
 have hb4:=(Blk.new w (T.cells ⟨op,sig,hi,lo,e,l⟩ (.slice a1 e.length cap1) (.slice a2 l.length cap2)).toArray 99).alloc (.cells zeroT6.toArray 99)
 have hb6:=Blk.new (w.alloc (.cells (T.cells ⟨op,sig,hi,lo,e,l⟩ (.slice a1 e.length cap1) (.slice a2 l.length cap2)).toArray 99)) zeroT6.toArray 99
 simp only [World.size_alloc] at hb6
 go_enter Tryz.func206,Tryz.ntmps206
 go_upto_region 1 with fail
 generalize (w.alloc _).alloc _=w0 at *
 have hlt0:w.heap.size + 1 < w0.heap.size:=hb6.lt
 have hx8:=ext_alloc w0 (.cells (T.cells ⟨op,sig,hi,lo,e,l⟩ (.slice a1 e.length cap1) (.slice a2 l.length cap2)).toArray 99)
 have hb8:=Blk.new w0 (T.cells ⟨op,sig,hi,lo,e,l⟩ (.slice a1 e.length cap1) (.slice a2 l.length cap2)).toArray 99
 have hs8:w0.heap.size < (w0.alloc (.cells (T.cells ⟨op,sig,hi,lo,e,l⟩ (.slice a1 e.length cap1) (.slice a2 l.length cap2)).toArray 99)).heap.size:=by simp
 go_upto_region 3 with (first | ((with_reducible show Jw (Op.load 99 _));refine wpList_load_has rfl 99 _ rfl rfl (hb4.has) agg_T rfl ?_) | ((with_reducible show Jw (Op.store 99 _ _));refine wpList_store_new rfl 99 _ _ rfl rfl (by first | rfl | simp) rfl agg_T (rfl) rfl (HONE.out) ?_))
 generalize w0.alloc _=w2 at *
 have K4:=Lib.hid (hb4.ext hx8)
 have K6:=Lib.hid (hb6.ext hx8)
 have K8:=Lib.hid hb8
 have HX2:=Lib.hid (hx.trans hx8)
 clear hx hb4 hb6 hx8 hb8 HONE
 have f0:=K4.out.has 0 _ rfl
 by_cases o5:op=5
 ·subst o5
  have he:e=[]:=by
   have h:=HSH.out
   rw [if_neg (by decide : ¬ (5:Int)=3),if_neg (by decide : ¬ (5:Int)=1),if_neg (by decide : ¬ (5:Int)=2),if_pos rfl] at h
   split at h
   ·cases h
   ·simp only [Bool.and_eq_true,decide_eq_true_eq] at h
    exact List.eq_nil_of_length_eq_zero h.1
  subst he
  have HOK:=Lib.hid (show q=(⟨5,sig,hi,lo,[],(szTL ls ck 0 0 l).1⟩,(szTL ls ck 0 0 l).2) by
   rw [HQ.out];simp only [szEs_nil,szErr0];rfl)
  have HSOM:=Lib.hid (HSO.out (by decide))
  have HES:=Lib.hid (show ∀ W,Since (w0.heap.size + 1) w2 W→Es W (.slice a1 0 cap1) [] from fun W _=>Sl.nil0 _ _ hd2)
  have K4t:=K4
  have K6t:=K6
  have K8t:Hid (Blk w2 w0.heap.size [.int .i64 5,.int .i64 sig,.int .i64 hi,.int .i64 lo,.slice a1 0 cap1,.slice a2 l.length cap2].toArray 99):=K8
  have HXt:=Lib.hid (show Ext w2 w2 from Below.refl _ _)
  have HSE1:=Lib.hid (show (Value.slice a1 0 cap1).oneCell'=true from rfl)
  have f5:=K4t.out.has 5 _ rfl
  go_upto_region 26 with (first | (go_at_call 153;refine (HSOM.out _ (.slice a2 l.length cap2) w2 (HS.out.ext (HX2.out.trans HXt.out)) (HSL.out.ext (HX2.out.trans HXt.out))).mono ?_;intro r w3 hp3;obtain ⟨m,g,rfl,hg,hx3,hrow3,hnil⟩:=hp3;replace hg:=Lib.hid hg))
  obtain ⟨am,lm,cm,hm1⟩ : ∃ am lm cm,m=.slice am lm cm:=by
   by_cases h:g=0
   ·obtain ⟨a9,c9,h9,-⟩:=(hrow3 h).open;exact ⟨_,_,_,h9⟩
   ·exact ⟨_,_,_,hnil h⟩
  subst hm1
  have K83:=Lib.hid (K8t.out.ext hx3)
  have K63:=Lib.hid (K6t.out.ext hx3)
  have HROW3:=Lib.hid hrow3
  have z5:=K83.out.has 5 _ rfl
  have r5:=K83.out.frozen 5
  have hs3:=hx3.size
  clear hrow3 hnil f5
  go_upto_region 27 with fail
  have hb5:Blk _ w0.heap.size [.int .i64 5,.int .i64 sig,.int .i64 hi,.int .i64 lo,(.slice a1 0 cap1),.slice am lm cm].toArray 99:=K83.out.set 5 (.slice am lm cm)
  have hg5:=gb_set w3 w0.heap.size 5 (.slice am lm cm)
  have K65:=Lib.hid (K63.out.grown hg5 (by omega))
  have HX5:=Lib.hid (((HX2.out.trans HXt.out).trans hx3).grown hg5 (by omega))
  have hs5:=hg5.size
  have HB5:=Lib.hid hb5
  have HG5:=Lib.hid hg5
  have HX3:=Lib.hid hx3
  clear z5 r5 hb5 hg5 hx3
  generalize w3.setCell _ _=w5 at *
  go_wp2_with (first | ((with_reducible show Jw (Op.load 99 _));refine wpList_load_has rfl 99 _ rfl rfl (HB5.out.has) agg_T rfl ?_) | ((with_reducible show Jw (Op.store 99 _ _));have hk6:=K65.out;refine wpList_store_blk rfl 99 _ _ rfl hk6 rfl (cs:=[.int .i64 5,.int .i64 sig,.int .i64 hi,.int .i64 lo,(.slice a1 0 cap1),.slice am lm cm]) rfl agg_T rfl rfl (by rfl) ?_;intro w9 hb9 hg9) | ((with_reducible show bodyPost _ _ _ _ _ _);refine Hid.out ?_))
  refine Lib.hid ?_
  refine post_ret_blk2 rfl rfl rfl hb9.has agg_T rfl rfl ?_
  refine ⟨_,g,rfl,by rw [HOK.out];exact hg.out,rfl,(by rfl),HX5.out.grown hg9 (by omega),fun h0=>?_⟩
  rw [HOK.out]
  intro W hW
  have hsi:Since (w0.heap.size + 1) w3 W:=(Since.of_grown HG5.out (by omega)).trans ((Since.of_grown hg9 (by omega)).trans (hW.mono (by omega)))
  exact ⟨_,_,rfl,HES.out W ((Since.of_ext HX3.out).trans (hsi.mono (by omega))),(HROW3.out h0).sl (V:=VT) (At:=TAt) (fun _ _ _ _ _ h hv=>VT.at h hv) (hsi.mono (by omega))⟩
 by_cases o2:op=2
 ·subst o2
  have hh:e.length=1∧l.length=2:=by
   have h:=HSH.out
   rw [if_neg (by decide : ¬ (2:Int)=3),if_neg (by decide : ¬ (2:Int)=1),if_pos rfl] at h
   split at h
   ·cases h
   ·simp only [Bool.and_eq_true,decide_eq_true_eq] at h
    exact h.1.1
  have he1:=hh.1
  obtain ⟨x,hex⟩:=List.length_eq_one_iff.1 he1
  have hpos:0 < e.length:=by omega
  obtain rfl:=HA1.out hpos
  obtain ⟨sx,qx1,qx2⟩:=Es.get (HR1.out.mono fun x _ b o h=>EAt.ext' (Below.refl _ _) h) hpos
  have hx0:e[0]=x:=by simp [hex]
  rw [hx0] at qx1 qx2
  rw [Nat.zero_mul,Nat.add_zero] at qx1
  have hmem:x ∈ e:=by rw [hex];simp
  have HEX:=Lib.hid hex
  have HX0:=Lib.hid (qx1.ext HX2.out)
  have hvx:VE w2 (x.cells sx) x:=⟨sx,rfl,qx2.ext HX2.out⟩
  clear hx0 qx1 qx2 hex
  have HC:=Lib.hid (HBT.out x hmem _ w2 hvx)
  have HE1:=Lib.hid he1
  have HSOM:=Lib.hid (HSO.out (by decide))
  clear he1 hh hvx hmem
  have f4:=K4.out.has 4 _ rfl
  go_wp2_with (first | ((with_reducible show Jw (Op.load 44 _));refine wpList_load_has rfl 44 _ rfl rfl (HX0.out) agg_E rfl ?_) | (go_at_call 154;refine HC.out.mono ?_;intro r w3 hp3;obtain ⟨cs2,g,rfl,h8,hone,hx3,ho⟩:=hp3.open;clear hp3;refine Hid.out ?_))
  refine Lib.hid ?_
  have hx4:=ext_alloc w3 (.cells cs2.toArray 44)
  have hbb:=Lib.hid (Has.alloc w3 cs2 44)
  have HX34:=Lib.hid hx4
  have HX4:=Lib.hid (hx3.trans hx4)
  have hs34:w3.heap.size < (w3.alloc (.cells cs2.toArray 44)).heap.size:=by simp
  go_upto_region 13 with (first | ((with_reducible show Jw (Op.store 44 _ _));refine wpList_store_new rfl 44 _ _ rfl rfl (by first | rfl | simp) rfl agg_E (h8) rfl (hone) ?_))
  generalize w3.alloc _=w4 at *
  clear hx4 f4
  go_wp2_with (first | ((with_reducible show Jw (Op.load 44 _));refine wpList_load_has rfl 44 _ rfl rfl (hbb.out) agg_E h8 ?_) | ((with_reducible show Jw (Op.buildSlice _ _ _));refine wpList_bs1 rfl _ _ rfl appE rfl (cs:=cs2) rfl h8 (by decide) ?_;refine Hid.out ?_))
  refine Lib.hid ?_
  have hx5:=ext_alloc w4 (.cells cs2.toArray 44)
  have hb5:=Blk.new w4 cs2.toArray 44
  have hs5:w4.heap.size < (w4.alloc (.cells cs2.toArray 44)).heap.size:=by simp
  have hs4:=HX4.out.size
  obtain ⟨Bs,hBs⟩ : ∃ Bs,w4.heap.size=Bs:=⟨_,rfl⟩
  rw [hBs] at hb5 ⊢
  have HBS:=Lib.hid hBs
  have hBs1:w2.heap.size ≤ Bs:=by omega
  clear hBs
  generalize w4.alloc _=w5 at *
  have K85:=Lib.hid (K8.out.ext (HX4.out.trans hx5))
  have z4:=K85.out.has 4 _ rfl
  have r4:=K85.out.frozen 4
  go_upto_region 14 with fail
  have hbt:Blk _ w0.heap.size [.int .i64 2,.int .i64 sig,.int .i64 hi,.int .i64 lo,.slice (some ⟨Bs,0,Option.none⟩) 1 1,.slice a2 l.length cap2].toArray 99:=K85.out.set 4 (.slice (some ⟨Bs,0,Option.none⟩) 1 1)
  have hgt:=gb_set w5 w0.heap.size 4 (.slice (some ⟨Bs,0,Option.none⟩) 1 1)
  have HGT:=Lib.hid hgt
  have HX45:=Lib.hid hx5
  have K8t:=Lib.hid hbt
  have K4t:=Lib.hid ((K4.out.ext (HX4.out.trans hx5)).grown hgt (by omega))
  have K6t:=Lib.hid ((K6.out.ext (HX4.out.trans hx5)).grown hgt (by omega))
  have HBT2:=Lib.hid (hb5.grown hgt (by omega))
  have HXWt:=Lib.hid ((HX2.out.trans (HX4.out.trans hx5)).grown hgt (by omega))
  have hst:=hgt.size
  have hsw5:=hx5.size
  clear z4 r4 hbt hgt hx5 hb5
  generalize w5.setCell _ _=wt at *
  rcases ho with ⟨rfl,y,hy,hfe⟩ | ⟨hg,hy⟩
  ·have HFE:=Lib.hid hfe
   have HOK:=Lib.hid (show q=(⟨2,sig,hi,lo,[y],(szTL ls ck 0 0 l).1⟩,(szTL ls ck 0 0 l).2) by
    rw [HQ.out,HEX.out];simp [szEs_one,szE,szErr0,szW,hy])
   have HES:=Lib.hid (show ∀ W,Since (w0.heap.size + 1) wt W→Es W (.slice (some ⟨Bs,0,Option.none⟩) 1 1) [y] from fun W hW =>
    es_one ((hW.blk HBT2.out (by omega)).has) (HFE.out W ((Since.of_ext (HX34.out.trans HX45.out)).trans ((Since.of_grown HGT.out (by omega)).trans (hW.mono (by omega))))))
   have HSE1:=Lib.hid (show (Value.slice (some ⟨Bs,0,Option.none⟩) 1 1).oneCell'=true from rfl)
   have HXt:=HX4
   clear hfe hy
   have f5:=K4t.out.has 5 _ rfl
   go_upto_region 26 with (first | (go_at_call 153;refine (HSOM.out _ (.slice a2 l.length cap2) wt (HS.out.ext HXWt.out) (HSL.out.ext HXWt.out)).mono ?_;intro r w3 hp3;obtain ⟨m,g,rfl,hg,hx3,hrow3,hnil⟩:=hp3;replace hg:=Lib.hid hg))
   obtain ⟨am,lm,cm,hm1⟩ : ∃ am lm cm,m=.slice am lm cm:=by
    by_cases h:g=0
    ·obtain ⟨a9,c9,h9,-⟩:=(hrow3 h).open;exact ⟨_,_,_,h9⟩
    ·exact ⟨_,_,_,hnil h⟩
   subst hm1
   have K83:=Lib.hid (K8t.out.ext hx3)
   have K63:=Lib.hid (K6t.out.ext hx3)
   have HROW3:=Lib.hid hrow3
   have z5:=K83.out.has 5 _ rfl
   have r5:=K83.out.frozen 5
   have hs3:=hx3.size
   clear hrow3 hnil f5
   go_upto_region 27 with fail
   have hb5:Blk _ w0.heap.size [.int .i64 2,.int .i64 sig,.int .i64 hi,.int .i64 lo,(.slice (some ⟨Bs,0,Option.none⟩) 1 1),.slice am lm cm].toArray 99:=K83.out.set 5 (.slice am lm cm)
   have hg5:=gb_set w3 w0.heap.size 5 (.slice am lm cm)
   have K65:=Lib.hid (K63.out.grown hg5 (by omega))
   have HX5:=Lib.hid ((HXWt.out.trans hx3).grown hg5 (by omega))
   have hs5:=hg5.size
   have HB5:=Lib.hid hb5
   have HG5:=Lib.hid hg5
   have HX3:=Lib.hid hx3
   clear z5 r5 hb5 hg5 hx3
   generalize w3.setCell _ _=w5 at *
   go_wp2_with (first | ((with_reducible show Jw (Op.load 99 _));refine wpList_load_has rfl 99 _ rfl rfl (HB5.out.has) agg_T rfl ?_) | ((with_reducible show Jw (Op.store 99 _ _));have hk6:=K65.out;refine wpList_store_blk rfl 99 _ _ rfl hk6 rfl (cs:=[.int .i64 2,.int .i64 sig,.int .i64 hi,.int .i64 lo,(.slice (some ⟨Bs,0,Option.none⟩) 1 1),.slice am lm cm]) rfl agg_T rfl rfl (by rfl) ?_;intro w9 hb9 hg9) | ((with_reducible show bodyPost _ _ _ _ _ _);refine Hid.out ?_))
   refine Lib.hid ?_
   refine post_ret_blk2 rfl rfl rfl hb9.has agg_T rfl rfl ?_
   refine ⟨_,g,rfl,by rw [HOK.out];exact hg.out,rfl,(by rfl),HX5.out.grown hg9 (by omega),fun h0=>?_⟩
   rw [HOK.out]
   intro W hW
   have hsi:Since (w0.heap.size + 1) w3 W:=(Since.of_grown HG5.out (by omega)).trans ((Since.of_grown hg9 (by omega)).trans (hW.mono (by omega)))
   exact ⟨_,_,rfl,HES.out W ((Since.of_ext HX3.out).trans (hsi.mono (by omega))),(HROW3.out h0).sl (V:=VT) (At:=TAt) (fun _ _ _ _ _ h hv=>VT.at h hv) (hsi.mono (by omega))⟩
  ·have g1:(g != 0)=true:=by rw [bne_iff_ne];omega
   have HG:=Lib.hid (show g=q.2 by
    rw [HQ.out,HEX.out];simp [szEs_one,szE,szErr0,szW,hy]
    exact (szTL_err ls ck l 0 g (by omega)).symm)
   clear hy
   go_wp2_with (first | ((with_reducible show Jw (Op.store 99 _ _));have hk6:=K6t.out;refine wpList_store_blk rfl 99 _ _ rfl hk6 rfl (cs:=zeroT6) rfl agg_T rfl rfl rfl ?_;intro w9 hb9 hg9) | ((with_reducible show bodyPost _ _ _ _ _ _);refine Hid.out ?_))
   refine Lib.hid ?_
   refine post_ret_blk2 rfl rfl rfl hb9.has agg_T rfl rfl ?_
   exact ⟨_,g,rfl,HG.out,rfl,rfl,HXWt.out.grown hg9 (by omega),fun h0=>absurd h0 (by omega)⟩
 by_cases o3:op=3
 ·subst o3
  have he1:e.length=1:=by
   have h:=HSH.out
   rw [if_pos rfl] at h
   split at h
   ·cases h
   ·simp only [Bool.and_eq_true,decide_eq_true_eq] at h
    exact h.1
  obtain ⟨x,hex⟩:=List.length_eq_one_iff.1 he1
  have hpos:0 < e.length:=by omega
  obtain rfl:=HA1.out hpos
  obtain ⟨sx,qx1,qx2⟩:=Es.get (HR1.out.mono fun x _ b o h=>EAt.ext' (Below.refl _ _) h) hpos
  have hx0:e[0]=x:=by simp [hex]
  rw [hx0] at qx1 qx2
  rw [Nat.zero_mul,Nat.add_zero] at qx1
  have hmem:x ∈ e:=by rw [hex];simp
  have HEX:=Lib.hid hex
  have HX0:=Lib.hid (qx1.ext HX2.out)
  have hvx:VE w2 (x.cells sx) x:=⟨sx,rfl,qx2.ext HX2.out⟩
  clear hx0 qx1 qx2 hex
  have HC:=Lib.hid (HSZ.out x hmem 0 _ w2 hvx (by decide) (by decide))
  have HWX:=Lib.hid (HWID.out x hmem)
  have HE1:=Lib.hid he1
  clear he1 hvx hmem
  have f4:=K4.out.has 4 _ rfl
  go_wp2_with (first | ((with_reducible show Jw (Op.load 44 _));refine wpList_load_has rfl 44 _ rfl rfl (HX0.out) agg_E rfl ?_) | (go_at_call 111;refine HC.out.mono ?_;intro r w3 hp3;obtain ⟨cs2,g,rfl,h8,hone,hx3,ho⟩:=hp3.open;clear hp3;refine Hid.out ?_))
  refine Lib.hid ?_
  have hx4:=ext_alloc w3 (.cells cs2.toArray 44)
  have hbb:=Lib.hid (Has.alloc w3 cs2 44)
  have HX34a:=Lib.hid hx4
  have HX4:=Lib.hid (hx3.trans hx4)
  have hs34:w3.heap.size < (w3.alloc (.cells cs2.toArray 44)).heap.size:=by simp
  have hs4a:=hx3.size
  go_upto_region 17 with (first | ((with_reducible show Jw (Op.store 44 _ _));refine wpList_store_new rfl 44 _ _ rfl rfl (by first | rfl | simp) rfl agg_E (h8) rfl (hone) ?_))
  generalize w3.alloc _=w4 at *
  clear hx4 f4
  rcases ho with ⟨rfl,y,hy,hfe⟩ | ⟨hg,hy⟩
  ·have HFE:=Lib.hid hfe
   have hww:=HWX.out y hy
   have HOK:=Lib.hid (show q=(⟨3,sig,hi,lo,[y],(szTL ls ck y.w 0 l).1⟩,(szTL ls ck y.w 0 l).2) by
    rw [HQ.out,HEX.out];simp [szEs_one,szE,szErr0,szW,hy,sizeE.hdW])
   have yw:w4.cell? ⟨w3.heap.size,1,Option.none⟩=some (.int .i64 y.w):=by
    obtain ⟨s9,h9,-⟩:=hfe.ve
    have:=hbb.out 1 (.int .i64 y.w) (by rw [h9];rfl)
    simpa using this
   have f5:=(K4.out.ext HX4.out).has 5 _ rfl
   have HCC:=Lib.hid (HCA.out (by trivial) y.w hww.1 hww.2 _ _ w4 (HS.out.ext (HX2.out.trans HX4.out)) (HSL.out.ext (HX2.out.trans HX4.out)))
   clear hww hfe hy
   go_upto_region 20 with (first | (go_at_call 231;refine HCC.out.mono ?_;intro r w6 hp3;obtain ⟨m,g2,rfl,hg2,hx6,hrow3,hnil⟩:=hp3;replace hg2:=Lib.hid hg2))
   obtain ⟨am,lm,cm,hm1⟩ : ∃ am lm cm,m=.slice am lm cm:=by
    by_cases h:g2=0
    ·obtain ⟨a9,c9,h9,-⟩:=(hrow3 h).open;exact ⟨_,_,_,h9⟩
    ·exact ⟨_,_,_,hnil h⟩
   subst hm1
   have HROW3:=Lib.hid hrow3
   have HX46:=Lib.hid (HX4.out.trans hx6)
   have HX34:=Lib.hid (HX34a.out.trans hx6)
   have HBB6:=Lib.hid (hbb.out.ext hx6)
   have hs46:=hx6.size
   clear f5 yw hrow3 hnil hx6
   go_wp2_with (first | ((with_reducible show Jw (Op.load 44 _));refine wpList_load_has rfl 44 _ rfl rfl (HBB6.out) agg_E h8 ?_) | ((with_reducible show Jw (Op.buildSlice _ _ _));refine wpList_bs1 rfl _ _ rfl appE rfl (cs:=cs2) rfl h8 (by decide) ?_;refine Hid.out ?_))
   refine Lib.hid ?_
   have hx5:=ext_alloc w6 (.cells cs2.toArray 44)
   have hb5:=Blk.new w6 cs2.toArray 44
   have hs5:w6.heap.size < (w6.alloc (.cells cs2.toArray 44)).heap.size:=by simp
   have hs4:=HX46.out.size
   obtain ⟨Bs,hBs⟩ : ∃ Bs,w6.heap.size=Bs:=⟨_,rfl⟩
   rw [hBs] at hb5 ⊢
   have HBS:=Lib.hid hBs
   have hBs1:w2.heap.size ≤ Bs:=by omega
   clear hBs
   generalize w6.alloc _=w5 at *
   have K85:=Lib.hid (K8.out.ext (HX46.out.trans hx5))
   have z4:=K85.out.has 4 _ rfl
   have r4:=K85.out.frozen 4
   go_upto_region 21 with fail
   have hbt:Blk _ w0.heap.size [.int .i64 3,.int .i64 sig,.int .i64 hi,.int .i64 lo,.slice (some ⟨Bs,0,Option.none⟩) 1 1,.slice a2 l.length cap2].toArray 99:=K85.out.set 4 (.slice (some ⟨Bs,0,Option.none⟩) 1 1)
   have hgt:=gb_set w5 w0.heap.size 4 (.slice (some ⟨Bs,0,Option.none⟩) 1 1)
   have HGT:=Lib.hid hgt
   have HX45:=Lib.hid hx5
   have K8t:=Lib.hid hbt
   have K4t:=Lib.hid ((K4.out.ext (HX46.out.trans hx5)).grown hgt (by omega))
   have K6t:=Lib.hid ((K6.out.ext (HX46.out.trans hx5)).grown hgt (by omega))
   have HBT2:=Lib.hid (hb5.grown hgt (by omega))
   have HXWt:=Lib.hid ((HX2.out.trans (HX46.out.trans hx5)).grown hgt (by omega))
   have hst:=hgt.size
   have hsw5:=hx5.size
   clear z4 r4 hbt hgt hx5 hb5
   generalize w5.setCell _ _=wt at *
   have HES:=Lib.hid (show ∀ W,Since (w0.heap.size + 1) wt W→Es W (.slice (some ⟨Bs,0,Option.none⟩) 1 1) [y] from fun W hW =>
    es_one ((hW.blk HBT2.out (by omega)).has) (HFE.out W ((Since.of_ext (HX34.out.trans HX45.out)).trans ((Since.of_grown HGT.out (by omega)).trans (hW.mono (by omega))))))
   have HSE1:=Lib.hid (show (Value.slice (some ⟨Bs,0,Option.none⟩) 1 1).oneCell'=true from rfl)
   have z5:=K8t.out.has 5 _ rfl
   have r5:=K8t.out.frozen 5
   go_upto_region 22 with fail
   have hb5':Blk _ w0.heap.size [.int .i64 3,.int .i64 sig,.int .i64 hi,.int .i64 lo,.slice (some ⟨Bs,0,Option.none⟩) 1 1,.slice am lm cm].toArray 99:=K8t.out.set 5 (.slice am lm cm)
   have hg5:=gb_set wt w0.heap.size 5 (.slice am lm cm)
   have K65:=Lib.hid (K6t.out.grown hg5 (by omega))
   have HX5:=Lib.hid (HXWt.out.grown hg5 (by omega))
   have hs5':=hg5.size
   have HB5:=Lib.hid hb5'
   have HG5:=Lib.hid hg5
   clear z5 r5 hb5' hg5
   generalize wt.setCell _ _=w7 at *
   go_wp2_with (first | ((with_reducible show Jw (Op.load 99 _));refine wpList_load_has rfl 99 _ rfl rfl (HB5.out.has) agg_T rfl ?_) | ((with_reducible show Jw (Op.store 99 _ _));have hk6:=K65.out;refine wpList_store_blk rfl 99 _ _ rfl hk6 rfl (cs:=[.int .i64 3,.int .i64 sig,.int .i64 hi,.int .i64 lo,.slice (some ⟨Bs,0,Option.none⟩) 1 1,.slice am lm cm]) rfl agg_T rfl rfl (by rfl) ?_;intro w9 hb9 hg9) | ((with_reducible show bodyPost _ _ _ _ _ _);refine Hid.out ?_))
   refine Lib.hid ?_
   refine post_ret_blk2 rfl rfl rfl hb9.has agg_T rfl rfl ?_
   refine ⟨_,g2,rfl,by rw [HOK.out];exact hg2.out,rfl,(by rfl),HX5.out.grown hg9 (by omega),fun h0=>?_⟩
   rw [HOK.out]
   intro W hW
   have hsi:Since (w0.heap.size + 1) wt W:=(Since.of_grown HG5.out (by omega)).trans ((Since.of_grown hg9 (by omega)).trans (hW.mono (by omega)))
   exact ⟨_,_,rfl,HES.out W hsi,(HROW3.out h0).sl (V:=VT) (At:=TAt) (fun _ _ _ _ _ h hv=>VT.at h hv) ((Since.of_ext HX45.out).trans ((Since.of_grown HGT.out (by omega)).trans (hsi.mono (by omega))))⟩
  ·have g1:(g != 0)=true:=by rw [bne_iff_ne];omega
   have HG:=Lib.hid (show g=q.2 by
    rw [HQ.out,HEX.out];simp [szEs_one,szE,szErr0,szW,hy]
    exact (szTL_err ls ck l _ g (by omega)).symm)
   have K6t:=Lib.hid (K6.out.ext HX4.out)
   have HXWt:=Lib.hid (HX2.out.trans HX4.out)
   clear hy
   go_wp2_with (first | ((with_reducible show Jw (Op.store 99 _ _));have hk6:=K6t.out;refine wpList_store_blk rfl 99 _ _ rfl hk6 rfl (cs:=zeroT6) rfl agg_T rfl rfl rfl ?_;intro w9 hb9 hg9) | ((with_reducible show bodyPost _ _ _ _ _ _);refine Hid.out ?_))
   refine Lib.hid ?_
   refine post_ret_blk2 rfl rfl rfl hb9.has agg_T rfl rfl ?_
   exact ⟨_,g,rfl,HG.out,rfl,rfl,HXWt.out.grown hg9 (by omega),fun h0=>absurd h0 (by omega)⟩
 by_cases o1:op=1
 rotate_left
 ·exfalso
  have h:=HSH.out
  rw [if_neg o3,if_neg o1,if_neg o2,if_neg o5] at h
  split at h <;> cases h
 subst o1
 clear o2 o3 o5
 have hh:e.length=1∧l.length=0:=by
  have h:=HSH.out
  rw [if_neg (by decide : ¬ (1:Int)=3),if_pos rfl] at h
  split at h
  ·cases h
  ·simp only [Bool.and_eq_true,decide_eq_true_eq] at h
   exact h.1
 have he1:=hh.1
 obtain ⟨i1,i2,i3,i4,i5⟩:=HST1.out (by trivial)
 obtain ⟨ks,hks⟩:=Int.eq_ofNat_of_zero_le i1
 subst hks
 have hkl:ks < ls.length:=by omega
 obtain ⟨x,hex⟩:=List.length_eq_one_iff.1 he1
 have hpos:0 < e.length:=by omega
 obtain rfl:=HA1.out hpos
 obtain ⟨sx,qx1,qx2⟩:=Es.get (HR1.out.mono fun x _ b o h=>EAt.ext' (Below.refl _ _) h) hpos
 have hx0:e[0]=x:=by simp [hex]
 rw [hx0] at qx1 qx2
 rw [Nat.zero_mul,Nat.add_zero] at qx1
 have hmem:x ∈ e:=by rw [hex];simp
 have HEX:=Lib.hid hex
 have HX0:=Lib.hid (qx1.ext HX2.out)
 have hvx:VE w2 (x.cells sx) x:=⟨sx,rfl,qx2.ext HX2.out⟩
 clear hx0 qx1 qx2 hex
 have HC:=Lib.hid (fun W (hx:Ext w2 W)=>HSZ.out x hmem (hi - lo + 1) _ W (hvx.ext hx) (by omega) (by omega))
 have HE1:=Lib.hid he1
 have HSOM:=Lib.hid (HSO.out (by decide))
 obtain rfl:=HA0.out (by omega)
 have hkd:=(Sigs.get HR0.out hkl)
 have hkk:kindOf ls (ks:Int)=ls[ks].kind:=by simp [kindOf,hkl]
 obtain ⟨kd,hkd2⟩ : ∃ kd,ls[ks].kind=kd:=⟨_,rfl⟩
 have yk:w2.cell? ⟨b0,o0 + ks * 4 + 2,Option.none⟩=some (.int .i64 kd):=by
  have:=(hkd.ext HX2.out) 2 _ rfl
  rw [hkd2] at this;exact this
 rw [hkd2] at hkk
 obtain ⟨c4,hc4⟩ : ∃ c,(kd == 4)=c:=⟨_,rfl⟩
 obtain ⟨c1,hc1⟩ : ∃ c,(kd == 1)=c:=⟨_,rfl⟩
 obtain ⟨bad,hbad⟩ : ∃ bad,((ck != c4) || c1)=bad:=⟨_,rfl⟩
 have herr:szErr0 ls ck ⟨1,(ks:Int),hi,lo,e,l⟩ 0=if bad=true then 85 else 0:=by
  unfold szErr0
  simp only [hkk]
  have e4:decide (kd=4)=c4:=by rw [← hc4,Bool.eq_iff_iff];simp
  have e1:kd=1 ↔ c1=true:=by rw [← hc1];simp
  rw [e4,← hbad]
  congr 1
  rw [Bool.or_eq_true,bne_iff_ne,e1]
  simp [or_comm]
 have HERR:=Lib.hid herr
 have HBAD:=Lib.hid hbad
 have f1:=K4.out.has 1 _ rfl
 clear he1 hh hmem hkd hkk hkd2 herr hbad i1 i2
 go_upto_region 6 with fail
 go_cut [39] from 32 to 39 (fun u wr=>u=.bool bad∧wr=w2)
 case first =>
  cases ck <;> cases c4 <;> cases c1 <;> (go_wp2_with fail;go_meet;exact ⟨by rw [← HBAD.out];rfl,rfl⟩)
 case rest =>
  obtain ⟨rfl,hwc⟩:=hcut
  have hwc':=hwc.symm
  clear hwc
  subst hwc'
  clear yk f1 hc4 hc1
  cases bad
  rotate_left
  ·have HG:=Lib.hid (show (85:Int)=q.2 by
    have h2:=HERR.out
    rw [if_pos rfl] at h2
    rw [HQ.out,HEX.out]
    rw [HEX.out] at h2
    rw [h2]
    simp [szEs_one,szE]
    exact (szTL_err ls ck l _ 85 (by decide)).symm)
   go_wp2_with (first | ((with_reducible show Jw (Op.store 99 _ _));have hk6:=K6.out;refine wpList_store_blk rfl 99 _ _ rfl hk6 rfl (cs:=zeroT6) rfl agg_T rfl rfl rfl ?_;intro w9 hb9 hg9) | ((with_reducible show bodyPost _ _ _ _ _ _);refine Hid.out ?_))
   refine Lib.hid ?_
   refine post_ret_blk2 rfl rfl rfl hb9.has agg_T rfl rfl ?_
   exact ⟨_,85,rfl,HG.out,rfl,rfl,HX2.out.grown hg9 (by omega),fun h0=>absurd h0 (by decide)⟩
  ·go_upto_region 8 with fail
   go_cut [11,12] from 42 to 54 (fun u f wx=>CallOut w2 (sizeE x (hi - lo + 1)) u f wx)
   case first =>
    refine wp_region_held_drew (S:=fun W=>Blk W w.heap.size (T.cells ⟨1,(ks:Int),hi,lo,e,l⟩ (.slice (some ⟨b1,o1,Option.none⟩) e.length cap1) (.slice a2 l.length cap2)).toArray 99∧Has W b1 o1 (x.cells sx)∧Ext w2 W) (by kernel_rfl) ⟨K4.out.drew,HX0.out.drew,Below.drew (Below.refl _ _)⟩ (fun hHeld=>?_)
    try simp only [J]
    (refine Jt 0 (_) rfl (yif_load1 rfl fun _ _=>rfl) hHeld ?_;try simp only [J])
    (refine Jt 1 (.slice (some ⟨b1,o1,Option.none⟩) e.length cap1) rfl (yif_load1 rfl (by intro W hW;have y7:=hW.1.has 4 _ rfl;clear hW;go_simp)) hHeld ?_;try simp only [J])
    (refine Jt 2 (.pointer (some ⟨b1,o1,Option.none⟩)) rfl (yif_load1 rfl (by intro W hW;clear hW;go_simp)) hHeld ?_;try simp only [J])
    (refine Jt 3 (.agg (x.cells sx).toArray) rfl (yif_load rfl 44 _ rfl rfl (fun W hW=>hW.2.1) agg_E rfl) hHeld ?_;try simp only [J])
    (refine Jt 4 (_) rfl (yif_load1 rfl fun _ _=>rfl) hHeld ?_;try simp only [J])
    (refine Jt 5 (.int .i64 hi) rfl (yif_load1 rfl (by intro W hW;have y7:=hW.1.has 2 _ rfl;clear hW;go_simp)) hHeld ?_;try simp only [J])
    (refine Jt 6 (_) rfl (yif_load1 rfl fun _ _=>rfl) hHeld ?_;try simp only [J])
    (refine Jt 7 (.int .i64 lo) rfl (yif_load1 rfl (by intro W hW;have y7:=hW.1.has 3 _ rfl;clear hW;go_simp)) hHeld ?_;try simp only [J])
    (refine Jt 8 (.int .i64 (hi - lo)) rfl (yif_load1 rfl (by intro W hW;clear hW;go_simp;rw [IntKind.wrap_i64];omega)) hHeld ?_;try simp only [J])
    (refine Jt 9 (.int .i64 (hi - lo + 1)) rfl (yif_load1 rfl (by intro W hW;clear hW;go_simp;rw [IntKind.wrap_i64];omega)) hHeld ?_;try simp only [J])
    refine wpAnyH_ready (rs:=[10,14]) (by kernel_rfl) (by simp) ?_
    refine AllReadyH.cons rfl (fun K hK=>?_) (AllReadyH.cons rfl (fun K hK=>?_) AllReadyH.nil)
    ·go_simp
     refine (HC.out _ hHeld.2.2).mono ?_
     intro r w3 hp3
     obtain ⟨cs2,g,rfl,h8,hone,hx3,ho⟩:=hp3.open
     refine hK.out _ _ ⟨hHeld.1.ext hx3,hHeld.2.1.ext hx3,hHeld.2.2.trans hx3⟩ (fun hHeld=>?_)
     clear hK K
     try simp only [J]
     (refine Jt 11 (_) rfl (yif_load1 rfl fun _ _=>rfl) hHeld ?_;try simp only [J])
     (refine Jt 12 (.agg cs2.toArray) rfl (yif_load1 rfl (by intro W hW;clear hW;go_simp)) hHeld ?_;try simp only [J])
     (refine Jt 13 (.int .i64 g) rfl (yif_load1 rfl (by intro W hW;clear hW;go_simp)) hHeld ?_;try simp only [J])
     refine wpAnyH_ready (rs:=[14]) (by kernel_rfl) (by simp) ?_
     refine AllReadyH.cons rfl (fun K hK=>?_) AllReadyH.nil
     go_simp
     have hex:=ext_alloc w3 (.cells zeroE.toArray 44)
     have hnb:=Blk.new w3 zeroE.toArray 44
     refine hK.out _ _ ⟨hHeld.1.ext hex,hHeld.2.1.ext hex,hHeld.2.2.trans hex⟩ (fun hHeld=>?_)
     clear hK K
     try simp only [J]
     generalize w3.alloc _=wa at *
     refine wpAnyH_ready (rs:=[15]) (by kernel_rfl) (by simp) ?_
     refine AllReadyH.cons rfl (fun K hK=>?_) AllReadyH.nil
     refine step_store_blk rfl 44 _ _ rfl hnb rfl (cs:=cs2) rfl agg_E h8 rfl hone ?_
     intro wz hbz hgz
     have hxz:Ext w3 wz:=hex.grown hgz (Nat.le_refl _)
     have hx2z:Ext w2 wz:=hHeld.2.2.grown hgz (by have:=hx3.size;rw [World.heap_drew] at this;omega)
     refine hK.out _ _ ⟨K4.out.ext hx2z,HX0.out.ext hx2z,hx2z⟩ (fun hHeld=>?_)
     clear hK K
     try simp only [J]
     (refine Jt 16 (_) rfl (yif_load1 rfl fun _ _=>rfl) hHeld ?_;try simp only [J])
     refine wpAnyH_done (by kernel_rfl) ?_ _
     go_wp2_with fail
     go_meet
     case rel=>exact ⟨_,cs2,g,rfl,rfl,hbz.has,h8,hone,hx2z,ho.imp (fun ⟨h1,y,h2,h3⟩=>⟨h1,y,h2,h3.ext hxz⟩) id⟩
    ·go_simp
     have hex:=ext_alloc w2 (.cells zeroE.toArray 44)
     have hnb:=Blk.new w2 zeroE.toArray 44
     refine hK.out _ _ ⟨K4.out.ext hex.drew,HX0.out.ext hex.drew,hex.drew⟩ (fun hHeld=>?_)
     clear hK K
     try simp only [J]
     refine wpAnyH_ready (rs:=[10]) (by kernel_rfl) (by simp) ?_
     refine AllReadyH.cons rfl (fun K hK=>?_) AllReadyH.nil
     go_simp
     refine (HC.out _ hHeld.2.2).mono ?_
     intro r w3 hp3
     obtain ⟨cs2,g,rfl,h8,hone,hx3,ho⟩:=hp3.open
     refine hK.out _ _ ⟨hHeld.1.ext hx3,hHeld.2.1.ext hx3,hHeld.2.2.trans hx3⟩ (fun hHeld=>?_)
     clear hK K
     try simp only [J]
     (refine Jt 11 (_) rfl (yif_load1 rfl fun _ _=>rfl) hHeld ?_;try simp only [J])
     (refine Jt 12 (.agg cs2.toArray) rfl (yif_load1 rfl (by intro W hW;clear hW;go_simp)) hHeld ?_;try simp only [J])
     (refine Jt 13 (.int .i64 g) rfl (yif_load1 rfl (by intro W hW;clear hW;go_simp)) hHeld ?_;try simp only [J])
     refine wpAnyH_ready (rs:=[15]) (by kernel_rfl) (by simp) ?_
     refine AllReadyH.cons rfl (fun K hK=>?_) AllReadyH.nil
     refine step_store_blk rfl 44 _ _ rfl (hnb.drew.ext hx3) rfl (cs:=cs2) rfl agg_E h8 rfl hone ?_
     intro wz hbz hgz
     have hx2z:Ext w2 wz:=hHeld.2.2.grown hgz (Nat.le_refl _)
     refine hK.out _ _ ⟨K4.out.ext hx2z,HX0.out.ext hx2z,hx2z⟩ (fun hHeld=>?_)
     clear hK K
     try simp only [J]
     (refine Jt 16 (_) rfl (yif_load1 rfl fun _ _=>rfl) hHeld ?_;try simp only [J])
     refine wpAnyH_done (by kernel_rfl) ?_ _
     go_wp2_with fail
     go_meet
     case rel=>exact ⟨_,cs2,g,rfl,rfl,hbz.has,h8,hone,hx2z,ho.imp (fun ⟨h1,y,h2,h3⟩=>⟨h1,y,h2,(h3.since (Since.of_grown hgz (by simp [World.size_alloc,World.heap_drew]))).mono (by simp [World.size_alloc,World.heap_drew])⟩) id⟩
   case rest =>
    obtain ⟨Bq,cs2,g,rfl,rfl,hbox,h8,hone,hx4,ho⟩:=hcut
    obtain ⟨w4,hw4⟩ : ∃ x,x=wc:=⟨_,rfl⟩
    rw [← hw4] at hbox hx4 ho ⊢
    clear hw4
    have hbb:=Lib.hid hbox
    have HX4:=Lib.hid hx4
    clear hbox hx4
    go_wp2_with (first | ((with_reducible show Jw (Op.load 44 _));refine wpList_load_has rfl 44 _ rfl rfl (hbb.out) agg_E h8 ?_) | ((with_reducible show Jw (Op.buildSlice _ _ _));refine wpList_bs1 rfl _ _ rfl appE rfl (cs:=cs2) rfl h8 (by decide) ?_;refine Hid.out ?_))
    refine Lib.hid ?_
    have hx5:=ext_alloc w4 (.cells cs2.toArray 44)
    have hb5:=Blk.new w4 cs2.toArray 44
    have hs5:w4.heap.size < (w4.alloc (.cells cs2.toArray 44)).heap.size:=by simp
    have hs4:=HX4.out.size
    obtain ⟨Bs,hBs⟩ : ∃ Bs,w4.heap.size=Bs:=⟨_,rfl⟩
    rw [hBs] at hb5 ⊢
    have HBS:=Lib.hid hBs
    have hBs1:w2.heap.size ≤ Bs:=by omega
    clear hBs
    generalize w4.alloc _=w5 at *
    have K85:=Lib.hid (K8.out.ext (HX4.out.trans hx5))
    have z4:=K85.out.has 4 _ rfl
    have r4:=K85.out.frozen 4
    go_upto_region 10 with fail
    have hbt:Blk _ w0.heap.size [.int .i64 1,.int .i64 (ks:Int),.int .i64 hi,.int .i64 lo,.slice (some ⟨Bs,0,Option.none⟩) 1 1,.slice a2 l.length cap2].toArray 99:=K85.out.set 4 (.slice (some ⟨Bs,0,Option.none⟩) 1 1)
    have hgt:=gb_set w5 w0.heap.size 4 (.slice (some ⟨Bs,0,Option.none⟩) 1 1)
    have HGT:=Lib.hid hgt
    have HX45:=Lib.hid hx5
    have K8t:=Lib.hid hbt
    have K4t:=Lib.hid ((K4.out.ext (HX4.out.trans hx5)).grown hgt (by omega))
    have K6t:=Lib.hid ((K6.out.ext (HX4.out.trans hx5)).grown hgt (by omega))
    have HBT2:=Lib.hid (hb5.grown hgt (by omega))
    have HXWt:=Lib.hid ((HX2.out.trans (HX4.out.trans hx5)).grown hgt (by omega))
    have hst:=hgt.size
    have hsw5:=hx5.size
    clear z4 r4 hbt hgt hx5 hb5
    generalize w5.setCell _ _=wt at *
    rcases ho with ⟨rfl,y,hy,hfe⟩ | ⟨hg,hy⟩
    ·have HFE:=Lib.hid hfe
     have HOK:=Lib.hid (show q=(⟨1,(ks:Int),hi,lo,[y],(szTL ls ck 0 0 l).1⟩,(szTL ls ck 0 0 l).2) by
      have h2:=HERR.out
      rw [if_neg (by decide)] at h2
      rw [HQ.out,HEX.out]
      rw [HEX.out] at h2
      rw [h2]
      simp [szEs_one,szE,szW,hy])
     have HES:=Lib.hid (show ∀ W,Since (w0.heap.size + 1) wt W→Es W (.slice (some ⟨Bs,0,Option.none⟩) 1 1) [y] from fun W hW =>
      es_one ((hW.blk HBT2.out (by omega)).has) (HFE.out W ((Since.of_ext (HX45.out)).trans ((Since.of_grown HGT.out (by omega)).trans (hW.mono (by omega))))))
     have HSE1:=Lib.hid (show (Value.slice (some ⟨Bs,0,Option.none⟩) 1 1).oneCell'=true from rfl)
     have HXt:=HX4
     clear hfe hy
     have f5:=K4t.out.has 5 _ rfl
     go_upto_region 26 with (first | (go_at_call 153;refine (HSOM.out _ (.slice a2 l.length cap2) wt (HS.out.ext HXWt.out) (HSL.out.ext HXWt.out)).mono ?_;intro r w3 hp3;obtain ⟨m,g,rfl,hg,hx3,hrow3,hnil⟩:=hp3;replace hg:=Lib.hid hg))
     obtain ⟨am,lm,cm,hm1⟩ : ∃ am lm cm,m=.slice am lm cm:=by
      by_cases h:g=0
      ·obtain ⟨a9,c9,h9,-⟩:=(hrow3 h).open;exact ⟨_,_,_,h9⟩
      ·exact ⟨_,_,_,hnil h⟩
     subst hm1
     have K83:=Lib.hid (K8t.out.ext hx3)
     have K63:=Lib.hid (K6t.out.ext hx3)
     have HROW3:=Lib.hid hrow3
     have z5:=K83.out.has 5 _ rfl
     have r5:=K83.out.frozen 5
     have hs3:=hx3.size
     clear hrow3 hnil f5
     go_upto_region 27 with fail
     have hb5:Blk _ w0.heap.size [.int .i64 1,.int .i64 (ks:Int),.int .i64 hi,.int .i64 lo,(.slice (some ⟨Bs,0,Option.none⟩) 1 1),.slice am lm cm].toArray 99:=K83.out.set 5 (.slice am lm cm)
     have hg5:=gb_set w3 w0.heap.size 5 (.slice am lm cm)
     have K65:=Lib.hid (K63.out.grown hg5 (by omega))
     have HX5:=Lib.hid ((HXWt.out.trans hx3).grown hg5 (by omega))
     have hs5:=hg5.size
     have HB5:=Lib.hid hb5
     have HG5:=Lib.hid hg5
     have HX3:=Lib.hid hx3
     clear z5 r5 hb5 hg5 hx3
     generalize w3.setCell _ _=w5 at *
     go_wp2_with (first | ((with_reducible show Jw (Op.load 99 _));refine wpList_load_has rfl 99 _ rfl rfl (HB5.out.has) agg_T rfl ?_) | ((with_reducible show Jw (Op.store 99 _ _));have hk6:=K65.out;refine wpList_store_blk rfl 99 _ _ rfl hk6 rfl (cs:=[.int .i64 1,.int .i64 (ks:Int),.int .i64 hi,.int .i64 lo,(.slice (some ⟨Bs,0,Option.none⟩) 1 1),.slice am lm cm]) rfl agg_T rfl rfl (by rfl) ?_;intro w9 hb9 hg9) | ((with_reducible show bodyPost _ _ _ _ _ _);refine Hid.out ?_))
     refine Lib.hid ?_
     refine post_ret_blk2 rfl rfl rfl hb9.has agg_T rfl rfl ?_
     refine ⟨_,g,rfl,by rw [HOK.out];exact hg.out,rfl,(by rfl),HX5.out.grown hg9 (by omega),fun h0=>?_⟩
     rw [HOK.out]
     intro W hW
     have hsi:Since (w0.heap.size + 1) w3 W:=(Since.of_grown HG5.out (by omega)).trans ((Since.of_grown hg9 (by omega)).trans (hW.mono (by omega)))
     exact ⟨_,_,rfl,HES.out W ((Since.of_ext HX3.out).trans (hsi.mono (by omega))),(HROW3.out h0).sl (V:=VT) (At:=TAt) (fun _ _ _ _ _ h hv=>VT.at h hv) (hsi.mono (by omega))⟩
    ·have g1:(g != 0)=true:=by rw [bne_iff_ne];omega
     have HG:=Lib.hid (show g=q.2 by
      have h2:=HERR.out
      rw [if_neg (by decide)] at h2
      rw [HQ.out,HEX.out]
      rw [HEX.out] at h2
      rw [h2]
      simp [szEs_one,szE,szW,hy]
      exact (szTL_err ls ck l 0 g (by omega)).symm)
     clear hy
     go_wp2_with (first | ((with_reducible show Jw (Op.store 99 _ _));have hk6:=K6t.out;refine wpList_store_blk rfl 99 _ _ rfl hk6 rfl (cs:=zeroT6) rfl agg_T rfl rfl rfl ?_;intro w9 hb9 hg9) | ((with_reducible show bodyPost _ _ _ _ _ _);refine Hid.out ?_))
     refine Lib.hid ?_
     refine post_ret_blk2 rfl rfl rfl hb9.has agg_T rfl rfl ?_
     exact ⟨_,g,rfl,HG.out,rfl,rfl,HXWt.out.grown hg9 (by omega),fun h0=>absurd h0 (by omega)⟩
end Go.Proofs.YtemabheegnngdaaGreat
