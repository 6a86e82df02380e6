/- Laws and walks that a claim of this seat leans on: Ref9, Ref10, Ref11, Ref12. -/
import Derived.Test.YtaipaccpaljecaaGreatR27
import Derived.Test.YtaipaccpaljecaaGreatR05
import Derived.Test.YtaipaccpaljecaaGreatR00
set_option maxRecDepth 100000
set_option maxHeartbeats 8000000
set_option linter.all false
namespace Go.Proofs.YtaipaccpaljecaaGreat
open Go.RowKit
theorem eqE_ne {x y:E} (h:¬ x=y):eqE x y=false:=by
 cases e:eqE x y
 ·rfl
 ·exact absurd ((eqE_iff x y).1 e) h
theorem eqE_same {x y:E} (h:x=y):eqE x y=true:=(eqE_iff x y).2 h
theorem allT_iff (l r:List T):allEq2 eqT l r=true↔l=r:=allEq2_iff eqT l r (fun x _ y=>eqT_iff x y)
theorem allT_ne {l r:List T} (h:¬ l=r):allEq2 eqT l r=false:=by
 cases e:allEq2 eqT l r
 ·rfl
 ·exact absurd ((allT_iff l r).1 e) h
theorem take_eq {α:Type} {l r:List α} {k:Nat} (h:l.take k=r.take k) (hk:k<l.length) (hk':k<r.length) (e:l[k]=r[k]):l.take (k+1)=r.take (k+1):=by
 rw [take_snoc l k hk,take_snoc r k hk',h,e]
def SameER (x:E):Prop:=∀ (y:E) (cs cs':List Value) (w:World),VE w cs x->VE w cs' y ->
  Calls Tryz.prog 152 #[.agg cs.toArray,.agg cs'.toArray] w fun r w'=>r=.returned (.bool (eqE x y))/\Ext w w'
theorem SameE_stepR (x:E) (ih:∀ z∈x.l,SameER z):SameER x:=by
 intro y cs cs' w h h'
 have IH:=Jh ih
 clear ih
 have HNE:=Jh (fun (h:¬ x=y)=>eqE_ne h)
 have HEQ:=Jh (fun (h:x=y)=>eqE_same h)
 obtain ⟨op,ew,v,sig,hi,lo,n,l⟩:=x
 obtain ⟨op',ew',v',sig',hi',lo',n',l'⟩:=y
 obtain ⟨s,rfl,hs⟩:=h
 obtain ⟨s',rfl,hs'⟩:=h'
 obtain ⟨a,b,o,cap,rfl,hc1,hc2,ha,hr⟩:=hs.open
 obtain ⟨a',b',o',cap',rfl,hc1',hc2',ha',hr'⟩:=hs'.open
 simp only at hc1 hc1' ha ha' hr hr' IH
 have HR:=Jh hr
 have HR':=Jh hr'
 have HA:=Jh ha
 have HA':=Jh ha'
 clear hr hr' ha ha' hs hs'
 have hX1:=ext_alloc w (.cells (E.cells ⟨op,ew,v,sig,hi,lo,n,l⟩ (.slice a l.length cap)).toArray 64)
 have hX2:=ext_alloc (w.alloc (.cells (E.cells ⟨op,ew,v,sig,hi,lo,n,l⟩ (.slice a l.length cap)).toArray 64)) (.cells (E.cells ⟨op',ew',v',sig',hi',lo',n',l'⟩ (.slice a' l'.length cap')).toArray 64)
 have hb1:=(Has.alloc w (E.cells ⟨op,ew,v,sig,hi,lo,n,l⟩ (.slice a l.length cap)) 64).ext hX2
 have hb2:=Has.alloc (w.alloc (.cells (E.cells ⟨op,ew,v,sig,hi,lo,n,l⟩ (.slice a l.length cap)).toArray 64)) (E.cells ⟨op',ew',v',sig',hi',lo',n',l'⟩ (.slice a' l'.length cap')) 64
 rw [World.size_alloc] at hb2
 have hX:=hX1.trans hX2
 clear hX1 hX2
 go_enter Tryz.func152,Tryz.ntmps152
 go_upto_region 1 with fail
 generalize (w.alloc _).alloc _=w0 at *
 have HB1:=Jh hb1
 have HB2:=Jh hb2
 have HX:=Jh hX
 have f0:=hb1 0 _ rfl
 have g0:=hb2 0 _ rfl
 have f1:=hb1 1 _ rfl
 have g1:=hb2 1 _ rfl
 have f2:=hb1 2 _ rfl
 have g2:=hb2 2 _ rfl
 have f3:=hb1 3 _ rfl
 have g3:=hb2 3 _ rfl
 have f4:=hb1 4 _ rfl
 have g4:=hb2 4 _ rfl
 have f5:=hb1 5 _ rfl
 have g5:=hb2 5 _ rfl
 have f6:=hb1 6 _ rfl
 have g6:=hb2 6 _ rfl
 have f7:=hb1 7 _ rfl
 have g7:=hb2 7 _ rfl
 clear hb1 hb2 hX
 by_cases qop:op=op'
 rotate_left
 ·have cop:(op != op')=true:=by rw [bne_iff_ne];exact qop
  have HF:=Jh (HNE.out (fun h=>by injection h with h1 h2 h3 h4 h5 h6 h7 h8;exact qop (by assumption)))
  clear qop
  go_wp2_with fail
  go_ret
  exact ⟨ret_bool HF.out.symm,HX.out⟩
 subst qop
 by_cases qew:ew=ew'
 rotate_left
 ·have cew:(ew != ew')=true:=by rw [bne_iff_ne];exact qew
  have HF:=Jh (HNE.out (fun h=>by injection h with h1 h2 h3 h4 h5 h6 h7 h8;exact qew (by assumption)))
  clear qew
  go_wp2_with fail
  go_ret
  exact ⟨ret_bool HF.out.symm,HX.out⟩
 subst qew
 by_cases qv:v=v'
 rotate_left
 ·have cv:(v != v')=true:=by rw [bne_iff_ne];exact qv
  have HF:=Jh (HNE.out (fun h=>by injection h with h1 h2 h3 h4 h5 h6 h7 h8;exact qv (by assumption)))
  clear qv
  go_wp2_with fail
  go_ret
  exact ⟨ret_bool HF.out.symm,HX.out⟩
 subst qv
 by_cases qsig:sig=sig'
 rotate_left
 ·have csig:(sig != sig')=true:=by rw [bne_iff_ne];exact qsig
  have HF:=Jh (HNE.out (fun h=>by injection h with h1 h2 h3 h4 h5 h6 h7 h8;exact qsig (by assumption)))
  clear qsig
  go_wp2_with fail
  go_ret
  exact ⟨ret_bool HF.out.symm,HX.out⟩
 subst qsig
 by_cases qhi:hi=hi'
 rotate_left
 ·have chi:(hi != hi')=true:=by rw [bne_iff_ne];exact qhi
  have HF:=Jh (HNE.out (fun h=>by injection h with h1 h2 h3 h4 h5 h6 h7 h8;exact qhi (by assumption)))
  clear qhi
  go_wp2_with fail
  go_ret
  exact ⟨ret_bool HF.out.symm,HX.out⟩
 subst qhi
 by_cases qlo:lo=lo'
 rotate_left
 ·have clo:(lo != lo')=true:=by rw [bne_iff_ne];exact qlo
  have HF:=Jh (HNE.out (fun h=>by injection h with h1 h2 h3 h4 h5 h6 h7 h8;exact qlo (by assumption)))
  clear qlo
  go_wp2_with fail
  go_ret
  exact ⟨ret_bool HF.out.symm,HX.out⟩
 subst qlo
 by_cases qn:n=n'
 rotate_left
 ·have cn:(n != n')=true:=by rw [bne_iff_ne];exact qn
  have HF:=Jh (HNE.out (fun h=>by injection h with h1 h2 h3 h4 h5 h6 h7 h8;exact qn (by assumption)))
  clear qn
  go_wp2_with fail
  go_ret
  exact ⟨ret_bool HF.out.symm,HX.out⟩
 subst qn
 by_cases ql:l.length=l'.length
 rotate_left
 ·have cl:(((l.length:Nat):Int) != ((l'.length:Nat):Int))=true:=by rw [bne_iff_ne];omega
  have HF:=Jh (HNE.out (fun h=>by injection h with h1 h2 h3 h4 h5 h6 h7 h8;exact ql (by rw [h8])))
  clear ql
  go_wp2_with fail
  go_ret
  exact ⟨ret_bool HF.out.symm,HX.out⟩
 have cl:(((l.length:Nat):Int) != ((l'.length:Nat):Int))=false:=by rw [bne_eq_false_iff_eq];omega
 have QL:=Jh ql
 clear ql
 go_upto_region 3 with fail
 clear cl f0 g0 f1 g1 f2 g2 f3 g3 f4 g4 f5 g5 f6 g6 f7 g7
 go_wp2_with fail
 go_loopw [5] (fun i wr=>∃ k:Nat,k<=l.length/\i=.int .i64 k/\l.take k=l'.take k/\Ext w0 wr) (fun i _=>l.length-(intOf i).toNat)
 case atStart=>exact ⟨0,Nat.zero_le _,rfl,rfl,Below.refl _ _⟩
 case round =>
  obtain ⟨k,hk,rfl,htk,hB⟩:=hrel
  have HTK:=Jh htk
  have HBX:=Jh hB
  have f7:=(HB1.out.ext hB) 7 _ rfl
  clear htk hB
  by_cases hlt:k<l.length
  ·have hlt':k<l'.length:=by have:=QL.out;omega
   obtain ⟨s1,he1,he2⟩:=Es.get (HR.out.mono fun x _ b o h=>EAt.ext' (HX.out.trans HBX.out) h) hlt
   obtain ⟨s2,he3,he4⟩:=Es.get (HR'.out.mono fun x _ b o h=>EAt.ext' (HX.out.trans HBX.out) h) hlt'
   obtain rfl:=HA.out (by omega)
   obtain rfl:=HA'.out (by omega)
   have hmem:=List.getElem_mem hlt
   have HC:=Jh (fun W (hx:Ext wr W)=>IH.out _ hmem l'[k] _ _ W ⟨s1,rfl,he2.ext hx⟩ ⟨s2,rfl,he4.ext hx⟩)
   have HTE:=Jh (fun (h:l[k]=l'[k])=>take_eq HTK.out hlt hlt' h)
   have HTN:=Jh (fun (h:¬ l[k]=l'[k])=>HNE.out (fun h2=>by injection h2 with h1 h2 h3 h4 h5 h6 h7 h8;subst h8;exact h rfl))
   have HE1:=Jh he1
   have HE3:=Jh he3
   obtain ⟨x,hx⟩:∃ x,l[k]=x:=⟨_,rfl⟩
   obtain ⟨y,hy⟩:∃ y,l'[k]=y:=⟨_,rfl⟩
   rw [hx,hy] at HC HTE HTN
   rw [hx] at HE1
   rw [hy] at HE3
   obtain ⟨c,hc⟩:∃ c,eqE x y=c:=⟨_,rfl⟩
   rw [hc] at HC
   have HCC:=Jh hc
   clear hx hy hc he1 he2 he3 he4 hmem
   go_upto_region 6 with fail
   refine Jg wr fun hH=>?_
   try simp only [J]
   (refine Jt 0 (_) rfl (yif_load1 rfl (by intro W hW;clear hW;go_simp;rfl)) hH ?_;try simp only [J])
   (refine Jt 1 (.slice (some ⟨b,o,Option.none⟩) l.length cap) rfl (yif_load1 rfl (by intro W hW;have y7:=(HB1.out.ext (HBX.out.trans hW)) 7 _ rfl;clear hW f7;go_simp)) hH ?_;try simp only [J])
   (refine Jt 2 (_) rfl (yif_load1 rfl fun _ _=>rfl) hH ?_;try simp only [J])
   (refine Jt 3 (.pointer (some ⟨b,o+k*8,Option.none⟩)) rfl (yif_load1 rfl (by intro W hW;clear hW;go_simp;try (intro h;omega))) hH ?_;try simp only [J])
   (refine Jt 4 (.agg (x.cells s1).toArray) rfl (yif_load rfl 64 _ rfl rfl (fun W hW=>HE1.out.ext hW) agg_E rfl) hH ?_;try simp only [J])
   (refine Jt 5 (_) rfl (yif_load1 rfl (by intro W hW;clear hW;go_simp;rfl)) hH ?_;try simp only [J])
   (refine Jt 6 (.slice (some ⟨b',o',Option.none⟩) l'.length cap') rfl (yif_load1 rfl (by intro W hW;have y7:=(HB2.out.ext (HBX.out.trans hW)) 7 _ rfl;clear hW f7;go_simp)) hH ?_;try simp only [J])
   (refine Jt 7 (_) rfl (yif_load1 rfl fun _ _=>rfl) hH ?_;try simp only [J])
   (refine Jt 8 (.pointer (some ⟨b',o'+k*8,Option.none⟩)) rfl (yif_load1 rfl (by intro W hW;clear hW;go_simp;try (intro h;omega))) hH ?_;try simp only [J])
   (refine Jt 9 (.agg (y.cells s2).toArray) rfl (yif_load rfl 64 _ rfl rfl (fun W hW=>HE3.out.ext hW) agg_E rfl) hH ?_;try simp only [J])
   refine Jr 10 rfl fun K hK=>?_
   go_simp
   refine (HC.out _ hH).mono ?_
   rintro r w1 ⟨rfl,hx1⟩
   refine hK.out _ _ (hH.trans hx1) (fun hH=>?_)
   clear hK K
   try simp only [J]
   (refine Jt 11 (.bool (!c)) rfl (yif_load1 rfl (by intro W hW;clear hW;go_simp)) hH ?_;try simp only [J])
   refine Jz ?_
   cases c
   ·have HF:=Jh (HTN.out (fun h=>by rw [eqE_same h] at HCC;exact absurd HCC.out (by decide)))
    go_wp2_with fail
    go_ret
    exact ⟨ret_bool HF.out.symm,HX.out.trans (HBX.out.trans hH)⟩
   ·have HF:=Jh (HTE.out ((eqE_iff x y).1 HCC.out))
    go_wp2_with fail
    go_roundw
    case rel=>exact ⟨k+1,by omega,by go_num,HF.out,HBX.out.trans hH⟩
    case measure=>simp [intOf];omega
  ·obtain rfl:k=l.length:=by omega
   have htk:=HTK.out
   rw [List.take_length,QL.out,List.take_length] at htk
   have HF:=Jh (HEQ.out (by rw [htk]))
   clear htk
   go_wp2_with fail
   go_ret
   exact ⟨ret_bool HF.out.symm,HX.out.trans HBX.out⟩
theorem SameE_callsR (x:E):SameER x:=E.ind SameE_stepR x
def SameTR (l:List T):Prop:=∀ (r:List T) (s s':Value) (w:World),Ts w s l->Ts w s' r ->
  Calls Tryz.prog 151 #[s,s'] w fun r' w'=>r'=.returned (.bool (allEq2 eqT l r))/\Ext w w'
theorem sameT_stepR (l:List T) (ih:∀ t∈l,SameTR t.l):SameTR l:=by
 intro r s s' w h h'
 have IH:=Jh ih
 clear ih
 obtain ⟨a,b,o,cap,rfl,hc1,hc2,ha,hr⟩:=h.open
 obtain ⟨a',b',o',cap',rfl,hc1',hc2',ha',hr'⟩:=h'.open
 have HR:=Jh hr
 have HR':=Jh hr'
 have HA:=Jh ha
 have HA':=Jh ha'
 clear hr hr' ha ha' h h'
 go_enter Tryz.func151,Tryz.ntmps151
 by_cases ql:l.length=r.length
 rotate_left
 ·have cl:(((l.length:Nat):Int) != ((r.length:Nat):Int))=true:=by rw [bne_iff_ne];omega
  have HF:=Jh (allT_ne (l:=l) (r:=r) (fun h=>ql (by rw [h])))
  clear ql
  go_wp2_with fail
  go_ret
  exact ⟨ret_bool HF.out.symm,Below.refl _ _⟩
 have cl:(((l.length:Nat):Int) != ((r.length:Nat):Int))=false:=by rw [bne_eq_false_iff_eq];omega
 have QL:=Jh ql
 clear ql
 go_upto_region 3 with fail
 clear cl
 go_wp2_with fail
 go_loopw [5,6,7,8] (fun i _ _ _ wr=>∃ k:Nat,k<=l.length/\i=.int .i64 k/\l.take k=r.take k/\Ext w wr) (fun i _ _ _ _=>l.length-(intOf i).toNat)
 case atStart=>exact ⟨0,Nat.zero_le _,rfl,rfl,Below.refl _ _⟩
 case round =>
  obtain ⟨k,hk,rfl,htk,hB⟩:=hrel
  have HTK:=Jh htk
  have HBX:=Jh hB
  clear htk hB
  by_cases hlt:k<l.length
  ·have hlt':k<r.length:=by have:=QL.out;omega
   obtain ⟨cs1,he1,hn1,he2⟩:=VT.get (HR.out.mono fun x _ b o h=>TAt.ext' HBX.out h) hlt
   obtain ⟨cs2,he3,hn2,he4⟩:=VT.get (HR'.out.mono fun x _ b o h=>TAt.ext' HBX.out h) hlt'
   obtain rfl:=HA.out (by omega)
   obtain rfl:=HA'.out (by omega)
   have hih:=IH.out _ (List.getElem_mem hlt)
   have HTE:=Jh (fun (h:l[k]=r[k])=>take_eq HTK.out hlt hlt' h)
   have HTN:=Jh (fun (h:¬ l[k]=r[k])=>allT_ne (l:=l) (r:=r) (fun h2=>by subst h2;exact h rfl))
   obtain ⟨x,hx⟩:∃ x,l[k]=x:=⟨_,rfl⟩
   obtain ⟨y,hy⟩:∃ y,r[k]=y:=⟨_,rfl⟩
   rw [hx,hy] at HTE HTN
   rw [hx] at he2 hih
   rw [hy] at he4
   clear hx hy
   obtain ⟨op,sig,hi,lo,e,tl⟩:=x
   obtain ⟨op',sig',hi',lo',e',tl'⟩:=y
   obtain ⟨se,sl,rfl,hse,hsl⟩:=he2
   obtain ⟨se',sl',rfl,hse',hsl'⟩:=he4
   simp only at hse hsl hse' hsl' hih
   have HC:=Jh (fun W (hx:Ext wr W)=>hih tl' sl sl' W (hsl.ext hx) (hsl'.ext hx))
   obtain ⟨a1,b1,o1,cap1,rfl,hd1,hd2,ha1,hr1⟩:=hse.open
   obtain ⟨a2,b2,o2,cap2,rfl,hd3,hd4,ha2,hr2⟩:=hse'.open
   have HA1:=Jh ha1
   have HR1:=Jh hr1
   have HA2:=Jh ha2
   have HR2:=Jh hr2
   have HONE1:=Jh (show (T.cells ⟨op,sig,hi,lo,e,tl⟩ (.slice a1 e.length cap1) sl).all (·.oneCell')=true by simp [hsl.one,hse.one,one_int])
   have HONE2:=Jh (show (T.cells ⟨op',sig',hi',lo',e',tl'⟩ (.slice a2 e'.length cap2) sl').all (·.oneCell')=true by simp [hsl'.one,hse'.one,one_int])
   have HE3:=Jh he3
   clear ha1 hr1 ha2 hr2 hse hse' hsl hsl' hih he3
   have hx2:=ext_alloc wr (.cells (T.cells ⟨op,sig,hi,lo,e,tl⟩ (.slice a1 e.length cap1) sl).toArray 60)
   have hb2:=Has.alloc wr (T.cells ⟨op,sig,hi,lo,e,tl⟩ (.slice a1 e.length cap1) sl) 60
   go_upto_region 7 with (first | ((with_reducible show Jl 60);refine Jm 60 (he1) agg_T hn1 ?_) | ((with_reducible show Js 60);refine wpList_store_new rfl 60 _ _ rfl rfl (by first | rfl | simp) rfl agg_T (hn1) rfl (HONE1.out) ?_))
   generalize wr.alloc _=w2 at *
   have hx3:=ext_alloc w2 (.cells (T.cells ⟨op',sig',hi',lo',e',tl'⟩ (.slice a2 e'.length cap2) sl').toArray 60)
   have hb3:=Has.alloc w2 (T.cells ⟨op',sig',hi',lo',e',tl'⟩ (.slice a2 e'.length cap2) sl') 60
   go_upto_region 8 with (first | ((with_reducible show Jl 60);refine Jm 60 (HE3.out.ext hx2) agg_T hn2 ?_) | ((with_reducible show Js 60);refine wpList_store_new rfl 60 _ _ rfl rfl (by first | rfl | simp) rfl agg_T (hn2) rfl (HONE2.out) ?_))
   generalize w2.alloc _=w3 at *
   have HB1:=Jh (hb2.ext hx3)
   have HB2:=Jh hb3
   have HX3:=Jh (hx2.trans hx3)
   clear hx2 hb2 hx3 hb3 he1
   have f0:=HB1.out 0 _ rfl
   have g0:=HB2.out 0 _ rfl
   have f1:=HB1.out 1 _ rfl
   have g1:=HB2.out 1 _ rfl
   have f2:=HB1.out 2 _ rfl
   have g2:=HB2.out 2 _ rfl
   have f3:=HB1.out 3 _ rfl
   have g3:=HB2.out 3 _ rfl
   have f4:=HB1.out 4 _ rfl
   have g4:=HB2.out 4 _ rfl
   have f5:=HB1.out 5 _ rfl
   have g5:=HB2.out 5 _ rfl
   by_cases qop:op=op'
   rotate_left
   ·have cop:(op != op')=true:=by rw [bne_iff_ne];exact qop
    have HF:=Jh (HTN.out (fun h=>by injection h with h1 h2 h3 h4 h5 h6;exact qop (by assumption)))
    clear qop
    go_wp2_with fail
    go_ret
    exact ⟨ret_bool HF.out.symm,HBX.out.trans HX3.out⟩
   subst qop
   by_cases qsig:sig=sig'
   rotate_left
   ·have csig:(sig != sig')=true:=by rw [bne_iff_ne];exact qsig
    have HF:=Jh (HTN.out (fun h=>by injection h with h1 h2 h3 h4 h5 h6;exact qsig (by assumption)))
    clear qsig
    go_wp2_with fail
    go_ret
    exact ⟨ret_bool HF.out.symm,HBX.out.trans HX3.out⟩
   subst qsig
   by_cases qhi:hi=hi'
   rotate_left
   ·have chi:(hi != hi')=true:=by rw [bne_iff_ne];exact qhi
    have HF:=Jh (HTN.out (fun h=>by injection h with h1 h2 h3 h4 h5 h6;exact qhi (by assumption)))
    clear qhi
    go_wp2_with fail
    go_ret
    exact ⟨ret_bool HF.out.symm,HBX.out.trans HX3.out⟩
   subst qhi
   by_cases qlo:lo=lo'
   rotate_left
   ·have clo:(lo != lo')=true:=by rw [bne_iff_ne];exact qlo
    have HF:=Jh (HTN.out (fun h=>by injection h with h1 h2 h3 h4 h5 h6;exact qlo (by assumption)))
    clear qlo
    go_wp2_with fail
    go_ret
    exact ⟨ret_bool HF.out.symm,HBX.out.trans HX3.out⟩
   subst qlo
   by_cases qe:e.length=e'.length
   rotate_left
   ·have ce:(((e.length:Nat):Int) != ((e'.length:Nat):Int))=true:=by rw [bne_iff_ne];omega
    have HF:=Jh (HTN.out (fun h=>by injection h with h1 h2 h3 h4 h5 h6;exact qe (by rw [h5])))
    clear qe
    go_wp2_with fail
    go_ret
    exact ⟨ret_bool HF.out.symm,HBX.out.trans HX3.out⟩
   have ce:(((e.length:Nat):Int) != ((e'.length:Nat):Int))=false:=by rw [bne_eq_false_iff_eq];omega
   have QE:=Jh qe
   clear qe
   obtain ⟨bq,hbq⟩:∃ bq,allEq2 eqT tl tl'=bq:=⟨_,rfl⟩
   rw [hbq] at HC
   have HBQ:=Jh hbq
   clear hbq
   cases bq
   ·have HF:=Jh (HTN.out (fun h=>by injection h with h1 h2 h3 h4 h5 h6;have h7:=(allT_iff tl tl').2 h6;rw [HBQ.out] at h7;cases h7))
    go_wp2_with (first | (go_at_call 151;refine (HC.out _ HX3.out).mono ?_;rintro r' w4 ⟨rfl,hx4⟩))
    go_ret
    exact ⟨ret_bool HF.out.symm,HBX.out.trans (HX3.out.trans hx4)⟩
   ·go_upto_region 10 with (first | (go_at_call 151;refine (HC.out _ HX3.out).mono ?_;rintro r' w4 ⟨rfl,hx4⟩))
    have HB14:=Jh (HB1.out.ext hx4)
    have HB24:=Jh (HB2.out.ext hx4)
    have HX4:=Jh (HX3.out.trans hx4)
    clear ce hx4 HC f0 g0 f1 g1 f2 g2 f3 g3 f4 g4 f5 g5
    go_wp2_with fail
    go_loopw [8] (fun i wr'=>∃ j:Nat,j<=e.length/\i=.int .i64 j/\e.take j=e'.take j/\Ext w4 wr') (fun i _=>e.length-(intOf i).toNat)
    case atStart=>exact ⟨0,Nat.zero_le _,rfl,rfl,Below.refl _ _⟩
    case round =>
     obtain ⟨j,hj,rfl,htj,hB4⟩:=hrel
     have HTJ:=Jh htj
     have HB4:=Jh hB4
     have f4:=(HB14.out.ext hB4) 4 _ rfl
     clear htj hB4
     by_cases hjt:j<e.length
     ·have hjt':j<e'.length:=by have:=QE.out;omega
      obtain ⟨s1,q1,q2⟩:=Es.get (HR1.out.mono fun x _ b o h=>EAt.ext' (HX4.out.trans HB4.out) h) hjt
      obtain ⟨s2,q3,q4⟩:=Es.get (HR2.out.mono fun x _ b o h=>EAt.ext' (HX4.out.trans HB4.out) h) hjt'
      obtain rfl:=HA1.out (by omega)
      obtain rfl:=HA2.out (by omega)
      have HCE:=Jh (fun W (hx:Ext wr W)=>SameE_callsR e[j] e'[j] _ _ W ⟨s1,rfl,q2.ext hx⟩ ⟨s2,rfl,q4.ext hx⟩)
      have HJE:=Jh (fun (h:e[j]=e'[j])=>take_eq HTJ.out hjt hjt' h)
      have HJN:=Jh (fun (h:¬ e[j]=e'[j])=>HTN.out (fun h2=>by injection h2 with h1 h2 h3 h4 h5 h6;subst h5;exact h rfl))
      have HE1:=Jh q1
      have HE3:=Jh q3
      obtain ⟨x,hx⟩:∃ x,e[j]=x:=⟨_,rfl⟩
      obtain ⟨y,hy⟩:∃ y,e'[j]=y:=⟨_,rfl⟩
      rw [hx,hy] at HCE HJE HJN
      rw [hx] at HE1
      rw [hy] at HE3
      obtain ⟨c,hc⟩:∃ c,eqE x y=c:=⟨_,rfl⟩
      rw [hc] at HCE
      have HCC:=Jh hc
      clear hx hy hc q1 q2 q3 q4
      go_upto_region 13 with fail
      refine Jg wr fun hH=>?_
      try simp only [J]
      (refine Jt 0 (_) rfl (yif_load1 rfl (by intro W hW;clear hW;go_simp;rfl)) hH ?_;try simp only [J])
      (refine Jt 1 (.slice (some ⟨b1,o1,Option.none⟩) e.length cap1) rfl (yif_load1 rfl (by intro W hW;have y7:=(HB14.out.ext (HB4.out.trans hW)) 4 _ rfl;clear hW f4;go_simp)) hH ?_;try simp only [J])
      (refine Jt 2 (_) rfl (yif_load1 rfl fun _ _=>rfl) hH ?_;try simp only [J])
      (refine Jt 3 (.pointer (some ⟨b1,o1+j*8,Option.none⟩)) rfl (yif_load1 rfl (by intro W hW;clear hW;go_simp;try (intro h;omega))) hH ?_;try simp only [J])
      (refine Jt 4 (.agg (x.cells s1).toArray) rfl (yif_load rfl 64 _ rfl rfl (fun W hW=>HE1.out.ext hW) agg_E rfl) hH ?_;try simp only [J])
      (refine Jt 5 (_) rfl (yif_load1 rfl (by intro W hW;clear hW;go_simp;rfl)) hH ?_;try simp only [J])
      (refine Jt 6 (.slice (some ⟨b2,o2,Option.none⟩) e'.length cap2) rfl (yif_load1 rfl (by intro W hW;have y7:=(HB24.out.ext (HB4.out.trans hW)) 4 _ rfl;clear hW f4;go_simp)) hH ?_;try simp only [J])
      (refine Jt 7 (_) rfl (yif_load1 rfl fun _ _=>rfl) hH ?_;try simp only [J])
      (refine Jt 8 (.pointer (some ⟨b2,o2+j*8,Option.none⟩)) rfl (yif_load1 rfl (by intro W hW;clear hW;go_simp;try (intro h;omega))) hH ?_;try simp only [J])
      (refine Jt 9 (.agg (y.cells s2).toArray) rfl (yif_load rfl 64 _ rfl rfl (fun W hW=>HE3.out.ext hW) agg_E rfl) hH ?_;try simp only [J])
      refine Jr 10 rfl fun K hK=>?_
      go_simp
      refine (HCE.out _ hH).mono ?_
      rintro r' w1 ⟨rfl,hx1⟩
      refine hK.out _ _ (hH.trans hx1) (fun hH=>?_)
      clear hK K
      try simp only [J]
      (refine Jt 11 (.bool (!c)) rfl (yif_load1 rfl (by intro W hW;clear hW;go_simp)) hH ?_;try simp only [J])
      refine Jz ?_
      cases c
      ·have HF:=Jh (HJN.out (fun h=>by rw [eqE_same h] at HCC;exact absurd HCC.out (by decide)))
       go_wp2_with fail
       go_ret
       exact ⟨ret_bool HF.out.symm,HBX.out.trans (HX4.out.trans (HB4.out.trans hH))⟩
      ·have HF:=Jh (HJE.out ((eqE_iff x y).1 HCC.out))
       go_wp2_with fail
       go_roundw
       case rel=>exact ⟨j+1,by omega,by go_num,HF.out,HB4.out.trans hH⟩
       case measure=>simp [intOf];omega
     ·obtain rfl:j=e.length:=by omega
      have htj:=HTJ.out
      rw [List.take_length,QE.out,List.take_length] at htj
      have HF:=Jh (HTE.out (by rw [htj,(allT_iff tl tl').1 HBQ.out]))
      clear htj
      go_wp2_with fail
      go_roundw
      case rel=>exact ⟨k+1,by omega,by go_num,HF.out,HBX.out.trans (HX4.out.trans HB4.out)⟩
      case measure=>simp [intOf];omega
  ·obtain rfl:k=l.length:=by omega
   have htk:=HTK.out
   rw [List.take_length,QL.out,List.take_length] at htk
   have HF:=Jh ((allT_iff l r).2 htk)
   clear htk
   go_wp2_with fail
   go_ret
   exact ⟨ret_bool HF.out.symm,HBX.out⟩
theorem sameT_callsR (l:List T):SameTR l:=sameT_stepR l fun t _=>T.ind (P:=fun t=>SameTR t.l) (fun t ih=>sameT_stepR t.l ih) t
def OnePost (w:World) (q:T × Int) (r:Ending) (w':World):Prop:=∃ cs g,r=.returned (.tuple #[.agg cs.toArray,.int .i64 g])/\g=q.2/\cs.length=6/\cs.all (·.oneCell')=true/\Ext w w'/\(g=0->FV VT w.heap.size w' cs q.1)
def SomePost (w:World) (q:List T × Int) (r:Ending) (w':World):Prop:=∃ v g,r=.returned (.tuple #[v,.int .i64 g])/\g=q.2/\Ext w w'/\(g=0->RowIs VT 60 6 w.heap.size v q.1 w')/\(g≠0->v=.slice Option.none 0 0)
def OneR (ls:List Signal) (ck:Bool) (t:T):Prop:=∀ (s0:Value) (cs:List Value) (w:World),Sigs w s0 ls->VT w cs t ->
 Calls Tryz.prog 195 #[s0,.agg cs.toArray,.bool ck] w (OnePost w (szT ls ck t 0 0))
def SomeR (ls:List Signal) (ck:Bool) (l:List T):Prop:=∀ (s0 s:Value) (w:World),Sigs w s0 ls->Ts w s l ->
 Calls Tryz.prog 149 #[s0,s,.bool ck] w (SomePost w (szTL ls ck 0 0 l))
theorem some_stepR (ls:List Signal) (ck:Bool) (l:List T) (ih:∀ t∈l,OneR ls ck t) (hl:l.length<=1048576):SomeR ls ck l:=by
 intro s0 s w hS h
 have IH:=Jh ih
 have HS:=Jh hS
 clear ih hS
 obtain ⟨a,b,o,cap,rfl,hc1,hc2,ha,hr⟩:=h.open
 have HR:=Jh hr
 have HA:=Jh ha
 clear hr ha h
 go_enter Tryz.func149,Tryz.ntmps149
 go_wp2_with fail
 go_loopw [8,9,10,11] (fun u i _ _ wr=>∃ (k:Nat) (vv:Value),vv=u/\k<=l.length/\i=.int .i64 k/\(szTL ls ck 0 0 (l.take k)).2=0/\RowIs VT 60 6 w.heap.size vv (szTL ls ck 0 0 (l.take k)).1 wr/\Ext w wr) (fun _ i _ _ _=>l.length-(intOf i).toNat)
 case atStart=>exact ⟨0,_,rfl,Nat.zero_le _,rfl,rfl,RowIs.nil,Below.refl _ _⟩
 case round =>
  obtain ⟨k,vv,rfl,hk,rfl,hz,hrow,hB⟩:=hrel
  have HZ:=Jh hz
  have HEX:=Jh hB
  have hszr:=hB.size
  clear hB
  by_cases hlt:k<l.length
  ·obtain ⟨cs,he1,hn,he2⟩:=VT.get (HR.out.mono fun x _ b o h=>TAt.ext' HEX.out h) hlt
   obtain rfl:=HA.out (by omega)
   have hmem:l[k]∈l:=List.getElem_mem hlt
   have HC:=Jh (IH.out _ hmem s0 cs wr (HS.out.ext HEX.out) he2)
   have htk:=szTL_take ls ck 0 0 l k hlt
   rw [hz] at htk
   have hlen:(szTL ls ck 0 0 (l.take k)).1.length=k:=by rw [szTL_length,List.length_take];omega
   have hstop:=szTL_stop ls ck l 0 0 (k+1)
   rw [htk] at hstop
   obtain ⟨rr,hrr⟩:∃ rr,(szTL ls ck 0 0 (l.take k)).1=rr:=⟨_,rfl⟩
   rw [hrr] at hrow htk hlen
   obtain ⟨q,hq⟩:∃ q,szT ls ck l[k] 0 0=q:=⟨_,rfl⟩
   rw [hq] at HC htk hstop
   have HTK:=Jh htk
   have HSTOP:=Jh hstop
   have HLN:=Jh hlen
   have HROW:=Jh hrow
   clear hz htk hstop hlen hrr hq hrow hmem he2
   go_wp2_with (first | ((with_reducible show Jl 60);refine Jm 60 (he1) agg_T hn ?_) | (go_at_call 195;refine HC.out.mono ?_;intro r w3 hp3;obtain ⟨cs2,g,rfl,hg,h6,hone,hx3,hfv⟩:=hp3;replace hg:=Jh hg;refine Hid.out ?_))
   refine Jh ?_
   have hxb:=ext_alloc w3 (.cells cs2.toArray 60)
   have hbb:=Jh (Has.alloc w3 cs2 60)
   have HXX:=Jh (hx3.trans hxb)
   have hsz4:w3.heap.size<(w3.alloc (.cells cs2.toArray 60)).heap.size:=by simp
   have hsz3:=hx3.size
   by_cases hg0:g=0
   ·have HFV:=Jh (show FV VT wr.heap.size (w3.alloc (.cells cs2.toArray 60)) cs2 q.1 from (hfv hg0).ext hxb)
    have HG:=Jh (hg.out.symm.trans hg0)
    subst hg0
    clear hfv hxb hg
    go_upto_region 6 with (first | ((with_reducible show Js 60);refine wpList_store_new rfl 60 _ _ rfl rfl (by first | rfl | simp) rfl agg_T (h6) rfl (hone) ?_))
    generalize w3.alloc _=w4 at *
    go_wp2_with (first | ((with_reducible show Jl 60);refine Jm 60 (hbb.out) agg_T h6 ?_) | ((with_reducible show Jw (Op.buildSlice _ _ _));refine wpList_bs1 rfl _ _ rfl appT rfl (cs:=cs2) rfl h6 (by decide) ?_) | ((with_reducible show Jw (Op.call { callee:=.builtin .append,args:=_,argTypes:=_ }));refine wpList_app1 (V:=VT) rfl _ _ _ rfl appT rfl ((HROW.out.since (Since.of_ext HXX.out)).since (Since.of_ext (ext_alloc w4 (.cells cs2.toArray 60)))) rfl h6 (Has.alloc w4 cs2 60) hone ((HFV.out.ext (ext_alloc w4 (.cells cs2.toArray 60))).st (N:=w.heap.size) (by omega) (fun k hk=>by have:=(HROW.out.lt k hk).2;omega)) (by rw [HLN.out];omega) (by simp;omega) ?_;rw [HLN.out];intro g5 cap5 w5 hrow5 hg5))
    have hx4:=ext_alloc w4 (.cells cs2.toArray 60)
    have hR:∀ j,vv.ownBlock=some j->w.heap.size<=j:=fun j hj=>(HROW.out.lt j hj).1
    have hexx:=((HEX.out.trans (HXX.out.trans hx4)).grownO hg5 (fun j hj=>by have:=hR j hj;omega))
    go_roundw
    case rel=>exact ⟨k+1,_,rfl,by omega,by go_num,by rw [HTK.out];exact HG.out,by rw [HTK.out];exact hrow5,hexx⟩
    case measure=>simp [intOf];omega
   ·have g1:(g != 0)=true:=by rw [bne_iff_ne];omega
    have HF:=Jh (show g=(szTL ls ck 0 0 l).2 by rw [HSTOP.out (show q.2≠0 by rw [<-hg.out];exact hg0)];exact hg.out)
    have HG0:=Jh hg0
    clear hfv hg hxb hg0
    go_upto_region 6 with (first | ((with_reducible show Js 60);refine wpList_store_new rfl 60 _ _ rfl rfl (by first | rfl | simp) rfl agg_T (h6) rfl (hone) ?_))
    generalize w3.alloc _=w4 at *
    go_wp2_with fail
    go_ret2
    exact ⟨_,g,rfl,HF.out,HEX.out.trans HXX.out,fun h=>absurd h HG0.out,fun _=>rfl⟩
  ·obtain rfl:k=l.length:=by omega
   rw [List.take_length] at hrow
   have hz':=HZ.out
   rw [List.take_length] at hz'
   have HZ2:=Jh hz'
   have HROW:=Jh hrow
   clear hz hz' hrow
   go_wp2_with fail
   go_ret2
   exact ⟨_,0,rfl,HZ2.out.symm,HEX.out,fun _=>HROW.out,fun h=>absurd rfl h⟩
theorem armT_szT {ls:List Signal} {ck:Bool} {t:T} (h:shapeT.armT ls t=true) (wd:Int):szT ls ck t wd 0 =
  (⟨t.op,t.sig,t.hi,t.lo,(szEs 0 wd t.e).1,(szTL ls ck 0 (szEs 0 wd t.e).2 t.l).1⟩,(szTL ls ck 0 (szEs 0 wd t.e).2 t.l).2):=by
 rw [shapeT.armT_eq] at h
 simp only [Bool.and_eq_true,decide_eq_true_eq] at h
 have h4:t.op=4:=h.1.1.1.1.1
 have e0:szErr0 ls ck t 0=0:=by unfold szErr0;rw [if_neg (by omega)]
 have e1:szW t wd=wd:=by unfold szW;rw [if_neg (by omega),if_neg (by omega),if_neg (by omega)]
 rw [szT_eq,e0,e1,if_neg (by omega),szTL_lab h.2 wd 0]
theorem cases_stepR (ls:List Signal) (ck:Bool) (wd:Int) (hw0:0<=wd) (hw1:wd<=9223372036854775807) (l:List T) (harm:∀ t∈l,shapeT.armT ls t=true) (hsz:∀ t∈l,∀ x∈t.e,SizedRSaid x) (hso:∀ t∈l,SomeR ls ck t.l)
  (hl:l.length<=1048576) (hle:∀ t∈l,t.e.length<=1048576) (s0 s:Value) (w:World) (hS:Sigs w s0 ls) (h:Ts w s l) :
  Calls Tryz.prog 241 #[s0,s,.bool ck,.int .i64 wd] w (SomePost w (szTL ls ck wd 0 l)):=by
 have HARM:=Jh harm
 have HSZ:=Jh hsz
 have HSO:=Jh hso
 have HLE:=Jh hle
 have HS:=Jh hS
 have HW:=Jh (And.intro hw0 hw1)
 clear harm hsz hso hS hle hw0 hw1
 obtain ⟨a,b,o,cap,rfl,hc1,hc2,ha,hr⟩:=h.open
 have HR:=Jh hr
 have HA:=Jh ha
 clear hr ha h
 go_enter Tryz.func241,Tryz.ntmps241
 go_wp2_with fail
 go_loopw [10,11,12,13,14,15,16,17,18] (fun u i _ _ _ _ _ _ _ wr=>∃ (k:Nat) (vv:Value),vv=u/\k<=l.length/\i=.int .i64 k/\(szTL ls ck wd 0 (l.take k)).2=0/\RowIs VT 60 6 w.heap.size vv (szTL ls ck wd 0 (l.take k)).1 wr/\Ext w wr) (fun _ i _ _ _ _ _ _ _ _=>l.length-(intOf i).toNat)
 case atStart=>exact ⟨0,_,rfl,Nat.zero_le _,rfl,rfl,RowIs.nil,Below.refl _ _⟩
 case round =>
  obtain ⟨k,vv,rfl,hk,rfl,hz,hrow,hB⟩:=hrel
  have HZ:=Jh hz
  have HEX:=Jh hB
  have hszr:=hB.size
  clear hB
  by_cases hlt:k<l.length
  ·obtain ⟨cs,he1,hn,he2⟩:=VT.get (HR.out.mono fun x _ b o h=>TAt.ext' HEX.out h) hlt
   obtain rfl:=HA.out (by omega)
   have hmem:l[k]∈l:=List.getElem_mem hlt
   have ham:=armT_szT (ck:=ck) (HARM.out _ hmem) wd
   have hse:=HSZ.out _ hmem
   have hso:=HSO.out _ hmem
   have hel:=HLE.out _ hmem
   have htk:=szTL_take ls ck wd 0 l k hlt
   rw [hz,ham] at htk
   have hlen:(szTL ls ck wd 0 (l.take k)).1.length=k:=by rw [szTL_length,List.length_take];omega
   have hstop:=szTL_stop ls ck l wd 0 (k+1)
   rw [htk] at hstop
   obtain ⟨rr,hrr⟩:∃ rr,(szTL ls ck wd 0 (l.take k)).1=rr:=⟨_,rfl⟩
   rw [hrr] at hrow htk hlen
   obtain ⟨x,hx⟩:∃ x,l[k]=x:=⟨_,rfl⟩
   rw [hx] at he2 hse hso htk hstop hel
   clear hz hrr hx ham hmem
   obtain ⟨op,sig,hi,lo,e,tl⟩:=x
   obtain ⟨se,sl,rfl,hse1,hsl1⟩:=he2
   simp only at hse hso htk hstop hse1 hsl1 hel
   have HTK:=Jh htk
   have HSTOP:=Jh hstop
   have HLN:=Jh hlen
   have HROW:=Jh hrow
   have HSE:=Jh hse
   have HSOM:=Jh (fun W (hx:Ext wr W)=>hso s0 sl W (HS.out.ext (HEX.out.trans hx)) (hsl1.ext hx))
   obtain ⟨a1,b1,o1,cap1,rfl,hd1,hd2,ha1,hr1⟩:=hse1.open
   have HA1:=Jh ha1
   have HR1:=Jh hr1
   have HONE1:=Jh (show (T.cells ⟨op,sig,hi,lo,e,tl⟩ (.slice a1 e.length cap1) sl).all (·.oneCell')=true by simp [hsl1.one,hse1.one,one_int])
   have HEL:=Jh hel
   clear htk hstop hlen hrow hse hso ha1 hr1 hse1 hsl1 hel
   have hx2:=ext_alloc wr (.cells (T.cells ⟨op,sig,hi,lo,e,tl⟩ (.slice a1 e.length cap1) sl).toArray 60)
   have hb2:=Blk.new wr (T.cells ⟨op,sig,hi,lo,e,tl⟩ (.slice a1 e.length cap1) sl).toArray 60
   have hs2:wr.heap.size<(wr.alloc (.cells (T.cells ⟨op,sig,hi,lo,e,tl⟩ (.slice a1 e.length cap1) sl).toArray 60)).heap.size:=by simp
   go_upto_region 6 with (first | ((with_reducible show Jl 60);refine Jm 60 (he1) agg_T hn ?_) | ((with_reducible show Js 60);refine wpList_store_new rfl 60 _ _ rfl rfl (by first | rfl | simp) rfl agg_T (hn) rfl (HONE1.out) ?_))
   generalize wr.alloc _=w2 at *
   have HB2:=Jh hb2
   have HX2:=Jh hx2
   clear hb2 hx2 he1
   obtain ⟨wo,rfl⟩:∃ x,x=wr:=⟨_,rfl⟩
   go_wp2_with fail
   go_loopw [13,14,15,16] (fun u i _ _ wj=>∃ (j:Nat) (ve:Value),ve=u/\j<=e.length/\i=.int .i64 j/\(szEs 0 wd (e.take j)).2=0/\RowIs VE 64 8 w2.heap.size ve (szEs 0 wd (e.take j)).1 wj/\Ext w2 wj) (fun _ i _ _ _=>e.length-(intOf i).toNat)
   case atStart=>exact ⟨0,_,rfl,Nat.zero_le _,rfl,rfl,RowIs.nil,Below.refl _ _⟩
   case round =>
    obtain ⟨j,ve,rfl,hj,rfl,hzj,hrowj,hB2⟩:=hrel
    have HEJ:=Jh hB2
    have hszj:=hB2.size
    have f4:=(HB2.out.ext hB2).has 4 _ rfl
    clear hB2
    by_cases hjt:j<e.length
    ·obtain ⟨cs1,q1,qn,q2⟩:=VE.get (HR1.out.mono fun x _ b o h=>EAt.ext' (HX2.out.trans HEJ.out) h) hjt
     obtain rfl:=HA1.out (by omega)
     have hmem:=List.getElem_mem hjt
     have HC:=Jh (HSE.out _ hmem wd cs1 _ q2 HW.out.1 HW.out.2)
     have htj:=szEs_take 0 wd e j hjt
     rw [hzj] at htj
     have hlenj:(szEs 0 wd (e.take j)).1.length=j:=by rw [szEs_length,List.length_take];omega
     have hstopj:=szEs_stop wd 0 e (j+1)
     rw [htj] at hstopj
     obtain ⟨re,hre⟩:∃ re,(szEs 0 wd (e.take j)).1=re:=⟨_,rfl⟩
     rw [hre] at hrowj htj hlenj
     obtain ⟨x,hx⟩:∃ x,e[j]=x:=⟨_,rfl⟩
     rw [hx] at HC htj hstopj
     have HTJ:=Jh htj
     have HSTJ:=Jh hstopj
     have HLJ:=Jh hlenj
     have HRJ:=Jh hrowj
     have HSZE:=Jh (show szE 0 x wd=_ from by unfold szE;rw [if_neg (by decide)])
     clear hzj htj hstopj hlenj hrowj hre hx hmem q2
     go_wp2_with (first | ((with_reducible show Jl 64);refine Jm 64 (q1) agg_E qn ?_) | (go_at_call 197;refine HC.out.mono ?_;intro r w3 hp3;obtain ⟨cs2,g,rfl,h8,hone,hx3,ho⟩:=hp3.open;clear hp3;refine Hid.out ?_))
     refine Jh ?_
     have hxb:=ext_alloc w3 (.cells cs2.toArray 64)
     have hbb:=Jh (Has.alloc w3 cs2 64)
     have HXX:=Jh (hx3.trans hxb)
     have hsz4:w3.heap.size<(w3.alloc (.cells cs2.toArray 64)).heap.size:=by simp
     have hsz3:=hx3.size
     rcases ho with ⟨rfl,y,hy,hfe⟩ | ⟨hg,hy⟩
     ·have HFE:=Jh (show FV VE wr.heap.size (w3.alloc (.cells cs2.toArray 64)) cs2 y from fun W hW=>(hfe.ext hxb) W hW)
      have HSY:=Jh (show szE 0 x wd=(y,0) by rw [HSZE.out,hy])
      clear hfe hy hxb
      go_upto_region 11 with (first | ((with_reducible show Js 64);refine wpList_store_new rfl 64 _ _ rfl rfl (by first | rfl | simp) rfl agg_E (h8) rfl (hone) ?_))
      generalize w3.alloc _=w4 at *
      go_wp2_with (first | ((with_reducible show Jl 64);refine Jm 64 (hbb.out) agg_E h8 ?_) | ((with_reducible show Jw (Op.buildSlice _ _ _));refine wpList_bs1 rfl _ _ rfl appE rfl (cs:=cs2) rfl h8 (by decide) ?_) | ((with_reducible show Jw (Op.call { callee:=.builtin .append,args:=_,argTypes:=_ }));refine wpList_app1 (V:=VE) rfl _ _ _ rfl appE rfl ((HRJ.out.since (Since.of_ext HXX.out)).since (Since.of_ext (ext_alloc w4 (.cells cs2.toArray 64)))) rfl h8 (Has.alloc w4 cs2 64) hone ((HFE.out.ext (ext_alloc w4 (.cells cs2.toArray 64))).st (N:=w2.heap.size) (by omega) (fun k hk=>by have:=(HRJ.out.lt k hk).2;omega)) (by rw [HLJ.out];have:=HEL.out;omega) (by simp;omega) ?_;rw [HLJ.out];intro g5 cap5 w5 hrow5 hg5))
      have hx4:=ext_alloc w4 (.cells cs2.toArray 64)
      have hR:∀ i,ve.ownBlock=some i->w2.heap.size<=i:=fun i hi=>(HRJ.out.lt i hi).1
      have hexx:=((HEJ.out.trans (HXX.out.trans hx4)).grownO hg5 (fun i hi=>by have:=hR i hi;omega))
      go_roundw
      case rel=>exact ⟨j+1,_,rfl,by omega,by go_num,by rw [HTJ.out,HSY.out],by rw [HTJ.out,HSY.out];exact hrow5,hexx⟩
      case measure=>simp [intOf];omega
     ·have g1:(g != 0)=true:=by rw [bne_iff_ne];omega
      have HSY:=Jh (show szE 0 x wd=(zE,g) by rw [HSZE.out,hy])
      have hge:(szEs 0 wd e).2=g:=by
       have h1:=HSTJ.out (by rw [HSY.out];show g≠0;omega)
       rw [HSY.out] at h1;exact h1
      have hgt:(szTL ls ck 0 (szEs 0 wd e).2 tl).2=g:=by rw [hge];exact szTL_err ls ck tl 0 g (by omega)
      have HF:=Jh (show g=(szTL ls ck wd 0 l).2 by
       have h1:=HSTOP.out (by show (szTL ls ck 0 (szEs 0 wd e).2 tl).2≠0;omega)
       rw [h1];exact hgt.symm)
      have HG0:=Jh (show g≠0 by omega)
      clear hy hxb hge hgt
      go_upto_region 11 with (first | ((with_reducible show Js 64);refine wpList_store_new rfl 64 _ _ rfl rfl (by first | rfl | simp) rfl agg_E (h8) rfl (hone) ?_))
      generalize w3.alloc _=w4 at *
      go_wp2_with fail
      go_ret2
      exact ⟨_,g,rfl,HF.out,HEX.out.trans (HX2.out.trans (HEJ.out.trans HXX.out)),fun h=>absurd h HG0.out,fun _=>rfl⟩
    ·obtain rfl:j=e.length:=by omega
     rw [List.take_length] at hrowj hzj
     have HZE:=Jh hzj
     have HRE:=Jh hrowj
     have hlenE:=szEs_length 0 wd e
     obtain ⟨qe,hqe⟩:∃ qe,(szEs 0 wd e).1=qe:=⟨_,rfl⟩
     rw [hqe] at HRE HTK hlenE
     rw [hzj] at HTK HSTOP
     have HLENE:=Jh hlenE
     obtain ⟨ae,cape,hve,-⟩:=HRE.out.open
     rw [hlenE] at hve
     subst hve
     have f5:=(HB2.out.ext HEJ.out).has 5 _ rfl
     have HBW:=Jh (HB2.out.ext HEJ.out)
     have HXE:=Jh (HX2.out.trans HEJ.out)
     have HRW:=Jh (HROW.out.since (Since.of_ext HXE.out))
     clear hqe hlenE hzj hrowj
     go_wp2_with (first | (go_at_call 149;refine (HSOM.out _ HXE.out).mono ?_;intro r w3 hp3;obtain ⟨m,g,rfl,hg,hx3,hrow3,hnil⟩:=hp3;replace hg:=Jh hg;refine Hid.out ?_))
     refine Jh ?_
     have hsz3:=hx3.size
     by_cases hg0:g=0
     ·have HROW3:=Jh (hrow3 hg0)
      have HG:=Jh (hg.out.symm.trans hg0)
      subst hg0
      obtain ⟨am,capm,hm,-⟩:=HROW3.out.open
      obtain ⟨qm,hqm⟩:∃ qm,(szTL ls ck 0 0 tl).1=qm:=⟨_,rfl⟩
      rw [hqm] at HROW3 HTK hm
      have HLQ:=Jh (show qm.length=tl.length by rw [<-hqm];exact szTL_length _ _ _ _ _)
      clear hrow3 hnil hqm hg
      subst hm
      have HB3:=Jh (HBW.out.ext hx3)
      have z4:=HB3.out.has 4 _ rfl
      have z5:=HB3.out.has 5 _ rfl
      have r4:=HB3.out.frozen 4
      have r5:=HB3.out.frozen 5
      go_upto_region 19 with fail
      have hb4:Blk _ wo.heap.size (T.cells ⟨op,sig,hi,lo,qe,qm⟩ (.slice ae e.length cape) (.slice am qm.length capm)).toArray 60:=(HB3.out.set 4 (.slice ae e.length cape)).set 5 (.slice am qm.length capm)
      have hg4:=gb_trans (gb_set w3 wo.heap.size 4 (.slice ae e.length cape)) (gb_set _ wo.heap.size 5 (.slice am qm.length capm))
      have hs4:=hg4.size
      clear z4 z5 r4 r5
      generalize (w3.setCell _ _).setCell _ _=w4 at *
      have hfv:FV VT wo.heap.size w4 (T.cells ⟨op,sig,hi,lo,qe,qm⟩ (.slice ae e.length cape) (.slice am qm.length capm)) ⟨op,sig,hi,lo,qe,qm⟩:=by
       intro W hW
       refine ⟨_,_,rfl,?_,?_⟩
       ·exact HRE.out.sl (V:=VE) (At:=EAt) (fun _ _ _ _ _ h hv=>VE.at h hv) ((Since.of_ext hx3).trans ((Since.of_grown hg4 (by omega)).trans (hW.mono (by omega))))
       ·exact HROW3.out.sl (V:=VT) (At:=TAt) (fun _ _ _ _ _ h hv=>VT.at h hv) ((Since.of_grown hg4 (by omega)).trans (hW.mono (by omega)))
      have hsw:Since w.heap.size wo w4:=⟨by omega,fun b h1 h2=>(hg4.block b (by omega) (by intro e;injection e;omega)).trans ((HXE.out.trans hx3).block b h2)⟩
      have hexw:Ext w w4:=(HEX.out.trans (HXE.out.trans hx3)).grown hg4 (by omega)
      have HFV:=Jh hfv
      have HONE4:=Jh (show (T.cells ⟨op,sig,hi,lo,qe,qm⟩ (.slice ae e.length cape) (.slice am qm.length capm)).all (·.oneCell')=true by rfl)
      have HB4:=Jh hb4
      have HRW4:=Jh (HROW.out.since hsw)
      have HEXW:=Jh hexw
      clear hsw hexw hfv hb4 hg4 HRW
      go_wp2_with (first | ((with_reducible show Jl 60);refine Jm 60 (HB4.out.has) agg_T rfl ?_) | ((with_reducible show Jw (Op.buildSlice _ _ _));refine wpList_bs1 rfl _ _ rfl appT rfl (cs:=T.cells ⟨op,sig,hi,lo,qe,qm⟩ (.slice ae e.length cape) (.slice am qm.length capm)) rfl rfl (by decide) ?_) | ((with_reducible show Jw (Op.call { callee:=.builtin .append,args:=_,argTypes:=_ }));refine wpList_app1 (V:=VT) rfl _ _ _ rfl appT rfl (HRW4.out.since (Since.of_ext (ext_alloc w4 (.cells (T.cells ⟨op,sig,hi,lo,qe,qm⟩ (.slice ae e.length cape) (.slice am qm.length capm)).toArray 60)))) rfl rfl (Has.alloc w4 (T.cells ⟨op,sig,hi,lo,qe,qm⟩ (.slice ae e.length cape) (.slice am qm.length capm)) 60) HONE4.out ((HFV.out.ext (ext_alloc w4 (.cells (T.cells ⟨op,sig,hi,lo,qe,qm⟩ (.slice ae e.length cape) (.slice am qm.length capm)).toArray 60))).st (N:=w.heap.size) (by omega) (fun k hk=>by have:=(HROW.out.lt k hk).2;omega)) (by rw [HLN.out];omega) (by simp;omega) ?_;rw [HLN.out];intro g5 cap5 w5 hrow5 hg5))
      have hx4:=ext_alloc w4 (.cells (T.cells ⟨op,sig,hi,lo,qe,qm⟩ (.slice ae e.length cape) (.slice am qm.length capm)).toArray 60)
      have hR:∀ i,vv.ownBlock=some i->w.heap.size<=i:=fun i hi=>(HROW.out.lt i hi).1
      have hexx:=((HEXW.out.trans hx4).grownO hg5 (fun i hi=>by have:=hR i hi;omega))
      go_roundw
      case rel=>exact ⟨k+1,_,rfl,by omega,by go_num,by rw [HTK.out];exact HG.out,by rw [HTK.out];exact hrow5,hexx⟩
      case measure=>simp [intOf];omega
     ·have g1:(g != 0)=true:=by rw [bne_iff_ne];omega
      have HF:=Jh (show g=(szTL ls ck wd 0 l).2 by
       have h1:=HSTOP.out (by show (szTL ls ck 0 0 tl).2≠0;rw [<-hg.out];exact hg0)
       rw [h1];exact hg.out)
      have HG0:=Jh hg0
      clear hg hrow3 hg0
      go_wp2_with fail
      go_ret2
      exact ⟨_,g,rfl,HF.out,HEX.out.trans (HXE.out.trans hx3),fun h=>absurd h HG0.out,fun _=>rfl⟩
  ·obtain rfl:k=l.length:=by omega
   rw [List.take_length] at hrow
   have hz':=HZ.out
   rw [List.take_length] at hz'
   have HZ2:=Jh hz'
   have HROW:=Jh hrow
   clear hz hz' hrow
   go_wp2_with fail
   go_ret2
   exact ⟨_,0,rfl,HZ2.out.symm,HEX.out,fun _=>HROW.out,fun h=>absurd rfl h⟩
end Go.Proofs.YtaipaccpaljecaaGreat
