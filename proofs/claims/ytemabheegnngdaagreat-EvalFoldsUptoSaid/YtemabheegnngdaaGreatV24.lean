/- Laws and walks that a claim of this seat leans on: Ref9, Few, LiveE1, Rel, LiveE2. -/
import Derived.Test.YtemabheegnngdaaGreatV23
import Derived.Test.YtemabheegnngdaaGreatV05
import Derived.Test.YtemabheegnngdaaGreatV21
import Derived.Test.YtemabheegnngdaaGreatV14
import Derived.Test.YtemabheegnngdaaGreatV01
import Derived.Test.YtemabheegnngdaaGreatV00
set_option linter.all false
namespace Go.Proofs.YtemabheegnngdaaGreat
open Go.RowKit
theorem eqE_ne {x y:E} (h : ¬ x=y):eqE x y=false:=by
 cases e:eqE x y
 ·rfl
 ·exact absurd ((eqE_iff x y).1 e) h
theorem eqE_same {x y:E} (h:x=y):eqE x y=true:=(eqE_iff x y).2 h
theorem allT_iff (l r:List T):allEq2 eqT l r=true ↔ l=r:=allEq2_iff eqT l r (fun x _ y=>eqT_iff x y)
theorem allT_ne {l r:List T} (h : ¬ l=r):allEq2 eqT l r=false:=by
 cases e:allEq2 eqT l r
 ·rfl
 ·exact absurd ((allT_iff l r).1 e) h
theorem take_eq {α : Type} {l r:List α} {k:Nat} (h:l.take k=r.take k) (hk:k < l.length) (hk':k < r.length) (e:l[k]=r[k]):l.take (k + 1)=r.take (k + 1):=by
 rw [take_snoc l k hk,take_snoc r k hk',h,e]
def SameER (x:E):Prop:=∀ (y:E) (cs cs':List Value) (w:World),VE w cs x→VE w cs' y →
  Calls Tryz.prog 27 #[.agg cs.toArray,.agg cs'.toArray] w fun r w'=>r=.returned (.bool (eqE x y))∧Ext w w'
set_option maxRecDepth 100000 in
set_option maxHeartbeats 4000000 in
theorem SameE_stepR (x:E) (ih:∀ z ∈ x.l,SameER z):SameER x:=by
 intro y cs cs' w h h'
 have IH:=Lib.hid ih
 clear ih
 have HNE:=Lib.hid (fun (h : ¬ x=y)=>eqE_ne h)
 have HEQ:=Lib.hid (fun (h:x=y)=>eqE_same h)
 obtain ⟨op,ew,v,sig,hi,lo,n,l⟩:=x
 obtain ⟨op',ew',v',sig',hi',lo',n',l'⟩:=y
 obtain ⟨s,rfl,hs⟩:=h
 obtain ⟨s',rfl,hs'⟩:=h'
 obtain ⟨a,b,o,cap,rfl,hc1,hc2,ha,hr⟩:=hs.open
 obtain ⟨a',b',o',cap',rfl,hc1',hc2',ha',hr'⟩:=hs'.open
 simp only at hc1 hc1' ha ha' hr hr' IH
 have HR:=Lib.hid hr
 have HR':=Lib.hid hr'
 have HA:=Lib.hid ha
 have HA':=Lib.hid ha'
 clear hr hr' ha ha' hs hs'
 have hX1:=ext_alloc w (.cells (E.cells ⟨op,ew,v,sig,hi,lo,n,l⟩ (.slice a l.length cap)).toArray 44)
 have hX2:=ext_alloc (w.alloc (.cells (E.cells ⟨op,ew,v,sig,hi,lo,n,l⟩ (.slice a l.length cap)).toArray 44)) (.cells (E.cells ⟨op',ew',v',sig',hi',lo',n',l'⟩ (.slice a' l'.length cap')).toArray 44)
 have hb1:=(Has.alloc w (E.cells ⟨op,ew,v,sig,hi,lo,n,l⟩ (.slice a l.length cap)) 44).ext hX2
 have hb2:=Has.alloc (w.alloc (.cells (E.cells ⟨op,ew,v,sig,hi,lo,n,l⟩ (.slice a l.length cap)).toArray 44)) (E.cells ⟨op',ew',v',sig',hi',lo',n',l'⟩ (.slice a' l'.length cap')) 44
 rw [World.size_alloc] at hb2
 have hX:=hX1.trans hX2
 clear hX1 hX2
 go_enter Tryz.func27,Tryz.ntmps27
 go_upto_region 1 with fail
 generalize (w.alloc _).alloc _=w0 at *
 have HB1:=Lib.hid hb1
 have HB2:=Lib.hid hb2
 have HX:=Lib.hid hX
 have f0:=hb1 0 _ rfl
 have g0:=hb2 0 _ rfl
 have f1:=hb1 1 _ rfl
 have g1:=hb2 1 _ rfl
 have f2:=hb1 2 _ rfl
 have g2:=hb2 2 _ rfl
 have f3:=hb1 3 _ rfl
 have g3:=hb2 3 _ rfl
 have f4:=hb1 4 _ rfl
 have g4:=hb2 4 _ rfl
 have f5:=hb1 5 _ rfl
 have g5:=hb2 5 _ rfl
 have f6:=hb1 6 _ rfl
 have g6:=hb2 6 _ rfl
 have f7:=hb1 7 _ rfl
 have g7:=hb2 7 _ rfl
 clear hb1 hb2 hX
 by_cases qop:op=op'
 rotate_left
 ·have cop:(op != op')=true:=by rw [bne_iff_ne];exact qop
  have HF:=Lib.hid (HNE.out (fun h=>by injection h with h1 h2 h3 h4 h5 h6 h7 h8;exact qop (by assumption)))
  clear qop
  go_wp2_with fail
  go_ret
  exact ⟨ret_bool HF.out.symm,HX.out⟩
 subst qop
 by_cases qew:ew=ew'
 rotate_left
 ·have cew:(ew != ew')=true:=by rw [bne_iff_ne];exact qew
  have HF:=Lib.hid (HNE.out (fun h=>by injection h with h1 h2 h3 h4 h5 h6 h7 h8;exact qew (by assumption)))
  clear qew
  go_wp2_with fail
  go_ret
  exact ⟨ret_bool HF.out.symm,HX.out⟩
 subst qew
 by_cases qv:v=v'
 rotate_left
 ·have cv:(v != v')=true:=by rw [bne_iff_ne];exact qv
  have HF:=Lib.hid (HNE.out (fun h=>by injection h with h1 h2 h3 h4 h5 h6 h7 h8;exact qv (by assumption)))
  clear qv
  go_wp2_with fail
  go_ret
  exact ⟨ret_bool HF.out.symm,HX.out⟩
 subst qv
 by_cases qsig:sig=sig'
 rotate_left
 ·have csig:(sig != sig')=true:=by rw [bne_iff_ne];exact qsig
  have HF:=Lib.hid (HNE.out (fun h=>by injection h with h1 h2 h3 h4 h5 h6 h7 h8;exact qsig (by assumption)))
  clear qsig
  go_wp2_with fail
  go_ret
  exact ⟨ret_bool HF.out.symm,HX.out⟩
 subst qsig
 by_cases qhi:hi=hi'
 rotate_left
 ·have chi:(hi != hi')=true:=by rw [bne_iff_ne];exact qhi
  have HF:=Lib.hid (HNE.out (fun h=>by injection h with h1 h2 h3 h4 h5 h6 h7 h8;exact qhi (by assumption)))
  clear qhi
  go_wp2_with fail
  go_ret
  exact ⟨ret_bool HF.out.symm,HX.out⟩
 subst qhi
 by_cases qlo:lo=lo'
 rotate_left
 ·have clo:(lo != lo')=true:=by rw [bne_iff_ne];exact qlo
  have HF:=Lib.hid (HNE.out (fun h=>by injection h with h1 h2 h3 h4 h5 h6 h7 h8;exact qlo (by assumption)))
  clear qlo
  go_wp2_with fail
  go_ret
  exact ⟨ret_bool HF.out.symm,HX.out⟩
 subst qlo
 by_cases qn:n=n'
 rotate_left
 ·have cn:(n != n')=true:=by rw [bne_iff_ne];exact qn
  have HF:=Lib.hid (HNE.out (fun h=>by injection h with h1 h2 h3 h4 h5 h6 h7 h8;exact qn (by assumption)))
  clear qn
  go_wp2_with fail
  go_ret
  exact ⟨ret_bool HF.out.symm,HX.out⟩
 subst qn
 by_cases ql:l.length=l'.length
 rotate_left
 ·have cl:(((l.length:Nat):Int) != ((l'.length:Nat):Int))=true:=by rw [bne_iff_ne];omega
  have HF:=Lib.hid (HNE.out (fun h=>by injection h with h1 h2 h3 h4 h5 h6 h7 h8;exact ql (by rw [h8])))
  clear ql
  go_wp2_with fail
  go_ret
  exact ⟨ret_bool HF.out.symm,HX.out⟩
 have cl:(((l.length:Nat):Int) != ((l'.length:Nat):Int))=false:=by rw [bne_eq_false_iff_eq];omega
 have QL:=Lib.hid ql
 clear ql
 go_upto_region 3 with fail
 clear cl f0 g0 f1 g1 f2 g2 f3 g3 f4 g4 f5 g5 f6 g6 f7 g7
 go_wp2_with fail
 go_loopw [5] (fun i wr=>∃ k:Nat,k ≤ l.length∧i=.int .i64 k∧l.take k=l'.take k∧Ext w0 wr) (fun i _=>l.length - (intOf i).toNat)
 case atStart=>exact ⟨0,Nat.zero_le _,rfl,rfl,Below.refl _ _⟩
 case round =>
  obtain ⟨k,hk,rfl,htk,hB⟩:=hrel
  have HTK:=Lib.hid htk
  have HBX:=Lib.hid hB
  have f7:=(HB1.out.ext hB) 7 _ rfl
  clear htk hB
  by_cases hlt:k < l.length
  ·have hlt':k < l'.length:=by have:=QL.out;omega
   obtain ⟨s1,he1,he2⟩:=Es.get (HR.out.mono fun x _ b o h=>EAt.ext' (HX.out.trans HBX.out) h) hlt
   obtain ⟨s2,he3,he4⟩:=Es.get (HR'.out.mono fun x _ b o h=>EAt.ext' (HX.out.trans HBX.out) h) hlt'
   obtain rfl:=HA.out (by omega)
   obtain rfl:=HA'.out (by omega)
   have hmem:=List.getElem_mem hlt
   have HC:=Lib.hid (fun W (hx:Ext wr W)=>IH.out _ hmem l'[k] _ _ W ⟨s1,rfl,he2.ext hx⟩ ⟨s2,rfl,he4.ext hx⟩)
   have HTE:=Lib.hid (fun (h:l[k]=l'[k])=>take_eq HTK.out hlt hlt' h)
   have HTN:=Lib.hid (fun (h : ¬ l[k]=l'[k])=>HNE.out (fun h2=>by injection h2 with h1 h2 h3 h4 h5 h6 h7 h8;subst h8;exact h rfl))
   have HE1:=Lib.hid he1
   have HE3:=Lib.hid he3
   obtain ⟨x,hx⟩ : ∃ x,l[k]=x:=⟨_,rfl⟩
   obtain ⟨y,hy⟩ : ∃ y,l'[k]=y:=⟨_,rfl⟩
   rw [hx,hy] at HC HTE HTN
   rw [hx] at HE1
   rw [hy] at HE3
   obtain ⟨c,hc⟩ : ∃ c,eqE x y=c:=⟨_,rfl⟩
   rw [hc] at HC
   have HCC:=Lib.hid hc
   clear hx hy hc he1 he2 he3 he4 hmem
   go_upto_region 6 with fail
   refine wp_region_held_drew (S:=fun W=>Ext wr W) (by kernel_rfl) (Below.drew (Below.refl _ _)) (fun hHeld=>?_)
   try simp only [J]
   (refine Jt 0 (_) rfl (yif_load1 rfl (by intro W hW;clear hW;go_simp;rfl)) hHeld ?_;try simp only [J])
   (refine Jt 1 (.slice (some ⟨b,o,Option.none⟩) l.length cap) rfl (yif_load1 rfl (by intro W hW;have y7:=(HB1.out.ext (HBX.out.trans hW)) 7 _ rfl;clear hW f7;go_simp)) hHeld ?_;try simp only [J])
   (refine Jt 2 (_) rfl (yif_load1 rfl fun _ _=>rfl) hHeld ?_;try simp only [J])
   (refine Jt 3 (.pointer (some ⟨b,o + k * 8,Option.none⟩)) rfl (yif_load1 rfl (by intro W hW;clear hW;go_simp;try (intro h;omega))) hHeld ?_;try simp only [J])
   (refine Jt 4 (.agg (x.cells s1).toArray) rfl (yif_load rfl 44 _ rfl rfl (fun W hW=>HE1.out.ext hW) agg_E rfl) hHeld ?_;try simp only [J])
   (refine Jt 5 (_) rfl (yif_load1 rfl (by intro W hW;clear hW;go_simp;rfl)) hHeld ?_;try simp only [J])
   (refine Jt 6 (.slice (some ⟨b',o',Option.none⟩) l'.length cap') rfl (yif_load1 rfl (by intro W hW;have y7:=(HB2.out.ext (HBX.out.trans hW)) 7 _ rfl;clear hW f7;go_simp)) hHeld ?_;try simp only [J])
   (refine Jt 7 (_) rfl (yif_load1 rfl fun _ _=>rfl) hHeld ?_;try simp only [J])
   (refine Jt 8 (.pointer (some ⟨b',o' + k * 8,Option.none⟩)) rfl (yif_load1 rfl (by intro W hW;clear hW;go_simp;try (intro h;omega))) hHeld ?_;try simp only [J])
   (refine Jt 9 (.agg (y.cells s2).toArray) rfl (yif_load rfl 44 _ rfl rfl (fun W hW=>HE3.out.ext hW) agg_E rfl) hHeld ?_;try simp only [J])
   refine wpAnyH_ready (rs:=[10]) (by kernel_rfl) (by simp) ?_
   refine AllReadyH.cons rfl (fun K hK=>?_) AllReadyH.nil
   go_simp
   refine (HC.out _ hHeld).mono ?_
   rintro r w1 ⟨rfl,hx1⟩
   refine hK.out _ _ (hHeld.trans hx1) (fun hHeld=>?_)
   clear hK K
   try simp only [J]
   (refine Jt 11 (.bool (!c)) rfl (yif_load1 rfl (by intro W hW;clear hW;go_simp)) hHeld ?_;try simp only [J])
   refine wpAnyH_done (by kernel_rfl) ?_ _
   cases c
   ·have HF:=Lib.hid (HTN.out (fun h=>by rw [eqE_same h] at HCC;exact absurd HCC.out (by decide)))
    go_wp2_with fail
    go_ret
    exact ⟨ret_bool HF.out.symm,HX.out.trans (HBX.out.trans hHeld)⟩
   ·have HF:=Lib.hid (HTE.out ((eqE_iff x y).1 HCC.out))
    go_wp2_with fail
    go_roundw
    case rel=>exact ⟨k + 1,by omega,by go_num,HF.out,HBX.out.trans hHeld⟩
    case measure=>simp [intOf];omega
  ·obtain rfl:k=l.length:=by omega
   have htk:=HTK.out
   rw [List.take_length,QL.out,List.take_length] at htk
   have HF:=Lib.hid (HEQ.out (by rw [htk]))
   clear htk
   go_wp2_with fail
   go_ret
   exact ⟨ret_bool HF.out.symm,HX.out.trans HBX.out⟩
theorem SameE_callsR (x:E):SameER x:=E.ind SameE_stepR x
open Go.RowKit
def fewM (d:Flat) (e:E):Bool:=small d && decide (nodes e ≤ 2000) && decide (deep e ≤ 100)
set_option maxRecDepth 100000 in
set_option maxHeartbeats 2000000 in
theorem few_calls (d:Flat) (v:Value) (e:E) (cs:List Value) (w:World) (hF:FlatV w v d) (hok:d.ok) (hV:VE w cs e) (hn:nodes e ≤ 1048576) (hd:deep e ≤ 1048576) :
  Calls Tryz.prog 18 #[v,.agg cs.toArray] w fun r w'=>r=.returned (.bool (fewM d e))∧Ext w w':=by
 have HSM:=Lib.hid (fun W (h:Ext w W)=>Small_calls d v W (hF.ext h) hok.nodes)
 obtain ⟨s,rfl,hs⟩:=hV
 have HND:=Lib.hid (fun W (h:Ext w W)=>Nodes_calls e s W (hs.ext h) hn)
 have HDP:=Lib.hid (fun W (h:Ext w W)=>Deep_calls e s W (hs.ext h) hd)
 obtain ⟨sv,pv,cv,rfl,hS,hP,hC⟩:=hF
 have x1:=ext_alloc w (.cells [sv,pv,cv].toArray 26)
 have x2:=ext_alloc (w.alloc (.cells [sv,pv,cv].toArray 26)) (.cells (e.cells s).toArray 44)
 have hD:=(Blk.new w [sv,pv,cv].toArray 26).ext x2
 have hE:=Blk.new (w.alloc (.cells [sv,pv,cv].toArray 26)) (e.cells s).toArray 44
 have hX:=x1.trans x2
 simp only [World.size_alloc] at hE
 clear x1 x2 hS hP hC hok hs hn hd
 have hfew:fewM d e=(small d && decide ((nodes e:Int) ≤ 2000) && decide ((deep e:Int) ≤ 100)):=by
  unfold fewM
  rw [show decide (nodes e ≤ 2000)=decide ((nodes e:Int) ≤ 2000) by simp only [decide_eq_decide];omega,show decide (deep e ≤ 100)=decide ((deep e:Int) ≤ 100) by simp only [decide_eq_decide];omega]
 rw [hfew]
 clear hfew
 generalize small d=q1 at *
 generalize nodes e=N at *
 generalize deep e=De at *
 go_enter Tryz.func18,Tryz.ntmps18
 go_upto_region 1 with fail
 generalize (w.alloc _).alloc _=w0 at *
 have HD:=Lib.hid hD
 have HE:=Lib.hid hE
 have HX:=Lib.hid hX
 have d0:=hD.has
 clear hD hE hX
 cases q1
 ·go_wp2_with (first | ((with_reducible show Jw (Op.load 26 _));refine wpList_load_has rfl 26 _ rfl rfl (d0) agg_Flat rfl ?_) | (go_at_call 35;refine (HSM.out w0 HX.out).mono ?_;rintro r w1 ⟨rfl,hx1⟩))
  go_ret
  exact ⟨rfl,HX.out.trans hx1⟩
 ·by_cases h2:(N:Int) ≤ 2000
  ·have b2:decide ((N:Int) ≤ 2000)=true:=decide_eq_true h2
   clear h2
   go_wp2_with (first | ((with_reducible show Jw (Op.load 26 _));refine wpList_load_has rfl 26 _ rfl rfl (d0) agg_Flat rfl ?_) | (go_at_call 35;refine (HSM.out w0 HX.out).mono ?_;rintro r w1 ⟨rfl,hx1⟩;have e1:=(HE.out.ext hx1).has) | ((with_reducible show Jw (Op.load 44 _));refine wpList_load_has rfl 44 _ rfl rfl (e1) agg_E rfl ?_) | (go_at_call 29;refine (HND.out w1 (HX.out.trans hx1)).mono ?_;rintro r w2 ⟨rfl,hx2⟩;have e2:=(HE.out.ext (hx1.trans hx2)).has) | ((with_reducible show Jw (Op.load 44 _));refine wpList_load_has rfl 44 _ rfl rfl (e2) agg_E rfl ?_) | (go_at_call 32;refine (HDP.out w2 (HX.out.trans (hx1.trans hx2))).mono ?_;rintro r w3 ⟨rfl,hx3⟩))
   go_ret
   exact ⟨by rw [b2];rfl,HX.out.trans ((hx1.trans hx2).trans hx3)⟩
  ·have b2:decide ((N:Int) ≤ 2000)=false:=decide_eq_false h2
   clear h2
   go_wp2_with (first | ((with_reducible show Jw (Op.load 26 _));refine wpList_load_has rfl 26 _ rfl rfl (d0) agg_Flat rfl ?_) | (go_at_call 35;refine (HSM.out w0 HX.out).mono ?_;rintro r w1 ⟨rfl,hx1⟩;have e1:=(HE.out.ext hx1).has) | ((with_reducible show Jw (Op.load 44 _));refine wpList_load_has rfl 44 _ rfl rfl (e1) agg_E rfl ?_) | (go_at_call 29;refine (HND.out w1 (HX.out.trans hx1)).mono ?_;rintro r w2 ⟨rfl,hx2⟩))
   go_ret
   exact ⟨by rw [b2];rfl,HX.out.trans (hx1.trans hx2)⟩
def numE (wd v:Int):E:=⟨1,wd,v,0,0,0,0,[]⟩
def sigX (wd n hi lo:Int):E:=⟨2,wd,0,n,hi,lo,0,[]⟩
def binE (wd n:Int) (a b:E):E:=⟨5,wd,0,0,0,0,n,[a,b]⟩
theorem num_calls (wd v:Int) (w:World):Calls Tryz.prog 36 #[.int .i64 wd,.int .u64 v] w fun r w'=>r=.returned (.agg ((numE wd v).cells (.slice none 0 0)).toArray)∧Ext w w':=by
 have x1:=ext_alloc w (.cells (zE.cells (.slice none 0 0)).toArray 44)
 have hR:=Blk.new w (zE.cells (.slice none 0 0)).toArray 44
 rw [zE_cells] at *
 go_enter Tryz.func36,Tryz.ntmps36
 go_upto_region 1 with fail
 generalize w.alloc _=w0 at *
 have HR:=Lib.hid hR
 clear hR
 go_wp2_with (first | ((with_reducible show Jw (Op.store 44 _ _));refine wpList_store_blk rfl 44 _ _ rfl (HR.out) rfl (cs:=(numE wd v).cells (.slice none 0 0)) (rfl) agg_E (rfl) rfl (rfl) ?_;intro w6 hb6 hg6) | ((with_reducible show bodyPost _ _ _ _ _ _);refine Hid.out ?_))
 refine Lib.hid ?_
 exact post_ret_blk rfl rfl hb6.has agg_E rfl rfl ⟨rfl,x1.grown hg6 (by omega)⟩
theorem sig_calls (wd n hi lo:Int) (w:World):Calls Tryz.prog 37 #[.int .i64 wd,.int .i64 n,.int .i64 hi,.int .i64 lo] w fun r w'=>r=.returned (.agg ((sigX wd n hi lo).cells (.slice none 0 0)).toArray)∧Ext w w':=by
 have x1:=ext_alloc w (.cells (zE.cells (.slice none 0 0)).toArray 44)
 have hR:=Blk.new w (zE.cells (.slice none 0 0)).toArray 44
 rw [zE_cells] at *
 go_enter Tryz.func37,Tryz.ntmps37
 go_upto_region 1 with fail
 generalize w.alloc _=w0 at *
 have HR:=Lib.hid hR
 clear hR
 go_wp2_with (first | ((with_reducible show Jw (Op.store 44 _ _));refine wpList_store_blk rfl 44 _ _ rfl (HR.out) rfl (cs:=(sigX wd n hi lo).cells (.slice none 0 0)) (rfl) agg_E (rfl) rfl (rfl) ?_;intro w6 hb6 hg6) | ((with_reducible show bodyPost _ _ _ _ _ _);refine Hid.out ?_))
 refine Lib.hid ?_
 exact post_ret_blk rfl rfl hb6.has agg_E rfl rfl ⟨rfl,x1.grown hg6 (by omega)⟩
open Go.RowKit
set_option maxRecDepth 100000 in
set_option maxHeartbeats 1000000 in
theorem bin_calls (wd n:Int) (a b:E) (ca cb:List Value) (w:World) (ha:VE w ca a) (hb:VE w cb b) :
  Calls Tryz.prog 33 #[.int .i64 wd,.int .i64 n,.agg ca.toArray,.agg cb.toArray] w fun r w'=>∃ cs',r=.returned (.agg cs'.toArray)∧VE w' cs' (binE wd n a b)∧Ext w w':=by
 have ha8:ca.length=8:=by obtain ⟨s,rfl,-⟩:=ha;rfl
 have hb8:cb.length=8:=by obtain ⟨s,rfl,-⟩:=hb;rfl
 have ho1:=ha.one
 have ho2:=hb.one
 have HA:=Lib.hid (fun W (h:Ext w W)=>ha.ext h)
 have HB:=Lib.hid (fun W (h:Ext w W)=>hb.ext h)
 have x1:=ext_alloc w (.cells ca.toArray 44)
 have x2:=ext_alloc (w.alloc (.cells ca.toArray 44)) (.cells cb.toArray 44)
 have x3:=ext_alloc ((w.alloc (.cells ca.toArray 44)).alloc (.cells cb.toArray 44)) (.cells (zE.cells (.slice none 0 0)).toArray 44)
 have hA:=((Blk.new w ca.toArray 44).ext x2).ext x3
 have hB:=(Blk.new (w.alloc (.cells ca.toArray 44)) cb.toArray 44).ext x3
 have hR:=Blk.new ((w.alloc (.cells ca.toArray 44)).alloc (.cells cb.toArray 44)) (zE.cells (.slice none 0 0)).toArray 44
 have hX:=(x1.trans x2).trans x3
 simp only [World.size_alloc] at hB hR
 have HSZ:w.heap.size + 1 + 1 < (((w.alloc (.cells ca.toArray 44)).alloc (.cells cb.toArray 44)).alloc (.cells (zE.cells (.slice none 0 0)).toArray 44)).heap.size:=by simp only [World.size_alloc];omega
 clear x1 x2 x3 ha hb
 rw [zE_cells] at *
 go_enter Tryz.func33,Tryz.ntmps33
 go_upto_region 1 with fail
 generalize ((w.alloc _).alloc _).alloc _=w0 at *
 have x4:=ext_alloc w0 (.cells [ca,cb].flatten.toArray 44)
 have h4:=Has.alloc w0 [ca,cb].flatten 44
 have hA0:=hA.has
 have hB0:=hB.has
 have hR4:=hR.ext x4
 have hXX:=hX.trans x4
 clear hA hB hR
 go_wp2_with (first | ((with_reducible show Jw (Op.load 44 _));refine wpList_load_has rfl 44 _ rfl rfl (hA0) agg_E ha8 ?_) | ((with_reducible show Jw (Op.load 44 _));refine wpList_load_has rfl 44 _ rfl rfl (hB0) agg_E hb8 ?_) | ((with_reducible show Jw (Op.buildSlice _ _ _));refine Hid.out ?_))
 refine Lib.hid ?_
 refine wpList_bsN rfl _ 2 _ rfl appE (vs:=[.agg ca.toArray,.agg cb.toArray]) rfl rfl (css:=[ca,cb]) rfl (by intro c hc;simp at hc;rcases hc with rfl | rfl <;> assumption) (by decide) (by decide) ?_
 have hsz0:=hX.size
 have HG:=Lib.hid (show w.heap.size + 1 + 1 < w0.heap.size from HSZ)
 generalize w0.heap.size=G at *
 generalize w0.alloc _=w4 at *
 clear hA0 hB0 x4 hX hsz0
 go_wp2_with (first | ((with_reducible show Jw (Op.store 44 _ _));refine wpList_store_blk rfl 44 _ _ rfl (hR4) rfl (cs:=(binE wd n a b).cells (.slice (some ⟨G,0,none⟩) 2 2)) (rfl) agg_E (rfl) rfl (rfl) ?_;intro w6 hb6 hg6) | ((with_reducible show bodyPost _ _ _ _ _ _);refine Hid.out ?_))
 refine Lib.hid ?_
 have hx6:Ext w w6:=hXX.grown hg6 (by omega)
 refine post_ret_blk rfl rfl hb6.has agg_E rfl rfl ⟨_,rfl,⟨_,rfl,?_⟩,hx6⟩
 refine ⟨G,0,⟨_,2,rfl,Nat.le_refl _,by simp [maxLen],fun _=>rfl⟩,rows_of_flat (V:=VE) (At:=EAt) (fun _ _ _ _ _ h hv=>VE.at h hv) [a,b] [ca,cb] w6 G 0 ?_ rfl (by intro c hc;simp at hc;rcases hc with rfl | rfl <;> assumption) ?_⟩
 ·exact h4.grown hg6 (by have:=HG.out;omega)
 ·intro i hi hi'
  match i,hi with
  | 0,_=>exact HA.out w6 hx6
  | 1,_=>exact HB.out w6 hx6
def evD:Flat:=⟨[⟨⟨#[97]⟩,4,1,0⟩],[],[]⟩
def evX:E:=binE 3 14 (sigX 3 0 3 1) (numE 3 5)
def evY:E:=⟨3,1,0,0,0,0,0,[numE 2 3]⟩
def evZ:E:=binE 2 14 (numE 2 1) (numE 2 2)
theorem VE.len8 {w:World} {cs:List Value} {x:E} (h:VE w cs x):cs.length=8:=by obtain ⟨s,rfl,-⟩:=h;rfl
theorem appU64:AppT Tryz.prog 41 34 1 8:=⟨Tryz.underlying41,by kernel_rfl,by decide,by decide⟩
abbrev evS:List Value:=[.string ⟨#[97]⟩,.int .i64 4,.int .i64 1,.int .u64 0]
theorem evD_at {W:World} {N:Nat} (h:Blk W N evS.toArray 36):FlatV W (.agg #[.slice (some ⟨N,0,none⟩) 1 1,.slice none 0 0,.slice none 0 0]) evD :=
 ⟨_,_,_,rfl,⟨N,0,⟨_,1,rfl,Nat.le_refl _,by simp [maxLen],fun _=>rfl⟩,⟨h.has,trivial⟩⟩,Sl.nil _ _,Sl.nil _ _⟩
theorem evD_ok:evD.ok where
 wf:={
  signals:=by
   intro x hx
   simp [evD] at hx
   subst hx
   refine ⟨by unfold i64r;decide,by unfold i64r;decide,by unfold u64r;decide,by decide⟩
  procs:=by intro p hp;cases hp
  checks:=by intro c hc;cases hc }
 nodes:=by decide +kernel
 signals:=by decide
 procs:=by decide
 checks:=by decide
theorem evX_wf:evX.wf:=by simp [E.wf,E.wf.wfs,evX,binE,sigX,numE,i64r,u64r]
theorem evY_wf:evY.wf:=by simp [E.wf,E.wf.wfs,evY,numE,i64r,u64r]
theorem evZ_wf:evZ.wf:=by simp [E.wf,E.wf.wfs,evZ,binE,numE,i64r,u64r]
theorem ev_ck:checkM evD=0:=by decide +kernel
theorem ev_may {e:E} (h:checkEM evD.signals e=0):mayM evD e=true:=by unfold mayM;rw [h,ev_ck];rfl
theorem ev_cx:checkEM evD.signals evX=0:=by decide +kernel
theorem ev_cy:checkEM evD.signals evY=0:=by decide +kernel
theorem ev_cz:checkEM evD.signals evZ=0:=by decide +kernel
theorem ev_1:evalM evD [9] evX=(1,0):=by unfold evalM;rw [if_pos ⟨by decide +kernel,ev_cx⟩,show evM [9] evX=1 by decide +kernel]
theorem ev_2:evalM evD [9] evY=(1,0):=by unfold evalM;rw [if_pos ⟨by decide +kernel,ev_cy⟩,show evM [9] evY=1 by decide +kernel]
theorem ev_3:evalM evD [16] evX=(0,1):=by unfold evalM;rw [if_neg (fun h=>absurd h.1 (by decide +kernel))]
theorem ev_f1:(foldR evD evY).2=0∧eqE (foldR evD evY).1 (sigX 1 0 3 3)=true:=by unfold foldR;rw [if_pos (ev_may ev_cy)];exact ⟨rfl,by decide +kernel⟩
theorem ev_f2:(foldR evD evZ).2=0∧eqE (foldR evD evZ).1 (numE 2 3)=true:=by unfold foldR;rw [if_pos (ev_may ev_cz)];exact ⟨rfl,by decide +kernel⟩
theorem ev_n1:needsM evD evX=([1,2,3],0):=by
 unfold needsM;rw [if_pos (ev_may ev_cx),show bitsM evD.signals evX=[1,2,3] by decide +kernel,setI_eq _ [1,2,3] (by decide) (fun _=>Iff.rfl)]
theorem ev_n2:needsM evD evY=([0,1,2,3],0):=by
 unfold needsM;rw [if_pos (ev_may ev_cy),show bitsM evD.signals evY=[0,1,2,3] by decide +kernel,setI_eq _ [0,1,2,3] (by decide) (fun _=>Iff.rfl)]
theorem ev_v1:valsOk evD [15]=true:=by decide +kernel
theorem ev_v2:valsOk evD []=false:=by decide +kernel
open Go.RowKit
theorem forget {P:Program} {C:Code} {Q:Exit→Act→World→Prop} {a:Act} {w:World} (fr:(Nat→Value)→Act) (h:a=fr (fun i=>a.tmps.getD i undef)) (k:∀ f,C.wp P Q (fr f) w):C.wp P Q a w:=by
 rw [h];exact k _
open Go.RowKit
set_option maxRecDepth 100000 in
set_option maxHeartbeats 8000000 in
theorem live10_calls (w:World):Calls Tryz.prog 17 #[] w fun r w'=>r=.returned (.bool true)∧Ext w w':=by
 go_enter Tryz.func17,Tryz.ntmps17
 go_wp2_with ((with_reducible show Jw (Op.buildSlice _ _ _));refine Hid.out ?_)
 refine Lib.hid ?_
 have hx1:=ext_alloc w (.cells evS.toArray 36)
 have hb1:=Blk.new w evS.toArray 36
 refine wpList_bs1 rfl _ _ rfl appSignal rfl (cs:=evS) rfl rfl (by decide) ?_
 generalize w.alloc _=w1 at *
 obtain ⟨N,hN⟩ : ∃ N,w.heap.size=N:=⟨_,rfl⟩
 rw [hN] at hb1 ⊢
 clear hN
 have hx2:=ext_alloc w1 (.cells [Value.slice (some ⟨N,0,none⟩) 1 1,.slice none 0 0,.slice none 0 0].toArray 26)
 have hb2:=Blk.new w1 [Value.slice (some ⟨N,0,none⟩) 1 1,.slice none 0 0,.slice none 0 0].toArray 26
 go_upto_region 2 with (((with_reducible show Jw (Op.store 26 _ _));refine wpList_store_new rfl 26 _ _ rfl rfl (by first | rfl | simp) rfl agg_Flat (rfl) rfl (by simp [Value.oneCell']) ?_))
 generalize w1.alloc _=w2 at *
 obtain ⟨B1,hB1⟩ : ∃ B1,w1.heap.size=B1:=⟨_,rfl⟩
 rw [hB1] at hb2 ⊢
 clear hB1
 have HB1:=Lib.hid hb2
 have HBS:=Lib.hid (hb1.ext hx2)
 have HX:=Lib.hid (hx1.trans hx2)
 clear hb1 hb2 hx1 hx2
 go_upto_region 3 with (first | (go_at_call 37;refine (sig_calls 3 0 3 1 _).mono ?_;rintro r waX ⟨rfl,hxaX⟩) | (go_at_call 36;refine (num_calls 3 5 _).mono ?_;rintro r wbX ⟨rfl,hxbX⟩) | (go_at_call 33;refine (bin_calls 3 14 (sigX 3 0 3 1) (numE 3 5) _ _ wbX ⟨_,rfl,Sl.nil _ _⟩ ⟨_,rfl,Sl.nil _ _⟩).mono ?_;rintro r wcX ⟨csX,rfl,hvX,hxcX⟩;have HVX:=Lib.hid hvX;clear hvX) | ((with_reducible show Jw (Op.store 44 _ _));refine wpList_store_new rfl 44 _ _ rfl rfl (by first | rfl | simp) rfl agg_E (HVX.out.len8) rfl (HVX.out.one) ?_))
 have hxdX:=ext_alloc wcX (.cells csX.toArray 44)
 have hbdX:=Blk.new wcX csX.toArray 44
 generalize wcX.alloc _=wdX at *
 obtain ⟨BX,hBX⟩ : ∃ B,wcX.heap.size=B:=⟨_,rfl⟩
 rw [hBX] at hbdX ⊢
 clear hBX
 replace HB1:=Lib.hid (HB1.out.ext (((hxaX.trans hxbX).trans hxcX).trans hxdX))
 replace HBS:=Lib.hid (HBS.out.ext (((hxaX.trans hxbX).trans hxcX).trans hxdX))
 replace HX:=Lib.hid (HX.out.trans (((hxaX.trans hxbX).trans hxcX).trans hxdX))
 have HBX:=Lib.hid hbdX
 have HLX:=Lib.hid HVX.out.len8
 replace HVX:=Lib.hid (HVX.out.ext hxdX)
 clear hbdX hxaX hxbX hxcX hxdX
 go_wp2_with (first | (go_at_call 36;refine (num_calls 2 3 _).mono ?_;rintro r waY ⟨rfl,hxaY⟩) | ((with_reducible show Jw (Op.buildSlice _ _ _));refine Hid.out ?_))
 refine Lib.hid ?_
 have hxbY:=ext_alloc waY (.cells ((numE 2 3).cells (.slice none 0 0)).toArray 44)
 have hbbY:=Blk.new waY ((numE 2 3).cells (.slice none 0 0)).toArray 44
 refine wpList_bs1 rfl _ _ rfl appE rfl (cs:=(numE 2 3).cells (.slice none 0 0)) rfl rfl (by decide) ?_
 generalize waY.alloc _=wbY at *
 obtain ⟨G,hG⟩ : ∃ B,waY.heap.size=B:=⟨_,rfl⟩
 rw [hG] at hbbY ⊢
 clear hG
 have hveY:VE wbY [Value.int .i64 3,.int .i64 1,.int .u64 0,.int .i64 0,.int .i64 0,.int .i64 0,.int .i64 0,.slice (some ⟨G,0,none⟩) 1 1] evY:=⟨_,rfl,⟨G,0,⟨_,1,rfl,Nat.le_refl _,by simp [maxLen],fun _=>rfl⟩,⟨EAt_iff.2 ⟨_,hbbY.has,Sl.nil _ _⟩,trivial⟩⟩⟩
 have HVY:=Lib.hid hveY
 clear hveY hbbY
 have hxdY:=ext_alloc wbY (.cells [Value.int .i64 3,.int .i64 1,.int .u64 0,.int .i64 0,.int .i64 0,.int .i64 0,.int .i64 0,.slice (some ⟨G,0,none⟩) 1 1].toArray 44)
 have hbdY:=Blk.new wbY [Value.int .i64 3,.int .i64 1,.int .u64 0,.int .i64 0,.int .i64 0,.int .i64 0,.int .i64 0,.slice (some ⟨G,0,none⟩) 1 1].toArray 44
 go_upto_region 4 with (((with_reducible show Jw (Op.store 44 _ _));refine wpList_store_new rfl 44 _ _ rfl rfl (by first | rfl | simp) rfl agg_E (rfl) rfl (by simp [Value.oneCell',one_int]) ?_))
 generalize wbY.alloc _=wdY at *
 obtain ⟨BY,hBY⟩ : ∃ B,wbY.heap.size=B:=⟨_,rfl⟩
 rw [hBY] at hbdY ⊢
 clear hBY
 obtain ⟨csY,hcsY⟩ : ∃ c,[Value.int .i64 3,.int .i64 1,.int .u64 0,.int .i64 0,.int .i64 0,.int .i64 0,.int .i64 0,.slice (some ⟨G,0,none⟩) 1 1]=c:=⟨_,rfl⟩
 rw [hcsY] at hbdY HVY
 clear hcsY
 replace HB1:=Lib.hid (HB1.out.ext ((hxaY.trans hxbY).trans hxdY))
 replace HBS:=Lib.hid (HBS.out.ext ((hxaY.trans hxbY).trans hxdY))
 replace HBX:=Lib.hid (HBX.out.ext ((hxaY.trans hxbY).trans hxdY))
 replace HVX:=Lib.hid (HVX.out.ext ((hxaY.trans hxbY).trans hxdY))
 replace HX:=Lib.hid (HX.out.trans ((hxaY.trans hxbY).trans hxdY))
 have HBY:=Lib.hid hbdY
 have HLY:=Lib.hid HVY.out.len8
 replace HVY:=Lib.hid (HVY.out.ext hxdY)
 clear hbdY hxaY hxbY hxdY
 go_upto_region 5 with (first | (go_at_call 36;refine (num_calls 2 1 _).mono ?_;rintro r waZ ⟨rfl,hxaZ⟩) | (go_at_call 36;refine (num_calls 2 2 _).mono ?_;rintro r wbZ ⟨rfl,hxbZ⟩) | (go_at_call 33;refine (bin_calls 2 14 (numE 2 1) (numE 2 2) _ _ wbZ ⟨_,rfl,Sl.nil _ _⟩ ⟨_,rfl,Sl.nil _ _⟩).mono ?_;rintro r wcZ ⟨csZ,rfl,hvZ,hxcZ⟩;have HVZ:=Lib.hid hvZ;clear hvZ) | ((with_reducible show Jw (Op.store 44 _ _));refine wpList_store_new rfl 44 _ _ rfl rfl (by first | rfl | simp) rfl agg_E (HVZ.out.len8) rfl (HVZ.out.one) ?_))
 have hxdZ:=ext_alloc wcZ (.cells csZ.toArray 44)
 have hbdZ:=Blk.new wcZ csZ.toArray 44
 generalize wcZ.alloc _=wdZ at *
 obtain ⟨BZ,hBZ⟩ : ∃ B,wcZ.heap.size=B:=⟨_,rfl⟩
 rw [hBZ] at hbdZ ⊢
 clear hBZ
 replace HB1:=Lib.hid (HB1.out.ext (((hxaZ.trans hxbZ).trans hxcZ).trans hxdZ))
 replace HBS:=Lib.hid (HBS.out.ext (((hxaZ.trans hxbZ).trans hxcZ).trans hxdZ))
 replace HBX:=Lib.hid (HBX.out.ext (((hxaZ.trans hxbZ).trans hxcZ).trans hxdZ))
 replace HBY:=Lib.hid (HBY.out.ext (((hxaZ.trans hxbZ).trans hxcZ).trans hxdZ))
 replace HVX:=Lib.hid (HVX.out.ext (((hxaZ.trans hxbZ).trans hxcZ).trans hxdZ))
 replace HVY:=Lib.hid (HVY.out.ext (((hxaZ.trans hxbZ).trans hxcZ).trans hxdZ))
 replace HX:=Lib.hid (HX.out.trans (((hxaZ.trans hxbZ).trans hxcZ).trans hxdZ))
 have HBZ:=Lib.hid hbdZ
 have HLZ:=Lib.hid HVZ.out.len8
 replace HVZ:=Lib.hid (HVZ.out.ext hxdZ)
 clear hbdZ hxaZ hxbZ hxcZ hxdZ
 have d0:=HB1.out.has
 go_wp2_with (first | ((with_reducible show Jw (Op.load 26 _));refine wpList_load_has rfl 26 _ rfl rfl (d0) agg_Flat rfl ?_) | ((with_reducible show Jw (Op.buildSlice _ _ _));refine Hid.out ?_))
 refine Lib.hid ?_
 refine wpList_bs1 rfl _ _ rfl appU64 rfl (cs:=[.int .u64 9]) rfl rfl (by decide) ?_
 clear d0
 have hxu1:=ext_alloc wdZ (.cells [Value.int .u64 9].toArray 34)
 have hbu1:=Blk.new wdZ [Value.int .u64 9].toArray 34
 generalize wdZ.alloc _=wu1 at *
 obtain ⟨U1,hU1⟩ : ∃ B,wdZ.heap.size=B:=⟨_,rfl⟩
 rw [hU1] at hbu1 ⊢
 clear hU1
 replace HB1:=Lib.hid (HB1.out.ext hxu1)
 replace HBS:=Lib.hid (HBS.out.ext hxu1)
 replace HBX:=Lib.hid (HBX.out.ext hxu1)
 replace HBY:=Lib.hid (HBY.out.ext hxu1)
 replace HBZ:=Lib.hid (HBZ.out.ext hxu1)
 replace HVX:=Lib.hid (HVX.out.ext hxu1)
 replace HVY:=Lib.hid (HVY.out.ext hxu1)
 replace HVZ:=Lib.hid (HVZ.out.ext hxu1)
 replace HX:=Lib.hid (HX.out.trans hxu1)
 have hus1:Us wu1 (.slice (some ⟨U1,0,none⟩) 1 1) [9]:=⟨U1,0,⟨_,1,rfl,Nat.le_refl _,by simp [maxLen],fun _=>rfl⟩,⟨hbu1.has,trivial⟩⟩
 have hev1:=Eval_calls evD _ [9] _ evX csX wu1 (evD_at HBS.out) evD_ok hus1 (by intro x hx;simp at hx;subst hx;decide) HVX.out evX_wf (by decide +kernel)
 rw [ev_1] at hev1
 have HEV1:=Lib.hid hev1
 clear hev1 hus1 hbu1 hxu1
 have e0:=HBX.out.has
 have e8:=HLX.out
 go_upto_region 6 with (first | ((with_reducible show Jw (Op.load 44 _));refine wpList_load_has rfl 44 _ rfl rfl (e0) agg_E e8 ?_) | (go_at_call 19;refine HEV1.out.mono ?_;rintro r wv1 ⟨rfl,hxv1⟩))
 clear e0 e8
 clear HEV1
 replace HB1:=Lib.hid (HB1.out.ext hxv1)
 replace HBS:=Lib.hid (HBS.out.ext hxv1)
 replace HBX:=Lib.hid (HBX.out.ext hxv1)
 replace HBY:=Lib.hid (HBY.out.ext hxv1)
 replace HBZ:=Lib.hid (HBZ.out.ext hxv1)
 replace HVX:=Lib.hid (HVX.out.ext hxv1)
 replace HVY:=Lib.hid (HVY.out.ext hxv1)
 replace HVZ:=Lib.hid (HVZ.out.ext hxv1)
 replace HX:=Lib.hid (HX.out.trans hxv1)
 clear hxv1
 have d0:=HB1.out.has
 go_wp2_with (first | ((with_reducible show Jw (Op.load 26 _));refine wpList_load_has rfl 26 _ rfl rfl (d0) agg_Flat rfl ?_) | ((with_reducible show Jw (Op.buildSlice _ _ _));refine Hid.out ?_))
 refine Lib.hid ?_
 refine wpList_bs1 rfl _ _ rfl appU64 rfl (cs:=[.int .u64 9]) rfl rfl (by decide) ?_
 clear d0
 have hxu2:=ext_alloc wv1 (.cells [Value.int .u64 9].toArray 34)
 have hbu2:=Blk.new wv1 [Value.int .u64 9].toArray 34
 generalize wv1.alloc _=wu2 at *
 obtain ⟨U2,hU2⟩ : ∃ B,wv1.heap.size=B:=⟨_,rfl⟩
 rw [hU2] at hbu2 ⊢
 clear hU2
 replace HB1:=Lib.hid (HB1.out.ext hxu2)
 replace HBS:=Lib.hid (HBS.out.ext hxu2)
 replace HBX:=Lib.hid (HBX.out.ext hxu2)
 replace HBY:=Lib.hid (HBY.out.ext hxu2)
 replace HBZ:=Lib.hid (HBZ.out.ext hxu2)
 replace HVX:=Lib.hid (HVX.out.ext hxu2)
 replace HVY:=Lib.hid (HVY.out.ext hxu2)
 replace HVZ:=Lib.hid (HVZ.out.ext hxu2)
 replace HX:=Lib.hid (HX.out.trans hxu2)
 have hus2:Us wu2 (.slice (some ⟨U2,0,none⟩) 1 1) [9]:=⟨U2,0,⟨_,1,rfl,Nat.le_refl _,by simp [maxLen],fun _=>rfl⟩,⟨hbu2.has,trivial⟩⟩
 have hev2:=Eval_calls evD _ [9] _ evY csY wu2 (evD_at HBS.out) evD_ok hus2 (by intro x hx;simp at hx;subst hx;decide) HVY.out evY_wf (by decide +kernel)
 rw [ev_2] at hev2
 have HEV2:=Lib.hid hev2
 clear hev2 hus2 hbu2 hxu2
 have e0:=HBY.out.has
 have e8:=HLY.out
 go_upto_region 7 with (first | ((with_reducible show Jw (Op.load 44 _));refine wpList_load_has rfl 44 _ rfl rfl (e0) agg_E e8 ?_) | (go_at_call 19;refine HEV2.out.mono ?_;rintro r wv2 ⟨rfl,hxv2⟩))
 clear e0 e8
 clear HEV2
 replace HB1:=Lib.hid (HB1.out.ext hxv2)
 replace HBS:=Lib.hid (HBS.out.ext hxv2)
 replace HBX:=Lib.hid (HBX.out.ext hxv2)
 replace HBY:=Lib.hid (HBY.out.ext hxv2)
 replace HBZ:=Lib.hid (HBZ.out.ext hxv2)
 replace HVX:=Lib.hid (HVX.out.ext hxv2)
 replace HVY:=Lib.hid (HVY.out.ext hxv2)
 replace HVZ:=Lib.hid (HVZ.out.ext hxv2)
 replace HX:=Lib.hid (HX.out.trans hxv2)
 clear hxv2
 have d0:=HB1.out.has
 go_wp2_with (first | ((with_reducible show Jw (Op.load 26 _));refine wpList_load_has rfl 26 _ rfl rfl (d0) agg_Flat rfl ?_) | ((with_reducible show Jw (Op.buildSlice _ _ _));refine Hid.out ?_))
 refine Lib.hid ?_
 refine wpList_bs1 rfl _ _ rfl appU64 rfl (cs:=[.int .u64 16]) rfl rfl (by decide) ?_
 clear d0
 have hxu3:=ext_alloc wv2 (.cells [Value.int .u64 16].toArray 34)
 have hbu3:=Blk.new wv2 [Value.int .u64 16].toArray 34
 generalize wv2.alloc _=wu3 at *
 obtain ⟨U3,hU3⟩ : ∃ B,wv2.heap.size=B:=⟨_,rfl⟩
 rw [hU3] at hbu3 ⊢
 clear hU3
 replace HB1:=Lib.hid (HB1.out.ext hxu3)
 replace HBS:=Lib.hid (HBS.out.ext hxu3)
 replace HBX:=Lib.hid (HBX.out.ext hxu3)
 replace HBY:=Lib.hid (HBY.out.ext hxu3)
 replace HBZ:=Lib.hid (HBZ.out.ext hxu3)
 replace HVX:=Lib.hid (HVX.out.ext hxu3)
 replace HVY:=Lib.hid (HVY.out.ext hxu3)
 replace HVZ:=Lib.hid (HVZ.out.ext hxu3)
 replace HX:=Lib.hid (HX.out.trans hxu3)
 have hus3:Us wu3 (.slice (some ⟨U3,0,none⟩) 1 1) [16]:=⟨U3,0,⟨_,1,rfl,Nat.le_refl _,by simp [maxLen],fun _=>rfl⟩,⟨hbu3.has,trivial⟩⟩
 have hev3:=Eval_calls evD _ [16] _ evX csX wu3 (evD_at HBS.out) evD_ok hus3 (by intro x hx;simp at hx;subst hx;decide) HVX.out evX_wf (by decide +kernel)
 rw [ev_3] at hev3
 have HEV3:=Lib.hid hev3
 clear hev3 hus3 hbu3 hxu3
 have e0:=HBX.out.has
 have e8:=HLX.out
 go_upto_region 8 with (first | ((with_reducible show Jw (Op.load 44 _));refine wpList_load_has rfl 44 _ rfl rfl (e0) agg_E e8 ?_) | (go_at_call 19;refine HEV3.out.mono ?_;rintro r wv3 ⟨rfl,hxv3⟩))
 clear e0 e8
 clear HEV3
 replace HB1:=Lib.hid (HB1.out.ext hxv3)
 replace HBS:=Lib.hid (HBS.out.ext hxv3)
 replace HBX:=Lib.hid (HBX.out.ext hxv3)
 replace HBY:=Lib.hid (HBY.out.ext hxv3)
 replace HBZ:=Lib.hid (HBZ.out.ext hxv3)
 replace HVX:=Lib.hid (HVX.out.ext hxv3)
 replace HVY:=Lib.hid (HVY.out.ext hxv3)
 replace HVZ:=Lib.hid (HVZ.out.ext hxv3)
 replace HX:=Lib.hid (HX.out.trans hxv3)
 clear hxv3
 have d0:=HB1.out.has
 have e0:=HBY.out.has
 have e8:=HLY.out
 have hf:=Fold_calls evD _ evY csY wv3 (evD_at HBS.out) evD_ok HVY.out evY_wf (by decide +kernel)
 rw [ev_f1.1] at hf
 have HF:=Lib.hid hf
 clear hf
 go_upto_region 9 with (first | ((with_reducible show Jw (Op.load 26 _));refine wpList_load_has rfl 26 _ rfl rfl (d0) agg_Flat rfl ?_) | ((with_reducible show Jw (Op.load 44 _));refine wpList_load_has rfl 44 _ rfl rfl (e0) agg_E e8 ?_) | (go_at_call 23;refine HF.out.mono ?_;rintro r wfY ⟨cfY,rfl,hvfY,hxfY⟩;have HFY:=Lib.hid hvfY.here;clear hvfY) | ((with_reducible show Jw (Op.store 44 _ _));refine wpList_store_new rfl 44 _ _ rfl rfl (by first | rfl | simp) rfl agg_E (HFY.out.len8) rfl (HFY.out.one) ?_))
 clear d0 e0 e8 HF
 have hxgY:=ext_alloc wfY (.cells cfY.toArray 44)
 have hbgY:=Blk.new wfY cfY.toArray 44
 generalize wfY.alloc _=wgY at *
 obtain ⟨FY,hFY⟩ : ∃ B,wfY.heap.size=B:=⟨_,rfl⟩
 rw [hFY] at hbgY ⊢
 clear hFY
 replace HB1:=Lib.hid (HB1.out.ext (hxfY.trans hxgY))
 replace HBS:=Lib.hid (HBS.out.ext (hxfY.trans hxgY))
 replace HBX:=Lib.hid (HBX.out.ext (hxfY.trans hxgY))
 replace HBY:=Lib.hid (HBY.out.ext (hxfY.trans hxgY))
 replace HBZ:=Lib.hid (HBZ.out.ext (hxfY.trans hxgY))
 replace HVX:=Lib.hid (HVX.out.ext (hxfY.trans hxgY))
 replace HVY:=Lib.hid (HVY.out.ext (hxfY.trans hxgY))
 replace HVZ:=Lib.hid (HVZ.out.ext (hxfY.trans hxgY))
 replace HX:=Lib.hid (HX.out.trans (hxfY.trans hxgY))
 have HGY:=Lib.hid hbgY
 have HMY:=Lib.hid HFY.out.len8
 replace HFY:=Lib.hid (HFY.out.ext hxgY)
 clear hbgY hxfY hxgY
 have d0:=HB1.out.has
 have e0:=HBZ.out.has
 have e8:=HLZ.out
 have hf:=Fold_calls evD _ evZ csZ wgY (evD_at HBS.out) evD_ok HVZ.out evZ_wf (by decide +kernel)
 rw [ev_f2.1] at hf
 have HF:=Lib.hid hf
 clear hf
 go_upto_region 10 with (first | ((with_reducible show Jw (Op.load 26 _));refine wpList_load_has rfl 26 _ rfl rfl (d0) agg_Flat rfl ?_) | ((with_reducible show Jw (Op.load 44 _));refine wpList_load_has rfl 44 _ rfl rfl (e0) agg_E e8 ?_) | (go_at_call 23;refine HF.out.mono ?_;rintro r wfZ ⟨cfZ,rfl,hvfZ,hxfZ⟩;have HFZ:=Lib.hid hvfZ.here;clear hvfZ) | ((with_reducible show Jw (Op.store 44 _ _));refine wpList_store_new rfl 44 _ _ rfl rfl (by first | rfl | simp) rfl agg_E (HFZ.out.len8) rfl (HFZ.out.one) ?_))
 clear d0 e0 e8 HF
 have hxgZ:=ext_alloc wfZ (.cells cfZ.toArray 44)
 have hbgZ:=Blk.new wfZ cfZ.toArray 44
 generalize wfZ.alloc _=wgZ at *
 obtain ⟨FZ,hFZ⟩ : ∃ B,wfZ.heap.size=B:=⟨_,rfl⟩
 rw [hFZ] at hbgZ ⊢
 clear hFZ
 replace HB1:=Lib.hid (HB1.out.ext (hxfZ.trans hxgZ))
 replace HBS:=Lib.hid (HBS.out.ext (hxfZ.trans hxgZ))
 replace HBX:=Lib.hid (HBX.out.ext (hxfZ.trans hxgZ))
 replace HBY:=Lib.hid (HBY.out.ext (hxfZ.trans hxgZ))
 replace HBZ:=Lib.hid (HBZ.out.ext (hxfZ.trans hxgZ))
 replace HGY:=Lib.hid (HGY.out.ext (hxfZ.trans hxgZ))
 replace HVX:=Lib.hid (HVX.out.ext (hxfZ.trans hxgZ))
 replace HVY:=Lib.hid (HVY.out.ext (hxfZ.trans hxgZ))
 replace HVZ:=Lib.hid (HVZ.out.ext (hxfZ.trans hxgZ))
 replace HFY:=Lib.hid (HFY.out.ext (hxfZ.trans hxgZ))
 replace HX:=Lib.hid (HX.out.trans (hxfZ.trans hxgZ))
 have HGZ:=Lib.hid hbgZ
 have HMZ:=Lib.hid HFZ.out.len8
 replace HFZ:=Lib.hid (HFZ.out.ext hxgZ)
 clear hbgZ hxfZ hxgZ
 have d0:=HB1.out.has
 have e0:=HBX.out.has
 have e8:=HLX.out
 have hf:=Needs_calls evD _ evX csX wgZ (evD_at HBS.out) evD_ok HVX.out evX_wf (by decide +kernel)
 rw [ev_n1] at hf
 have HF:=Lib.hid hf
 clear hf
 go_upto_region 11 with (first | ((with_reducible show Jw (Op.load 26 _));refine wpList_load_has rfl 26 _ rfl rfl (d0) agg_Flat rfl ?_) | ((with_reducible show Jw (Op.load 44 _));refine wpList_load_has rfl 44 _ rfl rfl (e0) agg_E e8 ?_) | (go_at_call 25;refine HF.out.mono ?_;rintro r wnX ⟨unX,rfl,hrnX,hxnX⟩))
 clear d0 e0 e8 HF
 replace HB1:=Lib.hid (HB1.out.ext hxnX)
 replace HBS:=Lib.hid (HBS.out.ext hxnX)
 replace HBX:=Lib.hid (HBX.out.ext hxnX)
 replace HBY:=Lib.hid (HBY.out.ext hxnX)
 replace HBZ:=Lib.hid (HBZ.out.ext hxnX)
 replace HGY:=Lib.hid (HGY.out.ext hxnX)
 replace HGZ:=Lib.hid (HGZ.out.ext hxnX)
 replace HVX:=Lib.hid (HVX.out.ext hxnX)
 replace HVY:=Lib.hid (HVY.out.ext hxnX)
 replace HVZ:=Lib.hid (HVZ.out.ext hxnX)
 replace HFY:=Lib.hid (HFY.out.ext hxnX)
 replace HFZ:=Lib.hid (HFZ.out.ext hxnX)
 replace HX:=Lib.hid (HX.out.trans hxnX)
 have HNX:=Lib.hid hrnX
 clear hrnX hxnX
 have d0:=HB1.out.has
 have e0:=HBY.out.has
 have e8:=HLY.out
 have hf:=Needs_calls evD _ evY csY wnX (evD_at HBS.out) evD_ok HVY.out evY_wf (by decide +kernel)
 rw [ev_n2] at hf
 have HF:=Lib.hid hf
 clear hf
 go_upto_region 12 with (first | ((with_reducible show Jw (Op.load 26 _));refine wpList_load_has rfl 26 _ rfl rfl (d0) agg_Flat rfl ?_) | ((with_reducible show Jw (Op.load 44 _));refine wpList_load_has rfl 44 _ rfl rfl (e0) agg_E e8 ?_) | (go_at_call 25;refine HF.out.mono ?_;rintro r wnY ⟨unY,rfl,hrnY,hxnY⟩))
 clear d0 e0 e8 HF
 replace HB1:=Lib.hid (HB1.out.ext hxnY)
 replace HBS:=Lib.hid (HBS.out.ext hxnY)
 replace HBX:=Lib.hid (HBX.out.ext hxnY)
 replace HBY:=Lib.hid (HBY.out.ext hxnY)
 replace HBZ:=Lib.hid (HBZ.out.ext hxnY)
 replace HGY:=Lib.hid (HGY.out.ext hxnY)
 replace HGZ:=Lib.hid (HGZ.out.ext hxnY)
 replace HVX:=Lib.hid (HVX.out.ext hxnY)
 replace HVY:=Lib.hid (HVY.out.ext hxnY)
 replace HVZ:=Lib.hid (HVZ.out.ext hxnY)
 replace HFY:=Lib.hid (HFY.out.ext hxnY)
 replace HFZ:=Lib.hid (HFZ.out.ext hxnY)
 replace HNX:=Lib.hid (HNX.out.ext hxnY)
 replace HX:=Lib.hid (HX.out.trans hxnY)
 have HNY:=Lib.hid hrnY
 clear hrnY hxnY
 obtain ⟨gX,cX,rfl,-,hcX⟩:=HNX.out.open1 (by decide)
 obtain ⟨gY,cY,rfl,-,hcY⟩:=HNY.out.open1 (by decide)
 have zx0:=hcX 0 1 rfl
 have zx2:=hcX 2 3 rfl
 have ZX0:=Lib.hid zx0
 have ZX2:=Lib.hid zx2
 clear hcX hcY zx0 zx2 HNX HNY HVX HVY HVZ HBX HBY HBZ HLX HLY HLZ
 refine forget (fun f=>⟨#[.bool false,.pointer (some ⟨B1,0,Option.none⟩),f 2,f 3,f 4,.int .u64 1,.int .i64 0,.int .u64 1,.int .i64 0,f 9,.int .i64 1,.pointer (some ⟨FY,0,Option.none⟩),.int .i64 0,.pointer (some ⟨FZ,0,Option.none⟩),.int .i64 0,.slice (some ⟨gX,0,Option.none⟩) 3 cX,.int .i64 0,.slice (some ⟨gY,0,Option.none⟩) 4 cY,.int .i64 0,f 19,f 20,f 21,f 22,f 23,f 24,f 25,f 26,f 27,f 28,f 29,f 30,f 31,f 32,f 33,f 34,f 35,f 36,f 37,f 38,f 39,f 40,f 41,f 42,f 43,f 44,f 45,f 46,f 47,f 48,f 49,f 50,f 51,f 52,f 53,f 54,f 55,f 56,f 57,f 58,f 59,f 60,f 61,f 62,f 63,f 64,f 65,f 66,f 67,f 68,f 69,f 70,f 71,f 72,f 73,f 74,f 75,f 76,f 77,f 78,f 79,f 80,f 81,f 82,f 83,f 84,f 85,f 86,f 87,f 88,f 89,f 90,f 91,f 92,f 93,f 94,f 95,f 96,f 97,f 98,f 99,f 100,f 101,f 102,f 103,f 104,f 105,f 106,f 107,f 108,f 109,f 110,f 111,f 112,f 113,f 114,f 115,f 116,f 117,f 118,f 119,f 120,f 121,f 122,f 123,f 124,f 125,f 126,f 127,f 128,f 129,f 130,f 131,f 132,f 133,f 134,f 135,f 136,f 137,f 138,f 139,f 140,f 141,f 142,f 143,f 144,f 145,f 146,f 147,f 148,f 149,f 150,f 151,f 152],[]⟩) rfl ?_
 intro f
 simp only [List.append_eq,List.cons_append,List.nil_append]
 refine wp_region_held_drew (S:=fun W=>Ext wnY W) (by kernel_rfl) (Below.drew (Below.refl _ _)) (fun hHeld=>?_)
 try simp only [J]
 (refine Jt 0 (.int .u64 1) rfl (yif_load1 (by kernel_rfl) fun _ _=>rfl) hHeld ?_;try simp only [J])
 (refine Jt 1 (.bool true) rfl (yif_load1 (by kernel_rfl) (by intro W hW;clear hW;go_simp)) hHeld ?_;try simp only [J])
 (refine Jt 2 (.bool true) rfl (yif_load1 (by kernel_rfl) fun _ _=>rfl) hHeld ?_;try simp only [J])
 (refine Jt 3 (.int .i64 0) rfl (yif_load1 (by kernel_rfl) fun _ _=>rfl) hHeld ?_;try simp only [J])
 (refine Jt 4 (.bool true) rfl (yif_load1 (by kernel_rfl) (by intro W hW;clear hW;go_simp)) hHeld ?_;try simp only [J])
 (refine Jt 5 (.bool true) rfl (yif_load1 (by kernel_rfl) (by intro W hW;clear hW;go_simp)) hHeld ?_;try simp only [J])
 (refine Jt 6 (.bool true) rfl (yif_load1 (by kernel_rfl) fun _ _=>rfl) hHeld ?_;try simp only [J])
 (refine Jt 7 (.int .u64 1) rfl (yif_load1 (by kernel_rfl) fun _ _=>rfl) hHeld ?_;try simp only [J])
 (refine Jt 8 (.bool true) rfl (yif_load1 (by kernel_rfl) (by intro W hW;clear hW;go_simp)) hHeld ?_;try simp only [J])
 (refine Jt 9 (.bool true) rfl (yif_load1 (by kernel_rfl) (by intro W hW;clear hW;go_simp)) hHeld ?_;try simp only [J])
 (refine Jt 10 (.bool true) rfl (yif_load1 (by kernel_rfl) fun _ _=>rfl) hHeld ?_;try simp only [J])
 (refine Jt 11 (.int .i64 0) rfl (yif_load1 (by kernel_rfl) fun _ _=>rfl) hHeld ?_;try simp only [J])
 (refine Jt 12 (.bool true) rfl (yif_load1 (by kernel_rfl) (by intro W hW;clear hW;go_simp)) hHeld ?_;try simp only [J])
 (refine Jt 13 (.bool true) rfl (yif_load1 (by kernel_rfl) (by intro W hW;clear hW;go_simp)) hHeld ?_;try simp only [J])
 (refine Jt 14 (.bool true) rfl (yif_load1 (by kernel_rfl) fun _ _=>rfl) hHeld ?_;try simp only [J])
 (refine Jt 15 (.int .i64 1) rfl (yif_load1 (by kernel_rfl) fun _ _=>rfl) hHeld ?_;try simp only [J])
 (refine Jt 16 (.bool true) rfl (yif_load1 (by kernel_rfl) (by intro W hW;clear hW;go_simp)) hHeld ?_;try simp only [J])
 (refine Jt 17 (.bool true) rfl (yif_load1 (by kernel_rfl) (by intro W hW;clear hW;go_simp)) hHeld ?_;try simp only [J])
 (refine Jt 18 (.bool true) rfl (yif_load1 (by kernel_rfl) fun _ _=>rfl) hHeld ?_;try simp only [J])
 (refine Jt 19 (.agg cfY.toArray) rfl (yif_load (by kernel_rfl) 44 _ rfl rfl (fun W hW=>(HGY.out.ext hW).has) agg_E HMY.out) hHeld ?_;try simp only [J])
 (refine wpAnyH_ready (rs:=[20]) (by kernel_rfl) (by simp) ?_;refine AllReadyH.cons rfl (fun K hK=>?_) AllReadyH.nil)
 rw [if_pos (by kernel_rfl)]
 go_simp
 refine (sig_calls 1 0 3 3 _).mono ?_
 rintro r wA ⟨rfl,hxwA⟩
 refine hK.out _ _ (hHeld.trans hxwA) (fun hHeld=>?_)
 clear hK K
 try simp only [J]
 have hs1:=SameE_callsR _ _ _ _ wA (HFY.out.ext hHeld) (⟨_,rfl,Sl.nil _ _⟩ : VE wA ((sigX 1 0 3 3).cells (.slice none 0 0)) (sigX 1 0 3 3))
 rw [ev_f1.2] at hs1
 have HS1:=Lib.hid hs1
 clear hs1
 (refine wpAnyH_ready (rs:=[21]) (by kernel_rfl) (by simp) ?_;refine AllReadyH.cons rfl (fun K hK=>?_) AllReadyH.nil)
 rw [if_pos (by kernel_rfl)]
 go_simp
 refine (HS1.out).mono ?_
 rintro r wB ⟨rfl,hxwB⟩
 refine hK.out _ _ (hHeld.trans hxwB) (fun hHeld=>?_)
 clear hK K
 try simp only [J]
 (refine Jt 22 (.bool true) rfl (yif_load1 (by kernel_rfl) (by intro W hW;clear hW;go_simp)) hHeld ?_;try simp only [J])
 (refine Jt 23 (.bool true) rfl (yif_load1 (by kernel_rfl) fun _ _=>rfl) hHeld ?_;try simp only [J])
 (refine Jt 24 (.int .i64 0) rfl (yif_load1 (by kernel_rfl) fun _ _=>rfl) hHeld ?_;try simp only [J])
 (refine Jt 25 (.bool true) rfl (yif_load1 (by kernel_rfl) (by intro W hW;clear hW;go_simp)) hHeld ?_;try simp only [J])
 (refine Jt 26 (.bool true) rfl (yif_load1 (by kernel_rfl) (by intro W hW;clear hW;go_simp)) hHeld ?_;try simp only [J])
 (refine Jt 27 (.bool true) rfl (yif_load1 (by kernel_rfl) fun _ _=>rfl) hHeld ?_;try simp only [J])
 (refine Jt 28 (.agg cfZ.toArray) rfl (yif_load (by kernel_rfl) 44 _ rfl rfl (fun W hW=>(HGZ.out.ext hW).has) agg_E HMZ.out) hHeld ?_;try simp only [J])
 (refine wpAnyH_ready (rs:=[29]) (by kernel_rfl) (by simp) ?_;refine AllReadyH.cons rfl (fun K hK=>?_) AllReadyH.nil)
 rw [if_pos (by kernel_rfl)]
 go_simp
 refine (num_calls 2 3 _).mono ?_
 rintro r wC ⟨rfl,hxwC⟩
 refine hK.out _ _ (hHeld.trans hxwC) (fun hHeld=>?_)
 clear hK K
 try simp only [J]
 have hs2:=SameE_callsR _ _ _ _ wC (HFZ.out.ext hHeld) (⟨_,rfl,Sl.nil _ _⟩ : VE wC ((numE 2 3).cells (.slice none 0 0)) (numE 2 3))
 rw [ev_f2.2] at hs2
 have HS2:=Lib.hid hs2
 clear hs2
 (refine wpAnyH_ready (rs:=[30]) (by kernel_rfl) (by simp) ?_;refine AllReadyH.cons rfl (fun K hK=>?_) AllReadyH.nil)
 rw [if_pos (by kernel_rfl)]
 go_simp
 refine (HS2.out).mono ?_
 rintro r wD ⟨rfl,hxwD⟩
 refine hK.out _ _ (hHeld.trans hxwD) (fun hHeld=>?_)
 clear hK K
 try simp only [J]
 (refine Jt 31 (.bool true) rfl (yif_load1 (by kernel_rfl) (by intro W hW;clear hW;go_simp)) hHeld ?_;try simp only [J])
 (refine Jt 32 (.bool true) rfl (yif_load1 (by kernel_rfl) fun _ _=>rfl) hHeld ?_;try simp only [J])
 (refine Jt 33 (.int .i64 0) rfl (yif_load1 (by kernel_rfl) fun _ _=>rfl) hHeld ?_;try simp only [J])
 (refine Jt 34 (.bool true) rfl (yif_load1 (by kernel_rfl) (by intro W hW;clear hW;go_simp)) hHeld ?_;try simp only [J])
 (refine Jt 35 (.bool true) rfl (yif_load1 (by kernel_rfl) (by intro W hW;clear hW;go_simp)) hHeld ?_;try simp only [J])
 (refine Jt 36 (.bool true) rfl (yif_load1 (by kernel_rfl) fun _ _=>rfl) hHeld ?_;try simp only [J])
 (refine Jt 37 (.slice (some ⟨gX,0,Option.none⟩) 3 cX) rfl (yif_load1 (by kernel_rfl) fun _ _=>rfl) hHeld ?_;try simp only [J])
 (refine Jt 38 (.int .i64 3) rfl (yif_load1 (by kernel_rfl) (by intro W hW;clear hW;go_simp)) hHeld ?_;try simp only [J])
 (refine Jt 39 (.bool true) rfl (yif_load1 (by kernel_rfl) (by intro W hW;clear hW;go_simp)) hHeld ?_;try simp only [J])
 (refine Jt 40 (.bool true) rfl (yif_load1 (by kernel_rfl) (by intro W hW;clear hW;go_simp)) hHeld ?_;try simp only [J])
 (refine Jt 41 (.bool true) rfl (yif_load1 (by kernel_rfl) fun _ _=>rfl) hHeld ?_;try simp only [J])
 (refine Jt 42 (.slice (some ⟨gX,0,Option.none⟩) 3 cX) rfl (yif_load1 (by kernel_rfl) fun _ _=>rfl) hHeld ?_;try simp only [J])
 (refine Jt 43 (.pointer (some ⟨gX,0,Option.none⟩)) rfl (yif_load1 (by kernel_rfl) (by intro W hW;clear hW;go_simp)) hHeld ?_;try simp only [J])
 (refine Jt 44 (.int .i64 1) rfl (yif_load1 (by kernel_rfl) (by intro W hW;have y:=(hW.cell (p:=⟨gX,0,Option.none⟩) (World.block_lt_of_cell? _ _ ZX0.out)).trans ZX0.out;clear hW;go_simp)) hHeld ?_;try simp only [J])
 (refine Jt 45 (.bool true) rfl (yif_load1 (by kernel_rfl) (by intro W hW;clear hW;go_simp)) hHeld ?_;try simp only [J])
 (refine Jt 46 (.bool true) rfl (yif_load1 (by kernel_rfl) (by intro W hW;clear hW;go_simp)) hHeld ?_;try simp only [J])
 (refine Jt 47 (.bool true) rfl (yif_load1 (by kernel_rfl) fun _ _=>rfl) hHeld ?_;try simp only [J])
 (refine Jt 48 (.slice (some ⟨gX,0,Option.none⟩) 3 cX) rfl (yif_load1 (by kernel_rfl) fun _ _=>rfl) hHeld ?_;try simp only [J])
 (refine Jt 49 (.pointer (some ⟨gX,2,Option.none⟩)) rfl (yif_load1 (by kernel_rfl) (by intro W hW;clear hW;go_simp)) hHeld ?_;try simp only [J])
 (refine Jt 50 (.int .i64 3) rfl (yif_load1 (by kernel_rfl) (by intro W hW;have y:=(hW.cell (p:=⟨gX,2,Option.none⟩) (World.block_lt_of_cell? _ _ ZX2.out)).trans ZX2.out;clear hW;go_simp)) hHeld ?_;try simp only [J])
 (refine Jt 51 (.bool true) rfl (yif_load1 (by kernel_rfl) (by intro W hW;clear hW;go_simp)) hHeld ?_;try simp only [J])
 (refine Jt 52 (.bool true) rfl (yif_load1 (by kernel_rfl) (by intro W hW;clear hW;go_simp)) hHeld ?_;try simp only [J])
 (refine Jt 53 (.bool true) rfl (yif_load1 (by kernel_rfl) fun _ _=>rfl) hHeld ?_;try simp only [J])
 (refine Jt 54 (.int .i64 0) rfl (yif_load1 (by kernel_rfl) fun _ _=>rfl) hHeld ?_;try simp only [J])
 (refine Jt 55 (.bool true) rfl (yif_load1 (by kernel_rfl) (by intro W hW;clear hW;go_simp)) hHeld ?_;try simp only [J])
 (refine Jt 56 (.bool true) rfl (yif_load1 (by kernel_rfl) (by intro W hW;clear hW;go_simp)) hHeld ?_;try simp only [J])
 (refine Jt 57 (.bool true) rfl (yif_load1 (by kernel_rfl) fun _ _=>rfl) hHeld ?_;try simp only [J])
 (refine Jt 58 (.slice (some ⟨gY,0,Option.none⟩) 4 cY) rfl (yif_load1 (by kernel_rfl) fun _ _=>rfl) hHeld ?_;try simp only [J])
 (refine Jt 59 (.int .i64 4) rfl (yif_load1 (by kernel_rfl) (by intro W hW;clear hW;go_simp)) hHeld ?_;try simp only [J])
 (refine Jt 60 (.bool true) rfl (yif_load1 (by kernel_rfl) (by intro W hW;clear hW;go_simp)) hHeld ?_;try simp only [J])
 (refine Jt 61 (.bool true) rfl (yif_load1 (by kernel_rfl) (by intro W hW;clear hW;go_simp)) hHeld ?_;try simp only [J])
 (refine Jt 62 (.bool true) rfl (yif_load1 (by kernel_rfl) fun _ _=>rfl) hHeld ?_;try simp only [J])
 (refine Jt 63 (.int .i64 0) rfl (yif_load1 (by kernel_rfl) fun _ _=>rfl) hHeld ?_;try simp only [J])
 (refine Jt 64 (.bool true) rfl (yif_load1 (by kernel_rfl) (by intro W hW;clear hW;go_simp)) hHeld ?_;try simp only [J])
 (refine Jt 65 (.bool true) rfl (yif_load1 (by kernel_rfl) (by intro W hW;clear hW;go_simp)) hHeld ?_;try simp only [J])
 (refine Jt 66 (.bool true) rfl (yif_load1 (by kernel_rfl) fun _ _=>rfl) hHeld ?_;try simp only [J])
 (refine Jt 67 (.agg [Value.slice (some ⟨N,0,none⟩) 1 1,.slice none 0 0,.slice none 0 0].toArray) rfl (yif_load (by kernel_rfl) 26 _ rfl rfl (fun W hW=>(HB1.out.ext hW).has) agg_Flat rfl) hHeld ?_;try simp only [J])
 (refine wpAnyH_ready (rs:=[68]) (by kernel_rfl) (by simp) ?_;refine AllReadyH.cons rfl (fun K hK=>?_) AllReadyH.nil)
 refine step_bs1 (by kernel_rfl) _ _ rfl appU64 rfl (cs:=[Value.int .u64 15]) rfl rfl (by decide) ?_
 have hxu:=ext_alloc wD (.cells [Value.int .u64 15].toArray 34)
 have hbu:=Blk.new wD [Value.int .u64 15].toArray 34
 refine hK.out _ _ (hHeld.trans hxu) (fun hHeld=>?_)
 clear hK K
 generalize wD.alloc _=wE at *
 obtain ⟨U,hU⟩ : ∃ B,wD.heap.size=B:=⟨_,rfl⟩
 rw [hU] at hbu ⊢
 clear hU
 try simp only [J]
 have hv1:=Values_calls evD _ [15] (.slice (some ⟨U,0,none⟩) 1 1) wE (evD_at (HBS.out.ext hHeld)) evD_ok ⟨U,0,⟨_,1,rfl,Nat.le_refl _,by simp [maxLen],fun _=>rfl⟩,⟨hbu.has,trivial⟩⟩ (by intro x hx;simp at hx;subst hx;decide)
 rw [ev_v1,if_pos rfl] at hv1
 have HV1:=Lib.hid hv1
 clear hv1 hbu hxu
 (refine wpAnyH_ready (rs:=[69]) (by kernel_rfl) (by simp) ?_;refine AllReadyH.cons rfl (fun K hK=>?_) AllReadyH.nil)
 rw [if_pos (by kernel_rfl)]
 go_simp
 refine (HV1.out).mono ?_
 rintro r wF ⟨rfl,hxwF⟩
 refine hK.out _ _ (hHeld.trans hxwF) (fun hHeld=>?_)
 clear hK K
 try simp only [J]
 (refine Jt 70 (.bool true) rfl (yif_load1 (by kernel_rfl) (by intro W hW;clear hW;go_simp)) hHeld ?_;try simp only [J])
 (refine Jt 71 (.bool true) rfl (yif_load1 (by kernel_rfl) (by intro W hW;clear hW;go_simp)) hHeld ?_;try simp only [J])
 (refine Jt 72 (.bool true) rfl (yif_load1 (by kernel_rfl) fun _ _=>rfl) hHeld ?_;try simp only [J])
 (refine Jt 73 (.agg [Value.slice (some ⟨N,0,none⟩) 1 1,.slice none 0 0,.slice none 0 0].toArray) rfl (yif_load (by kernel_rfl) 26 _ rfl rfl (fun W hW=>(HB1.out.ext hW).has) agg_Flat rfl) hHeld ?_;try simp only [J])
 have hv2:=Values_calls evD _ [] (.slice none 0 0) wF (evD_at (HBS.out.ext hHeld)) evD_ok (Sl.nil _ _) (by intro x hx;cases hx)
 rw [ev_v2,if_neg (by simp)] at hv2
 have HV2:=Lib.hid hv2
 clear hv2
 (refine wpAnyH_ready (rs:=[74]) (by kernel_rfl) (by simp) ?_;refine AllReadyH.cons rfl (fun K hK=>?_) AllReadyH.nil)
 rw [if_pos (by kernel_rfl)]
 go_simp
 refine (HV2.out).mono ?_
 rintro r wG ⟨rfl,hxwG⟩
 refine hK.out _ _ (hHeld.trans hxwG) (fun hHeld=>?_)
 clear hK K
 try simp only [J]
 (refine Jt 75 (.bool true) rfl (yif_load1 (by kernel_rfl) (by intro W hW;clear hW;go_simp)) hHeld ?_;try simp only [J])
 (refine Jt 76 (.bool true) rfl (yif_load1 (by kernel_rfl) (by intro W hW;clear hW;go_simp)) hHeld ?_;try simp only [J])
 (refine Jt 77 (.bool true) rfl (yif_load1 (by kernel_rfl) fun _ _=>rfl) hHeld ?_;try simp only [J])
 refine wpAnyH_done (by kernel_rfl) ?_ _
 have HE:=Lib.hid (HX.out.trans hHeld)
 clear hHeld
 go_wp2_with fail
 go_ret
 exact ⟨rfl,HE.out⟩
end Go.Proofs.YtemabheegnngdaaGreat
