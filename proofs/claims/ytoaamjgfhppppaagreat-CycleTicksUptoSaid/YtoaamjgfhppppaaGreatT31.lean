/- Laws and walks that a claim of this seat leans on: Rows13, Live13. -/
import Derived.Test.YtoaamjgfhppppaaGreatT26
import Derived.Test.YtoaamjgfhppppaaGreatT03
import Derived.Test.YtoaamjgfhppppaaGreatT27
import Derived.Test.YtoaamjgfhppppaaGreatT30
import Derived.Test.YtoaamjgfhppppaaGreatT00
set_option maxRecDepth 100000
set_option maxHeartbeats 8000000
set_option linter.all false
namespace Go.Proofs.YtoaamjgfhppppaaGreat
open Go.RowKit
/-! ### filigreeref13.Bools -/
theorem Bools_calls13 (l r:List Bool) (v v':Value) (w:World) (h:Bools w v l) (h':Bools w v' r) (hn:l.length<=1099511627776) :
  Calls Tryz.prog 34 #[v,v'] w fun e w'=>e=.returned (.bool (decide (l=r)))/\Ext w w':=by
 obtain ⟨a,b,o,cap,rfl,hc1,hc2,ha,hr⟩:=h.open
 obtain ⟨a',b',o',cap',rfl,hd1,hd2,ha',hr'⟩:=h'.open
 have HR:=Jh hr
 have HA:=Jh ha
 have HR':=Jh hr'
 have HA':=Jh ha'
 clear hr ha h hr' ha' h'
 obtain ⟨t,ht⟩:∃ t,decide (l=r)=t:=⟨_,rfl⟩
 rw [ht]
 have HT:=Jh ht
 clear ht
 by_cases hlr:l.length=r.length
 ·have hlb:((l.length:Int) != (r.length:Int))=false:=by rw [bne_eq_false_iff_eq,hlr]
  have HLR:=Jh hlr
  obtain ⟨n,hnl⟩:∃ n,l.length=n:=⟨_,rfl⟩
  have HNL:=Jh hnl
  have HNR:=Jh (show r.length=n by rw [<-hlr];exact hnl)
  rw [<-hlr] at hd1 HA' ⊢
  rw [hnl] at hc1 hd1 HA HA' hn ⊢
  clear hlr hlb hnl
  go_enter Tryz.func34,Tryz.ntmps34
  go_wp2_with fail
  go_loopw [5] (fun i wr=>∃ k:Nat,k<=n/\i=.int .i64 k/\(∀ j,j<k->l[j]? = r[j]?)/\Ext w wr) (fun i _=>n-(intOf i).toNat)
  case atStart=>exact ⟨0,Nat.zero_le _,rfl,fun j hj=>absurd hj (by omega),Below.refl _ _⟩
  case round =>
   obtain ⟨k,hk,rfl,hsame,hx⟩:=hrel
   have HS:=Jh hsame
   have HX:=Jh hx
   clear hsame hx
   by_cases hlt:k<n
   ·obtain rfl:=HA.out (by omega)
    obtain rfl:=HA'.out (by omega)
    have HZ:=Jh (fun W (hx:Ext w W)=>show W.cell? ⟨b,o+k,none⟩=some (.bool (l[k]'(by rw [HNL.out];exact hlt))) from by have:=(HR.out.get (List.getElem?_eq_getElem (l:=l) (i:=k) (by rw [HNL.out];exact hlt))).ext hx 0 _ rfl;simpa using this)
    have HZ':=Jh (fun W (hx:Ext w W)=>show W.cell? ⟨b',o'+k,none⟩=some (.bool (r[k]'(by rw [HNR.out];exact hlt))) from by have:=(HR'.out.get (List.getElem?_eq_getElem (l:=r) (i:=k) (by rw [HNR.out];exact hlt))).ext hx 0 _ rfl;simpa using this)
    have HE:=Jh (show l[k]? = some (l[k]'(by rw [HNL.out];exact hlt)) from List.getElem?_eq_getElem _)
    have HE':=Jh (show r[k]? = some (r[k]'(by rw [HNR.out];exact hlt)) from List.getElem?_eq_getElem _)
    generalize l[k]'_=x at *
    generalize r[k]'_=y at *
    go_upto_region 6 with fail
    refine wp_region_held_drew (S:=fun W=>Ext w W) (by kernel_rfl) (Below.drew HX.out) (fun hH=>?_)
    try simp only [J]
    (refine Jt 0 (_) rfl (yif_load1 rfl fun _ _=>rfl) hH ?_;try simp only [J])
    (refine Jt 1 (_) rfl (yif_load1 rfl fun _ _=>rfl) hH ?_;try simp only [J])
    (refine Jt 2 (.pointer (some ⟨b,o+k,Option.none⟩)) rfl (yif_load1 rfl (by intro W hW;clear hW;go_simp;try (intro h;omega))) hH ?_;try simp only [J])
    (refine Jt 3 (.bool x) rfl (yif_load1 rfl (by intro W hW;have y:=HZ.out W hW;clear hW;go_simp)) hH ?_;try simp only [J])
    (refine Jt 4 (_) rfl (yif_load1 rfl fun _ _=>rfl) hH ?_;try simp only [J])
    (refine Jt 5 (_) rfl (yif_load1 rfl fun _ _=>rfl) hH ?_;try simp only [J])
    (refine Jt 6 (.pointer (some ⟨b',o'+k,Option.none⟩)) rfl (yif_load1 rfl (by intro W hW;clear hW;go_simp;try (intro h;omega))) hH ?_;try simp only [J])
    (refine Jt 7 (.bool y) rfl (yif_load1 rfl (by intro W hW;have y:=HZ'.out W hW;clear hW;go_simp)) hH ?_;try simp only [J])
    obtain ⟨c,hc⟩:∃ c,(x != y)=c:=⟨_,rfl⟩
    have HC:=Jh hc
    clear hc
    (refine Jt 8 (.bool c) rfl (yif_load1 rfl (by intro W hW;clear hW;go_simp;rw [<-HC.out];cases x<;>cases y<;>rfl)) hH ?_;try simp only [J])
    refine Jz ?_
    cases c
    ·have HXY:=Jh (show x=y by have:=HC.out;rw [bne_eq_false_iff_eq] at this;exact this)
     go_wp2_with fail
     go_roundw
     case rel=>exact ⟨k+1,hlt,by go_num,fun j hj=>by
      by_cases e:j=k
      ·subst e;rw [HE.out,HE'.out,HXY.out]
      ·exact HS.out j (by omega),hH⟩
     case measure=>simp [intOf];omega
    ·have HXY:=Jh (show x≠y by have:=HC.out;rw [bne_iff_ne] at this;exact fun e=>this (by rw [e]))
     obtain rfl:t=false:=by
      rw [<-HT.out,decide_eq_false_iff_not]
      intro e
      have h1:=HE.out
      rw [e,HE'.out] at h1
      injection h1 with h1
      exact HXY.out h1.symm
     go_wp2_with fail
     go_ret
     exact ⟨rfl,hH⟩
   ·obtain rfl:k=n:=by omega
    obtain rfl:t=true:=by
     rw [<-HT.out,decide_eq_true_eq]
     refine List.ext_getElem? fun j=>?_
     by_cases hj:j<k
     ·exact HS.out j hj
     ·rw [List.getElem?_eq_none (by rw [HNL.out];omega),List.getElem?_eq_none (by rw [HNR.out];omega)]
    go_wp2_with fail
    go_ret
    exact ⟨rfl,HX.out⟩
 ·obtain rfl:t=false:=by
   rw [<-HT.out,decide_eq_false_iff_not]
   intro e;exact hlr (by rw [e])
  have hlb:((l.length:Int) != (r.length:Int))=true:=by rw [bne_iff_ne];omega
  clear hlr
  go_enter Tryz.func34,Tryz.ntmps34
  go_wp2_with fail
  go_ret
  exact ⟨rfl,Below.refl _ _⟩
/-! ### filigreeref13.Rows, Truths -/
theorem Rows_calls13 (l r:List (List Nat)) (v v':Value) (w:World) (h:UsL w v l) (h':UsL w v' r) (hn:∀ x∈l,x.length<=1099511627776) :
  Calls Tryz.prog 30 #[v,v'] w fun e w'=>e=.returned (.bool (decide (l=r)))/\Ext w w':=by
 obtain ⟨a,b,o,cap,rfl,hc1,hc2,ha,hr⟩:=h.open
 obtain ⟨a',b',o',cap',rfl,hd1,hd2,ha',hr'⟩:=h'.open
 have HR:=Jh hr
 have HA:=Jh ha
 have HR':=Jh hr'
 have HA':=Jh ha'
 have HNN:=Jh hn
 clear hr ha h hr' ha' h' hn
 obtain ⟨t,ht⟩:∃ t,decide (l=r)=t:=⟨_,rfl⟩
 rw [ht]
 have HT:=Jh ht
 clear ht
 by_cases hlr:l.length=r.length
 ·have HLR:=Jh hlr
  obtain ⟨n,hnl⟩:∃ n,l.length=n:=⟨_,rfl⟩
  have HNL:=Jh hnl
  have HNR:=Jh (show r.length=n by rw [<-hlr];exact hnl)
  rw [<-hlr] at hd1 HA' ⊢
  rw [hnl] at hc1 hd1 HA HA' ⊢
  clear hlr hnl
  go_enter Tryz.func30,Tryz.ntmps30
  go_wp2_with fail
  go_loopw [5] (fun i wr=>∃ k:Nat,k<=n/\i=.int .i64 k/\(∀ j,j<k->l[j]? = r[j]?)/\Ext w wr) (fun i _=>n-(intOf i).toNat)
  case atStart=>exact ⟨0,Nat.zero_le _,rfl,fun j hj=>absurd hj (by omega),Below.refl _ _⟩
  case round =>
   obtain ⟨k,hk,rfl,hsame,hx⟩:=hrel
   have HS:=Jh hsame
   have HX:=Jh hx
   clear hsame hx
   by_cases hlt:k<n
   ·obtain rfl:=HA.out (by omega)
    obtain rfl:=HA'.out (by omega)
    have hkl:k<l.length:=by rw [HNL.out];exact hlt
    have hkr:k<r.length:=by rw [HNR.out];exact hlt
    obtain ⟨u,hu1,hu2⟩:=HR.out.get (List.getElem?_eq_getElem hkl)
    obtain ⟨u',hu3,hu4⟩:=HR'.out.get (List.getElem?_eq_getElem hkr)
    rw [Nat.mul_one] at hu1 hu3
    have HE:=Jh (show l[k]? = some l[k] from List.getElem?_eq_getElem _)
    have HE':=Jh (show r[k]? = some r[k] from List.getElem?_eq_getElem _)
    have hnk:=HNN.out _ (List.getElem_mem hkl)
    have HZ:=Jh hu1
    have HZ':=Jh hu3
    have HWC:=Jh (fun W (hx:Ext w W)=>Words_calls11 l[k] r[k] u u' W (hu2.mono fun x _ b o h=>Has.ext h hx) (hu4.mono fun x _ b o h=>Has.ext h hx) hnk)
    obtain ⟨ua,ub,uo,uc,rfl,-,-,-,-⟩:=hu2.open
    obtain ⟨va,vb,vo,vc,rfl,-,-,-,-⟩:=hu4.open
    clear hu1 hu2 hu3 hu4 hnk
    generalize l[k]=x at *
    generalize r[k]=y at *
    obtain ⟨c,hc⟩:∃ c,decide (x=y)=c:=⟨_,rfl⟩
    rw [hc] at HWC
    have HC:=Jh hc
    clear hc
    go_upto_region 6 with fail
    refine wp_region_held_drew (S:=fun W=>Ext w W) (by kernel_rfl) (Below.drew HX.out) (fun hH=>?_)
    try simp only [J]
    (refine Jt 0 (_) rfl (yif_load1 rfl fun _ _=>rfl) hH ?_;try simp only [J])
    (refine Jt 1 (_) rfl (yif_load1 rfl fun _ _=>rfl) hH ?_;try simp only [J])
    (refine Jt 2 (.pointer (some ⟨b,o+k,Option.none⟩)) rfl (yif_load1 rfl (by intro W hW;clear hW;go_simp;try (intro h;omega))) hH ?_;try simp only [J])
    (refine Jt 3 (.slice ua x.length uc) rfl (yif_load1 rfl (by intro W hW;have z:=(HZ.out.ext hW) 0 _ rfl;rw [Nat.add_zero] at z;clear hW;go_simp)) hH ?_;try simp only [J])
    (refine Jt 4 (_) rfl (yif_load1 rfl fun _ _=>rfl) hH ?_;try simp only [J])
    (refine Jt 5 (_) rfl (yif_load1 rfl fun _ _=>rfl) hH ?_;try simp only [J])
    (refine Jt 6 (.pointer (some ⟨b',o'+k,Option.none⟩)) rfl (yif_load1 rfl (by intro W hW;clear hW;go_simp;try (intro h;omega))) hH ?_;try simp only [J])
    (refine Jt 7 (.slice va y.length vc) rfl (yif_load1 rfl (by intro W hW;have z:=(HZ'.out.ext hW) 0 _ rfl;rw [Nat.add_zero] at z;clear hW;go_simp)) hH ?_;try simp only [J])
    (refine Jr 8 rfl fun K hK=>?_)
    go_simp
    refine (HWC.out _ hH).mono ?_
    rintro e w3 ⟨rfl,hx3⟩
    refine hK.out _ _ (hH.trans hx3) (fun hH=>?_)
    clear hK K hx3
    try simp only [J]
    (refine Jt 9 (.bool !c) rfl (yif_load1 rfl (by intro W hW;clear hW;go_simp)) hH ?_;try simp only [J])
    refine Jz ?_
    cases c
    ·have HXY:=Jh (show x≠y from of_decide_eq_false HC.out)
     obtain rfl:t=false:=by
      rw [<-HT.out,decide_eq_false_iff_not]
      intro e
      have h1:=HE.out
      rw [e,HE'.out] at h1
      injection h1 with h1
      exact HXY.out h1.symm
     go_wp2_with fail
     go_ret
     exact ⟨rfl,hH⟩
    ·have HXY:=Jh (show x=y from of_decide_eq_true HC.out)
     go_wp2_with fail
     go_roundw
     case rel=>exact ⟨k+1,hlt,by go_num,fun j hj=>by
      by_cases e:j=k
      ·subst e;rw [HE.out,HE'.out,HXY.out]
      ·exact HS.out j (by omega),hH⟩
     case measure=>simp [intOf];omega
   ·obtain rfl:k=n:=by omega
    obtain rfl:t=true:=by
     rw [<-HT.out,decide_eq_true_eq]
     refine List.ext_getElem? fun j=>?_
     by_cases hj:j<k
     ·exact HS.out j hj
     ·rw [List.getElem?_eq_none (by rw [HNL.out];omega),List.getElem?_eq_none (by rw [HNR.out];omega)]
    go_wp2_with fail
    go_ret
    exact ⟨rfl,HX.out⟩
 ·obtain rfl:t=false:=by
   rw [<-HT.out,decide_eq_false_iff_not]
   intro e;exact hlr (by rw [e])
  have hlb:((l.length:Int) != (r.length:Int))=true:=by rw [bne_iff_ne];omega
  clear hlr
  go_enter Tryz.func30,Tryz.ntmps30
  go_wp2_with fail
  go_ret
  exact ⟨rfl,Below.refl _ _⟩
theorem Truths_calls13 (l r:List (List Bool)) (v v':Value) (w:World) (h:BsL w v l) (h':BsL w v' r) (hn:∀ x∈l,x.length<=1099511627776) :
  Calls Tryz.prog 31 #[v,v'] w fun e w'=>e=.returned (.bool (decide (l=r)))/\Ext w w':=by
 obtain ⟨a,b,o,cap,rfl,hc1,hc2,ha,hr⟩:=h.open
 obtain ⟨a',b',o',cap',rfl,hd1,hd2,ha',hr'⟩:=h'.open
 have HR:=Jh hr
 have HA:=Jh ha
 have HR':=Jh hr'
 have HA':=Jh ha'
 have HNN:=Jh hn
 clear hr ha h hr' ha' h' hn
 obtain ⟨t,ht⟩:∃ t,decide (l=r)=t:=⟨_,rfl⟩
 rw [ht]
 have HT:=Jh ht
 clear ht
 by_cases hlr:l.length=r.length
 ·have HLR:=Jh hlr
  obtain ⟨n,hnl⟩:∃ n,l.length=n:=⟨_,rfl⟩
  have HNL:=Jh hnl
  have HNR:=Jh (show r.length=n by rw [<-hlr];exact hnl)
  rw [<-hlr] at hd1 HA' ⊢
  rw [hnl] at hc1 hd1 HA HA' ⊢
  clear hlr hnl
  go_enter Tryz.func31,Tryz.ntmps31
  go_wp2_with fail
  go_loopw [5] (fun i wr=>∃ k:Nat,k<=n/\i=.int .i64 k/\(∀ j,j<k->l[j]? = r[j]?)/\Ext w wr) (fun i _=>n-(intOf i).toNat)
  case atStart=>exact ⟨0,Nat.zero_le _,rfl,fun j hj=>absurd hj (by omega),Below.refl _ _⟩
  case round =>
   obtain ⟨k,hk,rfl,hsame,hx⟩:=hrel
   have HS:=Jh hsame
   have HX:=Jh hx
   clear hsame hx
   by_cases hlt:k<n
   ·obtain rfl:=HA.out (by omega)
    obtain rfl:=HA'.out (by omega)
    have hkl:k<l.length:=by rw [HNL.out];exact hlt
    have hkr:k<r.length:=by rw [HNR.out];exact hlt
    obtain ⟨u,hu1,hu2⟩:=HR.out.get (List.getElem?_eq_getElem hkl)
    obtain ⟨u',hu3,hu4⟩:=HR'.out.get (List.getElem?_eq_getElem hkr)
    rw [Nat.mul_one] at hu1 hu3
    have HE:=Jh (show l[k]? = some l[k] from List.getElem?_eq_getElem _)
    have HE':=Jh (show r[k]? = some r[k] from List.getElem?_eq_getElem _)
    have hnk:=HNN.out _ (List.getElem_mem hkl)
    have HZ:=Jh hu1
    have HZ':=Jh hu3
    have HWC:=Jh (fun W (hx:Ext w W)=>Bools_calls13 l[k] r[k] u u' W (hu2.mono fun x _ b o h=>Has.ext h hx) (hu4.mono fun x _ b o h=>Has.ext h hx) hnk)
    obtain ⟨ua,ub,uo,uc,rfl,-,-,-,-⟩:=hu2.open
    obtain ⟨va,vb,vo,vc,rfl,-,-,-,-⟩:=hu4.open
    clear hu1 hu2 hu3 hu4 hnk
    generalize l[k]=x at *
    generalize r[k]=y at *
    obtain ⟨c,hc⟩:∃ c,decide (x=y)=c:=⟨_,rfl⟩
    rw [hc] at HWC
    have HC:=Jh hc
    clear hc
    go_upto_region 6 with fail
    refine wp_region_held_drew (S:=fun W=>Ext w W) (by kernel_rfl) (Below.drew HX.out) (fun hH=>?_)
    try simp only [J]
    (refine Jt 0 (_) rfl (yif_load1 rfl fun _ _=>rfl) hH ?_;try simp only [J])
    (refine Jt 1 (_) rfl (yif_load1 rfl fun _ _=>rfl) hH ?_;try simp only [J])
    (refine Jt 2 (.pointer (some ⟨b,o+k,Option.none⟩)) rfl (yif_load1 rfl (by intro W hW;clear hW;go_simp;try (intro h;omega))) hH ?_;try simp only [J])
    (refine Jt 3 (.slice ua x.length uc) rfl (yif_load1 rfl (by intro W hW;have z:=(HZ.out.ext hW) 0 _ rfl;rw [Nat.add_zero] at z;clear hW;go_simp)) hH ?_;try simp only [J])
    (refine Jt 4 (_) rfl (yif_load1 rfl fun _ _=>rfl) hH ?_;try simp only [J])
    (refine Jt 5 (_) rfl (yif_load1 rfl fun _ _=>rfl) hH ?_;try simp only [J])
    (refine Jt 6 (.pointer (some ⟨b',o'+k,Option.none⟩)) rfl (yif_load1 rfl (by intro W hW;clear hW;go_simp;try (intro h;omega))) hH ?_;try simp only [J])
    (refine Jt 7 (.slice va y.length vc) rfl (yif_load1 rfl (by intro W hW;have z:=(HZ'.out.ext hW) 0 _ rfl;rw [Nat.add_zero] at z;clear hW;go_simp)) hH ?_;try simp only [J])
    (refine Jr 8 rfl fun K hK=>?_)
    go_simp
    refine (HWC.out _ hH).mono ?_
    rintro e w3 ⟨rfl,hx3⟩
    refine hK.out _ _ (hH.trans hx3) (fun hH=>?_)
    clear hK K hx3
    try simp only [J]
    (refine Jt 9 (.bool !c) rfl (yif_load1 rfl (by intro W hW;clear hW;go_simp)) hH ?_;try simp only [J])
    refine Jz ?_
    cases c
    ·have HXY:=Jh (show x≠y from of_decide_eq_false HC.out)
     obtain rfl:t=false:=by
      rw [<-HT.out,decide_eq_false_iff_not]
      intro e
      have h1:=HE.out
      rw [e,HE'.out] at h1
      injection h1 with h1
      exact HXY.out h1.symm
     go_wp2_with fail
     go_ret
     exact ⟨rfl,hH⟩
    ·have HXY:=Jh (show x=y from of_decide_eq_true HC.out)
     go_wp2_with fail
     go_roundw
     case rel=>exact ⟨k+1,hlt,by go_num,fun j hj=>by
      by_cases e:j=k
      ·subst e;rw [HE.out,HE'.out,HXY.out]
      ·exact HS.out j (by omega),hH⟩
     case measure=>simp [intOf];omega
   ·obtain rfl:k=n:=by omega
    obtain rfl:t=true:=by
     rw [<-HT.out,decide_eq_true_eq]
     refine List.ext_getElem? fun j=>?_
     by_cases hj:j<k
     ·exact HS.out j hj
     ·rw [List.getElem?_eq_none (by rw [HNL.out];omega),List.getElem?_eq_none (by rw [HNR.out];omega)]
    go_wp2_with fail
    go_ret
    exact ⟨rfl,HX.out⟩
 ·obtain rfl:t=false:=by
   rw [<-HT.out,decide_eq_false_iff_not]
   intro e;exact hlr (by rw [e])
  have hlb:((l.length:Int) != (r.length:Int))=true:=by rw [bne_iff_ne];omega
  clear hlr
  go_enter Tryz.func31,Tryz.ntmps31
  go_wp2_with fail
  go_ret
  exact ⟨rfl,Below.refl _ _⟩
theorem live13_calls (w:World):Calls Tryz.prog 17 #[] w fun r w'=>r=.returned (.bool true)/\Ext w w':=by
 go_enter Tryz.func17,Tryz.ntmps17
 go_upto_region 2 with (first | (go_at_call 44;refine (counter_calls _).mono ?_;rintro r w0 ⟨va,vb,vc,rfl,hf,hx0⟩;have HF:=Jh hf;have HXW:=Jh hx0;clear hf hx0) | ((with_reducible show Js 26);refine wpList_store_new rfl 26 _ _ rfl rfl (by first | rfl | simp) rfl agg_Flat (rfl) rfl (by simp [one_int,Value.oneCell']) ?_))
 have hxb:=ext_alloc w0 (.cells ([.slice va 2 2,.slice vb 2 2,.slice vc 1 1]:List Value).toArray 26)
 have hbb:=Blk.new w0 ([.slice va 2 2,.slice vb 2 2,.slice vc 1 1]:List Value).toArray 26
 generalize w0.alloc _=w1 at *
 generalize w0.heap.size=BD at *
 have X0:=Jh hxb
 have HB:=Jh hbb
 clear hxb hbb
 go_wp2_with (first | ((with_reducible show Jl 26);refine Jm 26 (HB.out.has) agg_Flat rfl ?_) | ((with_reducible show Jw (Op.buildSlice _ _ _));refine Hid.out ?_))
 refine Jh (bsL rfl 5 _ rfl [.slice none 0 0,.slice none 0 0,.slice none 0 0,.slice none 0 0,.slice none 0 0] rfl rfl (by decide) (by decide) (ll:=[[],[],[],[],[]]) ⟨Sl.nil _ _,Sl.nil _ _,Sl.nil _ _,Sl.nil _ _,Sl.nil _ _,trivial⟩ rfl fun w2 B1 hx hu=>?_)
 have X1:=Jh hx
 have HU1:=Jh hu
 clear hx hu
 have HC:=Jh (Run_calls13 d13 _ [[],[],[],[],[]] _ w2 (HF.out.ext (X0.out.trans X1.out)) d13_ok HU1.out (by unfold us64;decide) (by decide))
 rw [d13_run] at HC
 go_upto_region 3 with (first | (go_at_call 29;refine HC.out.mono ?_;rintro r w3 ⟨ru,rt,rfl,hu,ht,hxs⟩;have X2:=Jh hxs;clear hxs))
 have HRU:=Jh hu
 clear hu
 have HRT:=Jh ht
 clear ht
 clear HC
 clear HU1
 go_wp2_with (first | ((with_reducible show Jl 26);refine Jm 26 ((HB.out.ext (X1.out.trans X2.out)).has) agg_Flat rfl ?_) | ((with_reducible show Jw (Op.buildSlice _ _ _));refine Hid.out ?_))
 refine Jh (bsU rfl 1 _ rfl [1] rfl rfl (by decide) (by decide) fun w4 B2 hx hu=>?_)
 have X3:=Jh hx
 have HU2:=Jh hu
 clear hx hu
 go_wp2_with (first | ((with_reducible show Jw (Op.buildSlice _ _ _));refine Hid.out ?_))
 refine Jh (bsL rfl 1 _ rfl [.slice (some ⟨B2,0,none⟩) 1 1] rfl rfl (by decide) (by decide) (ll:=[[1]]) ⟨HU2.out,trivial⟩ rfl fun w5 B3 hx hu=>?_)
 have X4:=Jh hx
 have HU3:=Jh hu
 clear hx hu
 have HC:=Jh (Run_calls13 d13 _ [[1]] _ w5 (HF.out.ext (X0.out.trans (X1.out.trans (X2.out.trans (X3.out.trans X4.out))))) d13_ok HU3.out (by unfold us64;decide) (by decide))
 rw [d13_bad] at HC
 go_upto_region 4 with (first | (go_at_call 29;refine HC.out.mono ?_;rintro r w6 ⟨ru2,rt2,rfl,-,-,hxs⟩;have X5:=Jh hxs;clear hxs))
 clear HC
 clear HU2 HU3
 have HC:=Jh (Reset_calls13 d13 _ w6 (HF.out.ext (X0.out.trans (X1.out.trans (X2.out.trans (X3.out.trans (X4.out.trans X5.out)))))) d13_ok)
 rw [d13_reset] at HC
 go_upto_region 5 with (first | ((with_reducible show Jl 26);refine Jm 26 ((HB.out.ext (X1.out.trans (X2.out.trans (X3.out.trans (X4.out.trans X5.out))))).has) agg_Flat rfl ?_) | (go_at_call 32;refine HC.out.mono ?_;rintro r w7 ⟨u4,rfl,hu,hxs⟩;have X6:=Jh hxs;clear hxs))
 have HR4:=Jh hu
 clear hu
 clear HC
 go_wp2_with (first | ((with_reducible show Jl 26);refine Jm 26 ((HB.out.ext (X1.out.trans (X2.out.trans (X3.out.trans (X4.out.trans (X5.out.trans X6.out)))))).has) agg_Flat rfl ?_) | ((with_reducible show Jw (Op.buildSlice _ _ _));refine Hid.out ?_))
 refine Jh (bsU rfl 2 _ rfl [3,1] rfl rfl (by decide) (by decide) fun w8 B4 hx hu=>?_)
 have X7:=Jh hx
 have HU4:=Jh hu
 clear hx hu
 have HC:=Jh (Tick_calls13 d13 _ [3,1] _ w8 (HF.out.ext (X0.out.trans (X1.out.trans (X2.out.trans (X3.out.trans (X4.out.trans (X5.out.trans (X6.out.trans X7.out)))))))) d13_ok HU4.out (by unfold us64;decide) (by decide))
 rw [d13_tick] at HC
 go_upto_region 6 with (first | (go_at_call 25;refine HC.out.mono ?_;rintro r w9 ⟨u5,rfl,hu,hxs⟩;have X8:=Jh hxs;clear hxs))
 have HR5:=Jh hu
 clear hu
 clear HC
 clear HU4
 go_wp2_with (first | ((with_reducible show Jl 26);refine Jm 26 ((HB.out.ext (X1.out.trans (X2.out.trans (X3.out.trans (X4.out.trans (X5.out.trans (X6.out.trans (X7.out.trans X8.out)))))))).has) agg_Flat rfl ?_) | ((with_reducible show Jw (Op.buildSlice _ _ _));refine Hid.out ?_))
 refine Jh (bsU rfl 2 _ rfl [2,1] rfl rfl (by decide) (by decide) fun w10 B5 hx hu=>?_)
 have X9:=Jh hx
 have HU5:=Jh hu
 clear hx hu
 have HC:=Jh (Settle_calls13 d13 _ [2,1] _ w10 (HF.out.ext (X0.out.trans (X1.out.trans (X2.out.trans (X3.out.trans (X4.out.trans (X5.out.trans (X6.out.trans (X7.out.trans (X8.out.trans X9.out)))))))))) d13_ok HU5.out (by unfold us64;decide) (by decide))
 rw [d13_settle] at HC
 go_upto_region 7 with (first | (go_at_call 19;refine HC.out.mono ?_;rintro r w11 ⟨u6,rfl,hu,hxs⟩;have X10:=Jh hxs;clear hxs))
 have HR6:=Jh hu
 clear hu
 clear HC
 clear HU5
 go_wp2_with (first | ((with_reducible show Jl 26);refine Jm 26 ((HB.out.ext (X1.out.trans (X2.out.trans (X3.out.trans (X4.out.trans (X5.out.trans (X6.out.trans (X7.out.trans (X8.out.trans (X9.out.trans X10.out)))))))))).has) agg_Flat rfl ?_) | ((with_reducible show Jw (Op.buildSlice _ _ _));refine Hid.out ?_))
 refine Jh (bsU rfl 2 _ rfl [2,1] rfl rfl (by decide) (by decide) fun w12 B6 hx hu=>?_)
 have X11:=Jh hx
 have HU6:=Jh hu
 clear hx hu
 have HC:=Jh (Put_calls13 d13 _ [2,1] _ [] _ w12 (HF.out.ext (X0.out.trans (X1.out.trans (X2.out.trans (X3.out.trans (X4.out.trans (X5.out.trans (X6.out.trans (X7.out.trans (X8.out.trans (X9.out.trans (X10.out.trans X11.out)))))))))))) d13_ok HU6.out (by unfold us64;decide) (by decide) (Sl.nil _ _) (by unfold us64;decide))
 rw [d13_put] at HC
 go_upto_region 8 with (first | (go_at_call 27;refine HC.out.mono ?_;rintro r w13 ⟨u7,rfl,hu,hxs⟩;have X12:=Jh hxs;clear hxs))
 have HR7:=Jh hu
 clear hu
 clear HC
 clear HU6
 clear HB HF
 go_wp2_with (first | ((with_reducible show Jw (Op.buildSlice _ _ _));refine Hid.out ?_))
 refine Jh (bsU rfl 1 _ rfl [0] rfl rfl (by decide) (by decide) fun w14 B7 hx hu=>?_)
 have X13:=Jh hx
 have HU7:=Jh hu
 clear hx hu
 go_wp2_with (first | ((with_reducible show Jw (Op.buildSlice _ _ _));refine Hid.out ?_))
 refine Jh (bsU rfl 1 _ rfl [1] rfl rfl (by decide) (by decide) fun w15 B8 hx hu=>?_)
 have X14:=Jh hx
 have HU8:=Jh hu
 clear hx hu
 go_wp2_with (first | ((with_reducible show Jw (Op.buildSlice _ _ _));refine Hid.out ?_))
 refine Jh (bsU rfl 1 _ rfl [2] rfl rfl (by decide) (by decide) fun w16 B9 hx hu=>?_)
 have X15:=Jh hx
 have HU9:=Jh hu
 clear hx hu
 go_wp2_with (first | ((with_reducible show Jw (Op.buildSlice _ _ _));refine Hid.out ?_))
 refine Jh (bsU rfl 1 _ rfl [3] rfl rfl (by decide) (by decide) fun w17 B10 hx hu=>?_)
 have X16:=Jh hx
 have HU10:=Jh hu
 clear hx hu
 go_wp2_with (first | ((with_reducible show Jw (Op.buildSlice _ _ _));refine Hid.out ?_))
 refine Jh (bsU rfl 1 _ rfl [0] rfl rfl (by decide) (by decide) fun w18 B11 hx hu=>?_)
 have X17:=Jh hx
 have HU11:=Jh hu
 clear hx hu
 go_wp2_with (first | ((with_reducible show Jw (Op.buildSlice _ _ _));refine Hid.out ?_))
 refine Jh (bsL rfl 5 _ rfl [.slice (some ⟨B7,0,none⟩) 1 1,.slice (some ⟨B8,0,none⟩) 1 1,.slice (some ⟨B9,0,none⟩) 1 1,.slice (some ⟨B10,0,none⟩) 1 1,.slice (some ⟨B11,0,none⟩) 1 1] rfl rfl (by decide) (by decide) (ll:=[[0],[1],[2],[3],[0]]) ⟨(HU7.out.ext (X14.out.trans (X15.out.trans (X16.out.trans X17.out)))),(HU8.out.ext (X15.out.trans (X16.out.trans X17.out))),(HU9.out.ext (X16.out.trans X17.out)),(HU10.out.ext (X17.out)),HU11.out,trivial⟩ rfl fun w19 B12 hx hu=>?_)
 have X18:=Jh hx
 have HU12:=Jh hu
 clear hx hu
 have HC:=Jh (Rows_calls13 [[0],[1],[2],[3],[0]] [[0],[1],[2],[3],[0]] _ _ w19 (HRU.out.ext (X3.out.trans (X4.out.trans (X5.out.trans (X6.out.trans (X7.out.trans (X8.out.trans (X9.out.trans (X10.out.trans (X11.out.trans (X12.out.trans (X13.out.trans (X14.out.trans (X15.out.trans (X16.out.trans (X17.out.trans X18.out)))))))))))))))) HU12.out (by decide))
 rw [decide_eq_true rfl] at HC
 go_upto_region 9 with (first | (go_at_call 30;refine HC.out.mono ?_;rintro r w20 ⟨rfl,hxs⟩;have X19:=Jh hxs;clear hxs))
 clear HC
 clear HU12 HRU HU7 HU8 HU9 HU10 HU11
 go_wp2_with (first | ((with_reducible show Jw (Op.buildSlice _ _ _));refine Hid.out ?_))
 refine Jh (bsB rfl 1 _ rfl [false] rfl rfl (by decide) (by decide) fun w21 B13 hx hu=>?_)
 have X20:=Jh hx
 have HU13:=Jh hu
 clear hx hu
 go_wp2_with (first | ((with_reducible show Jw (Op.buildSlice _ _ _));refine Hid.out ?_))
 refine Jh (bsB rfl 1 _ rfl [true] rfl rfl (by decide) (by decide) fun w22 B14 hx hu=>?_)
 have X21:=Jh hx
 have HU14:=Jh hu
 clear hx hu
 go_wp2_with (first | ((with_reducible show Jw (Op.buildSlice _ _ _));refine Hid.out ?_))
 refine Jh (bsB rfl 1 _ rfl [true] rfl rfl (by decide) (by decide) fun w23 B15 hx hu=>?_)
 have X22:=Jh hx
 have HU15:=Jh hu
 clear hx hu
 go_wp2_with (first | ((with_reducible show Jw (Op.buildSlice _ _ _));refine Hid.out ?_))
 refine Jh (bsB rfl 1 _ rfl [true] rfl rfl (by decide) (by decide) fun w24 B16 hx hu=>?_)
 have X23:=Jh hx
 have HU16:=Jh hu
 clear hx hu
 go_wp2_with (first | ((with_reducible show Jw (Op.buildSlice _ _ _));refine Hid.out ?_))
 refine Jh (bsB rfl 1 _ rfl [false] rfl rfl (by decide) (by decide) fun w25 B17 hx hu=>?_)
 have X24:=Jh hx
 have HU17:=Jh hu
 clear hx hu
 go_wp2_with (first | ((with_reducible show Jw (Op.buildSlice _ _ _));refine Hid.out ?_))
 refine Jh (bsK rfl 5 _ rfl [.slice (some ⟨B13,0,none⟩) 1 1,.slice (some ⟨B14,0,none⟩) 1 1,.slice (some ⟨B15,0,none⟩) 1 1,.slice (some ⟨B16,0,none⟩) 1 1,.slice (some ⟨B17,0,none⟩) 1 1] rfl rfl (by decide) (by decide) (ll:=[[false],[true],[true],[true],[false]]) ⟨(HU13.out.ext (X21.out.trans (X22.out.trans (X23.out.trans X24.out)))),(HU14.out.ext (X22.out.trans (X23.out.trans X24.out))),(HU15.out.ext (X23.out.trans X24.out)),(HU16.out.ext (X24.out)),HU17.out,trivial⟩ rfl fun w26 B18 hx hu=>?_)
 have X25:=Jh hx
 have HU18:=Jh hu
 clear hx hu
 have HC:=Jh (Truths_calls13 [[false],[true],[true],[true],[false]] [[false],[true],[true],[true],[false]] _ _ w26 (HRT.out.ext (X3.out.trans (X4.out.trans (X5.out.trans (X6.out.trans (X7.out.trans (X8.out.trans (X9.out.trans (X10.out.trans (X11.out.trans (X12.out.trans (X13.out.trans (X14.out.trans (X15.out.trans (X16.out.trans (X17.out.trans (X18.out.trans (X19.out.trans (X20.out.trans (X21.out.trans (X22.out.trans (X23.out.trans (X24.out.trans X25.out))))))))))))))))))))))) HU18.out (by decide))
 rw [decide_eq_true rfl] at HC
 go_upto_region 10 with (first | (go_at_call 31;refine HC.out.mono ?_;rintro r w27 ⟨rfl,hxs⟩;have X26:=Jh hxs;clear hxs))
 clear HC
 clear HU18 HRT HU13 HU14 HU15 HU16 HU17
 go_wp2_with (first | ((with_reducible show Jw (Op.buildSlice _ _ _));refine Hid.out ?_))
 refine Jh (bsU rfl 2 _ rfl [0,0] rfl rfl (by decide) (by decide) fun w28 B19 hx hu=>?_)
 have X27:=Jh hx
 have HU19:=Jh hu
 clear hx hu
 have HC:=Jh (Words_calls11 [0,0] [0,0] _ _ w28 (HR4.out.ext (X7.out.trans (X8.out.trans (X9.out.trans (X10.out.trans (X11.out.trans (X12.out.trans (X13.out.trans (X14.out.trans (X15.out.trans (X16.out.trans (X17.out.trans (X18.out.trans (X19.out.trans (X20.out.trans (X21.out.trans (X22.out.trans (X23.out.trans (X24.out.trans (X25.out.trans (X26.out.trans X27.out))))))))))))))))))))) HU19.out (by decide))
 rw [decide_eq_true rfl] at HC
 go_wp2_with (first | (go_at_call 24;refine HC.out.mono ?_;rintro r w29 ⟨rfl,hxs⟩;have X28:=Jh hxs;clear hxs) | ((with_reducible show Jw (Op.buildSlice _ _ _));refine Hid.out ?_))
 clear HC
 clear HU19 HR4
 go_wp2_with (first | ((with_reducible show Jw (Op.buildSlice _ _ _));refine Hid.out ?_))
 refine Jh (bsU rfl 2 _ rfl [0,1] rfl rfl (by decide) (by decide) fun w30 B20 hx hu=>?_)
 have X29:=Jh hx
 have HU20:=Jh hu
 clear hx hu
 have HC:=Jh (Words_calls11 [0,1] [0,1] _ _ w30 (HR5.out.ext (X9.out.trans (X10.out.trans (X11.out.trans (X12.out.trans (X13.out.trans (X14.out.trans (X15.out.trans (X16.out.trans (X17.out.trans (X18.out.trans (X19.out.trans (X20.out.trans (X21.out.trans (X22.out.trans (X23.out.trans (X24.out.trans (X25.out.trans (X26.out.trans (X27.out.trans (X28.out.trans X29.out))))))))))))))))))))) HU20.out (by decide))
 rw [decide_eq_true rfl] at HC
 go_wp2_with (first | (go_at_call 24;refine HC.out.mono ?_;rintro r w31 ⟨rfl,hxs⟩;have X30:=Jh hxs;clear hxs) | ((with_reducible show Jw (Op.buildSlice _ _ _));refine Hid.out ?_))
 clear HC
 clear HU20 HR5
 go_wp2_with (first | ((with_reducible show Jw (Op.buildSlice _ _ _));refine Hid.out ?_))
 refine Jh (bsU rfl 2 _ rfl [2,2] rfl rfl (by decide) (by decide) fun w32 B21 hx hu=>?_)
 have X31:=Jh hx
 have HU21:=Jh hu
 clear hx hu
 have HC:=Jh (Words_calls11 [2,2] [2,2] _ _ w32 (HR6.out.ext (X11.out.trans (X12.out.trans (X13.out.trans (X14.out.trans (X15.out.trans (X16.out.trans (X17.out.trans (X18.out.trans (X19.out.trans (X20.out.trans (X21.out.trans (X22.out.trans (X23.out.trans (X24.out.trans (X25.out.trans (X26.out.trans (X27.out.trans (X28.out.trans (X29.out.trans (X30.out.trans X31.out))))))))))))))))))))) HU21.out (by decide))
 rw [decide_eq_true rfl] at HC
 go_wp2_with (first | (go_at_call 24;refine HC.out.mono ?_;rintro r w33 ⟨rfl,hxs⟩;have X32:=Jh hxs;clear hxs) | ((with_reducible show Jw (Op.buildSlice _ _ _));refine Hid.out ?_))
 clear HC
 clear HU21 HR6
 go_wp2_with (first | ((with_reducible show Jw (Op.buildSlice _ _ _));refine Hid.out ?_))
 refine Jh (bsU rfl 2 _ rfl [2,1] rfl rfl (by decide) (by decide) fun w34 B22 hx hu=>?_)
 have X33:=Jh hx
 have HU22:=Jh hu
 clear hx hu
 have HC:=Jh (Words_calls11 [2,1] [2,1] _ _ w34 (HR7.out.ext (X13.out.trans (X14.out.trans (X15.out.trans (X16.out.trans (X17.out.trans (X18.out.trans (X19.out.trans (X20.out.trans (X21.out.trans (X22.out.trans (X23.out.trans (X24.out.trans (X25.out.trans (X26.out.trans (X27.out.trans (X28.out.trans (X29.out.trans (X30.out.trans (X31.out.trans (X32.out.trans X33.out))))))))))))))))))))) HU22.out (by decide))
 rw [decide_eq_true rfl] at HC
 go_upto_region 11 with (first | (go_at_call 24;refine HC.out.mono ?_;rintro r w35 ⟨rfl,hxs⟩;have X34:=Jh hxs;clear hxs))
 clear HC
 clear HU22 HR7
 go_wp2_with fail
 go_ret
 exact ⟨rfl,HXW.out.trans (X0.out.trans (X1.out.trans (X2.out.trans (X3.out.trans (X4.out.trans (X5.out.trans (X6.out.trans (X7.out.trans (X8.out.trans (X9.out.trans (X10.out.trans (X11.out.trans (X12.out.trans (X13.out.trans (X14.out.trans (X15.out.trans (X16.out.trans (X17.out.trans (X18.out.trans (X19.out.trans (X20.out.trans (X21.out.trans (X22.out.trans (X23.out.trans (X24.out.trans (X25.out.trans (X26.out.trans (X27.out.trans (X28.out.trans (X29.out.trans (X30.out.trans (X31.out.trans (X32.out.trans (X33.out.trans X34.out))))))))))))))))))))))))))))))))))⟩
end Go.Proofs.YtoaamjgfhppppaaGreat
