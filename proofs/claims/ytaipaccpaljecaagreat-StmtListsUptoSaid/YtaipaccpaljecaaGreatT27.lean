/- Laws and walks that a claim of this seat leans on: Among, StmtStill. -/
import Derived.Test.YtaipaccpaljecaaGreatT22
import Derived.Test.YtaipaccpaljecaaGreatT23
import Derived.Test.YtaipaccpaljecaaGreatT24
import Derived.Test.YtaipaccpaljecaaGreatT02
import Derived.Test.YtaipaccpaljecaaGreatT03
import Derived.Test.YtaipaccpaljecaaGreatT25
import Derived.Test.YtaipaccpaljecaaGreatTFew11
import Derived.Test.YtaipaccpaljecaaGreatT00
set_option linter.all false
namespace Go.Proofs.YtaipaccpaljecaaGreat
open Go.RowKit
set_option maxHeartbeats 1000000 in
theorem among_calls (l:List Int) (n:Int) (v:Value) (w:World) (h:Ints w v l) :
  Calls Tryz.prog 37 #[v,.int .i64 n] w fun r w'=>r=.returned (.bool (decide (n ∈ l)))∧Ext w w':=by
 have HI:=Lib.hid h
 obtain ⟨a,b,o,cap,rfl,hc1,hc2,ha,hr⟩:=h.open
 have HA:=Lib.hid ha
 have HR:=Lib.hid hr
 clear h ha hr
 obtain ⟨t,ht⟩ : ∃ t,decide (n ∈ l)=t:=⟨_,rfl⟩
 have HT:=Lib.hid ht
 rw [ht]
 clear ht
 go_enter Tryz.func37,Tryz.ntmps37
 go_wp2_with fail
 go_loopw [5] (fun i wr=>∃ k:Nat,k ≤ l.length∧i=.int .i64 k∧(∀ j (hj:j < l.length),j < k→l[j] ≠ n)∧Ext w wr) (fun i _=>l.length - (intOf i).toNat)
 case atStart=>exact ⟨0,Nat.zero_le _,rfl,fun j _ hj=>absurd hj (by omega),Below.refl _ _⟩
 case round =>
  obtain ⟨k,hk,rfl,hno,hx⟩:=hrel
  have HNO:=Lib.hid hno
  have HX:=Lib.hid hx
  clear hno hx
  by_cases hlt:k < l.length
  ·obtain rfl:=HA.out (by omega)
   have y0:=Ints.cell (k:=k) (HR.out.mono fun x _ b o h=>Has.ext h HX.out) hlt
   have HMEM:=Lib.hid (List.getElem_mem hlt:l[k] ∈ l)
   have HK:=Lib.hid (rfl:l[k]=l[k])
   obtain ⟨x,hxk⟩ : ∃ x,l[k]=x:=⟨_,rfl⟩
   rw [hxk] at y0 HMEM
   have HXK:=Lib.hid hxk
   clear hxk HK
   by_cases e:x=n
   ·have b1:(x == n)=true:=by rw [beq_iff_eq];exact e
    obtain rfl:t=true:=by rw [← HT.out,decide_eq_true_eq,← e];exact HMEM.out
    clear e
    go_wp2_with fail
    go_ret
    exact ⟨rfl,HX.out⟩
   ·have b1:(x == n)=false:=by rw [beq_eq_false_iff_ne];exact e
    have HE:=Lib.hid e
    clear e
    go_wp2_with fail
    go_roundw
    case rel=>exact ⟨k + 1,hlt,by go_num,fun j hj hj2=>by
     by_cases e:j=k
     ·subst e;rw [HXK.out];exact HE.out
     ·exact HNO.out j hj (by omega),HX.out⟩
    case measure=>simp [intOf];omega
  ·obtain rfl:k=l.length:=by omega
   obtain rfl:t=false:=by
    rw [← HT.out,decide_eq_false_iff_not]
    intro hm
    obtain ⟨j,hj,e⟩:=List.getElem_of_mem hm
    exact HNO.out j hj hj e
   go_wp2_with fail
   go_ret
   exact ⟨rfl,HX.out⟩
set_option maxHeartbeats 1000000 in
theorem where_calls (l:List Int) (n:Int) (v:Value) (w:World) (h:Ints w v l) (hl:l.length ≤ 1099511627776) :
  Calls Tryz.prog 36 #[v,.int .i64 n] w fun r w'=>r=.returned (.int .i64 ((whereK l n (l.length - 1):Nat):Int))∧Ext w w':=by
 obtain ⟨a,b,o,cap,rfl,hc1,hc2,ha,hr⟩:=h.open
 have HA:=Lib.hid ha
 have HR:=Lib.hid hr
 clear h ha hr
 go_enter Tryz.func36,Tryz.ntmps36
 go_wp2_with fail
 go_loopw [5,6] (fun q i wr=>∃ k:Nat,k ≤ l.length - 1∧i=.int .i64 k∧q=.int .i64 ((whereK l n k:Nat):Int)∧Ext w wr) (fun _ i _=>l.length - 1 - (intOf i).toNat)
 case atStart=>exact ⟨0,Nat.zero_le _,rfl,rfl,Below.refl _ _⟩
 case round =>
  obtain ⟨k,hk,rfl,rfl,hx⟩:=hrel
  have HX:=Lib.hid hx
  clear hx
  by_cases hlt:k + 1 < l.length
  ·obtain rfl:=HA.out (by omega)
   have hlk:k < l.length:=by omega
   have y0:=Ints.cell (k:=k) (HR.out.mono fun x _ b o h=>Has.ext h HX.out) hlk
   have hst:whereK l n (k + 1)=if l[k] ≤ n then k else whereK l n k:=by rw [whereK,List.getD_eq_getElem?_getD,List.getElem?_eq_getElem hlk];rfl
   obtain ⟨q,hq⟩ : ∃ q,whereK l n k=q:=⟨_,rfl⟩
   rw [hq] at hst ⊢
   clear hq
   generalize l[k]=x at *
   by_cases e:x ≤ n
   ·rw [if_pos e] at hst
    have HST:=Lib.hid hst
    have b1:decide (x ≤ n)=true:=decide_eq_true e
    clear hst e
    go_wp2_with fail
    go_roundw
    case rel=>exact ⟨k + 1,by omega,by go_num,by rw [HST.out],HX.out⟩
    case measure=>simp [intOf];omega
   ·rw [if_neg e] at hst
    have HST:=Lib.hid hst
    have b1:decide (x ≤ n)=false:=decide_eq_false e
    clear hst e
    go_wp2_with fail
    go_roundw
    case rel=>exact ⟨k + 1,by omega,by go_num,by rw [HST.out],HX.out⟩
    case measure=>simp [intOf];omega
  ·obtain rfl:k=l.length - 1:=by omega
   obtain ⟨q,hq⟩ : ∃ q,whereK l n (l.length - 1)=q:=⟨_,rfl⟩
   have HQ:=Lib.hid hq
   rw [hq]
   clear hq
   go_wp2_with fail
   go_ret
   exact ⟨by rw [HQ.out];rfl,HX.out⟩
theorem u_wrapn {n:Nat} (h:n < 18446744073709551616):IntKind.u64.wrap (n:Int)=n:=by obtain ⟨x,rfl⟩:=u_nat h;exact u_wrap x
theorem and_one {x j:Nat} (hx:x < 18446744073709551616):bits .and .u64 ((x:Int) / 2 ^ j) 1=(x:Int) / 2 ^ j % 2:=by
 have h:=n_and (a:=x / 2 ^ j) (b:=1) (Nat.lt_of_le_of_lt (Nat.div_le_self _ _) hx) (by decide)
 rw [Nat.and_one_is_mod] at h
 push_cast at h
 exact h
set_option maxRecDepth 100000 in
set_option maxHeartbeats 2000000 in
theorem bit11_calls {ls:List Signal} (hls:∀ x ∈ ls,1 ≤ x.w∧x.w ≤ 64) (hln:ls.length ≤ 1048576) (v:List Nat) (n:Int) (sv vv:Value) (w:World) (hs:Ints w sv (offsM ls ls.length)) (hv:Us w vv v) (hl:v.length=ls.length) (h64:us64 v) (hn0:0 ≤ n) (hn1:n < sumW ls ls.length) :
  Calls Tryz.prog 38 #[sv,vv,.int .i64 n] w fun r w'=>r=.returned (.int .u64 ((bitN11 ls v n:Nat):Int))∧Ext w w':=by
 have hwh:=where_calls (offsM ls ls.length) n sv w hs (by rw [offsM_length];omega)
 rw [offsM_length,Nat.add_sub_cancel] at hwh
 obtain ⟨k,j,hk,hj,hnk⟩:=bn_of hls hn0 ls.length (Nat.le_refl _) hn1
 have hK:whereK (offsM ls ls.length) n ls.length=k:=by rw [hnk];exact whereK_eq hls hk hj _ hk (Nat.le_refl _)
 have hjw:j < 64:=by have:=sigW_le ls (fun x hx=>(hls x hx).2) (k:Int);omega
 have hsk:=sumW_le ls hls k (by omega)
 have hsub:n - sumW ls k=(j:Int):=by rw [hnk];unfold bn;omega
 have hbit:bitN11 ls v n=v.getD k 0 / 2 ^ j % 2:=by unfold bitN11;rw [hK,hsub,Int.toNat_natCast]
 rw [hK] at hwh
 rw [hbit]
 have HWH:=Lib.hid hwh
 obtain ⟨a,b,o,cap,rfl,hc1,hc2,ha,hr⟩:=hs.open
 obtain ⟨av,bv,ov,cv,rfl,hd1,hd2,hav,hvr⟩:=hv.open
 rw [offsM_length] at ha hc1
 obtain rfl:=ha (by omega)
 obtain rfl:=hav (by omega)
 have hkv:k < v.length:=by omega
 have hcs:=fun W (h:Ext w W)=>Ints.cell (k:=k) (hr.mono fun x _ b o hh=>Has.ext hh h) (by rw [offsM_length];omega)
 have hcv:=fun W (h:Ext w W)=>Us.get (k:=k) (hvr.mono fun x _ b o (hh:UAt w x b o)=>Has.ext hh h) hkv
 have hgd:v.getD k 0=v[k]:=by simp [List.getD_eq_getElem?_getD,List.getElem?_eq_getElem hkv]
 have hx64:=h64 _ (List.getElem_mem hkv)
 rw [hgd]
 have hof:(offsM ls ls.length)[k]'(by rw [offsM_length];omega)=sumW ls k:=by simp [offsM]
 rw [hof] at hcs
 obtain ⟨z,hz⟩ : ∃ z,sumW ls k=z:=⟨_,rfl⟩
 rw [hz] at hcs hsub hsk
 have HCS:=Lib.hid hcs
 have HCV:=Lib.hid hcv
 have hkl:k < ls.length + 1:=by omega
 have hkv':k < v.length:=hkv
 clear hs hv hr hvr ha hav hcs hcv hls hbit hK hwh hgd hnk hn1 hof hz
 rw [offsM_length]
 generalize v[k]=x at *
 obtain rfl:n=z + (j:Int):=by omega
 rw [offsM_length] at HWH
 have HX64:=Lib.hid hx64
 clear hsub hx64 h64
 go_enter Tryz.func38,Tryz.ntmps38
 go_upto_region 4 with (first | (go_at_call 36;refine (HWH.out).mono ?_;rintro r w1 ⟨rfl,hx1⟩))
 refine wp_region_held_drew (S:=fun W=>Ext w1 W) (by kernel_rfl) (Below.drew (Below.refl _ _)) (fun hHeld=>?_)
 try simp only [J]
 (refine Jt 0 (_) rfl (yif_load1 rfl fun _ _=>rfl) hHeld ?_;try simp only [J])
 (refine Jt 1 (_) rfl (yif_load1 rfl fun _ _=>rfl) hHeld ?_;try simp only [J])
 (refine Jt 2 (.pointer (some ⟨bv,ov + k,none⟩)) rfl (yif_load1 rfl (by intro W hW;clear hW;go_simp;try (intro h;omega))) hHeld ?_;try simp only [J])
 (refine Jt 3 (.int .u64 (x:Int)) rfl (yif_load1 rfl (by intro W hW;have y:=HCV.out W (hx1.trans hW);clear hW;go_simp)) hHeld ?_;try simp only [J])
 (refine Jt 4 (_) rfl (yif_load1 rfl fun _ _=>rfl) hHeld ?_;try simp only [J])
 (refine Jt 5 (_) rfl (yif_load1 rfl fun _ _=>rfl) hHeld ?_;try simp only [J])
 (refine Jt 6 (_) rfl (yif_load1 rfl fun _ _=>rfl) hHeld ?_;try simp only [J])
 (refine Jt 7 (.pointer (some ⟨b,o + k,none⟩)) rfl (yif_load1 rfl (by intro W hW;clear hW;go_simp;try (intro h;omega))) hHeld ?_;try simp only [J])
 (refine Jt 8 (.int .i64 z) rfl (yif_load1 rfl (by intro W hW;have y:=HCS.out W (hx1.trans hW);clear hW;go_simp)) hHeld ?_;try simp only [J])
 (refine Jt 9 (.int .i64 (j:Int)) rfl (yif_load1 rfl (by intro W hW;clear hW;go_simp;rw [IntKind.wrap_i64];omega)) hHeld ?_;try simp only [J])
 (refine Jt 10 (.int .u64 (j:Int)) rfl (yif_load1 rfl (by intro W hW;clear hW;go_simp;exact u_wrapn (by omega))) hHeld ?_;try simp only [J])
 (refine Jt 11 (.int .u64 ((x / 2 ^ j:Nat):Int)) rfl (yif_load1 rfl (by intro W hW;clear hW;go_simp;try (first | (intro h;omega) | (rw [IntKind.wrap_i64];omega) | (have:z1 + x - z1=x:=by omega;rw [this,IntKind.wrap_i64];omega)))) hHeld ?_;try simp only [J])
 (refine Jt 12 (.int .u64 ((x / 2 ^ j % 2:Nat):Int)) rfl (yif_load1 rfl (by intro W hW;clear hW;go_simp;exact and_one HX64.out)) hHeld ?_;try simp only [J])
 (refine Jt 13 (.int .u64 ((x / 2 ^ j % 2:Nat):Int)) rfl (yif_load1 rfl fun _ _=>rfl) hHeld ?_;try simp only [J])
 refine wpAnyH_done (by kernel_rfl) ?_ _
 go_wp2_with fail
 go_ret
 exact ⟨rfl,hx1.trans hHeld⟩
/-! total -/
set_option maxRecDepth 100000 in
set_option maxHeartbeats 2000000 in
theorem total_calls (d:Flat) (hls:∀ x ∈ d.signals,1 ≤ x.w∧x.w ≤ 64) (hln:d.signals.length ≤ 1048576) (v sv:Value) (w:World) (hF:FlatV w v d) (hs:Ints w sv (offsM d.signals d.signals.length)) :
  Calls Tryz.prog 34 #[v,sv] w fun r w'=>r=.returned (.int .i64 (sumW d.signals d.signals.length))∧Ext w w':=by
 obtain ⟨sg,pv,cv,rfl,hS,hP,hC⟩:=hF
 have hX:=ext_alloc w (.cells [sg,pv,cv].toArray 26)
 have hD:=Blk.new w [sg,pv,cv].toArray 26
 obtain ⟨a0,b0,o0,c0,rfl,hc1,hc2,ha0,hr0⟩:=hS.open
 obtain ⟨a,b,o,cap,rfl,hd1,hd2,ha,hr⟩:=hs.open
 rw [offsM_length] at ha hd1
 obtain rfl:=ha (by omega)
 have hof:∀ k (h:k < (offsM d.signals d.signals.length).length),(offsM d.signals d.signals.length)[k]=sumW d.signals k:=fun k h=>by simp [offsM]
 have hcs:=fun W (h:Ext w W) k (hk:k < d.signals.length + 1)=>(hof k (by rw [offsM_length];exact hk)) ▸ Ints.cell (k:=k) (hr.mono fun x _ b o hh=>Has.ext hh h) (by rw [offsM_length];exact hk)
 have HCS:=Lib.hid hcs
 have HA0:=Lib.hid ha0
 have HR0:=Lib.hid hr0
 have HW:=Lib.hid hls
 have y0:=hcs w (Ext.rfl' w) 0 (by omega)
 have HXA:=Lib.hid hX
 clear hS hP hC hs ha0 hr0 hr ha hof hcs
 rw [offsM_length]
 go_enter Tryz.func34,Tryz.ntmps34
 go_upto_region 1 with fail
 generalize w.alloc _=w0 at *
 have HD:=Lib.hid hD
 have d0:=hD.has 0 _ rfl
 have y00:=HCS.out w0 HXA.out 0 (by omega)
 rw [show sumW d.signals 0=0 from rfl,Nat.add_zero] at y00
 clear hD y0 hX
 go_upto_region 3 with fail
 clear d0 y00
 go_wp2_with fail
 go_loopw [5] (fun i wr=>∃ k:Nat,k ≤ d.signals.length∧i=.int .i64 k∧Ext w0 wr) (fun i _=>d.signals.length - (intOf i).toNat)
 case atStart=>exact ⟨0,Nat.zero_le _,rfl,Below.refl _ _⟩
 case round =>
  obtain ⟨k,hk,rfl,hx⟩:=hrel
  have HX:=Lib.hid hx
  have d0:=(HD.out.ext hx).has 0 _ rfl
  have hxx:=HXA.out.trans hx
  clear hx
  by_cases hlt:k < d.signals.length
  ·obtain rfl:=HA0.out (by omega)
   have yw:=fun W (h:Ext w W)=>(Sigs.get (HR0.out.mono fun x _ b o hh=>Has.ext hh h) hlt) 1 _ rfl
   have y1:=fun W (h:Ext w W)=>HCS.out W h k (by omega)
   have y2:=fun W (h:Ext w W)=>HCS.out W h (k + 1) (by omega)
   have h3:=sumW_succ d.signals k hlt
   have h4:=sumW_le d.signals HW.out k (by omega)
   have h5:=sumW_le d.signals HW.out (k + 1) (by omega)
   generalize d.signals[k].w=x at *
   generalize sumW d.signals k=z1 at *
   generalize sumW d.signals (k + 1)=z2 at *
   obtain rfl:z2=z1 + x:=h3
   have HXX:=Lib.hid hxx
   have HYW:=Lib.hid yw
   have H1:=Lib.hid y1
   have H2:=Lib.hid y2
   clear yw y1 y2
   go_upto_region 6 with fail
   refine wp_region_held_drew (S:=fun W=>Ext w0 W) (by kernel_rfl) (Below.drew HX.out) (fun hHeld=>?_)
   try simp only [J]
   (refine Jt 0 (_) rfl (yif_load1 rfl fun _ _=>rfl) hHeld ?_;try simp only [J])
   (refine Jt 1 (_) rfl (yif_load1 rfl fun _ _=>rfl) hHeld ?_;try simp only [J])
   (refine Jt 2 (.int .i64 ((k:Int) + 1)) rfl (yif_load1 rfl (by intro W hW;clear hW;go_simp;try (first | (intro h;omega) | (rw [IntKind.wrap_i64];omega) | (have:z1 + x - z1=x:=by omega;rw [this,IntKind.wrap_i64];omega)))) hHeld ?_;try simp only [J])
   (refine Jt 3 (.pointer (some ⟨b,o + (k + 1),none⟩)) rfl (yif_load1 rfl (by intro W hW;clear hW;go_simp;try (first | (intro h;omega) | (rw [IntKind.wrap_i64];omega) | (have:z1 + x - z1=x:=by omega;rw [this,IntKind.wrap_i64];omega)))) hHeld ?_;try simp only [J])
   (refine Jt 4 (.int .i64 (z1 + x)) rfl (yif_load1 rfl (by intro W hW;have y:=H2.out W (HXA.out.trans hW);clear hW;go_simp;try (first | (intro h;omega) | (rw [IntKind.wrap_i64];omega) | (have:z1 + x - z1=x:=by omega;rw [this,IntKind.wrap_i64];omega)))) hHeld ?_;try simp only [J])
   (refine Jt 5 (_) rfl (yif_load1 rfl fun _ _=>rfl) hHeld ?_;try simp only [J])
   (refine Jt 6 (_) rfl (yif_load1 rfl fun _ _=>rfl) hHeld ?_;try simp only [J])
   (refine Jt 7 (.pointer (some ⟨b,o + k,none⟩)) rfl (yif_load1 rfl (by intro W hW;clear hW;go_simp;try (intro h;omega))) hHeld ?_;try simp only [J])
   (refine Jt 8 (.int .i64 z1) rfl (yif_load1 rfl (by intro W hW;have y:=H1.out W (HXA.out.trans hW);clear hW;go_simp)) hHeld ?_;try simp only [J])
   (refine Jt 9 (.int .i64 x) rfl (yif_load1 rfl (by intro W hW;clear hW;go_simp;try (first | (intro h;omega) | (rw [IntKind.wrap_i64];omega) | (have:z1 + x - z1=x:=by omega;rw [this,IntKind.wrap_i64];omega)))) hHeld ?_;try simp only [J])
   (refine Jt 10 (.pointer (some ⟨w.heap.size,0,none⟩)) rfl (yif_load1 rfl (by intro W hW;clear hW;go_simp;try (first | (intro h;omega) | (rw [IntKind.wrap_i64];omega) | (have:z1 + x - z1=x:=by omega;rw [this,IntKind.wrap_i64];omega)))) hHeld ?_;try simp only [J])
   (refine Jt 11 (.slice (some ⟨b0,o0,none⟩) d.signals.length c0) rfl (yif_load1 rfl (by intro W hW;have y:=(HD.out.ext hW).has 0 _ rfl;clear hW;go_simp)) hHeld ?_;try simp only [J])
   (refine Jt 12 (_) rfl (yif_load1 rfl fun _ _=>rfl) hHeld ?_;try simp only [J])
   (refine Jt 13 (.pointer (some ⟨b0,o0 + k * 4,none⟩)) rfl (yif_load1 rfl (by intro W hW;clear hW;go_simp;try (intro h;omega))) hHeld ?_;try simp only [J])
   (refine Jt 14 (.pointer (some ⟨b0,o0 + k * 4 + 1,none⟩)) rfl (yif_load1 rfl (by intro W hW;clear hW;go_simp;try (first | (intro h;omega) | (rw [IntKind.wrap_i64];omega) | (have:z1 + x - z1=x:=by omega;rw [this,IntKind.wrap_i64];omega)))) hHeld ?_;try simp only [J])
   (refine Jt 15 (.int .i64 x) rfl (yif_load1 rfl (by intro W hW;have y:=HYW.out W (HXA.out.trans hW);clear hW;go_simp)) hHeld ?_;try simp only [J])
   (refine Jt 16 (.bool false) rfl (yif_load1 rfl (by intro W hW;clear hW;go_simp;try (first | (intro h;omega) | (rw [IntKind.wrap_i64];omega) | (have:z1 + x - z1=x:=by omega;rw [this,IntKind.wrap_i64];omega)))) hHeld ?_;try simp only [J])
   refine wpAnyH_done (by kernel_rfl) ?_ _
   go_wp2_with fail
   go_roundw
   case rel=>exact ⟨k + 1,hlt,by go_num,hHeld⟩
   case measure=>simp [intOf];omega
  ·obtain rfl:k=d.signals.length:=by omega
   have y2:=HCS.out wr hxx d.signals.length (by omega)
   obtain ⟨z,hz⟩ : ∃ z,sumW d.signals d.signals.length=z:=⟨_,rfl⟩
   have HZ:=Lib.hid hz
   rw [hz] at y2
   clear hz
   go_wp2_with fail
   go_ret
   exact ⟨by rw [HZ.out];rfl,hxx⟩
/-! with -/
set_option maxHeartbeats 1000000 in
theorem with_calls (d:Flat) (v lv:Value) (ck:Bool) (l:List T) (w:World) (hF:FlatV w v d) (hL:Ts w lv l) :
  Calls Tryz.prog 40 #[v,.bool ck,lv] w fun r w'=>∃ v',r=.returned v'∧FlatV w' v' ⟨d.signals,[⟨ck,l⟩],[]⟩∧Ext w w':=by
 have HL:=Lib.hid (fun W (h:Ext w W)=>hL.ext h)
 obtain ⟨sg,pv,cv,rfl,hS,hP,hC⟩:=hF
 have HS:=Lib.hid (fun W (h:Ext w W)=>hS.ext h)
 have hX:=ext_alloc w (.cells [sg,pv,cv].toArray 26)
 have hD:=Blk.new w [sg,pv,cv].toArray 26
 obtain ⟨a0,b0,o0,c0,rfl,-,-,-,-⟩:=hS.open
 obtain ⟨al,bl,ol,cl,rfl,-,-,-,-⟩:=hL.open
 have hx2:=ext_alloc (w.alloc (.cells [.slice a0 d.signals.length c0,pv,cv].toArray 26)) (.cells #[.slice none 0 0,.slice none 0 0,.slice none 0 0] 26)
 have hb2:=Blk.new (w.alloc (.cells [.slice a0 d.signals.length c0,pv,cv].toArray 26)) #[.slice none 0 0,.slice none 0 0,.slice none 0 0] 26
 simp only [World.size_alloc] at hb2
 have hX2:=hX.trans hx2
 have d0:=(hD.ext hx2).has 0 _ rfl
 clear hS hP hC hL hD hX hx2
 go_enter Tryz.func40,Tryz.ntmps40
 go_upto_region 1 with fail
 generalize (w.alloc _).alloc _=w2 at *
 go_wp2_with ((with_reducible show Jw (Op.buildSlice _ _ _));refine Hid.out ?_)
 refine Lib.hid ?_
 refine wpList_bs1 rfl _ _ rfl appProc rfl (cs:=[.bool ck,.slice al l.length cl]) rfl rfl (by decide) ?_
 have hx3:=ext_alloc w2 (.cells [.bool ck,.slice al l.length cl].toArray 39)
 have hb3:=Blk.new w2 [.bool ck,.slice al l.length cl].toArray 39
 have hX3:=hX2.trans hx3
 have hbp:=hb2.ext hx3
 have hz2:=hb2.lt
 generalize w2.alloc _=w3 at *
 obtain ⟨B2,hB2⟩ : ∃ B2,w2.heap.size=B2:=⟨_,rfl⟩
 rw [hB2] at hb3 hz2 ⊢
 clear hB2
 go_wp2_with ((with_reducible show Jw (Op.store 26 _ _));refine wpList_store_blk rfl 26 _ _ rfl hbp rfl (cs:=[.slice a0 d.signals.length c0,.slice (some ⟨B2,0,none⟩) 1 1,.slice none 0 0]) rfl agg_Flat rfl rfl (by simp [Value.oneCell']) ?_;intro w5 hb5 hg5)
 have hX5:Ext w w5:=Ext.grown hX3 hg5 (by omega)
 have hb35:=hb3.grown hg5 (by omega)
 refine post_ret_blk rfl rfl hb5.has agg_Flat rfl rfl ⟨_,rfl,⟨_,_,_,rfl,HS.out w5 hX5,⟨B2,0,⟨_,1,rfl,Nat.le_refl _,by decide,fun _=>rfl⟩,⟨_,hb35.has,HL.out w5 hX5⟩,trivial⟩,Sl.nil _ _⟩,hX5⟩
open Go.RowKit
set_option maxRecDepth 100000 in
set_option maxHeartbeats 4000000 in
theorem StmtStill_calls (d:Flat) (v:Value) (vs:List Nat) (s:Value) (p:Int) (w:World) (hF:FlatV w v d) (hok:d.ok) (hs:Us w s vs) (h64s:us64 vs) (hls:vs.length + 1 ≤ 1048576) (hp:i64r p) :
  Calls Tryz.prog 9 #[v,s,.int .i64 p] w fun r w'=>r=.returned (.bool true)∧Ext w w':=by
 have HF:=Lib.hid (fun W (h:Ext w W)=>hF.ext h)
 have HFW:=Lib.hid (fun W (h:Ext w W)=>Few_calls d v W (hF.ext h) hok.nodes hok.signals hok.procs)
 have HOK:=Lib.hid hok
 have hlpr:=hok.procs
 have HUS:=Lib.hid (fun W (h:Ext w W)=>hs.ext h)
 have H64:=Lib.hid h64s
 have HIP:=Lib.hid hp
 obtain ⟨sv,pv,cv,rfl,hS,hP,hC⟩:=hF
 obtain ⟨ap,bp,op,cp,rfl,hp1,hp2,-,-⟩:=hP.open
 obtain ⟨av,bv,ov,capv,rfl,-,-,-,-⟩:=hs.open
 have x1:=ext_alloc w (.cells [sv,.slice ap d.procs.length cp,cv].toArray 26)
 have hD:=Blk.new w [sv,.slice ap d.procs.length cp,cv].toArray 26
 clear hS hP hC hok hs h64s
 unfold i64r at hp
 go_enter Tryz.func9,Tryz.ntmps9
 go_upto_region 1 with fail
 generalize w.alloc _=w0 at *
 have HX0:=Lib.hid x1
 have HD0:=Lib.hid hD
 clear x1 hD
 go_upto_region 4 with (go_at_call 21;refine (live11_calls _).mono ?_;rintro r w1 ⟨rfl,hx1⟩)
 have HD:=Lib.hid (HD0.out.ext hx1)
 have HX:=Lib.hid (HX0.out.trans hx1)
 clear hx1 HD0 HX0
 have d1:=HD.out.has
 obtain ⟨fw,hfw⟩ : ∃ fw,few11 d=fw:=⟨_,rfl⟩
 rw [hfw] at HFW
 clear hfw
 cases fw
 ·go_wp2_with (first | ((with_reducible show Jw (Op.load 26 _));refine wpList_load_has rfl 26 _ rfl rfl (d1) agg_Flat rfl ?_) | (go_at_call 22;refine (HFW.out w1 HX.out).mono ?_;rintro r w2 ⟨rfl,hx2⟩))
  go_ret
  exact ⟨rfl,HX.out.trans hx2⟩
 by_cases hl:(100:Int) < (vs.length:Int)
 ·have bl:decide ((100:Int) < (vs.length:Int))=true:=decide_eq_true hl
  clear hl
  go_wp2_with (first | ((with_reducible show Jw (Op.load 26 _));refine wpList_load_has rfl 26 _ rfl rfl (d1) agg_Flat rfl ?_) | (go_at_call 22;refine (HFW.out w1 HX.out).mono ?_;rintro r w2 ⟨rfl,hx2⟩))
  go_ret
  exact ⟨rfl,HX.out.trans hx2⟩
 have bl:decide ((100:Int) < (vs.length:Int))=false:=decide_eq_false hl
 go_upto_region 6 with (first | ((with_reducible show Jw (Op.load 26 _));refine wpList_load_has rfl 26 _ rfl rfl (d1) agg_Flat rfl ?_) | (go_at_call 22;refine (HFW.out w1 HX.out).mono ?_;rintro r w2 ⟨rfl,hx2⟩))
 have HD2:=Lib.hid (HD.out.ext hx2)
 have HX2:=Lib.hid (HX.out.trans hx2)
 clear hx2 d1 HD HX HFW
 have d2:=HD2.out.has
 have HRUN:=Lib.hid (Run_calls d _ vs _ p w2 (HF.out w2 HX2.out) HOK.out (HUS.out w2 HX2.out) H64.out HIP.out)
 by_cases hmay:valsOk d vs=true∧0 ≤ p∧p < d.procs.length
 case neg =>
  rw [runM_no hmay] at HRUN
  clear hmay
  go_upto_region 8 with (first | ((with_reducible show Jw (Op.load 26 _));refine wpList_load_has rfl 26 _ rfl rfl (d2) agg_Flat rfl ?_) | (go_at_call 23;refine HRUN.out.mono ?_;rintro r w3 ⟨u,rfl,hr3,hx3⟩))
  obtain ⟨ua,uc,rfl,-⟩:=hr3.open
  have HX3:=Lib.hid (HX2.out.trans hx3)
  clear hr3 hx3 d2
  go_wp2_with fail
  go_ret
  exact ⟨rfl,HX3.out⟩
 obtain ⟨m1,m2,m3⟩:=hmay
 obtain ⟨v1,hc,-⟩:=valsOk_ck m1
 have hls:∀ x ∈ d.signals,x.w ≤ 64:=fun x hx=>(checkM_w hc x hx).2
 have hr0:=runM_of hc (valsOk_val2 m1) m2 m3
 have hv2:=(run_kept HOK.out hc m2 m3 (valsOk_val2 m1)).1
 have hr1:=runM_of hc hv2 m2 m3
 have hst:=run_still HOK.out hc m2 m3 (valsOk_val2 m1)
 have hmr:=mem_readsM d p
 have hmw:=mem_writesM d p
 have htold:toldOk d p=true:=by unfold toldOk;rw [hc];simp [m2,m3]
 have h64:=val2_us64 hls hv2
 have hxl:=hv2.1
 have hsl:=HOK.out.signals
 rw [hr0] at HRUN
 obtain ⟨xs,hxs⟩ : ∃ xs,runL d p vs=xs:=⟨_,rfl⟩
 rw [hxs] at HRUN hr1 hst hv2 h64 hxl
 have HRW:=Lib.hid (fun W (h:Ext w W) u (hu:Us W u xs)=>Run_calls d _ xs u p W (HF.out W h) HOK.out hu h64 HIP.out)
 rw [hr1] at HRW
 have HRD:=Lib.hid (fun W (h:Ext w W)=>Reads_calls d _ W (HF.out W h) HOK.out p HIP.out)
 have HWR:=Lib.hid (fun W (h:Ext w W)=>Writes_calls d _ W (HF.out W h) HOK.out p HIP.out)
 simp only [if_pos htold] at HRD HWR
 have HST:=Lib.hid (show (∀ x ∈ readsM d p,¬ x ∈ writesM d p)→runL d p xs=xs from fun h=>hst fun x hx hw=>h x ((hmr x).2 hx) ((hmw x).2 hw))
 have HXL:=Lib.hid (show xs.length ≤ 1099511627776 by omega)
 generalize runL d p xs=ys at *
 generalize readsM d p=rd at *
 generalize writesM d p=wl at *
 clear m1 v1 hc hls hr0 hv2 hr1 hst hmr hmw htold h64 hxl hxs m2 m3 hsl
 go_upto_region 9 with (first | ((with_reducible show Jw (Op.load 26 _));refine wpList_load_has rfl 26 _ rfl rfl (d2) agg_Flat rfl ?_) | (go_at_call 23;refine HRUN.out.mono ?_;rintro r w3 ⟨u,rfl,hr3,hx3⟩))
 obtain ⟨ua,uc,rfl,-⟩:=hr3.open
 have HU3:=Lib.hid hr3.cells
 have HX3:=Lib.hid (HX2.out.trans hx3)
 have HD3:=Lib.hid (HD2.out.ext hx3)
 have d3:=HD3.out.has
 clear hr3 hx3 d2 HRUN HD2
 go_upto_region 10 with (first | ((with_reducible show Jw (Op.load 26 _));refine wpList_load_has rfl 26 _ rfl rfl (d3) agg_Flat rfl ?_) | (go_at_call 26;refine (HRD.out w3 HX3.out).mono ?_;rintro r w4 ⟨ur,rfl,hr4,hx4⟩))
 have HR4:=Lib.hid hr4.cells
 have HU4:=Lib.hid (HU3.out.ext hx4)
 have HX4:=Lib.hid (HX3.out.trans hx4)
 have HD4:=Lib.hid (HD3.out.ext hx4)
 have d4:=HD4.out.has
 clear hr4 hx4 d3 HD3 HU3
 go_upto_region 11 with (first | ((with_reducible show Jw (Op.load 26 _));refine wpList_load_has rfl 26 _ rfl rfl (d4) agg_Flat rfl ?_) | (go_at_call 28;refine (HWR.out w4 HX4.out).mono ?_;rintro r w5 ⟨uw,rfl,hr5,hx5⟩))
 have HW5:=Lib.hid hr5.cells
 have HR5:=Lib.hid (Sl.mono HR4.out fun _ _ _ _ q=>Has.ext q hx5:Ints w5 ur rd)
 have HU5:=Lib.hid (HU4.out.ext hx5)
 have HX5:=Lib.hid (HX4.out.trans hx5)
 have HD5:=Lib.hid (HD4.out.ext hx5)
 clear hr5 hx5 d4 HD4 HU4 HR4
 obtain ⟨ra,rb,ro,rc,rfl,hrc1,hrc2,hra,hrr⟩:=HR5.out.open
 have HRA:=Lib.hid hra
 have HRR:=Lib.hid hrr
 clear hra hrr HR5
 go_wp2_with fail
 go_loopw [14] (fun i wr=>∃ k:Nat,k ≤ rd.length∧i=.int .i64 k∧(∀ j (hj:j < rd.length),j < k→¬ rd[j] ∈ wl)∧Ext w5 wr) (fun i _=>rd.length - (intOf i).toNat)
 case atStart=>exact ⟨0,Nat.zero_le _,rfl,fun j _ hj=>absurd hj (by omega),Below.refl _ _⟩
 case round =>
  obtain ⟨k,hk,rfl,hno,hx⟩:=hrel
  have HNO:=Lib.hid hno
  have HXR:=Lib.hid hx
  clear hno hx
  by_cases hlt:k < rd.length
  ·obtain rfl:=HRA.out (by omega)
   have y0:=Ints.cell (k:=k) (HRR.out.mono fun x _ b o h=>Has.ext h HXR.out) hlt
   have HAM:=Lib.hid (among_calls wl rd[k] uw wr (Sl.mono HW5.out fun _ _ _ _ q=>Has.ext q HXR.out))
   obtain ⟨t,ht⟩ : ∃ t,decide (rd[k] ∈ wl)=t:=⟨_,rfl⟩
   have HT:=Lib.hid ht
   rw [ht] at HAM
   clear ht
   obtain ⟨x,hx⟩ : ∃ x,rd[k]=x:=⟨_,rfl⟩
   rw [hx] at y0 HAM
   clear hx
   cases t
   ·go_wp2_with (first | (go_at_call 37;refine HAM.out.mono ?_;rintro r w6 ⟨rfl,hx6⟩))
    go_roundw
    case rel=>exact ⟨k + 1,hlt,by go_num,fun j hj hj2=>by
     by_cases e:j=k
     ·subst e;exact of_decide_eq_false HT.out
     ·exact HNO.out j hj (by omega),HXR.out.trans hx6⟩
    case measure=>simp [intOf];omega
   ·go_wp2_with (first | (go_at_call 37;refine HAM.out.mono ?_;rintro r w6 ⟨rfl,hx6⟩))
    go_ret
    exact ⟨rfl,HX5.out.trans (HXR.out.trans hx6)⟩
  ·obtain rfl:k=rd.length:=by omega
   have hys:ys=xs:=HST.out fun x hx hw=>by
    obtain ⟨j,hj,rfl⟩:=List.getElem_of_mem hx
    exact HNO.out j hj hj hw
   subst hys
   have HX6:=Lib.hid (HX5.out.trans HXR.out)
   have HD6:=Lib.hid (HD5.out.ext HXR.out)
   have HU6:=Lib.hid (HU5.out.ext HXR.out)
   have HC:=Lib.hid (HRW.out wr HX6.out _ HU6.out)
   have d6:=HD6.out.has
   go_upto_region 17 with (first | ((with_reducible show Jw (Op.load 26 _));refine wpList_load_has rfl 26 _ rfl rfl (d6) agg_Flat rfl ?_) | (go_at_call 23;refine HC.out.mono ?_;rintro r w7 ⟨u2,rfl,hr7,hx7⟩))
   have HW7:=Lib.hid (Words_calls11 _ _ _ _ w7 (HU6.out.ext hx7) hr7.cells HXL.out)
   rw [decide_eq_true rfl] at HW7
   have HX7:=Lib.hid (HX6.out.trans hx7)
   clear hr7 hx7 d6
   go_wp2_with (first | (go_at_call 25;refine HW7.out.mono ?_;rintro r w8 ⟨rfl,hx8⟩))
   go_ret
   exact ⟨rfl,HX7.out.trans hx8⟩
end Go.Proofs.YtaipaccpaljecaaGreat
