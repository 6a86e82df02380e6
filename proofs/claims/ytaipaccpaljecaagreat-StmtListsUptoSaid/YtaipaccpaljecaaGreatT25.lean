/- Laws and walks that a claim of this seat leans on: IntsF, Live11. -/
import Derived.Test.YtaipaccpaljecaaGreatT24
import Derived.Test.YtaipaccpaljecaaGreatT03
import Derived.Test.YtaipaccpaljecaaGreatT22
import Derived.Test.YtaipaccpaljecaaGreatT00
set_option linter.all false
namespace Go.Proofs.YtaipaccpaljecaaGreat
open Go.RowKit
/-! ### filigreeref11.Ints -/
set_option maxHeartbeats 2000000 in
theorem Ints_calls11 (l r:List Int) (v v':Value) (w:World) (h:Ints w v l) (h':Ints w v' r) (hn:l.length ≤ 1099511627776) :
  Calls Tryz.prog 33 #[v,v'] w fun e w'=>e=.returned (.bool (decide (l=r)))∧Ext w w':=by
 obtain ⟨a,b,o,cap,rfl,hc1,hc2,ha,hr⟩:=h.open
 obtain ⟨a',b',o',cap',rfl,hd1,hd2,ha',hr'⟩:=h'.open
 have HR:=Lib.hid hr
 have HA:=Lib.hid ha
 have HR':=Lib.hid hr'
 have HA':=Lib.hid ha'
 clear hr ha h hr' ha' h'
 obtain ⟨t,ht⟩ : ∃ t,decide (l=r)=t:=⟨_,rfl⟩
 rw [ht]
 have HT:=Lib.hid ht
 clear ht
 by_cases hlr:l.length=r.length
 ·have hlb:((l.length:Int) != (r.length:Int))=false:=by rw [bne_eq_false_iff_eq,hlr]
  have HLR:=Lib.hid hlr
  obtain ⟨n,hnl⟩ : ∃ n,l.length=n:=⟨_,rfl⟩
  have HNL:=Lib.hid hnl
  have HNR:=Lib.hid (show r.length=n by rw [← hlr];exact hnl)
  rw [← hlr] at hd1 HA' ⊢
  rw [hnl] at hc1 hd1 HA HA' hn ⊢
  clear hlr hlb hnl
  go_enter Tryz.func33,Tryz.ntmps33
  go_wp2_with fail
  go_loopw [5] (fun i wr=>∃ k:Nat,k ≤ n∧i=.int .i64 k∧(∀ j,j < k→l[j]? = r[j]?)∧Ext w wr) (fun i _=>n - (intOf i).toNat)
  case atStart=>exact ⟨0,Nat.zero_le _,rfl,fun j hj=>absurd hj (by omega),Below.refl _ _⟩
  case round =>
   obtain ⟨k,hk,rfl,hsame,hx⟩:=hrel
   have HS:=Lib.hid hsame
   have HX:=Lib.hid hx
   clear hsame hx
   by_cases hlt:k < n
   ·obtain rfl:=HA.out (by omega)
    obtain rfl:=HA'.out (by omega)
    have HZ:=Lib.hid (fun W (hx:Ext w W)=>Ints.cell (k:=k) (HR.out.mono fun x _ b o h=>Has.ext h hx) (by rw [HNL.out];exact hlt))
    have HZ':=Lib.hid (fun W (hx:Ext w W)=>Ints.cell (k:=k) (HR'.out.mono fun x _ b o h=>Has.ext h hx) (by rw [HNR.out];exact hlt))
    have HE:=Lib.hid (show l[k]? = some (l[k]'(by rw [HNL.out];exact hlt)) from List.getElem?_eq_getElem _)
    have HE':=Lib.hid (show r[k]? = some (r[k]'(by rw [HNR.out];exact hlt)) from List.getElem?_eq_getElem _)
    generalize l[k]'_=x at *
    generalize r[k]'_=y at *
    go_upto_region 6 with fail
    refine wp_region_held_drew (S:=fun W=>Ext w W) (by kernel_rfl) (Below.drew HX.out) (fun hHeld=>?_)
    try simp only [J]
    (refine Jt 0 (_) rfl (yif_load1 rfl fun _ _=>rfl) hHeld ?_;try simp only [J])
    (refine Jt 1 (_) rfl (yif_load1 rfl fun _ _=>rfl) hHeld ?_;try simp only [J])
    (refine Jt 2 (.pointer (some ⟨b,o + k,Option.none⟩)) rfl (yif_load1 rfl (by intro W hW;clear hW;go_simp;try (intro h;omega))) hHeld ?_;try simp only [J])
    (refine Jt 3 (.int .i64 x) rfl (yif_load1 rfl (by intro W hW;have y:=HZ.out W hW;clear hW;go_simp)) hHeld ?_;try simp only [J])
    (refine Jt 4 (_) rfl (yif_load1 rfl fun _ _=>rfl) hHeld ?_;try simp only [J])
    (refine Jt 5 (_) rfl (yif_load1 rfl fun _ _=>rfl) hHeld ?_;try simp only [J])
    (refine Jt 6 (.pointer (some ⟨b',o' + k,Option.none⟩)) rfl (yif_load1 rfl (by intro W hW;clear hW;go_simp;try (intro h;omega))) hHeld ?_;try simp only [J])
    (refine Jt 7 (.int .i64 y) rfl (yif_load1 rfl (by intro W hW;have y:=HZ'.out W hW;clear hW;go_simp)) hHeld ?_;try simp only [J])
    obtain ⟨c,hc⟩ : ∃ c,(x != y)=c:=⟨_,rfl⟩
    have HC:=Lib.hid hc
    clear hc
    (refine Jt 8 (.bool c) rfl (yif_load1 rfl (by intro W hW;clear hW;go_simp;exact HC.out)) hHeld ?_;try simp only [J])
    refine wpAnyH_done (by kernel_rfl) ?_ _
    cases c
    ·have HXY:=Lib.hid (show x=y by have:=HC.out;rwa [bne_eq_false_iff_eq] at this)
     go_wp2_with fail
     go_roundw
     case rel=>exact ⟨k + 1,hlt,by go_num,fun j hj=>by
      by_cases e:j=k
      ·subst e;rw [HE.out,HE'.out,HXY.out]
      ·exact HS.out j (by omega),hHeld⟩
     case measure=>simp [intOf];omega
    ·have HXY:=Lib.hid (show x ≠ y by have:=HC.out;rwa [bne_iff_ne] at this)
     obtain rfl:t=false:=by
      rw [← HT.out,decide_eq_false_iff_not]
      intro e
      have h1:=HE.out
      rw [e,HE'.out] at h1
      injection h1 with h1
      exact HXY.out h1.symm
     go_wp2_with fail
     go_ret
     exact ⟨rfl,hHeld⟩
   ·obtain rfl:k=n:=by omega
    obtain rfl:t=true:=by
     rw [← HT.out,decide_eq_true_eq]
     refine List.ext_getElem? fun j=>?_
     by_cases hj:j < k
     ·exact HS.out j hj
     ·rw [List.getElem?_eq_none (by rw [HNL.out];omega),List.getElem?_eq_none (by rw [HNR.out];omega)]
    go_wp2_with fail
    go_ret
    exact ⟨rfl,HX.out⟩
 ·obtain rfl:t=false:=by
   rw [← HT.out,decide_eq_false_iff_not]
   intro e;exact hlr (by rw [e])
  have hlb:((l.length:Int) != (r.length:Int))=true:=by rw [bne_iff_ne];omega
  clear hlr
  go_enter Tryz.func33,Tryz.ntmps33
  go_wp2_with fail
  go_ret
  exact ⟨rfl,Below.refl _ _⟩
open Go.RowKit
theorem sigs11 {W:World} {B:Nat} (h:Blk W B (d11.signals.map Signal.cells).flatten.toArray 36):Sigs W (.slice (some ⟨B,0,none⟩) 4 4) d11.signals :=
 ⟨B,0,⟨_,4,rfl,Nat.le_refl _,by decide,fun _=>rfl⟩,rows_flat (f:=Signal.cells) (fun _=>rfl) d11.signals 0 h.has⟩
set_option maxRecDepth 100000 in
set_option maxHeartbeats 8000000 in
theorem live11_calls (w:World):Calls Tryz.prog 21 #[] w fun r w'=>r=.returned (.bool true)∧Ext w w':=by
 go_enter Tryz.func21,Tryz.ntmps21
 go_wp2_with ((with_reducible show Jw (Op.buildSlice _ _ _));refine Hid.out ?_)
 refine Lib.hid ?_
 have hx1:=ext_alloc w (.cells (d11.signals.map Signal.cells).flatten.toArray 36)
 have hb1:=Blk.new w (d11.signals.map Signal.cells).flatten.toArray 36
 refine wpList_bsN rfl _ 4 _ rfl appSignal (vs:=d11.signals.map fun x=>Value.agg x.cells.toArray) rfl rfl (css:=d11.signals.map Signal.cells) rfl (by intro cs h;simp [d11] at h;rcases h with rfl | rfl | rfl | rfl <;> rfl) (by decide) (by decide) ?_
 have hs1:(w.alloc (.cells (d11.signals.map Signal.cells).flatten.toArray 36)).heap.size=w.heap.size + 1:=by simp
 generalize w.alloc _=w1 at *
 obtain ⟨N,hN⟩ : ∃ N,w.heap.size=N:=⟨_,rfl⟩
 rw [hN] at hb1 ⊢
 obtain ⟨B1,hB1⟩ : ∃ B1,w1.heap.size=B1:=⟨_,rfl⟩
 have hNB:N < B1:=by omega
 have HN:=Lib.hid hN
 clear hN hs1
 have hx2:=ext_alloc w1 (.cells [Value.slice (some ⟨N,0,none⟩) 4 4,.slice none 0 0,.slice none 0 0].toArray 26)
 have hb2:=Blk.new w1 [Value.slice (some ⟨N,0,none⟩) 4 4,.slice none 0 0,.slice none 0 0].toArray 26
 have hs2:(w1.alloc (.cells [Value.slice (some ⟨N,0,none⟩) 4 4,.slice none 0 0,.slice none 0 0].toArray 26)).heap.size=w1.heap.size + 1:=by simp
 go_upto_region 2 with (first | ((with_reducible show Jw (Op.store 26 _ _));refine wpList_store_new rfl 26 _ _ rfl rfl (by first | rfl | simp) rfl agg_Flat (rfl) rfl (by simp [Value.oneCell']) ?_))
 generalize w1.alloc _=w2 at *
 rw [hB1] at hb2 hs2
 have HB1:=Lib.hid hb2
 have HBS:=Lib.hid (hb1.ext hx2)
 have HXW:=Lib.hid (hx1.trans hx2)
 obtain ⟨M,hM⟩ : ∃ M,w2.heap.size=M:=⟨_,rfl⟩
 have hBM:B1 < M:=by omega
 have HNW:=Lib.hid (show w.heap.size ≤ N from by rw [HN.out];exact Nat.le_refl _)
 have hm2:M ≤ w2.heap.size:=by omega
 clear hb1 hb2 hx1 hx2 hB1 hs2 hM
 go_wp2_with (first | (go_at_call 52;refine (sig11_calls 0 _).mono ?_;rintro r w3 ⟨rfl,hx3⟩) | ((with_reducible show Jw (Op.buildSlice _ _ _));refine Hid.out ?_))
 replace HB1:=Lib.hid (HB1.out.ext hx3)
 replace HBS:=Lib.hid (HBS.out.ext hx3)
 replace HXW:=Lib.hid (HXW.out.trans hx3)
 have hmw3:M ≤ w3.heap.size:=by have:=hx3.size;omega
 clear hx3 hm2
 refine Lib.hid ?_
 have hxb:=ext_alloc w3 (.cells ((sigX 1 0 0 0).cells (.slice none 0 0)).toArray 64)
 have hbb:=Blk.new w3 ((sigX 1 0 0 0).cells (.slice none 0 0)).toArray 64
 refine wpList_bs1 rfl _ _ rfl appE rfl (cs:=((sigX 1 0 0 0).cells (.slice none 0 0))) rfl rfl (by decide) ?_
 replace HB1:=Lib.hid (HB1.out.ext hxb)
 replace HBS:=Lib.hid (HBS.out.ext hxb)
 replace HXW:=Lib.hid (HXW.out.trans hxb)
 have hmw4:M ≤ (w3.alloc (.cells ((sigX 1 0 0 0).cells (.slice none 0 0)).toArray 64)).heap.size:=by have:=hxb.size;omega
 generalize w3.alloc _=w4 at *
 obtain ⟨BE,hBE⟩ : ∃ B,w3.heap.size=B:=⟨_,rfl⟩
 have hmBE:M ≤ BE:=by omega
 rw [hBE] at hbb ⊢
 clear hBE hmw3 hxb
 have HFE:Hid (∀ W,Since M w4 W→Es W (.slice (some ⟨BE,0,none⟩) 1 1) [sigX 1 0 0 0]):=Lib.hid fun W hW =>
  ⟨BE,0,⟨_,1,rfl,Nat.le_refl _,by decide,fun _=>rfl⟩,VE.at (hW.blk hbb hmBE).has (sigX_VE 0 W),trivial⟩
 clear hbb
 go_wp2_with (first | (go_at_call 52;refine (sig11_calls 1 _).mono ?_;rintro r w5 ⟨rfl,hx5⟩) | (go_at_call 53;refine (put11_calls M 3 _ (sigX 1 1 0 0) _ (fun W _=>sigX_VE 1 W) (by have:=hx5.size;omega)).mono ?_;rintro r w6 ⟨cp,rfl,hlp,hop,hfp,hx6⟩) | ((with_reducible show Jw (Op.buildSlice _ _ _));refine Hid.out ?_))
 replace HB1:=Lib.hid (HB1.out.ext hx5)
 replace HBS:=Lib.hid (HBS.out.ext hx5)
 replace HXW:=Lib.hid (HXW.out.trans hx5)
 replace HFE:=Lib.hid (fun W hW=>HFE.out W ((Since.of_ext hx5).trans hW))
 replace HB1:=Lib.hid (HB1.out.ext hx6)
 replace HBS:=Lib.hid (HBS.out.ext hx6)
 replace HXW:=Lib.hid (HXW.out.trans hx6)
 replace HFE:=Lib.hid (fun W hW=>HFE.out W ((Since.of_ext hx6).trans hW))
 have hmw6:M ≤ w6.heap.size:=by have:=hx5.size;have:=hx6.size;omega
 have HFP:=Lib.hid hfp
 clear hx5 hx6 hmw4 hfp
 refine Lib.hid ?_
 have hxb:=ext_alloc w6 (.cells cp.toArray 60)
 have hbb:=Blk.new w6 cp.toArray 60
 refine wpList_bs1 rfl _ _ rfl appT rfl (cs:=cp) rfl hlp (by decide) ?_
 replace HB1:=Lib.hid (HB1.out.ext hxb)
 replace HBS:=Lib.hid (HBS.out.ext hxb)
 replace HXW:=Lib.hid (HXW.out.trans hxb)
 replace HFE:=Lib.hid (fun W hW=>HFE.out W ((Since.of_ext hxb).trans hW))
 replace HFP:=Lib.hid (fun W hW=>HFP.out W ((Since.of_ext hxb).trans hW))
 have hmw7:M ≤ (w6.alloc (.cells cp.toArray 60)).heap.size:=by have:=hxb.size;omega
 generalize w6.alloc _=w7 at *
 obtain ⟨BT,hBT⟩ : ∃ B,w6.heap.size=B:=⟨_,rfl⟩
 have hmBT:M ≤ BT:=by omega
 rw [hBT] at hbb ⊢
 clear hBT hmw6 hxb
 have HFB:Hid (∀ W,Since M w7 W→Ts W (.slice (some ⟨BT,0,none⟩) 1 1) [put11 3 (sigX 1 1 0 0)]):=Lib.hid fun W hW =>
  ⟨BT,0,⟨_,1,rfl,Nat.le_refl _,by decide,fun _=>rfl⟩,VT.at (hW.blk hbb hmBT).has (HFP.out W hW),trivial⟩
 clear hbb HFP
 go_wp2_with (first | (go_at_call 41;refine (block11_calls (some ⟨BT,0,none⟩) 1 1 _).mono ?_;rintro r w8 ⟨rfl,hx8⟩) | (go_at_call 41;refine (block11_calls none 0 0 _).mono ?_;rintro r w9 ⟨rfl,hx9⟩) | ((with_reducible show Jw (Op.buildSlice _ _ _));refine Hid.out ?_))
 replace HB1:=Lib.hid (HB1.out.ext hx8)
 replace HBS:=Lib.hid (HBS.out.ext hx8)
 replace HXW:=Lib.hid (HXW.out.trans hx8)
 replace HFE:=Lib.hid (fun W hW=>HFE.out W ((Since.of_ext hx8).trans hW))
 replace HFB:=Lib.hid (fun W hW=>HFB.out W ((Since.of_ext hx8).trans hW))
 replace HB1:=Lib.hid (HB1.out.ext hx9)
 replace HBS:=Lib.hid (HBS.out.ext hx9)
 replace HXW:=Lib.hid (HXW.out.trans hx9)
 replace HFE:=Lib.hid (fun W hW=>HFE.out W ((Since.of_ext hx9).trans hW))
 replace HFB:=Lib.hid (fun W hW=>HFB.out W ((Since.of_ext hx9).trans hW))
 have hmw9:M ≤ w9.heap.size:=by have:=hx8.size;have:=hx9.size;omega
 clear hx8 hx9 hmw7
 refine Lib.hid ?_
 have hxb:=ext_alloc w9 (.cells [[.int .i64 5,.int .i64 0,.int .i64 0,.int .i64 0,.slice none 0 0,.slice (some ⟨BT,0,none⟩) 1 1],[.int .i64 5,.int .i64 0,.int .i64 0,.int .i64 0,.slice none 0 0,.slice none 0 0]].flatten.toArray 60)
 have hbb:=Blk.new w9 [[.int .i64 5,.int .i64 0,.int .i64 0,.int .i64 0,.slice none 0 0,.slice (some ⟨BT,0,none⟩) 1 1],[.int .i64 5,.int .i64 0,.int .i64 0,.int .i64 0,.slice none 0 0,.slice none 0 0]].flatten.toArray 60
 refine wpList_bsN rfl _ 2 _ rfl appT (vs:=[.agg ([.int .i64 5,.int .i64 0,.int .i64 0,.int .i64 0,.slice none 0 0,.slice (some ⟨BT,0,none⟩) 1 1]:List Value).toArray,.agg ([.int .i64 5,.int .i64 0,.int .i64 0,.int .i64 0,.slice none 0 0,.slice none 0 0]:List Value).toArray]) rfl rfl (css:=[[.int .i64 5,.int .i64 0,.int .i64 0,.int .i64 0,.slice none 0 0,.slice (some ⟨BT,0,none⟩) 1 1],[.int .i64 5,.int .i64 0,.int .i64 0,.int .i64 0,.slice none 0 0,.slice none 0 0]]) rfl (by intro cs h;simp at h;rcases h with rfl | rfl <;> rfl) (by decide) (by decide) ?_
 replace HB1:=Lib.hid (HB1.out.ext hxb)
 replace HBS:=Lib.hid (HBS.out.ext hxb)
 replace HXW:=Lib.hid (HXW.out.trans hxb)
 replace HFE:=Lib.hid (fun W hW=>HFE.out W ((Since.of_ext hxb).trans hW))
 replace HFB:=Lib.hid (fun W hW=>HFB.out W ((Since.of_ext hxb).trans hW))
 have hmwa:M ≤ (w9.alloc (.cells [[.int .i64 5,.int .i64 0,.int .i64 0,.int .i64 0,.slice none 0 0,.slice (some ⟨BT,0,none⟩) 1 1],[.int .i64 5,.int .i64 0,.int .i64 0,.int .i64 0,.slice none 0 0,.slice none 0 0]].flatten.toArray 60)).heap.size:=by have:=hxb.size;omega
 generalize w9.alloc _=wa at *
 obtain ⟨BL,hBL⟩ : ∃ B,w9.heap.size=B:=⟨_,rfl⟩
 have hmBL:M ≤ BL:=by omega
 rw [hBL] at hbb ⊢
 clear hBL hmw9 hxb
 have HFL:Hid (∀ W,Since M wa W→Ts W (.slice (some ⟨BL,0,none⟩) 2 2) [block11 [put11 3 (sigX 1 1 0 0)],block11 []]):=Lib.hid fun W hW =>
  ⟨BL,0,⟨_,2,rfl,Nat.le_refl _,by decide,fun _=>rfl⟩,rows_of_flat (V:=VT) (fun _ _ _ _ _ h hv=>VT.at h hv) _ [[.int .i64 5,.int .i64 0,.int .i64 0,.int .i64 0,.slice none 0 0,.slice (some ⟨BT,0,none⟩) 1 1],[.int .i64 5,.int .i64 0,.int .i64 0,.int .i64 0,.slice none 0 0,.slice none 0 0]] W BL 0 (hW.blk hbb hmBL).has rfl (by intro cs h;simp at h;rcases h with rfl | rfl <;> rfl) (fun i h h'=>by
   match i,h with
   | 0,_=>exact ⟨_,_,rfl,Sl.nil _ _,HFB.out W hW⟩
   | 1,_=>exact ⟨_,_,rfl,Sl.nil _ _,Sl.nil _ _⟩
   | i + 2,h=>exact absurd h (by simp))⟩
 clear hbb HFB
 have hxc:=ext_alloc wa (.cells ([.int .i64 2,.int .i64 0,.int .i64 0,.int .i64 0,.slice (some ⟨BE,0,none⟩) 1 1,.slice (some ⟨BL,0,none⟩) 2 2]:List Value).toArray 60)
 have hbc:=Blk.new wa ([.int .i64 2,.int .i64 0,.int .i64 0,.int .i64 0,.slice (some ⟨BE,0,none⟩) 1 1,.slice (some ⟨BL,0,none⟩) 2 2]:List Value).toArray 60
 go_upto_region 3 with (first | ((with_reducible show Jw (Op.store 60 _ _));refine wpList_store_new rfl 60 _ _ rfl rfl (by first | rfl | simp) rfl agg_T (rfl) rfl (by simp [one_int,Value.oneCell']) ?_))
 replace HB1:=Lib.hid (HB1.out.ext hxc)
 replace HBS:=Lib.hid (HBS.out.ext hxc)
 replace HXW:=Lib.hid (HXW.out.trans hxc)
 replace HFE:=Lib.hid (fun W hW=>HFE.out W ((Since.of_ext hxc).trans hW))
 replace HFL:=Lib.hid (fun W hW=>HFL.out W ((Since.of_ext hxc).trans hW))
 have hmwb:M ≤ (wa.alloc (.cells ([.int .i64 2,.int .i64 0,.int .i64 0,.int .i64 0,.slice (some ⟨BE,0,none⟩) 1 1,.slice (some ⟨BL,0,none⟩) 2 2]:List Value).toArray 60)).heap.size:=by have:=hxc.size;omega
 generalize wa.alloc _=wb at *
 obtain ⟨BC,hBC⟩ : ∃ B,wa.heap.size=B:=⟨_,rfl⟩
 have hmBC:M ≤ BC:=by omega
 rw [hBC] at hbc ⊢
 have HFC:Hid (∀ W,Since M wb W→VT W [.int .i64 2,.int .i64 0,.int .i64 0,.int .i64 0,.slice (some ⟨BE,0,none⟩) 1 1,.slice (some ⟨BL,0,none⟩) 2 2] choice11):=Lib.hid fun W hW=>⟨_,_,rfl,HFE.out W hW,HFL.out W hW⟩
 have HBC:=Lib.hid hbc
 clear hBC hbc hxc HFE HFL hmwa
 refine wp_region_held_drew (S:=fun W=>Blk W BC ([.int .i64 2,.int .i64 0,.int .i64 0,.int .i64 0,.slice (some ⟨BE,0,none⟩) 1 1,.slice (some ⟨BL,0,none⟩) 2 2]:List Value).toArray 60) (by kernel_rfl) HBC.out.drew (fun hHeld=>?_)
 have hxd:Ext wb wb.drew:=Below.drew (Below.refl _ _)
 replace HB1:=Lib.hid (HB1.out.ext hxd)
 replace HBS:=Lib.hid (HBS.out.ext hxd)
 replace HXW:=Lib.hid (HXW.out.trans hxd)
 replace HBC:=Lib.hid (HBC.out.ext hxd)
 replace HFC:=Lib.hid (fun W hW=>HFC.out W ((Since.of_ext hxd).trans hW))
 have hmwc:M ≤ wb.drew.heap.size:=by have:=hxd.size;omega
 clear hxd hmwb
 generalize wb.drew=wc at *
 try simp only [J]
 (refine Jt 2 (.agg ([.int .i64 2,.int .i64 0,.int .i64 0,.int .i64 0,.slice (some ⟨BE,0,none⟩) 1 1,.slice (some ⟨BL,0,none⟩) 2 2]:List Value).toArray) rfl (yif_load rfl 60 _ rfl rfl (fun _ h=>Blk.has h) agg_T rfl) hHeld ?_;try simp only [J])
 (refine wpAnyH_ready (rs:=[0]) (by kernel_rfl) (by simp) ?_;refine AllReadyH.cons rfl (fun K hK=>?_) AllReadyH.nil)
 go_simp
 refine (sig11_calls 0 _).mono ?_
 rintro r wd ⟨rfl,hxs⟩
 replace HB1:=Lib.hid (HB1.out.ext hxs)
 replace HBS:=Lib.hid (HBS.out.ext hxs)
 replace HXW:=Lib.hid (HXW.out.trans hxs)
 replace HBC:=Lib.hid (HBC.out.ext hxs)
 replace HFC:=Lib.hid (fun W hW=>HFC.out W ((Since.of_ext hxs).trans hW))
 have hmwd:M ≤ wd.heap.size:=by have:=hxs.size;omega
 refine hK.out _ _ (hHeld.ext hxs) (fun hHeld=>?_)
 clear hK K hxs hmwc
 try simp only [J]
 (refine wpAnyH_ready (rs:=[1]) (by kernel_rfl) (by simp) ?_;refine AllReadyH.cons rfl (fun K hK=>?_) AllReadyH.nil)
 go_simp
 refine (put11_calls M 2 _ (sigX 1 0 0 0) _ (fun W _=>sigX_VE 0 W) hmwd).mono ?_
 rintro r we ⟨cq,rfl,hlq,hoq,hfq,hxs⟩
 replace HB1:=Lib.hid (HB1.out.ext hxs)
 replace HBS:=Lib.hid (HBS.out.ext hxs)
 replace HXW:=Lib.hid (HXW.out.trans hxs)
 replace HBC:=Lib.hid (HBC.out.ext hxs)
 replace HFC:=Lib.hid (fun W hW=>HFC.out W ((Since.of_ext hxs).trans hW))
 have hmwe:M ≤ we.heap.size:=by have:=hxs.size;omega
 have HFQ:=Lib.hid hfq
 refine hK.out _ _ (hHeld.ext hxs) (fun hHeld=>?_)
 clear hK K hxs hmwd hfq
 try simp only [J]
 have hlen:∀ cs ∈ [cq,[.int .i64 2,.int .i64 0,.int .i64 0,.int .i64 0,.slice (some ⟨BE,0,none⟩) 1 1,.slice (some ⟨BL,0,none⟩) 2 2]],cs.length=6:=by intro cs h;simp at h;rcases h with rfl | rfl;exact hlq;rfl
 (refine wpAnyH_ready (rs:=[3]) (by kernel_rfl) (by simp) ?_;refine AllReadyH.cons rfl (fun K hK=>?_) AllReadyH.nil)
 refine step_bsN rfl _ 2 _ rfl appT (vs:=[.agg cq.toArray,.agg ([.int .i64 2,.int .i64 0,.int .i64 0,.int .i64 0,.slice (some ⟨BE,0,none⟩) 1 1,.slice (some ⟨BL,0,none⟩) 2 2]:List Value).toArray]) rfl rfl (css:=[cq,[.int .i64 2,.int .i64 0,.int .i64 0,.int .i64 0,.slice (some ⟨BE,0,none⟩) 1 1,.slice (some ⟨BL,0,none⟩) 2 2]]) rfl hlen (by decide) (by decide) ?_
 have hxs:=ext_alloc we (.cells [cq,[.int .i64 2,.int .i64 0,.int .i64 0,.int .i64 0,.slice (some ⟨BE,0,none⟩) 1 1,.slice (some ⟨BL,0,none⟩) 2 2]].flatten.toArray 60)
 have hbb:=Blk.new we [cq,[.int .i64 2,.int .i64 0,.int .i64 0,.int .i64 0,.slice (some ⟨BE,0,none⟩) 1 1,.slice (some ⟨BL,0,none⟩) 2 2]].flatten.toArray 60
 replace HB1:=Lib.hid (HB1.out.ext hxs)
 replace HBS:=Lib.hid (HBS.out.ext hxs)
 replace HXW:=Lib.hid (HXW.out.trans hxs)
 replace HBC:=Lib.hid (HBC.out.ext hxs)
 replace HFC:=Lib.hid (fun W hW=>HFC.out W ((Since.of_ext hxs).trans hW))
 replace HFQ:=Lib.hid (fun W hW=>HFQ.out W ((Since.of_ext hxs).trans hW))
 have hmwf:M ≤ (we.alloc (.cells [cq,[.int .i64 2,.int .i64 0,.int .i64 0,.int .i64 0,.slice (some ⟨BE,0,none⟩) 1 1,.slice (some ⟨BL,0,none⟩) 2 2]].flatten.toArray 60)).heap.size:=by have:=hxs.size;omega
 obtain ⟨BQ,hBQ⟩ : ∃ P,we.heap.size=P:=⟨_,rfl⟩
 have hmBQ:M ≤ BQ:=by omega
 rw [hBQ] at hbb ⊢
 refine hK.out _ _ (hHeld.ext hxs) (fun hHeld=>?_)
 clear hK K hxs hBQ hmwe
 generalize we.alloc _=wf at *
 try simp only [J]
 have HFT:Hid (∀ W,Since M wf W→Ts W (.slice (some ⟨BQ,0,none⟩) 2 2) [put11 2 (sigX 1 0 0 0),choice11]):=Lib.hid fun W hW =>
  ⟨BQ,0,⟨_,2,rfl,Nat.le_refl _,by decide,fun _=>rfl⟩,rows_of_flat (V:=VT) (fun _ _ _ _ _ h hv=>VT.at h hv) _ [cq,[.int .i64 2,.int .i64 0,.int .i64 0,.int .i64 0,.slice (some ⟨BE,0,none⟩) 1 1,.slice (some ⟨BL,0,none⟩) 2 2]] W BQ 0 (hW.blk hbb hmBQ).has rfl hlen (fun i h h'=>by
   match i,h with
   | 0,_=>exact HFQ.out W hW
   | 1,_=>exact HFC.out W hW
   | i + 2,h=>exact absurd h (by simp))⟩
 clear hbb HFQ HFC hlen
 (refine Jt 4 (.agg [.bool false,.slice (some ⟨BQ,0,none⟩) 2 2].toArray) rfl (yif_load1 rfl (by intro W3 hW;clear hW;go_simp)) hHeld ?_;try simp only [J])
 (refine wpAnyH_ready (rs:=[5]) (by kernel_rfl) (by simp) ?_;refine AllReadyH.cons rfl (fun K hK=>?_) AllReadyH.nil)
 refine step_bsN rfl _ 1 _ rfl appProc (vs:=[.agg [.bool false,.slice (some ⟨BQ,0,none⟩) 2 2].toArray]) rfl rfl (css:=[[.bool false,.slice (some ⟨BQ,0,none⟩) 2 2]]) rfl (by intro cs h;simp at h;subst h;rfl) (by decide) (by decide) ?_
 have hxs:=ext_alloc wf (.cells [[Value.bool false,.slice (some ⟨BQ,0,none⟩) 2 2]].flatten.toArray 39)
 have hbb:=Blk.new wf [[Value.bool false,.slice (some ⟨BQ,0,none⟩) 2 2]].flatten.toArray 39
 replace HB1:=Lib.hid (HB1.out.ext hxs)
 replace HBS:=Lib.hid (HBS.out.ext hxs)
 replace HXW:=Lib.hid (HXW.out.trans hxs)
 replace HBC:=Lib.hid (HBC.out.ext hxs)
 replace HFT:=Lib.hid (fun W hW=>HFT.out W ((Since.of_ext hxs).trans hW))
 obtain ⟨BP,hBP⟩ : ∃ P,wf.heap.size=P:=⟨_,rfl⟩
 have hmBP:M ≤ BP:=by omega
 rw [hBP] at hbb ⊢
 refine hK.out _ _ (hHeld.ext hxs) (fun hHeld=>?_)
 clear hK K hxs hBP hmwf
 generalize wf.alloc _=wg at *
 try simp only [J]
 have HFD:Hid (∀ W,Since M wg W→Procs W (.slice (some ⟨BP,0,none⟩) 1 1) d11.procs):=Lib.hid fun W hW =>
  ⟨BP,0,⟨_,1,rfl,Nat.le_refl _,by decide,fun _=>rfl⟩,⟨_,(hW.blk hbb hmBP).has,HFT.out W hW⟩,trivial⟩
 clear hbb HFT
 (refine Jt 6 (.pointer (some ⟨B1,1,Option.none⟩)) rfl (yif_load1 rfl (by intro W3 hW;clear hW;go_simp)) hHeld ?_;try simp only [J])
 (refine wpAnyH_ready (rs:=[7]) (by kernel_rfl) (by simp) ?_;refine AllReadyH.cons rfl (fun K hK=>?_) AllReadyH.nil)
 have x0:=HB1.out.has 1 _ rfl
 have y0:=HB1.out.frozen 1
 have hbs:=HB1.out.set 1 (.slice (some ⟨BP,0,none⟩) 1 1)
 have hgs:=gb_set wg B1 1 (.slice (some ⟨BP,0,none⟩) 1 1)
 replace HBS:=Lib.hid (HBS.out.grown hgs (by omega))
 replace HXW:=Lib.hid (Ext.grown HXW.out hgs (by have:=HNW.out;omega))
 have HPR:=Lib.hid (HFD.out _ ((Since.refl M wg).more hgs (by omega)))
 go_simp
 refine hK.out _ _ (hHeld.grown hgs (by omega)) (fun hHeld=>?_)
 clear hK K x0 y0 hHeld HFD HBC
 refine wpAnyH_done (by kernel_rfl) ?_ _
 generalize wg.setCell _ _=wh at *
 replace HB1:=Lib.hid (show Blk wh B1 [.slice (some ⟨N,0,none⟩) 4 4,.slice (some ⟨BP,0,none⟩) 1 1,.slice none 0 0].toArray 26 from hbs)
 have HFV:=Lib.hid (show FlatV wh (.agg #[.slice (some ⟨N,0,none⟩) 4 4,.slice (some ⟨BP,0,none⟩) 1 1,.slice none 0 0]) d11 from ⟨_,_,_,rfl,sigs11 HBS.out,HPR.out,Sl.nil _ _⟩)
 clear hbs hgs HBS HPR
 go_wp2_with (first | ((with_reducible show Jw (Op.load 26 _));refine wpList_load_has rfl 26 _ rfl rfl (HB1.out.has) agg_Flat rfl ?_) | ((with_reducible show Jw (Op.buildSlice _ _ _));refine Hid.out ?_))
 refine Lib.hid ?_
 have hxs:=ext_alloc wh (.cells ([[.int .u64 1],[.int .u64 1],[.int .u64 0],[.int .u64 0]]:List (List Value)).flatten.toArray 34)
 have hbu:=Blk.new wh ([[.int .u64 1],[.int .u64 1],[.int .u64 0],[.int .u64 0]]:List (List Value)).flatten.toArray 34
 refine wpList_bsN rfl _ 4 _ rfl appWord (vs:=[.int .u64 1,.int .u64 1,.int .u64 0,.int .u64 0]) rfl rfl (css:=[[.int .u64 1],[.int .u64 1],[.int .u64 0],[.int .u64 0]]) rfl (by intro cs h;simp at h;rcases h with rfl | rfl <;> rfl) (by decide) (by decide) ?_
 replace HB1:=Lib.hid (HB1.out.ext hxs)
 replace HFV:=Lib.hid (HFV.out.ext hxs)
 replace HXW:=Lib.hid (HXW.out.trans hxs)
 obtain ⟨BU,hBU⟩ : ∃ P,wh.heap.size=P:=⟨_,rfl⟩
 rw [hBU] at hbu ⊢
 clear hBU hxs
 generalize wh.alloc _=wi at *
 have hus:Us wi (.slice (some ⟨BU,0,none⟩) 4 4) [1,1,0,0]:=⟨BU,0,⟨_,4,rfl,Nat.le_refl _,by decide,fun _=>rfl⟩,rows_flat (f:=fun x:Nat=>[Value.int .u64 (x:Int)]) (fun _=>rfl) [1,1,0,0] 0 hbu.has⟩
 have HRN:=Lib.hid (Run_calls d11 _ [1,1,0,0] _ 0 wi HFV.out d11_ok hus (by unfold us64;decide) (by unfold i64r;decide))
 rw [d11_run] at HRN
 clear hus hbu
 go_upto_region 5 with (first | (go_at_call 23;refine HRN.out.mono ?_;rintro r wj ⟨ua,rfl,hra,hxs⟩))
 replace HB1:=Lib.hid (HB1.out.ext hxs)
 replace HFV:=Lib.hid (HFV.out.ext hxs)
 replace HXW:=Lib.hid (HXW.out.trans hxs)
 have HRA:=Lib.hid hra.cells
 clear hra hxs HRN
 have HC:=Lib.hid (Reads_calls d11 _ wj HFV.out d11_ok 0 (by decide))
 rw [if_pos d11_told,if_pos d11_told,d11_reads] at HC
 go_upto_region 6 with (first | ((with_reducible show Jw (Op.load 26 _));refine wpList_load_has rfl 26 _ rfl rfl (HB1.out.has) agg_Flat rfl ?_) | (go_at_call 26;refine HC.out.mono ?_;rintro r wk ⟨urd,rfl,hr,hxs⟩))
 replace HB1:=Lib.hid (HB1.out.ext hxs)
 replace HFV:=Lib.hid (HFV.out.ext hxs)
 replace HXW:=Lib.hid (HXW.out.trans hxs)
 replace HRA:=Lib.hid (HRA.out.ext hxs)
 have HRD:=Lib.hid hr.cells
 clear hr hxs HC
 have HC:=Lib.hid (Writes_calls d11 _ wk HFV.out d11_ok 0 (by decide))
 rw [if_pos d11_told,if_pos d11_told,d11_writes] at HC
 go_upto_region 7 with (first | ((with_reducible show Jw (Op.load 26 _));refine wpList_load_has rfl 26 _ rfl rfl (HB1.out.has) agg_Flat rfl ?_) | (go_at_call 28;refine HC.out.mono ?_;rintro r wl ⟨uwr,rfl,hr,hxs⟩))
 replace HB1:=Lib.hid (HB1.out.ext hxs)
 replace HFV:=Lib.hid (HFV.out.ext hxs)
 replace HXW:=Lib.hid (HXW.out.trans hxs)
 replace HRA:=Lib.hid (HRA.out.ext hxs)
 replace HRD:=Lib.hid (HRD.out.ext hxs)
 have HWR:=Lib.hid hr.cells
 clear hr hxs HC
 have HC:=Lib.hid (Always_calls d11 _ wl HFV.out d11_ok 0 (by decide))
 rw [if_pos d11_told,if_pos d11_told,d11_always] at HC
 go_upto_region 8 with (first | ((with_reducible show Jw (Op.load 26 _));refine wpList_load_has rfl 26 _ rfl rfl (HB1.out.has) agg_Flat rfl ?_) | (go_at_call 30;refine HC.out.mono ?_;rintro r wm ⟨ual,rfl,hr,hxs⟩))
 replace HB1:=Lib.hid (HB1.out.ext hxs)
 replace HFV:=Lib.hid (HFV.out.ext hxs)
 replace HXW:=Lib.hid (HXW.out.trans hxs)
 replace HRA:=Lib.hid (HRA.out.ext hxs)
 replace HRD:=Lib.hid (HRD.out.ext hxs)
 replace HWR:=Lib.hid (HWR.out.ext hxs)
 have HAL:=Lib.hid hr.cells
 clear hr hxs HC
 have HC:=Lib.hid (Bits_ok d11 _ wm HFV.out d11_ok d11_check)
 go_upto_region 9 with (first | ((with_reducible show Jw (Op.load 26 _));refine wpList_load_has rfl 26 _ rfl rfl (HB1.out.has) agg_Flat rfl ?_) | (go_at_call 19;refine HC.out.mono ?_;rintro r wn ⟨ubt,rfl,hr,hxs⟩))
 replace HB1:=Lib.hid (HB1.out.ext hxs)
 replace HFV:=Lib.hid (HFV.out.ext hxs)
 replace HXW:=Lib.hid (HXW.out.trans hxs)
 replace HRA:=Lib.hid (HRA.out.ext hxs)
 replace HRD:=Lib.hid (HRD.out.ext hxs)
 replace HWR:=Lib.hid (HWR.out.ext hxs)
 replace HAL:=Lib.hid (HAL.out.ext hxs)
 have HBT:=Lib.hid (show Ints wn ubt [0,1,2,3,4] from d11_offs ▸ hr.cells)
 clear hr hxs HC
 have HC:=Lib.hid (Run_calls d11 _ [] (.slice none 0 0) 0 wn HFV.out d11_ok (Sl.nil _ _) (by unfold us64;decide) (by unfold i64r;decide))
 rw [d11_run0] at HC
 go_upto_region 10 with (first | ((with_reducible show Jw (Op.load 26 _));refine wpList_load_has rfl 26 _ rfl rfl (HB1.out.has) agg_Flat rfl ?_) | (go_at_call 23;refine HC.out.mono ?_;rintro r wo ⟨uno,rfl,hr,hxs⟩))
 replace HB1:=Lib.hid (HB1.out.ext hxs)
 replace HFV:=Lib.hid (HFV.out.ext hxs)
 replace HXW:=Lib.hid (HXW.out.trans hxs)
 replace HRA:=Lib.hid (HRA.out.ext hxs)
 replace HRD:=Lib.hid (HRD.out.ext hxs)
 replace HWR:=Lib.hid (HWR.out.ext hxs)
 replace HAL:=Lib.hid (HAL.out.ext hxs)
 replace HBT:=Lib.hid (HBT.out.ext hxs)
 clear hr hxs HC
 have HC:=Lib.hid (Reads_calls d11 _ wo HFV.out d11_ok 1 (by decide))
 rw [if_neg d11_told1,if_neg d11_told1] at HC
 go_upto_region 11 with (first | ((with_reducible show Jw (Op.load 26 _));refine wpList_load_has rfl 26 _ rfl rfl (HB1.out.has) agg_Flat rfl ?_) | (go_at_call 26;refine HC.out.mono ?_;rintro r wp ⟨ure,rfl,hr,hxs⟩))
 replace HB1:=Lib.hid (HB1.out.ext hxs)
 replace HFV:=Lib.hid (HFV.out.ext hxs)
 replace HXW:=Lib.hid (HXW.out.trans hxs)
 replace HRA:=Lib.hid (HRA.out.ext hxs)
 replace HRD:=Lib.hid (HRD.out.ext hxs)
 replace HWR:=Lib.hid (HWR.out.ext hxs)
 replace HAL:=Lib.hid (HAL.out.ext hxs)
 replace HBT:=Lib.hid (HBT.out.ext hxs)
 clear hr hxs HC
 go_wp2_with (first | ((with_reducible show Jw (Op.buildSlice _ _ _));refine Hid.out ?_))
 refine Lib.hid ?_
 have hxs:=ext_alloc wp (.cells ([[.int .i64 0],[.int .i64 1]]:List (List Value)).flatten.toArray 3)
 have hbu:=Blk.new wp ([[.int .i64 0],[.int .i64 1]]:List (List Value)).flatten.toArray 3
 refine wpList_bsN rfl _ 2 _ rfl appInt (vs:=[.int .i64 0,.int .i64 1]) rfl rfl (css:=[[.int .i64 0],[.int .i64 1]]) rfl (by intro cs h;simp at h;rcases h with rfl | rfl <;> rfl) (by decide) (by decide) ?_
 replace HB1:=Lib.hid (HB1.out.ext hxs)
 replace HFV:=Lib.hid (HFV.out.ext hxs)
 replace HXW:=Lib.hid (HXW.out.trans hxs)
 replace HRA:=Lib.hid (HRA.out.ext hxs)
 replace HRD:=Lib.hid (HRD.out.ext hxs)
 replace HWR:=Lib.hid (HWR.out.ext hxs)
 replace HAL:=Lib.hid (HAL.out.ext hxs)
 replace HBT:=Lib.hid (HBT.out.ext hxs)
 obtain ⟨BI1,hBU⟩ : ∃ P,wp.heap.size=P:=⟨_,rfl⟩
 rw [hBU] at hbu ⊢
 clear hBU hxs
 generalize wp.alloc _=wq at *
 have hus:Ints wq (.slice (some ⟨BI1,0,none⟩) 2 2) [0,1]:=⟨BI1,0,⟨_,2,rfl,Nat.le_refl _,by decide,fun _=>rfl⟩,rows_flat (f:=fun x:Int=>[Value.int .i64 x]) (fun _=>rfl) [0,1] 0 hbu.has⟩
 have HI:=Lib.hid (Ints_calls11 _ _ _ _ wq HRD.out hus (by decide))
 rw [decide_eq_true rfl] at HI
 clear hus hbu
 go_wp2_with (first | (go_at_call 33;refine HI.out.mono ?_;rintro r wr ⟨rfl,hxs⟩;have HXS:=Lib.hid hxs;clear hxs) | ((with_reducible show Jw (Op.buildSlice _ _ _));refine Hid.out ?_))
 replace HB1:=Lib.hid (HB1.out.ext HXS.out)
 replace HFV:=Lib.hid (HFV.out.ext HXS.out)
 replace HXW:=Lib.hid (HXW.out.trans HXS.out)
 replace HRA:=Lib.hid (HRA.out.ext HXS.out)
 replace HRD:=Lib.hid (HRD.out.ext HXS.out)
 replace HWR:=Lib.hid (HWR.out.ext HXS.out)
 replace HAL:=Lib.hid (HAL.out.ext HXS.out)
 replace HBT:=Lib.hid (HBT.out.ext HXS.out)
 clear HXS HI
 refine Lib.hid ?_
 have hxs:=ext_alloc wr (.cells ([[.int .i64 2],[.int .i64 3]]:List (List Value)).flatten.toArray 3)
 have hbu:=Blk.new wr ([[.int .i64 2],[.int .i64 3]]:List (List Value)).flatten.toArray 3
 refine wpList_bsN rfl _ 2 _ rfl appInt (vs:=[.int .i64 2,.int .i64 3]) rfl rfl (css:=[[.int .i64 2],[.int .i64 3]]) rfl (by intro cs h;simp at h;rcases h with rfl | rfl <;> rfl) (by decide) (by decide) ?_
 replace HB1:=Lib.hid (HB1.out.ext hxs)
 replace HFV:=Lib.hid (HFV.out.ext hxs)
 replace HXW:=Lib.hid (HXW.out.trans hxs)
 replace HRA:=Lib.hid (HRA.out.ext hxs)
 replace HRD:=Lib.hid (HRD.out.ext hxs)
 replace HWR:=Lib.hid (HWR.out.ext hxs)
 replace HAL:=Lib.hid (HAL.out.ext hxs)
 replace HBT:=Lib.hid (HBT.out.ext hxs)
 obtain ⟨BI2,hBU⟩ : ∃ P,wr.heap.size=P:=⟨_,rfl⟩
 rw [hBU] at hbu ⊢
 clear hBU hxs
 generalize wr.alloc _=ws at *
 have hus:Ints ws (.slice (some ⟨BI2,0,none⟩) 2 2) [2,3]:=⟨BI2,0,⟨_,2,rfl,Nat.le_refl _,by decide,fun _=>rfl⟩,rows_flat (f:=fun x:Int=>[Value.int .i64 x]) (fun _=>rfl) [2,3] 0 hbu.has⟩
 have HI:=Lib.hid (Ints_calls11 _ _ _ _ ws HWR.out hus (by decide))
 rw [decide_eq_true rfl] at HI
 clear hus hbu
 go_wp2_with (first | (go_at_call 33;refine HI.out.mono ?_;rintro r wt ⟨rfl,hxs⟩;have HXS:=Lib.hid hxs;clear hxs) | ((with_reducible show Jw (Op.buildSlice _ _ _));refine Hid.out ?_))
 replace HB1:=Lib.hid (HB1.out.ext HXS.out)
 replace HFV:=Lib.hid (HFV.out.ext HXS.out)
 replace HXW:=Lib.hid (HXW.out.trans HXS.out)
 replace HRA:=Lib.hid (HRA.out.ext HXS.out)
 replace HRD:=Lib.hid (HRD.out.ext HXS.out)
 replace HWR:=Lib.hid (HWR.out.ext HXS.out)
 replace HAL:=Lib.hid (HAL.out.ext HXS.out)
 replace HBT:=Lib.hid (HBT.out.ext HXS.out)
 clear HXS HI
 refine Lib.hid ?_
 have hxs:=ext_alloc wt (.cells ([[.int .i64 2]]:List (List Value)).flatten.toArray 3)
 have hbu:=Blk.new wt ([[.int .i64 2]]:List (List Value)).flatten.toArray 3
 refine wpList_bsN rfl _ 1 _ rfl appInt (vs:=[.int .i64 2]) rfl rfl (css:=[[.int .i64 2]]) rfl (by intro cs h;simp at h;rcases h with rfl <;> rfl) (by decide) (by decide) ?_
 replace HB1:=Lib.hid (HB1.out.ext hxs)
 replace HFV:=Lib.hid (HFV.out.ext hxs)
 replace HXW:=Lib.hid (HXW.out.trans hxs)
 replace HRA:=Lib.hid (HRA.out.ext hxs)
 replace HRD:=Lib.hid (HRD.out.ext hxs)
 replace HWR:=Lib.hid (HWR.out.ext hxs)
 replace HAL:=Lib.hid (HAL.out.ext hxs)
 replace HBT:=Lib.hid (HBT.out.ext hxs)
 obtain ⟨BI3,hBU⟩ : ∃ P,wt.heap.size=P:=⟨_,rfl⟩
 rw [hBU] at hbu ⊢
 clear hBU hxs
 generalize wt.alloc _=wu at *
 have hus:Ints wu (.slice (some ⟨BI3,0,none⟩) 1 1) [2]:=⟨BI3,0,⟨_,1,rfl,Nat.le_refl _,by decide,fun _=>rfl⟩,rows_flat (f:=fun x:Int=>[Value.int .i64 x]) (fun _=>rfl) [2] 0 hbu.has⟩
 have HI:=Lib.hid (Ints_calls11 _ _ _ _ wu HAL.out hus (by decide))
 rw [decide_eq_true rfl] at HI
 clear hus hbu
 go_wp2_with (first | (go_at_call 33;refine HI.out.mono ?_;rintro r wv ⟨rfl,hxs⟩;have HXS:=Lib.hid hxs;clear hxs) | ((with_reducible show Jw (Op.buildSlice _ _ _));refine Hid.out ?_))
 replace HB1:=Lib.hid (HB1.out.ext HXS.out)
 replace HFV:=Lib.hid (HFV.out.ext HXS.out)
 replace HXW:=Lib.hid (HXW.out.trans HXS.out)
 replace HRA:=Lib.hid (HRA.out.ext HXS.out)
 replace HRD:=Lib.hid (HRD.out.ext HXS.out)
 replace HWR:=Lib.hid (HWR.out.ext HXS.out)
 replace HAL:=Lib.hid (HAL.out.ext HXS.out)
 replace HBT:=Lib.hid (HBT.out.ext HXS.out)
 clear HXS HI
 refine Lib.hid ?_
 have hxs:=ext_alloc wv (.cells ([[.int .i64 0],[.int .i64 1],[.int .i64 2],[.int .i64 3],[.int .i64 4]]:List (List Value)).flatten.toArray 3)
 have hbu:=Blk.new wv ([[.int .i64 0],[.int .i64 1],[.int .i64 2],[.int .i64 3],[.int .i64 4]]:List (List Value)).flatten.toArray 3
 refine wpList_bsN rfl _ 5 _ rfl appInt (vs:=[.int .i64 0,.int .i64 1,.int .i64 2,.int .i64 3,.int .i64 4]) rfl rfl (css:=[[.int .i64 0],[.int .i64 1],[.int .i64 2],[.int .i64 3],[.int .i64 4]]) rfl (by intro cs h;simp at h;rcases h with rfl | rfl | rfl | rfl | rfl <;> rfl) (by decide) (by decide) ?_
 replace HB1:=Lib.hid (HB1.out.ext hxs)
 replace HFV:=Lib.hid (HFV.out.ext hxs)
 replace HXW:=Lib.hid (HXW.out.trans hxs)
 replace HRA:=Lib.hid (HRA.out.ext hxs)
 replace HRD:=Lib.hid (HRD.out.ext hxs)
 replace HWR:=Lib.hid (HWR.out.ext hxs)
 replace HAL:=Lib.hid (HAL.out.ext hxs)
 replace HBT:=Lib.hid (HBT.out.ext hxs)
 obtain ⟨BI4,hBU⟩ : ∃ P,wv.heap.size=P:=⟨_,rfl⟩
 rw [hBU] at hbu ⊢
 clear hBU hxs
 generalize wv.alloc _=ww at *
 have hus:Ints ww (.slice (some ⟨BI4,0,none⟩) 5 5) [0,1,2,3,4]:=⟨BI4,0,⟨_,5,rfl,Nat.le_refl _,by decide,fun _=>rfl⟩,rows_flat (f:=fun x:Int=>[Value.int .i64 x]) (fun _=>rfl) [0,1,2,3,4] 0 hbu.has⟩
 have HI:=Lib.hid (Ints_calls11 _ _ _ _ ww HBT.out hus (by decide))
 rw [decide_eq_true rfl] at HI
 clear hus hbu
 go_wp2_with (first | (go_at_call 33;refine HI.out.mono ?_;rintro r wx ⟨rfl,hxs⟩;have HXS:=Lib.hid hxs;clear hxs) | ((with_reducible show Jw (Op.buildSlice _ _ _));refine Hid.out ?_))
 replace HB1:=Lib.hid (HB1.out.ext HXS.out)
 replace HFV:=Lib.hid (HFV.out.ext HXS.out)
 replace HXW:=Lib.hid (HXW.out.trans HXS.out)
 replace HRA:=Lib.hid (HRA.out.ext HXS.out)
 replace HRD:=Lib.hid (HRD.out.ext HXS.out)
 replace HWR:=Lib.hid (HWR.out.ext HXS.out)
 replace HAL:=Lib.hid (HAL.out.ext HXS.out)
 replace HBT:=Lib.hid (HBT.out.ext HXS.out)
 clear HXS HI
 refine Lib.hid ?_
 have hxs:=ext_alloc wx (.cells ([[.int .u64 1],[.int .u64 1],[.int .u64 1],[.int .u64 1]]:List (List Value)).flatten.toArray 34)
 have hbu:=Blk.new wx ([[.int .u64 1],[.int .u64 1],[.int .u64 1],[.int .u64 1]]:List (List Value)).flatten.toArray 34
 refine wpList_bsN rfl _ 4 _ rfl appWord (vs:=[.int .u64 1,.int .u64 1,.int .u64 1,.int .u64 1]) rfl rfl (css:=[[.int .u64 1],[.int .u64 1],[.int .u64 1],[.int .u64 1]]) rfl (by intro cs h;simp at h;subst h;rfl) (by decide) (by decide) ?_
 replace HB1:=Lib.hid (HB1.out.ext hxs)
 replace HFV:=Lib.hid (HFV.out.ext hxs)
 replace HXW:=Lib.hid (HXW.out.trans hxs)
 replace HRA:=Lib.hid (HRA.out.ext hxs)
 replace HRD:=Lib.hid (HRD.out.ext hxs)
 replace HWR:=Lib.hid (HWR.out.ext hxs)
 replace HAL:=Lib.hid (HAL.out.ext hxs)
 replace HBT:=Lib.hid (HBT.out.ext hxs)
 obtain ⟨BV,hBU⟩ : ∃ P,wx.heap.size=P:=⟨_,rfl⟩
 rw [hBU] at hbu ⊢
 clear hBU hxs
 generalize wx.alloc _=wy at *
 have hus:Us wy (.slice (some ⟨BV,0,none⟩) 4 4) [1,1,1,1]:=⟨BV,0,⟨_,4,rfl,Nat.le_refl _,by decide,fun _=>rfl⟩,rows_flat (f:=fun x:Nat=>[Value.int .u64 (x:Int)]) (fun _=>rfl) [1,1,1,1] 0 hbu.has⟩
 have HI:=Lib.hid (Words_calls11 _ _ _ _ wy HRA.out hus (by decide))
 rw [decide_eq_true rfl] at HI
 clear hus hbu
 go_wp2_with (first | (go_at_call 25;refine HI.out.mono ?_;rintro r wz ⟨rfl,hxs⟩))
 go_ret
 exact ⟨rfl,HXW.out.trans hxs⟩
end Go.Proofs.YtaipaccpaljecaaGreat
