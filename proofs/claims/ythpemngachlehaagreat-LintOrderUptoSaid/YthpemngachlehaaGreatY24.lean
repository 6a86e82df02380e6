/- Laws and walks that a claim of this seat leans on: Mark6, Mark8. -/
import Derived.Test.YthpemngachlehaaGreatY17
import Derived.Test.YthpemngachlehaaGreatYRef17
import Derived.Test.YthpemngachlehaaGreatY16
import Derived.Test.YthpemngachlehaaGreatY18
import Derived.Test.YthpemngachlehaaGreatY00
set_option linter.all false
namespace Go.Proofs.YthpemngachlehaaGreat
open Go.RowKit
/-! ### filigreeref11.no, Bits -/
set_option maxHeartbeats 2000000 in
theorem no_calls (d:Flat) (v:Value) (w:World) (h:FlatV w v d) (hok:d.ok) (p:Int) :
  Calls Tryz.prog 95 #[v,.int .i64 p] w fun r w'=>r=.returned (.bool (!toldOk d p))∧Ext w w':=by
 have HF:=Lib.hid h
 obtain ⟨sv,pv,cv,rfl,hS,hP,hC⟩:=h
 have HX:=Lib.hid (ext_alloc w (.cells [sv,pv,cv].toArray 26))
 have HB:=Lib.hid (Blk.new w [sv,pv,cv].toArray 26)
 have HCK:=Lib.hid (Check_callsR d _ _ (HF.out.ext HX.out) hok)
 have hln:=hok.procs
 obtain ⟨a0,b0,o0,c0,rfl,hc1,hc2,ha,hr⟩:=hP.open
 obtain ⟨q,hq⟩ : ∃ q,checkM d=q:=⟨_,rfl⟩
 have HT:=Lib.hid (show toldOk d p=(decide (q=0) && decide (0 ≤ p) && decide (p < d.procs.length)) by unfold toldOk;rw [hq])
 rw [hq] at HCK
 obtain ⟨t,ht⟩ : ∃ t,toldOk d p=t:=⟨_,rfl⟩
 rw [ht] at HT ⊢
 clear hS hP hC ha hr hq hok ht
 go_enter Tryz.func95,Tryz.ntmps95
 go_upto_region 1 with fail
 generalize w.alloc _=w1 at *
 by_cases hq:q=0
 ·have bq:(q != 0)=false:=by rw [bne_eq_false_iff_eq];exact hq
  by_cases hp:p < 0
  ·obtain rfl:t=false:=by rw [HT.out];simp;omega
   clear hq
   go_wp2_with (first | ((with_reducible show wpList _ _ _ (⟨_,Op.load 26 _,_,_,_,_⟩ :: _) _ _);refine wpList_load_has rfl 26 _ rfl rfl (HB.out.has) agg_Flat rfl ?_) | (go_at_call 23;refine HCK.out.mono ?_;rintro r w2 ⟨rfl,hx2⟩;have y1:=(HB.out.ext hx2).has 1 _ rfl;rw [Nat.zero_add] at y1))
   go_ret
   exact ⟨rfl,HX.out.trans hx2⟩
  ·by_cases hp2:p < d.procs.length
   ·obtain rfl:t=true:=by rw [HT.out];simp [hq];omega
    have hb1:decide (p < 0)=false:=decide_eq_false hp
    have hb2:decide ((d.procs.length:Int) ≤ p)=false:=decide_eq_false (by omega)
    clear hq hp hp2
    go_wp2_with (first | ((with_reducible show wpList _ _ _ (⟨_,Op.load 26 _,_,_,_,_⟩ :: _) _ _);refine wpList_load_has rfl 26 _ rfl rfl (HB.out.has) agg_Flat rfl ?_) | (go_at_call 23;refine HCK.out.mono ?_;rintro r w2 ⟨rfl,hx2⟩;have y1:=(HB.out.ext hx2).has 1 _ rfl;rw [Nat.zero_add] at y1))
    go_ret
    exact ⟨rfl,HX.out.trans hx2⟩
   ·obtain rfl:t=false:=by rw [HT.out];simp;omega
    clear hq
    go_wp2_with (first | ((with_reducible show wpList _ _ _ (⟨_,Op.load 26 _,_,_,_,_⟩ :: _) _ _);refine wpList_load_has rfl 26 _ rfl rfl (HB.out.has) agg_Flat rfl ?_) | (go_at_call 23;refine HCK.out.mono ?_;rintro r w2 ⟨rfl,hx2⟩;have y1:=(HB.out.ext hx2).has 1 _ rfl;rw [Nat.zero_add] at y1))
    go_ret
    exact ⟨rfl,HX.out.trans hx2⟩
 ·have bq:(q != 0)=true:=by rw [bne_iff_ne];exact hq
  obtain rfl:t=false:=by rw [HT.out];simp [hq]
  clear hq
  go_wp2_with (first | ((with_reducible show wpList _ _ _ (⟨_,Op.load 26 _,_,_,_,_⟩ :: _) _ _);refine wpList_load_has rfl 26 _ rfl rfl (HB.out.has) agg_Flat rfl ?_) | (go_at_call 23;refine HCK.out.mono ?_;rintro r w2 ⟨rfl,hx2⟩;have y1:=(HB.out.ext hx2).has 1 _ rfl;rw [Nat.zero_add] at y1))
  go_ret
  exact ⟨rfl,HX.out.trans hx2⟩
set_option maxHeartbeats 2000000 in
theorem Bits_callsR (d:Flat) (v:Value) (w:World) (h:FlatV w v d) (hok:d.ok) :
  Calls Tryz.prog 52 #[v] w fun r w'=>∃ u,r=.returned (.tuple #[u,.int .i64 (if checkM d=0 then 0 else 1)])∧IntRow w.heap.size u (if checkM d=0 then offsD d else []) w'∧Ext w w':=by
 have HF:=Lib.hid h
 have HLN:=Lib.hid hok.signals
 obtain ⟨sv,pv,cv,rfl,hS,hP,hC⟩:=h
 have HX:=Lib.hid (ext_alloc w (.cells [sv,pv,cv].toArray 26))
 have HB:=Lib.hid (Blk.new w [sv,pv,cv].toArray 26)
 have HCK:=Lib.hid (Check_callsR d _ _ (HF.out.ext HX.out) hok)
 have hone : [sv,pv,cv].all (·.oneCell')=true:=by simp [hS.one,hP.one,hC.one]
 clear hS hP hC hok
 by_cases hck:checkM d=0
 ·have HW:=Lib.hid (checkM_w hck)
  have HST:=Lib.hid (fun W (hx:Ext w W)=>starts_calls d _ W (HF.out.ext hx) HLN.out HW.out)
  rw [hck] at HCK
  rw [if_pos hck,if_pos hck]
  clear hck
  go_enter Tryz.func52,Tryz.ntmps52
  go_upto_region 1 with fail
  generalize w.alloc _=w1 at *
  go_wp2_with (first | ((with_reducible show wpList _ _ _ (⟨_,Op.load 26 _,_,_,_,_⟩ :: _) _ _);refine wpList_load_has rfl 26 _ rfl rfl (HB.out.has) agg_Flat rfl ?_) | (go_at_call 23;refine HCK.out.mono ?_;rintro r w2 ⟨rfl,hx2⟩;have HB2:=Lib.hid (HB.out.ext hx2)) | ((with_reducible show wpList _ _ _ (⟨_,Op.load 26 _,_,_,_,_⟩ :: _) _ _);refine wpList_load_has rfl 26 _ rfl rfl (HB2.out.has) agg_Flat rfl ?_) | (go_at_call 94;refine (HST.out _ (HX.out.trans hx2)).mono ?_;rintro r w3 ⟨u,rfl,hr3,hx3⟩))
  refine bodyPost_ret (v:=.tuple #[u,.int .i64 0]) (by simp [results,Tryz.results52,go_sem]) rfl ⟨u,rfl,hr3.less (HX.out.trans hx2).size,(HX.out.trans hx2).trans hx3⟩
 ·obtain ⟨q,hq⟩ : ∃ q,checkM d=q:=⟨_,rfl⟩
  rw [if_neg hck,if_neg hck]
  rw [hq] at HCK hck
  have bq:(q != 0)=true:=by rw [bne_iff_ne];exact hck
  clear hck hq
  go_enter Tryz.func52,Tryz.ntmps52
  go_upto_region 1 with fail
  generalize w.alloc _=w1 at *
  go_wp2_with (first | ((with_reducible show wpList _ _ _ (⟨_,Op.load 26 _,_,_,_,_⟩ :: _) _ _);refine wpList_load_has rfl 26 _ rfl rfl (HB.out.has) agg_Flat rfl ?_) | (go_at_call 23;refine HCK.out.mono ?_;rintro r w2 ⟨rfl,hx2⟩))
  refine bodyPost_ret (v:=.tuple #[.slice Option.none 0 0,.int .i64 1]) (by simp [results,Tryz.results52,go_sem]) rfl ⟨_,rfl,IntRow.nil _ _,HX.out.trans hx2⟩
theorem toldOk_inv {d:Flat} {p:Int} (h:toldOk d p=true):checkM d=0∧∃ k:Nat,p=k∧k < d.procs.length:=by
 unfold toldOk at h
 simp only [Bool.and_eq_true,decide_eq_true_eq] at h
 exact ⟨h.1.1,p.toNat,by omega,by omega⟩
theorem writes_range' {d:Flat} (hok:d.ok) (hck:checkM d=0) {k:Nat} (hk:k < d.procs.length):∀ x ∈ allNums (offsD d) (spansW d.procs[k].l),0 ≤ x∧x < (nB d:Nat):=by
 have hD:=procD_of hok hck k hk
 intro x hx
 have:=allNums_range d.signals hD.spansW (checkM_w hck) x hx
 unfold nB nBits
 omega
theorem reads_range' {d:Flat} (hok:d.ok) (hck:checkM d=0) {k:Nat} (hk:k < d.procs.length):∀ x ∈ allNums (offsD d) (spansR d.signals d.procs[k].l),0 ≤ x∧x < (nB d:Nat):=by
 have hD:=procD_of hok hck k hk
 intro x hx
 have:=allNums_range d.signals hD.spansR (checkM_w hck) x hx
 unfold nB nBits
 omega
/-! ### filigreeref11.Reads, Writes, Always -/
set_option maxRecDepth 100000 in
set_option maxHeartbeats 8000000 in
theorem Reads_callsR (d:Flat) (v:Value) (w:World) (h:FlatV w v d) (hok:d.ok) (p:Int) (hpr : -9223372036854775808 ≤ p∧p ≤ 9223372036854775807) :
  Calls Tryz.prog 59 #[v,.int .i64 p] w fun r w'=>∃ u,r=.returned (.tuple #[u,.int .i64 (if toldOk d p=true then 0 else 1)])∧IntRow w.heap.size u (if toldOk d p=true then readsM d p else []) w'∧Ext w w':=by
 have HF:=Lib.hid h
 have HLN:=Lib.hid hok.signals
 have hlp:=hok.procs
 have HOK:=Lib.hid hok
 obtain ⟨sv,pv,cv,rfl,hS,hP,hC⟩:=h
 have hone : [sv,pv,cv].all (·.oneCell')=true:=by simp [hS.one,hP.one,hC.one]
 have HX:=Lib.hid (ext_alloc w (.cells [sv,pv,cv].toArray 26))
 have HB:=Lib.hid (Blk.new w [sv,pv,cv].toArray 26)
 have HNO:=Lib.hid (no_calls d _ _ (HF.out.ext HX.out) hok p)
 obtain ⟨a0,b0,o0,c0,rfl,hc1,hc2,ha,hr⟩:=hP.open
 have HA:=Lib.hid ha
 have HR:=Lib.hid hr
 clear hS hP hC ha hr hok
 cases ht:toldOk d p
 ·rw [ht] at HNO
  rw [if_neg (by decide),if_neg (by decide)]
  clear ht
  go_enter Tryz.func59,Tryz.ntmps59
  go_upto_region 1 with fail
  generalize w.alloc _=w1 at *
  go_wp2_with (first | ((with_reducible show wpList _ _ _ (⟨_,Op.load 26 _,_,_,_,_⟩ :: _) _ _);refine wpList_load_has rfl 26 _ rfl rfl (HB.out.has) agg_Flat rfl ?_) | (go_at_call 95;refine HNO.out.mono ?_;rintro r w2 ⟨rfl,hx2⟩))
  refine bodyPost_ret (v:=.tuple #[.slice Option.none 0 0,.int .i64 1]) (by simp [results,Tryz.results59,go_sem]) rfl ⟨_,rfl,IntRow.nil _ _,HX.out.trans hx2⟩
 ·rw [ht] at HNO
  rw [if_pos rfl,if_pos rfl]
  obtain ⟨hck,k,rfl,hk⟩:=toldOk_inv ht
  obtain rfl:=HA.out (by omega)
  have hnb:=nBits_le HOK.out hck
  have hnn:nB d ≤ 67108864:=by unfold nB;omega
  have hnBe:nBits d=((nB d:Nat):Int):=by unfold nB;omega
  have HNE:=Lib.hid hnBe
  have HW:=Lib.hid (checkM_w hck)
  have hD:=procD_of HOK.out hck k hk
  have HM:=Lib.hid (show markedK (setB (nB d) ([] ++ allNums (offsD d) (spansR d.signals d.procs[k].l))) (nB d)=readsM d (k:Int) by
   unfold readsM
   rw [procL_get (by simpa using hk),List.nil_append,numbersM_set]
   simp only [Int.toNat_natCast]
   exact marked_set (reads_range' HOK.out hck hk))
  have HST:=Lib.hid (fun W (hx:Ext w W)=>starts_calls d _ W (HF.out.ext hx) HLN.out HW.out)
  have HRW:=Lib.hid (reads_calls HOK.out hck d.procs[k].l hD.st hD.nodes)
  obtain ⟨sk,hhas,hts⟩:=Procs.get HR.out hk
  have HH:=Lib.hid hhas
  have HTS:=Lib.hid hts
  have HDL:=Lib.hid (offsM_length d.signals d.signals.length)
  have HDL2:=Lib.hid (offsM_last d.signals d.signals.length)
  generalize d.procs[k]=pk at *
  clear ht hck hnb hnBe hD hhas hts
  go_enter Tryz.func59,Tryz.ntmps59
  go_upto_region 1 with fail
  generalize w.alloc _=w1 at *
  go_upto_region 4 with (first | ((with_reducible show wpList _ _ _ (⟨_,Op.load 26 _,_,_,_,_⟩ :: _) _ _);refine wpList_load_has rfl 26 _ rfl rfl (HB.out.has) agg_Flat rfl ?_) | (go_at_call 95;refine HNO.out.mono ?_;rintro r w2 ⟨rfl,hx2⟩;have HB2:=Lib.hid (HB.out.ext hx2)) | ((with_reducible show wpList _ _ _ (⟨_,Op.load 26 _,_,_,_,_⟩ :: _) _ _);refine wpList_load_has rfl 26 _ rfl rfl (HB2.out.has) agg_Flat rfl ?_) | (go_at_call 94;refine (HST.out _ (HX.out.trans hx2)).mono ?_;rintro r w3 ⟨u,rfl,hr3,hx3⟩))
  obtain ⟨gb,cb,hu,hgb,hgc⟩:=hr3.open1 (by rw [show (offsD d).length=_ from HDL.out];omega)
  rw [show (offsD d).length=_ from HDL.out] at hu
  subst hu
  have y0:=hgc d.signals.length (nBits d) HDL2.out
  rw [HNE.out] at y0
  have HY:=Lib.hid y0
  have HX3:=Lib.hid ((HX.out.trans hx2).trans hx3)
  have HB3:=Lib.hid (HB2.out.ext hx3)
  have HO3:=Lib.hid hr3.cells
  clear y0 hgb hgc hr3 hx2 hx3 HB2 HST HNO
  refine wp_region_held_drew (S:=fun W=>Ext w3 W) (by kernel_rfl) (Below.drew (Below.refl _ _)) (fun hHeld=>?_)
  generalize w3.drew=w4 at *
  try simp only [J]
  (refine Jt 0 (_) rfl (yif_load1 rfl fun _ _=>rfl) hHeld ?_;try simp only [J])
  (refine Jt 1 (_) rfl (yif_load1 rfl fun _ _=>rfl) hHeld ?_;try simp only [J])
  (refine Jt 2 (.int .i64 ((d.signals.length + 1:Nat):Int)) rfl (yif_load1 rfl (by intro W hW;clear hW;go_simp)) hHeld ?_;try simp only [J])
  (refine Jt 3 (.int .i64 (d.signals.length:Int)) rfl (yif_load1 rfl (by intro W hW;clear hW;go_simp;have:=HLN.out;rw [IntKind.wrap_i64];omega)) hHeld ?_;try simp only [J])
  (refine Jt 4 (.pointer (some ⟨gb,d.signals.length,Option.none⟩)) rfl (yif_load1 rfl (by intro W hW;clear hW;go_simp;try (intro h;omega))) hHeld ?_;try simp only [J])
  (refine Jt 5 (.int .i64 (nB d:Int)) rfl (yif_load1 rfl (by intro W hW;have y:=Has.one1 HY.out hW;clear hW;go_simp)) hHeld ?_;try simp only [J])
  (refine Jt 7 (.agg #[sv,.slice (some ⟨b0,o0,Option.none⟩) d.procs.length c0,cv]) rfl (yif_load rfl 26 _ rfl rfl (fun W hW=>(HB3.out.ext hW).has) agg_Flat rfl) hHeld ?_;try simp only [J])
  (refine Jt 8 (_) rfl (yif_load1 rfl fun _ _=>rfl) hHeld ?_;try simp only [J])
  (refine Jt 9 (_) rfl (yif_load1 rfl fun _ _=>rfl) hHeld ?_;try simp only [J])
  (refine Jt 10 (.slice (some ⟨b0,o0,Option.none⟩) d.procs.length c0) rfl (yif_load1 rfl (by intro W hW;have y:=(HB3.out.ext hW).has 1 _ rfl;rw [Nat.zero_add] at y;clear hW;go_simp)) hHeld ?_;try simp only [J])
  (refine Jt 11 (_) rfl (yif_load1 rfl fun _ _=>rfl) hHeld ?_;try simp only [J])
  (refine Jt 12 (.pointer (some ⟨b0,o0 + k * 2,Option.none⟩)) rfl (yif_load1 rfl (by intro W hW;clear hW;go_simp;try (intro h;omega))) hHeld ?_;try simp only [J])
  (refine Jt 13 (_) rfl (yif_load1 rfl (by intro W hW;clear hW;go_simp;rfl)) hHeld ?_;try simp only [J])
  (refine Jt 14 (sk) rfl (yif_load1 rfl (by intro W hW;have y:=HH.out.ext (HX3.out.trans hW) 1 _ rfl;clear hW;go_simp)) hHeld ?_;try simp only [J])
  refine wpAnyH_ready (rs:=[6]) (by kernel_rfl) (by simp) ?_
  refine AllReadyH.cons rfl (fun K hK=>?_) AllReadyH.nil
  refine step_mk rfl 35 _ _ rfl (n:=nB d) rfl rfl Tryz.underlying35 info_bool (by omega) (by omega) ?_
  rw [made_bools]
  have hrm:=made_row w4 (nB d) (by omega)
  have hxm:=ext_alloc w4 (.cells (List.replicate (nB d) (Value.bool false)).toArray 4)
  refine hK.out _ _ (hHeld.trans hxm) (fun hHeld=>?_)
  clear hK K
  have hbm:=hrm.cells
  clear hrm hxm
  generalize w4.alloc _=w5 at *
  generalize w4.heap.size=B5 at *
  try simp only [J]
  refine wpAnyH_ready (rs:=[15]) (by kernel_rfl) (by simp) ?_
  refine AllReadyH.cons rfl (fun K hK=>?_) AllReadyH.nil
  go_simp
  have HZ:=Lib.hid (HX3.out.trans hHeld)
  refine (HRW.out [] _ _ _ sk w5 hbm (HF.out.ext HZ.out) (HO3.out.ext hHeld) (HTS.out.ext HZ.out)).mono ?_
  rintro r w6 ⟨u6,rfl,hu6,hx6⟩
  refine hK.out _ _ (hHeld.trans hx6) (fun hHeld=>?_)
  clear hK K hbm
  try simp only [J]
  have HMK:=Lib.hid (marked_calls _ u6 w6 hu6 (by rw [setB_length];omega))
  rw [setB_length,HM.out] at HMK
  have hu1:=hu6.one
  refine wpAnyH_ready (rs:=[16]) (by kernel_rfl) (by simp) ?_
  refine AllReadyH.cons rfl (fun K hK=>?_) AllReadyH.nil
  go_simp
  refine HMK.out.mono ?_
  rintro r w7 ⟨u7,rfl,hr7,hx7⟩
  have hz7:=(HX3.out.trans hHeld).size
  refine hK.out _ _ (hHeld.trans hx7) (fun hHeld=>?_)
  clear hK K
  try simp only [J]
  (refine Jt 17 (_) rfl (yif_load1 rfl fun _ _=>rfl) hHeld ?_;try simp only [J])
  (refine Jt 18 (_) rfl (yif_load1 rfl fun _ _=>rfl) hHeld ?_;try simp only [J])
  refine wpAnyH_done (by kernel_rfl) ?_ _
  go_wp2_with fail
  refine bodyPost_ret (v:=.tuple #[u7,.int .i64 0]) (by simp [results,Tryz.results59,go_sem]) rfl ⟨u7,rfl,hr7.less (by omega),HX3.out.trans hHeld⟩
set_option maxRecDepth 100000 in
set_option maxHeartbeats 8000000 in
theorem Writes_callsR (d:Flat) (v:Value) (w:World) (h:FlatV w v d) (hok:d.ok) (p:Int) (hpr : -9223372036854775808 ≤ p∧p ≤ 9223372036854775807) :
  Calls Tryz.prog 53 #[v,.int .i64 p] w fun r w'=>∃ u,r=.returned (.tuple #[u,.int .i64 (if toldOk d p=true then 0 else 1)])∧IntRow w.heap.size u (if toldOk d p=true then writesM d p else []) w'∧Ext w w':=by
 have HF:=Lib.hid h
 have HLN:=Lib.hid hok.signals
 have hlp:=hok.procs
 have HOK:=Lib.hid hok
 obtain ⟨sv,pv,cv,rfl,hS,hP,hC⟩:=h
 have hone : [sv,pv,cv].all (·.oneCell')=true:=by simp [hS.one,hP.one,hC.one]
 have HX:=Lib.hid (ext_alloc w (.cells [sv,pv,cv].toArray 26))
 have HB:=Lib.hid (Blk.new w [sv,pv,cv].toArray 26)
 have HNO:=Lib.hid (no_calls d _ _ (HF.out.ext HX.out) hok p)
 obtain ⟨a0,b0,o0,c0,rfl,hc1,hc2,ha,hr⟩:=hP.open
 have HA:=Lib.hid ha
 have HR:=Lib.hid hr
 clear hS hP hC ha hr hok
 cases ht:toldOk d p
 ·rw [ht] at HNO
  rw [if_neg (by decide),if_neg (by decide)]
  clear ht
  go_enter Tryz.func53,Tryz.ntmps53
  go_upto_region 1 with fail
  generalize w.alloc _=w1 at *
  go_wp2_with (first | ((with_reducible show wpList _ _ _ (⟨_,Op.load 26 _,_,_,_,_⟩ :: _) _ _);refine wpList_load_has rfl 26 _ rfl rfl (HB.out.has) agg_Flat rfl ?_) | (go_at_call 95;refine HNO.out.mono ?_;rintro r w2 ⟨rfl,hx2⟩))
  refine bodyPost_ret (v:=.tuple #[.slice Option.none 0 0,.int .i64 1]) (by simp [results,Tryz.results53,go_sem]) rfl ⟨_,rfl,IntRow.nil _ _,HX.out.trans hx2⟩
 ·rw [ht] at HNO
  rw [if_pos rfl,if_pos rfl]
  obtain ⟨hck,k,rfl,hk⟩:=toldOk_inv ht
  obtain rfl:=HA.out (by omega)
  have hnb:=nBits_le HOK.out hck
  have hnn:nB d ≤ 67108864:=by unfold nB;omega
  have hnBe:nBits d=((nB d:Nat):Int):=by unfold nB;omega
  have HNE:=Lib.hid hnBe
  have HW:=Lib.hid (checkM_w hck)
  have hD:=procD_of HOK.out hck k hk
  have HM:=Lib.hid (show markedK (setB (nB d) ([] ++ allNums (offsD d) (spansW d.procs[k].l))) (nB d)=writesM d (k:Int) by
   unfold writesM
   rw [procL_get (by simpa using hk),List.nil_append,numbersM_set]
   simp only [Int.toNat_natCast]
   exact marked_set (writes_range' HOK.out hck hk))
  have HST:=Lib.hid (fun W (hx:Ext w W)=>starts_calls d _ W (HF.out.ext hx) HLN.out HW.out)
  have HRW:=Lib.hid (writes_calls HOK.out hck d.procs[k].l hD.st hD.nodes)
  obtain ⟨sk,hhas,hts⟩:=Procs.get HR.out hk
  have HH:=Lib.hid hhas
  have HTS:=Lib.hid hts
  have HDL:=Lib.hid (offsM_length d.signals d.signals.length)
  have HDL2:=Lib.hid (offsM_last d.signals d.signals.length)
  generalize d.procs[k]=pk at *
  clear ht hck hnb hnBe hD hhas hts
  go_enter Tryz.func53,Tryz.ntmps53
  go_upto_region 1 with fail
  generalize w.alloc _=w1 at *
  go_upto_region 4 with (first | ((with_reducible show wpList _ _ _ (⟨_,Op.load 26 _,_,_,_,_⟩ :: _) _ _);refine wpList_load_has rfl 26 _ rfl rfl (HB.out.has) agg_Flat rfl ?_) | (go_at_call 95;refine HNO.out.mono ?_;rintro r w2 ⟨rfl,hx2⟩;have HB2:=Lib.hid (HB.out.ext hx2)) | ((with_reducible show wpList _ _ _ (⟨_,Op.load 26 _,_,_,_,_⟩ :: _) _ _);refine wpList_load_has rfl 26 _ rfl rfl (HB2.out.has) agg_Flat rfl ?_) | (go_at_call 94;refine (HST.out _ (HX.out.trans hx2)).mono ?_;rintro r w3 ⟨u,rfl,hr3,hx3⟩))
  obtain ⟨gb,cb,hu,hgb,hgc⟩:=hr3.open1 (by rw [show (offsD d).length=_ from HDL.out];omega)
  rw [show (offsD d).length=_ from HDL.out] at hu
  subst hu
  have y0:=hgc d.signals.length (nBits d) HDL2.out
  rw [HNE.out] at y0
  have HY:=Lib.hid y0
  have HX3:=Lib.hid ((HX.out.trans hx2).trans hx3)
  have HB3:=Lib.hid (HB2.out.ext hx3)
  have HO3:=Lib.hid hr3.cells
  clear y0 hgb hgc hr3 hx2 hx3 HB2 HST HNO
  refine wp_region_held_drew (S:=fun W=>Ext w3 W) (by kernel_rfl) (Below.drew (Below.refl _ _)) (fun hHeld=>?_)
  generalize w3.drew=w4 at *
  try simp only [J]
  (refine Jt 0 (_) rfl (yif_load1 rfl fun _ _=>rfl) hHeld ?_;try simp only [J])
  (refine Jt 1 (_) rfl (yif_load1 rfl fun _ _=>rfl) hHeld ?_;try simp only [J])
  (refine Jt 2 (.int .i64 ((d.signals.length + 1:Nat):Int)) rfl (yif_load1 rfl (by intro W hW;clear hW;go_simp)) hHeld ?_;try simp only [J])
  (refine Jt 3 (.int .i64 (d.signals.length:Int)) rfl (yif_load1 rfl (by intro W hW;clear hW;go_simp;have:=HLN.out;rw [IntKind.wrap_i64];omega)) hHeld ?_;try simp only [J])
  (refine Jt 4 (.pointer (some ⟨gb,d.signals.length,Option.none⟩)) rfl (yif_load1 rfl (by intro W hW;clear hW;go_simp;try (intro h;omega))) hHeld ?_;try simp only [J])
  (refine Jt 5 (.int .i64 (nB d:Int)) rfl (yif_load1 rfl (by intro W hW;have y:=Has.one1 HY.out hW;clear hW;go_simp)) hHeld ?_;try simp only [J])
  (refine Jt 7 (_) rfl (yif_load1 rfl fun _ _=>rfl) hHeld ?_;try simp only [J])
  (refine Jt 8 (_) rfl (yif_load1 rfl fun _ _=>rfl) hHeld ?_;try simp only [J])
  (refine Jt 9 (.slice (some ⟨b0,o0,Option.none⟩) d.procs.length c0) rfl (yif_load1 rfl (by intro W hW;have y:=(HB3.out.ext hW).has 1 _ rfl;rw [Nat.zero_add] at y;clear hW;go_simp)) hHeld ?_;try simp only [J])
  (refine Jt 10 (_) rfl (yif_load1 rfl fun _ _=>rfl) hHeld ?_;try simp only [J])
  (refine Jt 11 (.pointer (some ⟨b0,o0 + k * 2,Option.none⟩)) rfl (yif_load1 rfl (by intro W hW;clear hW;go_simp;try (intro h;omega))) hHeld ?_;try simp only [J])
  (refine Jt 12 (_) rfl (yif_load1 rfl (by intro W hW;clear hW;go_simp;rfl)) hHeld ?_;try simp only [J])
  (refine Jt 13 (sk) rfl (yif_load1 rfl (by intro W hW;have y:=HH.out.ext (HX3.out.trans hW) 1 _ rfl;clear hW;go_simp)) hHeld ?_;try simp only [J])
  refine wpAnyH_ready (rs:=[6]) (by kernel_rfl) (by simp) ?_
  refine AllReadyH.cons rfl (fun K hK=>?_) AllReadyH.nil
  refine step_mk rfl 35 _ _ rfl (n:=nB d) rfl rfl Tryz.underlying35 info_bool (by omega) (by omega) ?_
  rw [made_bools]
  have hrm:=made_row w4 (nB d) (by omega)
  have hxm:=ext_alloc w4 (.cells (List.replicate (nB d) (Value.bool false)).toArray 4)
  refine hK.out _ _ (hHeld.trans hxm) (fun hHeld=>?_)
  clear hK K
  have hbm:=hrm.cells
  clear hrm hxm
  generalize w4.alloc _=w5 at *
  generalize w4.heap.size=B5 at *
  try simp only [J]
  refine wpAnyH_ready (rs:=[14]) (by kernel_rfl) (by simp) ?_
  refine AllReadyH.cons rfl (fun K hK=>?_) AllReadyH.nil
  go_simp
  have HZ:=Lib.hid (HX3.out.trans hHeld)
  refine (HRW.out [] _ _ sk w5 hbm (HO3.out.ext hHeld) (HTS.out.ext HZ.out)).mono ?_
  rintro r w6 ⟨u6,rfl,hu6,hx6⟩
  refine hK.out _ _ (hHeld.trans hx6) (fun hHeld=>?_)
  clear hK K hbm
  try simp only [J]
  have HMK:=Lib.hid (marked_calls _ u6 w6 hu6 (by rw [setB_length];omega))
  rw [setB_length,HM.out] at HMK
  have hu1:=hu6.one
  refine wpAnyH_ready (rs:=[15]) (by kernel_rfl) (by simp) ?_
  refine AllReadyH.cons rfl (fun K hK=>?_) AllReadyH.nil
  go_simp
  refine HMK.out.mono ?_
  rintro r w7 ⟨u7,rfl,hr7,hx7⟩
  have hz7:=(HX3.out.trans hHeld).size
  refine hK.out _ _ (hHeld.trans hx7) (fun hHeld=>?_)
  clear hK K
  try simp only [J]
  (refine Jt 16 (_) rfl (yif_load1 rfl fun _ _=>rfl) hHeld ?_;try simp only [J])
  (refine Jt 17 (_) rfl (yif_load1 rfl fun _ _=>rfl) hHeld ?_;try simp only [J])
  refine wpAnyH_done (by kernel_rfl) ?_ _
  go_wp2_with fail
  refine bodyPost_ret (v:=.tuple #[u7,.int .i64 0]) (by simp [results,Tryz.results53,go_sem]) rfl ⟨u7,rfl,hr7.less (by omega),HX3.out.trans hHeld⟩
theorem alw_range (ls:List Signal) (hw:∀ x ∈ ls,1 ≤ x.w∧x.w ≤ 64) (t:T):StD ls t→(∀ x ∈ alt (offsM ls ls.length) t,0 ≤ x∧x < sumW ls ls.length)∧∀ x ∈ alwM (offsM ls ls.length) t.l,0 ≤ x∧x < sumW ls ls.length:=by
 induction t using T.ind with
 | h t ih =>
 intro h
 obtain ⟨h1,h2,h3,h4⟩:=(StD_iff ls t).1 h
 have hall:∀ z ∈ alwM (offsM ls ls.length) t.l,0 ≤ z∧z < sumW ls ls.length:=by
  intro z hz
  rw [alwM_mem] at hz
  obtain ⟨m,hm,hz⟩:=List.mem_flatten.1 hz
  obtain ⟨y,hy,rfl⟩:=List.mem_map.1 hm
  exact (ih y hy (h4 y hy)).1 z hz
 refine ⟨fun x hx=>?_,hall⟩
 rw [alt_eq] at hx
 by_cases o1:t.op=1
 ·rw [if_pos o1,numbersM_set,setI_mem] at hx
  exact allNums_range ls (xs:=[ownS t]) (fun s hs=>by rw [List.mem_singleton.1 hs];exact slice_span (h1 o1)) hw x hx
 ·rw [if_neg o1] at hx
  by_cases o2:t.op=2 ∨ t.op=3
  ·rw [if_pos o2] at hx
   unfold metM at hx
   have hx:=(List.mem_filter.1 hx).1
   cases hl:t.l with
   | nil=>rw [hl] at hx;simp at hx
   | cons y l0 =>
    have hy:y ∈ t.l:=by rw [hl];simp
    rw [hl] at hx
    simp only [List.map_cons,List.headD_cons] at hx
    exact (ih y hy (h4 y hy)).2 x hx
  ·rw [if_neg o2] at hx
   exact hall x hx
theorem alw_range' {d:Flat} (hok:d.ok) (hck:checkM d=0) {k:Nat} (hk:k < d.procs.length):∀ x ∈ alwM (offsD d) d.procs[k].l,0 ≤ x∧x < (nB d:Nat):=by
 have hD:=procD_of hok hck k hk
 intro x hx
 have:=(alw_range d.signals (checkM_w hck) ⟨4,0,0,0,[],d.procs[k].l⟩ ((StD_iff _ _).2 ⟨by simp,by simp,by simp,hD.st⟩)).2 x hx
 unfold nB nBits
 omega
set_option maxRecDepth 100000 in
set_option maxHeartbeats 8000000 in
theorem Always_callsR (d:Flat) (v:Value) (w:World) (h:FlatV w v d) (hok:d.ok) (p:Int) (hpr : -9223372036854775808 ≤ p∧p ≤ 9223372036854775807) :
  Calls Tryz.prog 57 #[v,.int .i64 p] w fun r w'=>∃ u,r=.returned (.tuple #[u,.int .i64 (if toldOk d p=true then 0 else 1)])∧IntRow w.heap.size u (if toldOk d p=true then alwaysM d p else []) w'∧Ext w w':=by
 have HF:=Lib.hid h
 have HLN:=Lib.hid hok.signals
 have hlp:=hok.procs
 have HOK:=Lib.hid hok
 obtain ⟨sv,pv,cv,rfl,hS,hP,hC⟩:=h
 have hone : [sv,pv,cv].all (·.oneCell')=true:=by simp [hS.one,hP.one,hC.one]
 have HX:=Lib.hid (ext_alloc w (.cells [sv,pv,cv].toArray 26))
 have HB:=Lib.hid (Blk.new w [sv,pv,cv].toArray 26)
 have HNO:=Lib.hid (no_calls d _ _ (HF.out.ext HX.out) hok p)
 obtain ⟨a0,b0,o0,c0,rfl,hc1,hc2,ha,hr⟩:=hP.open
 have HA:=Lib.hid ha
 have HR:=Lib.hid hr
 clear hS hP hC ha hr hok
 cases ht:toldOk d p
 ·rw [ht] at HNO
  rw [if_neg (by decide),if_neg (by decide)]
  clear ht
  go_enter Tryz.func57,Tryz.ntmps57
  go_upto_region 1 with fail
  generalize w.alloc _=w1 at *
  go_wp2_with (first | ((with_reducible show wpList _ _ _ (⟨_,Op.load 26 _,_,_,_,_⟩ :: _) _ _);refine wpList_load_has rfl 26 _ rfl rfl (HB.out.has) agg_Flat rfl ?_) | (go_at_call 95;refine HNO.out.mono ?_;rintro r w2 ⟨rfl,hx2⟩))
  refine bodyPost_ret (v:=.tuple #[.slice Option.none 0 0,.int .i64 1]) (by simp [results,Tryz.results57,go_sem]) rfl ⟨_,rfl,IntRow.nil _ _,HX.out.trans hx2⟩
 ·rw [ht] at HNO
  rw [if_pos rfl,if_pos rfl]
  obtain ⟨hck,k,rfl,hk⟩:=toldOk_inv ht
  obtain rfl:=HA.out (by omega)
  have hnb:=nBits_le HOK.out hck
  have hnn:nB d ≤ 67108864:=by unfold nB;omega
  have hnBe:nBits d=((nB d:Nat):Int):=by unfold nB;omega
  have HNE:=Lib.hid hnBe
  have HW:=Lib.hid (checkM_w hck)
  have hD:=procD_of HOK.out hck k hk
  have HM:=Lib.hid (show markedK (setB (nB d) (alwM (offsD d) d.procs[k].l)) (nB d)=alwaysM d (k:Int) by
   unfold alwaysM
   rw [procL_get (by simpa using hk)]
   simp only [Int.toNat_natCast]
   rw [marked_set]
   ·refine setI_eq _ _ ?_ (fun x=>Iff.rfl)
    exact setI_lt _
   ·exact alw_range' HOK.out hck hk)
  have HST:=Lib.hid (fun W (hx:Ext w W)=>starts_calls d _ W (HF.out.ext hx) HLN.out HW.out)
  have HRW:=Lib.hid (alwR_calls HOK.out hck d.procs[k].l hD.st hD.nodes)
  obtain ⟨sk,hhas,hts⟩:=Procs.get HR.out hk
  have HH:=Lib.hid hhas
  have HTS:=Lib.hid hts
  have HDL:=Lib.hid (offsM_length d.signals d.signals.length)
  have HDL2:=Lib.hid (offsM_last d.signals d.signals.length)
  generalize d.procs[k]=pk at *
  clear ht hck hnb hnBe hD hhas hts
  go_enter Tryz.func57,Tryz.ntmps57
  go_upto_region 1 with fail
  generalize w.alloc _=w1 at *
  go_upto_region 3 with (first | ((with_reducible show wpList _ _ _ (⟨_,Op.load 26 _,_,_,_,_⟩ :: _) _ _);refine wpList_load_has rfl 26 _ rfl rfl (HB.out.has) agg_Flat rfl ?_) | (go_at_call 95;refine HNO.out.mono ?_;rintro r w3 ⟨rfl,hx2⟩))
  have HX3:=Lib.hid (HX.out.trans hx2)
  have HB3:=Lib.hid (HB.out.ext hx2)
  clear hx2 HNO
  refine wp_region_held_drew (S:=fun W=>Ext w3 W) (by kernel_rfl) (Below.drew (Below.refl _ _)) (fun hHeld=>?_)
  generalize w3.drew=w4 at *
  try simp only [J]
  (refine Jt 0 (.agg #[sv,.slice (some ⟨b0,o0,Option.none⟩) d.procs.length c0,cv]) rfl (yif_load rfl 26 _ rfl rfl (fun W hW=>(HB3.out.ext hW).has) agg_Flat rfl) hHeld ?_;try simp only [J])
  (refine Jt 2 (_) rfl (yif_load1 rfl fun _ _=>rfl) hHeld ?_;try simp only [J])
  (refine Jt 3 (.slice (some ⟨b0,o0,Option.none⟩) d.procs.length c0) rfl (yif_load1 rfl (by intro W hW;have y:=(HB3.out.ext hW).has 1 _ rfl;rw [Nat.zero_add] at y;clear hW;go_simp)) hHeld ?_;try simp only [J])
  (refine Jt 4 (_) rfl (yif_load1 rfl fun _ _=>rfl) hHeld ?_;try simp only [J])
  (refine Jt 5 (.pointer (some ⟨b0,o0 + k * 2,Option.none⟩)) rfl (yif_load1 rfl (by intro W hW;clear hW;go_simp;try (intro h;omega))) hHeld ?_;try simp only [J])
  (refine Jt 6 (_) rfl (yif_load1 rfl (by intro W hW;clear hW;go_simp;rfl)) hHeld ?_;try simp only [J])
  (refine Jt 7 (sk) rfl (yif_load1 rfl (by intro W hW;have y:=HH.out.ext (HX3.out.trans hW) 1 _ rfl;clear hW;go_simp)) hHeld ?_;try simp only [J])
  refine wpAnyH_ready (rs:=[1]) (by kernel_rfl) (by simp) ?_
  refine AllReadyH.cons rfl (fun K hK=>?_) AllReadyH.nil
  go_simp
  refine (HST.out _ (HX3.out.trans hHeld)).mono ?_
  rintro r w5 ⟨u5,rfl,hu5,hx5⟩
  refine hK.out _ _ (hHeld.trans hx5) (fun hHeld=>?_)
  clear hK K
  try simp only [J]
  refine wpAnyH_ready (rs:=[8]) (by kernel_rfl) (by simp) ?_
  refine AllReadyH.cons rfl (fun K hK=>?_) AllReadyH.nil
  go_simp
  refine (HRW.out _ sk w5 hu5.cells (HTS.out.ext (HX3.out.trans hHeld))).mono ?_
  rintro r w6 ⟨u6,rfl,hu6,hx6⟩
  refine hK.out _ _ (hHeld.trans hx6) (fun hHeld=>?_)
  clear hK K hu5
  try simp only [J]
  have HMK:=Lib.hid (marked_calls _ u6 w6 hu6 (by rw [setB_length];omega))
  rw [setB_length,HM.out] at HMK
  have hu1:=hu6.one
  refine wpAnyH_ready (rs:=[9]) (by kernel_rfl) (by simp) ?_
  refine AllReadyH.cons rfl (fun K hK=>?_) AllReadyH.nil
  go_simp
  refine HMK.out.mono ?_
  rintro r w7 ⟨u7,rfl,hr7,hx7⟩
  have hz7:=(HX3.out.trans hHeld).size
  refine hK.out _ _ (hHeld.trans hx7) (fun hHeld=>?_)
  clear hK K
  try simp only [J]
  (refine Jt 10 (_) rfl (yif_load1 rfl fun _ _=>rfl) hHeld ?_;try simp only [J])
  (refine Jt 11 (_) rfl (yif_load1 rfl fun _ _=>rfl) hHeld ?_;try simp only [J])
  refine wpAnyH_done (by kernel_rfl) ?_ _
  go_wp2_with fail
  refine bodyPost_ret (v:=.tuple #[u7,.int .i64 0]) (by simp [results,Tryz.results57,go_sem]) rfl ⟨u7,rfl,hr7.less (by omega),HX3.out.trans hHeld⟩
open Go.RowKit
theorem Bits_okR (d:Flat) (v:Value) (w:World) (h:FlatV w v d) (hok:d.ok) (hc:checkM d=0) :
  Calls Tryz.prog 52 #[v] w fun r w'=>∃ u,r=.returned (.tuple #[u,.int .i64 0])∧IntRow w.heap.size u (offsD d) w'∧Ext w w':=by
 have:=Bits_callsR d v w h hok
 rw [if_pos hc,if_pos hc] at this
 exact this
theorem Writes_okR (d:Flat) (v:Value) (w:World) (h:FlatV w v d) (hok:d.ok) (hc:checkM d=0) {k:Nat} (hk:k < d.procs.length) :
  Calls Tryz.prog 53 #[v,.int .i64 k] w fun r w'=>∃ u,r=.returned (.tuple #[u,.int .i64 0])∧IntRow w.heap.size u (writesM d k) w'∧Ext w w':=by
 have:=Writes_callsR d v w h hok (k:Int) (by have:=hok.procs;omega)
 rw [if_pos (toldOk_of hc hk),if_pos (toldOk_of hc hk)] at this
 exact this
theorem Reads_okR (d:Flat) (v:Value) (w:World) (h:FlatV w v d) (hok:d.ok) (hc:checkM d=0) {k:Nat} (hk:k < d.procs.length) :
  Calls Tryz.prog 59 #[v,.int .i64 k] w fun r w'=>∃ u,r=.returned (.tuple #[u,.int .i64 0])∧IntRow w.heap.size u (readsM d k) w'∧Ext w w':=by
 have:=Reads_callsR d v w h hok (k:Int) (by have:=hok.procs;omega)
 rw [if_pos (toldOk_of hc hk),if_pos (toldOk_of hc hk)] at this
 exact this
theorem Always_okR (d:Flat) (v:Value) (w:World) (h:FlatV w v d) (hok:d.ok) (hc:checkM d=0) {k:Nat} (hk:k < d.procs.length) :
  Calls Tryz.prog 57 #[v,.int .i64 k] w fun r w'=>∃ u,r=.returned (.tuple #[u,.int .i64 0])∧IntRow w.heap.size u (alwaysM d k) w'∧Ext w w':=by
 have:=Always_callsR d v w h hok (k:Int) (by have:=hok.procs;omega)
 rw [if_pos (toldOk_of hc hk),if_pos (toldOk_of hc hk)] at this
 exact this
theorem made_ints {n:Nat}:(madeCells (Value.int .i64 0).cells (n * 1))=(List.replicate n (Value.int .i64 0)).toArray:=by rw [Nat.mul_one];exact madeCells_one _ _
theorem made_rowI (w:World) (n:Nat) (hn:n ≤ 9223372036854775807):IntRow w.heap.size (.slice (some ⟨w.heap.size,0,none⟩) n n) (List.replicate n 0) (w.alloc (.cells (List.replicate n (Value.int .i64 0)).toArray 3)):=by
 have:=IntRow.ofBlk (N:=w.heap.size) (l:=List.replicate n (0:Int)) (g:=w.heap.size) (w:=w.alloc (.cells (List.replicate n (Value.int .i64 0)).toArray 3)) (by rw [List.map_replicate];exact Blk.new _ _ _) (Nat.le_refl _) (by simpa using hn)
 simpa using this
/-! ### filigreeref12.drivers -/
set_option maxRecDepth 100000 in
set_option maxHeartbeats 8000000 in
theorem drivers_calls12 (d:Flat) (v:Value) (w:World) (h:FlatV w v d) (hok:d.ok) (hck:checkM d=0) :
  Calls Tryz.prog 30 #[v] w fun r w'=>∃ u,r=.returned (.tuple #[u,.bool (rD d).2])∧IntRow w.heap.size u (rD d).1 w'∧Ext w w':=by
 have HF:=Lib.hid h
 have HOK:=Lib.hid hok
 have HCK:=Lib.hid hck
 have hlp:=hok.procs
 have hls:=hok.signals
 have hnb:=nBits_le hok hck
 have hnn:nB d ≤ 67108864:=by unfold nB;omega
 have hnBe:nBits d=((nB d:Nat):Int):=by unfold nB;omega
 have HNE:=Lib.hid hnBe
 obtain ⟨sv,pv,cv,rfl,hS,hP,hC⟩:=h
 have hone : [sv,pv,cv].all (·.oneCell')=true:=by simp [hS.one,hP.one,hC.one]
 have HX:=Lib.hid (ext_alloc w (.cells [sv,pv,cv].toArray 26))
 have HB:=Lib.hid (Blk.new w [sv,pv,cv].toArray 26)
 obtain ⟨a0,b0,o0,c0,rfl,hc1,hc2,ha,hr⟩:=hP.open
 have HBT:=Lib.hid (fun W (hx:Ext w W)=>Bits_okR d _ W (HF.out.ext hx) hok hck)
 have HWR:=Lib.hid (fun W (hx:Ext w W) (k:Nat) (hk:k < d.procs.length)=>Writes_okR d _ W (HF.out.ext hx) hok hck hk)
 have HDL:=Lib.hid (offsM_length d.signals d.signals.length)
 have HDL2:=Lib.hid (offsM_last d.signals d.signals.length)
 have HRD:=Lib.hid (show rdrvs 0 ((wsM d).drop 0) (List.replicate (nB d) (-1)) false=rD d from rfl)
 obtain ⟨ep,hep⟩ : ∃ ep,rD d=ep:=⟨_,rfl⟩
 rw [hep] at HRD ⊢
 clear hS hP hC ha hr hok hck hnb hnBe hep
 go_enter Tryz.func30,Tryz.ntmps30
 go_upto_region 1 with fail
 generalize w.alloc _=w1 at *
 go_upto_region 2 with (first | ((with_reducible show wpList _ _ _ (⟨_,Op.load 26 _,_,_,_,_⟩ :: _) _ _);refine wpList_load_has rfl 26 _ rfl rfl (HB.out.has) agg_Flat rfl ?_) | (go_at_call 52;refine (HBT.out _ HX.out).mono ?_;rintro r w2 ⟨u,rfl,hr2,hx2⟩))
 obtain ⟨gb,cb,hu,hgb,hgc⟩:=hr2.open1 (by rw [show (offsD d).length=_ from HDL.out];omega)
 rw [show (offsD d).length=_ from HDL.out] at hu
 subst hu
 have y0:=hgc d.signals.length (nBits d) HDL2.out
 rw [HNE.out] at y0
 have HX2:=Lib.hid hx2
 have HB2:=Lib.hid (HB.out.ext hx2)
 clear hgb hgc hr2 hx2
 go_wp2_with ((with_reducible show wpList _ _ _ (⟨_,Op.makeSlice _ _ _,_,_,_,_⟩ :: _) _ _);refine Hid.out ?_)
 refine Lib.hid ?_
 clear y0
 refine wpList_mk rfl _ _ _ rfl (n:=nB d) rfl rfl Tryz.underlying29 info_int (by omega) (by omega) ?_
 rw [made_ints]
 have hrm:=made_rowI w2 (nB d) (by omega)
 have hx3:=ext_alloc w2 (.cells (List.replicate (nB d) (Value.int .i64 0)).toArray 3)
 have hs3:w2.heap.size < (w2.alloc (.cells (List.replicate (nB d) (Value.int .i64 0)).toArray 3)).heap.size:=by simp
 generalize w2.alloc _=w3 at *
 obtain ⟨g,hg⟩ : ∃ g,w2.heap.size=g:=⟨_,rfl⟩
 rw [hg] at hrm hs3 ⊢
 have HG:=Lib.hid hg
 have HR3:=Lib.hid hrm
 have hg2:w1.heap.size ≤ g:=by rw [← hg];exact HX2.out.size
 have HX3:=Lib.hid (HX2.out.trans hx3)
 clear hrm hx3 hg
 go_wp2_with fail
 go_loopw [7] (fun i wr=>∃ k:Nat,k ≤ nB d∧i=.int .i64 k∧IntRow g (.slice (some ⟨g,0,Option.none⟩) (nB d) (nB d)) (fillK (nB d) k) wr∧Ext w1 wr) (fun i _=>nB d - (intOf i).toNat)
 case atStart=>exact ⟨0,Nat.zero_le _,rfl,by rw [fillK_zero];exact HR3.out,HX3.out⟩
 case round =>
  obtain ⟨k,hk,rfl,hrow,hx⟩:=hrel
  have HROW:=Lib.hid hrow
  have HXR:=Lib.hid hx
  clear hrow hx
  by_cases hlt:k < nB d
  ·have hkl:k < (fillK (nB d) k).length:=by rw [fillK_length hk];exact hlt
   obtain ⟨q1,q2⟩:=HROW.out.cellf hkl
   have hset:=HROW.out.set k hkl (-1)
   rw [fillK_succ hlt] at hset
   have HS:=Lib.hid hset
   have hg1:=gb_set wr g k (.int .i64 (-1))
   have HX4:=Lib.hid (HXR.out.grown hg1 hg2)
   generalize (fillK (nB d) k)[k]'_=xx at *
   clear hset hg1
   go_wp2_with fail
   go_roundw
   case rel=>exact ⟨k + 1,hlt,by go_num,HS.out,HX4.out⟩
   case measure=>simp [intOf];omega
  ·obtain rfl:k=nB d:=by omega
   rw [fillK_full] at HROW
   clear HR3 HX3
   go_wp2_with fail
   go_loopw [8,9] (fun t i wr=>∃ (k:Nat) (out:List Int) (two:Bool),k ≤ d.procs.length∧i=.int .i64 k∧t=.bool two∧out.length=nB d∧Hid (rdrvs k ((wsM d).drop k) out two=ep)∧IntRow g (.slice (some ⟨g,0,Option.none⟩) (nB d) (nB d)) out wr∧Ext w1 wr) (fun _ i _=>d.procs.length - (intOf i).toNat)
   case atStart=>exact ⟨0,_,false,Nat.zero_le _,rfl,rfl,by simp,HRD,HROW.out,HXR.out⟩
   case round =>
    clear HROW HXR HRD
    obtain ⟨k,out,two,hk,rfl,rfl,hol,HEN,hrow,hx⟩:=hrel
    obtain ⟨wo,rfl⟩ : ∃ wo,wo=wr:=⟨_,rfl⟩
    have HOL:=Lib.hid hol
    have HROW:=Lib.hid hrow
    have HXR:=Lib.hid hx
    have y1:=(HB.out.ext hx).has 1 _ rfl
    rw [Nat.zero_add] at y1
    clear hol hrow hx
    by_cases hlt:k < d.procs.length
    ·have hws:=wsM_drop d k hlt
     have hrange:=writesM_range HOK.out HCK.out (p:=(k:Int)) (by simpa using hlt)
     have hlw:=lt_length _ _ (numbersM_lt _ _:(writesM d (k:Int)).Pairwise (· < ·)) hrange
     have hen:=HEN.out
     rw [hws,rdrvs] at hen
     rw [HNE.out] at hrange hlw
     have HWK:=Lib.hid (HWR.out wo (HX.out.trans HXR.out) k hlt)
     have HBW:=Lib.hid (HB.out.ext HXR.out)
     generalize writesM d (k:Int)=l at *
     have HRG:=Lib.hid hrange
     have HEN2:=Lib.hid hen
     clear hws hrange hen HEN
     go_upto_region 12 with (first | ((with_reducible show wpList _ _ _ (⟨_,Op.load 26 _,_,_,_,_⟩ :: _) _ _);refine wpList_load_has rfl 26 _ rfl rfl (HBW.out.has) agg_Flat rfl ?_) | (go_at_call 53;refine HWK.out.mono ?_;rintro r w6 ⟨u6,rfl,hr6,hx6⟩))
     obtain ⟨al,bl,ol,cl,rfl,hl1,hl2,hal,hlr⟩:=hr6.cells.open
     have HAL:=Lib.hid hal
     have HLR:=Lib.hid hlr
     have HR6:=Lib.hid hr6
     have HROW6:=Lib.hid (HROW.out.ext hx6)
     have HX6:=Lib.hid (HXR.out.trans hx6)
     have hgw:g < wo.heap.size:=by obtain ⟨-,cur,hcur⟩:=HROW.out.at rfl;exact (Array.getElem?_eq_some_iff.1 hcur).1
     clear hr6 hal hlr hx6 y1
     go_wp2_with fail
     go_loopw [8,12] (fun t i wr=>∃ (j:Nat) (out:List Int) (two:Bool),j ≤ l.length∧i=.int .i64 j∧t=.bool two∧out.length=nB d∧Hid (rdrvs (k + 1) ((wsM d).drop (k + 1)) (rdrv1 (k:Int) (l.drop j) out two).1 (rdrv1 (k:Int) (l.drop j) out two).2=ep)∧IntRow g (.slice (some ⟨g,0,Option.none⟩) (nB d) (nB d)) out wr∧w6.grownBy wr (some g)) (fun _ i _=>l.length - (intOf i).toNat)
     case atStart=>exact ⟨0,out,two,Nat.zero_le _,rfl,rfl,HOL.out,HEN2,HROW6.out,gb_refl _ _⟩
     case round =>
      clear HEN2 HROW6
      obtain ⟨j,out',two',hj,rfl,rfl,hol,HEN,hrow,hg1⟩:=hrel
      have HOL':=Lib.hid hol
      have HROWI:=Lib.hid hrow
      have HGI:=Lib.hid hg1
      have HXI:=Lib.hid (Ext.grown HX6.out hg1 hg2)
      clear hol hrow hg1
      by_cases hjl:j < l.length
      ·obtain rfl:=HAL.out (by omega)
       have hbq:=HRG.out _ (List.getElem_mem hjl)
       have hen:=HEN.out
       rw [List.drop_eq_getElem_cons hjl,rdrv1] at hen
       have hne:bl ≠ g:=by
        obtain ⟨g',c',he,hge,-⟩:=HR6.out.open1 (by omega)
        injection he with e1
        injection e1 with e1
        injection e1 with e1
        omega
       have hq:=HLR.out.get (List.getElem?_eq_getElem hjl)
       have yq:=(Has.grown hq HGI.out hne) 0 _ rfl
       simp only [Nat.mul_one,Nat.add_zero] at yq
       generalize l[j]=b at *
       obtain ⟨b',rfl⟩ : ∃ b':Nat,b=b':=⟨b.toNat,by omega⟩
       have hbo:b' < out'.length:=by rw [HOL'.out];omega
       rw [Int.toNat_natCast] at hen
       rw [List.getD_eq_getElem?_getD,List.getElem?_eq_getElem hbo] at hen
       simp only [Option.getD_some] at hen
       obtain ⟨yo,yf⟩:=HROWI.out.cellf hbo
       have hset:=HROWI.out.set b' hbo (k:Int)
       have hg9:=gb_trans HGI.out (gb_set wr g b' (.int .i64 (k:Int)))
       have HSET:=Lib.hid hset
       have HG9:=Lib.hid hg9
       have HL9:=Lib.hid (show (out'.set b' (k:Int)).length=nB d by rw [List.length_set];exact HOL'.out)
       generalize out'.set b' (k:Int)=out2 at *
       generalize out'[b']=ob at *
       obtain ⟨c,hc⟩ : ∃ c,decide (0 ≤ ob)=c:=⟨_,rfl⟩
       rw [hc] at hen
       have HEN2:=Lib.hid hen
       have hbn:b' < nB d:=by omega
       clear hset hg9 hen HEN hq hbo hbq hne
       cases two'
       ·rw [Bool.false_or] at HEN2
        cases c
        all_goals (
         go_wp2_with fail
         go_roundw
         case rel=>exact ⟨j + 1,out2,_,hjl,by go_num,rfl,HL9.out,HEN2,HSET.out,HG9.out⟩
         case measure=>simp [intOf];omega)
       ·rw [Bool.true_or] at HEN2
        clear hc
        go_wp2_with fail
        go_roundw
        case rel=>exact ⟨j + 1,out2,true,hjl,by go_num,rfl,HL9.out,HEN2,HSET.out,HG9.out⟩
        case measure=>simp [intOf];omega
      ·obtain rfl:j=l.length:=by omega
       have hen:=HEN.out
       rw [List.drop_of_length_le (Nat.le_refl _),rdrv1] at hen
       have HEN3:=Lib.hid hen
       clear hen HEN
       go_wp2_with fail
       go_roundw
       case rel=>exact ⟨k + 1,out',two',hlt,by go_num,rfl,HOL'.out,HEN3,HROWI.out,HXI.out⟩
       case measure=>simp [intOf];omega
    ·obtain rfl:k=d.procs.length:=by omega
     have hen:=HEN.out
     rw [List.drop_of_length_le (by rw [wsM_length];exact Nat.le_refl _),rdrvs] at hen
     subst hen
     clear HEN
     go_wp2_with fail
     refine bodyPost_ret (v:=.tuple #[_,.bool two]) (by simp [results,Tryz.results30,go_sem]) rfl ⟨_,rfl,HROW.out.less (Nat.le_trans HX.out.size hg2),HX.out.trans HXR.out⟩
end Go.Proofs.YthpemngachlehaaGreat
