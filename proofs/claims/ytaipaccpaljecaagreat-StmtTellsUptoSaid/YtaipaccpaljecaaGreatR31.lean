/- Laws and walks that a claim of this seat leans on: Mark6, StmtTells. -/
import Derived.Test.YtaipaccpaljecaaGreatR25
import Derived.Test.YtaipaccpaljecaaGreatRRef17
import Derived.Test.YtaipaccpaljecaaGreatR23
import Derived.Test.YtaipaccpaljecaaGreatRFew11
import Derived.Test.YtaipaccpaljecaaGreatR00
set_option maxRecDepth 100000
set_option maxHeartbeats 8000000
set_option linter.all false
namespace Go.Proofs.YtaipaccpaljecaaGreat
open Go.RowKit
/-! ### filigreeref11.no, Bits -/
theorem no_calls (d:Flat) (v:Value) (w:World) (h:FlatV w v d) (hok:d.ok) (p:Int) :
  Calls Tryz.prog 56 #[v,.int .i64 p] w fun r w'=>r=.returned (.bool (!toldOk d p))/\Ext w w':=by
 have HF:=Jh h
 obtain ⟨sv,pv,cv,rfl,hS,hP,hC⟩:=h
 have HX:=Jh (ext_alloc w (.cells [sv,pv,cv].toArray 26))
 have HB:=Jh (Blk.new w [sv,pv,cv].toArray 26)
 have HCK:=Jh (Check_callsR d _ _ (HF.out.ext HX.out) hok)
 have hln:=hok.procs
 obtain ⟨a0,b0,o0,c0,rfl,hc1,hc2,ha,hr⟩:=hP.open
 obtain ⟨q,hq⟩:∃ q,checkM d=q:=⟨_,rfl⟩
 have HT:=Jh (show toldOk d p=(decide (q=0)&&decide (0<=p)&&decide (p<d.procs.length)) by unfold toldOk;rw [hq])
 rw [hq] at HCK
 obtain ⟨t,ht⟩:∃ t,toldOk d p=t:=⟨_,rfl⟩
 rw [ht] at HT ⊢
 clear hS hP hC ha hr hq hok ht
 go_enter Tryz.func56,Tryz.ntmps56
 go_upto_region 1 with fail
 generalize w.alloc _=w1 at *
 by_cases hq:q=0
 ·have bq:(q != 0)=false:=by rw [bne_eq_false_iff_eq];exact hq
  by_cases hp:p<0
  ·obtain rfl:t=false:=by rw [HT.out];simp;omega
   clear hq
   go_wp2_with (first | ((with_reducible show Jl 26);refine Jm 26 (HB.out.has) agg_Flat rfl ?_) | (go_at_call 73;refine HCK.out.mono ?_;rintro r w2 ⟨rfl,hx2⟩;have y1:=(HB.out.ext hx2).has 1 _ rfl;rw [Nat.zero_add] at y1))
   go_ret
   exact ⟨rfl,HX.out.trans hx2⟩
  ·by_cases hp2:p<d.procs.length
   ·obtain rfl:t=true:=by rw [HT.out];simp [hq];omega
    have hb1:decide (p<0)=false:=decide_eq_false hp
    have hb2:decide ((d.procs.length:Int)<=p)=false:=decide_eq_false (by omega)
    clear hq hp hp2
    go_wp2_with (first | ((with_reducible show Jl 26);refine Jm 26 (HB.out.has) agg_Flat rfl ?_) | (go_at_call 73;refine HCK.out.mono ?_;rintro r w2 ⟨rfl,hx2⟩;have y1:=(HB.out.ext hx2).has 1 _ rfl;rw [Nat.zero_add] at y1))
    go_ret
    exact ⟨rfl,HX.out.trans hx2⟩
   ·obtain rfl:t=false:=by rw [HT.out];simp;omega
    clear hq
    go_wp2_with (first | ((with_reducible show Jl 26);refine Jm 26 (HB.out.has) agg_Flat rfl ?_) | (go_at_call 73;refine HCK.out.mono ?_;rintro r w2 ⟨rfl,hx2⟩;have y1:=(HB.out.ext hx2).has 1 _ rfl;rw [Nat.zero_add] at y1))
    go_ret
    exact ⟨rfl,HX.out.trans hx2⟩
 ·have bq:(q != 0)=true:=by rw [bne_iff_ne];exact hq
  obtain rfl:t=false:=by rw [HT.out];simp [hq]
  clear hq
  go_wp2_with (first | ((with_reducible show Jl 26);refine Jm 26 (HB.out.has) agg_Flat rfl ?_) | (go_at_call 73;refine HCK.out.mono ?_;rintro r w2 ⟨rfl,hx2⟩;have y1:=(HB.out.ext hx2).has 1 _ rfl;rw [Nat.zero_add] at y1))
  go_ret
  exact ⟨rfl,HX.out.trans hx2⟩
theorem Bits_callsR (d:Flat) (v:Value) (w:World) (h:FlatV w v d) (hok:d.ok) :
  Calls Tryz.prog 32 #[v] w fun r w'=>∃ u,r=.returned (.tuple #[u,.int .i64 (if checkM d=0 then 0 else 1)])/\IntRow w.heap.size u (if checkM d=0 then offsD d else []) w'/\Ext w w':=by
 have HF:=Jh h
 have HLN:=Jh hok.signals
 obtain ⟨sv,pv,cv,rfl,hS,hP,hC⟩:=h
 have HX:=Jh (ext_alloc w (.cells [sv,pv,cv].toArray 26))
 have HB:=Jh (Blk.new w [sv,pv,cv].toArray 26)
 have HCK:=Jh (Check_callsR d _ _ (HF.out.ext HX.out) hok)
 have hone:[sv,pv,cv].all (·.oneCell')=true:=by simp [hS.one,hP.one,hC.one]
 clear hS hP hC hok
 by_cases hck:checkM d=0
 ·have HW:=Jh (checkM_w hck)
  have HST:=Jh (fun W (hx:Ext w W)=>starts_calls d _ W (HF.out.ext hx) HLN.out HW.out)
  rw [hck] at HCK
  rw [if_pos hck,if_pos hck]
  clear hck
  go_enter Tryz.func32,Tryz.ntmps32
  go_upto_region 1 with fail
  generalize w.alloc _=w1 at *
  go_wp2_with (first | ((with_reducible show Jl 26);refine Jm 26 (HB.out.has) agg_Flat rfl ?_) | (go_at_call 73;refine HCK.out.mono ?_;rintro r w2 ⟨rfl,hx2⟩;have HB2:=Jh (HB.out.ext hx2)) | ((with_reducible show Jl 26);refine Jm 26 (HB2.out.has) agg_Flat rfl ?_) | (go_at_call 65;refine (HST.out _ (HX.out.trans hx2)).mono ?_;rintro r w3 ⟨u,rfl,hr3,hx3⟩))
  refine bodyPost_ret (v:=.tuple #[u,.int .i64 0]) (by simp [results,Tryz.results32,go_sem]) rfl ⟨u,rfl,hr3.less (HX.out.trans hx2).size,(HX.out.trans hx2).trans hx3⟩
 ·obtain ⟨q,hq⟩:∃ q,checkM d=q:=⟨_,rfl⟩
  rw [if_neg hck,if_neg hck]
  rw [hq] at HCK hck
  have bq:(q != 0)=true:=by rw [bne_iff_ne];exact hck
  clear hck hq
  go_enter Tryz.func32,Tryz.ntmps32
  go_upto_region 1 with fail
  generalize w.alloc _=w1 at *
  go_wp2_with (first | ((with_reducible show Jl 26);refine Jm 26 (HB.out.has) agg_Flat rfl ?_) | (go_at_call 73;refine HCK.out.mono ?_;rintro r w2 ⟨rfl,hx2⟩))
  refine bodyPost_ret (v:=.tuple #[.slice Option.none 0 0,.int .i64 1]) (by simp [results,Tryz.results32,go_sem]) rfl ⟨_,rfl,IntRow.nil _ _,HX.out.trans hx2⟩
theorem toldOk_inv {d:Flat} {p:Int} (h:toldOk d p=true):checkM d=0/\∃ k:Nat,p=k/\k<d.procs.length:=by
 unfold toldOk at h
 simp only [Bool.and_eq_true,decide_eq_true_eq] at h
 exact ⟨h.1.1,p.toNat,by omega,by omega⟩
theorem writes_range' {d:Flat} (hok:d.ok) (hck:checkM d=0) {k:Nat} (hk:k<d.procs.length):∀ x∈allNums (offsD d) (spansW d.procs[k].l),0<=x/\x<(nB d:Nat):=by
 have hD:=procD_of hok hck k hk
 intro x hx
 have:=allNums_range d.signals hD.spansW (checkM_w hck) x hx
 unfold nB nBits
 omega
theorem reads_range' {d:Flat} (hok:d.ok) (hck:checkM d=0) {k:Nat} (hk:k<d.procs.length):∀ x∈allNums (offsD d) (spansR d.signals d.procs[k].l),0<=x/\x<(nB d:Nat):=by
 have hD:=procD_of hok hck k hk
 intro x hx
 have:=allNums_range d.signals hD.spansR (checkM_w hck) x hx
 unfold nB nBits
 omega
/-! ### filigreeref11.Reads, Writes, Always -/
theorem Reads_callsR (d:Flat) (v:Value) (w:World) (h:FlatV w v d) (hok:d.ok) (p:Int) (hpr:-9223372036854775808<=p/\p<=9223372036854775807) :
  Calls Tryz.prog 27 #[v,.int .i64 p] w fun r w'=>∃ u,r=.returned (.tuple #[u,.int .i64 (if toldOk d p=true then 0 else 1)])/\IntRow w.heap.size u (if toldOk d p=true then readsM d p else []) w'/\Ext w w':=by
 have HF:=Jh h
 have HLN:=Jh hok.signals
 have hlp:=hok.procs
 have HOK:=Jh hok
 obtain ⟨sv,pv,cv,rfl,hS,hP,hC⟩:=h
 have hone:[sv,pv,cv].all (·.oneCell')=true:=by simp [hS.one,hP.one,hC.one]
 have HX:=Jh (ext_alloc w (.cells [sv,pv,cv].toArray 26))
 have HB:=Jh (Blk.new w [sv,pv,cv].toArray 26)
 have HNO:=Jh (no_calls d _ _ (HF.out.ext HX.out) hok p)
 obtain ⟨a0,b0,o0,c0,rfl,hc1,hc2,ha,hr⟩:=hP.open
 have HA:=Jh ha
 have HR:=Jh hr
 clear hS hP hC ha hr hok
 cases ht:toldOk d p
 ·rw [ht] at HNO
  rw [if_neg (by decide),if_neg (by decide)]
  clear ht
  go_enter Tryz.func27,Tryz.ntmps27
  go_upto_region 1 with fail
  generalize w.alloc _=w1 at *
  go_wp2_with (first | ((with_reducible show Jl 26);refine Jm 26 (HB.out.has) agg_Flat rfl ?_) | (go_at_call 56;refine HNO.out.mono ?_;rintro r w2 ⟨rfl,hx2⟩))
  refine bodyPost_ret (v:=.tuple #[.slice Option.none 0 0,.int .i64 1]) (by simp [results,Tryz.results27,go_sem]) rfl ⟨_,rfl,IntRow.nil _ _,HX.out.trans hx2⟩
 ·rw [ht] at HNO
  rw [if_pos rfl,if_pos rfl]
  obtain ⟨hck,k,rfl,hk⟩:=toldOk_inv ht
  obtain rfl:=HA.out (by omega)
  have hnb:=nBits_le HOK.out hck
  have hnn:nB d<=67108864:=by unfold nB;omega
  have hnBe:nBits d=((nB d:Nat):Int):=by unfold nB;omega
  have HNE:=Jh hnBe
  have HW:=Jh (checkM_w hck)
  have hD:=procD_of HOK.out hck k hk
  have HM:=Jh (show markedK (setB (nB d) ([]++allNums (offsD d) (spansR d.signals d.procs[k].l))) (nB d)=readsM d (k:Int) by
   unfold readsM
   rw [procL_get (by simpa using hk),List.nil_append,numbersM_set]
   simp only [Int.toNat_natCast]
   exact marked_set (reads_range' HOK.out hck hk))
  have HST:=Jh (fun W (hx:Ext w W)=>starts_calls d _ W (HF.out.ext hx) HLN.out HW.out)
  have HRW:=Jh (reads_calls HOK.out hck d.procs[k].l hD.st hD.nodes)
  obtain ⟨sk,hhas,hts⟩:=Procs.get HR.out hk
  have HH:=Jh hhas
  have HTS:=Jh hts
  have HDL:=Jh (offsM_length d.signals d.signals.length)
  have HDL2:=Jh (offsM_last d.signals d.signals.length)
  generalize d.procs[k]=pk at *
  clear ht hck hnb hnBe hD hhas hts
  go_enter Tryz.func27,Tryz.ntmps27
  go_upto_region 1 with fail
  generalize w.alloc _=w1 at *
  go_upto_region 4 with (first | ((with_reducible show Jl 26);refine Jm 26 (HB.out.has) agg_Flat rfl ?_) | (go_at_call 56;refine HNO.out.mono ?_;rintro r w2 ⟨rfl,hx2⟩;have HB2:=Jh (HB.out.ext hx2)) | ((with_reducible show Jl 26);refine Jm 26 (HB2.out.has) agg_Flat rfl ?_) | (go_at_call 65;refine (HST.out _ (HX.out.trans hx2)).mono ?_;rintro r w3 ⟨u,rfl,hr3,hx3⟩))
  obtain ⟨gb,cb,hu,hgb,hgc⟩:=hr3.open1 (by rw [show (offsD d).length=_ from HDL.out];omega)
  rw [show (offsD d).length=_ from HDL.out] at hu
  subst hu
  have y0:=hgc d.signals.length (nBits d) HDL2.out
  rw [HNE.out] at y0
  have HY:=Jh y0
  have HX3:=Jh ((HX.out.trans hx2).trans hx3)
  have HB3:=Jh (HB2.out.ext hx3)
  have HO3:=Jh hr3.cells
  clear y0 hgb hgc hr3 hx2 hx3 HB2 HST HNO
  refine Jg w3 fun hH=>?_
  generalize w3.drew=w4 at *
  try simp only [J]
  (refine Jt 0 (_) rfl (yif_load1 rfl fun _ _=>rfl) hH ?_;try simp only [J])
  (refine Jt 1 (_) rfl (yif_load1 rfl fun _ _=>rfl) hH ?_;try simp only [J])
  (refine Jt 2 (.int .i64 ((d.signals.length+1:Nat):Int)) rfl (yif_load1 rfl (by intro W hW;clear hW;go_simp)) hH ?_;try simp only [J])
  (refine Jt 3 (.int .i64 (d.signals.length:Int)) rfl (yif_load1 rfl (by intro W hW;clear hW;go_simp;have:=HLN.out;rw [IntKind.wrap_i64];omega)) hH ?_;try simp only [J])
  (refine Jt 4 (.pointer (some ⟨gb,d.signals.length,Option.none⟩)) rfl (yif_load1 rfl (by intro W hW;clear hW;go_simp;try (intro h;omega))) hH ?_;try simp only [J])
  (refine Jt 5 (.int .i64 (nB d:Int)) rfl (yif_load1 rfl (by intro W hW;have y:=Has.one1 HY.out hW;clear hW;go_simp)) hH ?_;try simp only [J])
  (refine Jt 7 (.agg #[sv,.slice (some ⟨b0,o0,Option.none⟩) d.procs.length c0,cv]) rfl (yif_load rfl 26 _ rfl rfl (fun W hW=>(HB3.out.ext hW).has) agg_Flat rfl) hH ?_;try simp only [J])
  (refine Jt 8 (_) rfl (yif_load1 rfl fun _ _=>rfl) hH ?_;try simp only [J])
  (refine Jt 9 (_) rfl (yif_load1 rfl fun _ _=>rfl) hH ?_;try simp only [J])
  (refine Jt 10 (.slice (some ⟨b0,o0,Option.none⟩) d.procs.length c0) rfl (yif_load1 rfl (by intro W hW;have y:=(HB3.out.ext hW).has 1 _ rfl;rw [Nat.zero_add] at y;clear hW;go_simp)) hH ?_;try simp only [J])
  (refine Jt 11 (_) rfl (yif_load1 rfl fun _ _=>rfl) hH ?_;try simp only [J])
  (refine Jt 12 (.pointer (some ⟨b0,o0+k*2,Option.none⟩)) rfl (yif_load1 rfl (by intro W hW;clear hW;go_simp;try (intro h;omega))) hH ?_;try simp only [J])
  (refine Jt 13 (_) rfl (yif_load1 rfl (by intro W hW;clear hW;go_simp;rfl)) hH ?_;try simp only [J])
  (refine Jt 14 (sk) rfl (yif_load1 rfl (by intro W hW;have y:=HH.out.ext (HX3.out.trans hW) 1 _ rfl;clear hW;go_simp)) hH ?_;try simp only [J])
  refine Jr 6 rfl fun K hK=>?_
  refine step_mk rfl 100 _ _ rfl (n:=nB d) rfl rfl Tryz.underlying100 info_bool (by omega) (by omega) ?_
  rw [made_bools]
  have hrm:=made_row w4 (nB d) (by omega)
  have hxm:=ext_alloc w4 (.cells (List.replicate (nB d) (Value.bool false)).toArray 4)
  refine hK.out _ _ (hH.trans hxm) (fun hH=>?_)
  clear hK K
  have hbm:=hrm.cells
  clear hrm hxm
  generalize w4.alloc _=w5 at *
  generalize w4.heap.size=B5 at *
  try simp only [J]
  refine Jr 15 rfl fun K hK=>?_
  go_simp
  have HZ:=Jh (HX3.out.trans hH)
  refine (HRW.out [] _ _ _ sk w5 hbm (HF.out.ext HZ.out) (HO3.out.ext hH) (HTS.out.ext HZ.out)).mono ?_
  rintro r w6 ⟨u6,rfl,hu6,hx6⟩
  refine hK.out _ _ (hH.trans hx6) (fun hH=>?_)
  clear hK K hbm
  try simp only [J]
  have HMK:=Jh (marked_calls _ u6 w6 hu6 (by rw [setB_length];omega))
  rw [setB_length,HM.out] at HMK
  have hu1:=hu6.one
  refine Jr 16 rfl fun K hK=>?_
  go_simp
  refine HMK.out.mono ?_
  rintro r w7 ⟨u7,rfl,hr7,hx7⟩
  have hz7:=(HX3.out.trans hH).size
  refine hK.out _ _ (hH.trans hx7) (fun hH=>?_)
  clear hK K
  try simp only [J]
  (refine Jt 17 (_) rfl (yif_load1 rfl fun _ _=>rfl) hH ?_;try simp only [J])
  (refine Jt 18 (_) rfl (yif_load1 rfl fun _ _=>rfl) hH ?_;try simp only [J])
  refine Jz ?_
  go_wp2_with fail
  refine bodyPost_ret (v:=.tuple #[u7,.int .i64 0]) (by simp [results,Tryz.results27,go_sem]) rfl ⟨u7,rfl,hr7.less (by omega),HX3.out.trans hH⟩
theorem Writes_callsR (d:Flat) (v:Value) (w:World) (h:FlatV w v d) (hok:d.ok) (p:Int) (hpr:-9223372036854775808<=p/\p<=9223372036854775807) :
  Calls Tryz.prog 29 #[v,.int .i64 p] w fun r w'=>∃ u,r=.returned (.tuple #[u,.int .i64 (if toldOk d p=true then 0 else 1)])/\IntRow w.heap.size u (if toldOk d p=true then writesM d p else []) w'/\Ext w w':=by
 have HF:=Jh h
 have HLN:=Jh hok.signals
 have hlp:=hok.procs
 have HOK:=Jh hok
 obtain ⟨sv,pv,cv,rfl,hS,hP,hC⟩:=h
 have hone:[sv,pv,cv].all (·.oneCell')=true:=by simp [hS.one,hP.one,hC.one]
 have HX:=Jh (ext_alloc w (.cells [sv,pv,cv].toArray 26))
 have HB:=Jh (Blk.new w [sv,pv,cv].toArray 26)
 have HNO:=Jh (no_calls d _ _ (HF.out.ext HX.out) hok p)
 obtain ⟨a0,b0,o0,c0,rfl,hc1,hc2,ha,hr⟩:=hP.open
 have HA:=Jh ha
 have HR:=Jh hr
 clear hS hP hC ha hr hok
 cases ht:toldOk d p
 ·rw [ht] at HNO
  rw [if_neg (by decide),if_neg (by decide)]
  clear ht
  go_enter Tryz.func29,Tryz.ntmps29
  go_upto_region 1 with fail
  generalize w.alloc _=w1 at *
  go_wp2_with (first | ((with_reducible show Jl 26);refine Jm 26 (HB.out.has) agg_Flat rfl ?_) | (go_at_call 56;refine HNO.out.mono ?_;rintro r w2 ⟨rfl,hx2⟩))
  refine bodyPost_ret (v:=.tuple #[.slice Option.none 0 0,.int .i64 1]) (by simp [results,Tryz.results29,go_sem]) rfl ⟨_,rfl,IntRow.nil _ _,HX.out.trans hx2⟩
 ·rw [ht] at HNO
  rw [if_pos rfl,if_pos rfl]
  obtain ⟨hck,k,rfl,hk⟩:=toldOk_inv ht
  obtain rfl:=HA.out (by omega)
  have hnb:=nBits_le HOK.out hck
  have hnn:nB d<=67108864:=by unfold nB;omega
  have hnBe:nBits d=((nB d:Nat):Int):=by unfold nB;omega
  have HNE:=Jh hnBe
  have HW:=Jh (checkM_w hck)
  have hD:=procD_of HOK.out hck k hk
  have HM:=Jh (show markedK (setB (nB d) ([]++allNums (offsD d) (spansW d.procs[k].l))) (nB d)=writesM d (k:Int) by
   unfold writesM
   rw [procL_get (by simpa using hk),List.nil_append,numbersM_set]
   simp only [Int.toNat_natCast]
   exact marked_set (writes_range' HOK.out hck hk))
  have HST:=Jh (fun W (hx:Ext w W)=>starts_calls d _ W (HF.out.ext hx) HLN.out HW.out)
  have HRW:=Jh (writes_calls HOK.out hck d.procs[k].l hD.st hD.nodes)
  obtain ⟨sk,hhas,hts⟩:=Procs.get HR.out hk
  have HH:=Jh hhas
  have HTS:=Jh hts
  have HDL:=Jh (offsM_length d.signals d.signals.length)
  have HDL2:=Jh (offsM_last d.signals d.signals.length)
  generalize d.procs[k]=pk at *
  clear ht hck hnb hnBe hD hhas hts
  go_enter Tryz.func29,Tryz.ntmps29
  go_upto_region 1 with fail
  generalize w.alloc _=w1 at *
  go_upto_region 4 with (first | ((with_reducible show Jl 26);refine Jm 26 (HB.out.has) agg_Flat rfl ?_) | (go_at_call 56;refine HNO.out.mono ?_;rintro r w2 ⟨rfl,hx2⟩;have HB2:=Jh (HB.out.ext hx2)) | ((with_reducible show Jl 26);refine Jm 26 (HB2.out.has) agg_Flat rfl ?_) | (go_at_call 65;refine (HST.out _ (HX.out.trans hx2)).mono ?_;rintro r w3 ⟨u,rfl,hr3,hx3⟩))
  obtain ⟨gb,cb,hu,hgb,hgc⟩:=hr3.open1 (by rw [show (offsD d).length=_ from HDL.out];omega)
  rw [show (offsD d).length=_ from HDL.out] at hu
  subst hu
  have y0:=hgc d.signals.length (nBits d) HDL2.out
  rw [HNE.out] at y0
  have HY:=Jh y0
  have HX3:=Jh ((HX.out.trans hx2).trans hx3)
  have HB3:=Jh (HB2.out.ext hx3)
  have HO3:=Jh hr3.cells
  clear y0 hgb hgc hr3 hx2 hx3 HB2 HST HNO
  refine Jg w3 fun hH=>?_
  generalize w3.drew=w4 at *
  try simp only [J]
  (refine Jt 0 (_) rfl (yif_load1 rfl fun _ _=>rfl) hH ?_;try simp only [J])
  (refine Jt 1 (_) rfl (yif_load1 rfl fun _ _=>rfl) hH ?_;try simp only [J])
  (refine Jt 2 (.int .i64 ((d.signals.length+1:Nat):Int)) rfl (yif_load1 rfl (by intro W hW;clear hW;go_simp)) hH ?_;try simp only [J])
  (refine Jt 3 (.int .i64 (d.signals.length:Int)) rfl (yif_load1 rfl (by intro W hW;clear hW;go_simp;have:=HLN.out;rw [IntKind.wrap_i64];omega)) hH ?_;try simp only [J])
  (refine Jt 4 (.pointer (some ⟨gb,d.signals.length,Option.none⟩)) rfl (yif_load1 rfl (by intro W hW;clear hW;go_simp;try (intro h;omega))) hH ?_;try simp only [J])
  (refine Jt 5 (.int .i64 (nB d:Int)) rfl (yif_load1 rfl (by intro W hW;have y:=Has.one1 HY.out hW;clear hW;go_simp)) hH ?_;try simp only [J])
  (refine Jt 7 (_) rfl (yif_load1 rfl fun _ _=>rfl) hH ?_;try simp only [J])
  (refine Jt 8 (_) rfl (yif_load1 rfl fun _ _=>rfl) hH ?_;try simp only [J])
  (refine Jt 9 (.slice (some ⟨b0,o0,Option.none⟩) d.procs.length c0) rfl (yif_load1 rfl (by intro W hW;have y:=(HB3.out.ext hW).has 1 _ rfl;rw [Nat.zero_add] at y;clear hW;go_simp)) hH ?_;try simp only [J])
  (refine Jt 10 (_) rfl (yif_load1 rfl fun _ _=>rfl) hH ?_;try simp only [J])
  (refine Jt 11 (.pointer (some ⟨b0,o0+k*2,Option.none⟩)) rfl (yif_load1 rfl (by intro W hW;clear hW;go_simp;try (intro h;omega))) hH ?_;try simp only [J])
  (refine Jt 12 (_) rfl (yif_load1 rfl (by intro W hW;clear hW;go_simp;rfl)) hH ?_;try simp only [J])
  (refine Jt 13 (sk) rfl (yif_load1 rfl (by intro W hW;have y:=HH.out.ext (HX3.out.trans hW) 1 _ rfl;clear hW;go_simp)) hH ?_;try simp only [J])
  refine Jr 6 rfl fun K hK=>?_
  refine step_mk rfl 100 _ _ rfl (n:=nB d) rfl rfl Tryz.underlying100 info_bool (by omega) (by omega) ?_
  rw [made_bools]
  have hrm:=made_row w4 (nB d) (by omega)
  have hxm:=ext_alloc w4 (.cells (List.replicate (nB d) (Value.bool false)).toArray 4)
  refine hK.out _ _ (hH.trans hxm) (fun hH=>?_)
  clear hK K
  have hbm:=hrm.cells
  clear hrm hxm
  generalize w4.alloc _=w5 at *
  generalize w4.heap.size=B5 at *
  try simp only [J]
  refine Jr 14 rfl fun K hK=>?_
  go_simp
  have HZ:=Jh (HX3.out.trans hH)
  refine (HRW.out [] _ _ sk w5 hbm (HO3.out.ext hH) (HTS.out.ext HZ.out)).mono ?_
  rintro r w6 ⟨u6,rfl,hu6,hx6⟩
  refine hK.out _ _ (hH.trans hx6) (fun hH=>?_)
  clear hK K hbm
  try simp only [J]
  have HMK:=Jh (marked_calls _ u6 w6 hu6 (by rw [setB_length];omega))
  rw [setB_length,HM.out] at HMK
  have hu1:=hu6.one
  refine Jr 15 rfl fun K hK=>?_
  go_simp
  refine HMK.out.mono ?_
  rintro r w7 ⟨u7,rfl,hr7,hx7⟩
  have hz7:=(HX3.out.trans hH).size
  refine hK.out _ _ (hH.trans hx7) (fun hH=>?_)
  clear hK K
  try simp only [J]
  (refine Jt 16 (_) rfl (yif_load1 rfl fun _ _=>rfl) hH ?_;try simp only [J])
  (refine Jt 17 (_) rfl (yif_load1 rfl fun _ _=>rfl) hH ?_;try simp only [J])
  refine Jz ?_
  go_wp2_with fail
  refine bodyPost_ret (v:=.tuple #[u7,.int .i64 0]) (by simp [results,Tryz.results29,go_sem]) rfl ⟨u7,rfl,hr7.less (by omega),HX3.out.trans hH⟩
theorem alw_range (ls:List Signal) (hw:∀ x∈ls,1<=x.w/\x.w<=64) (t:T):StD ls t->(∀ x∈alt (offsM ls ls.length) t,0<=x/\x<sumW ls ls.length)/\∀ x∈alwM (offsM ls ls.length) t.l,0<=x/\x<sumW ls ls.length:=by
 induction t using T.ind with
 | h t ih =>
 intro h
 obtain ⟨h1,h2,h3,h4⟩:=(StD_iff ls t).1 h
 have hall:∀ z∈alwM (offsM ls ls.length) t.l,0<=z/\z<sumW ls ls.length:=by
  intro z hz
  rw [alwM_mem] at hz
  obtain ⟨m,hm,hz⟩:=List.mem_flatten.1 hz
  obtain ⟨y,hy,rfl⟩:=List.mem_map.1 hm
  exact (ih y hy (h4 y hy)).1 z hz
 refine ⟨fun x hx=>?_,hall⟩
 rw [alt_eq] at hx
 by_cases o1:t.op=1
 ·rw [if_pos o1,numbersM_set,setI_mem] at hx
  exact allNums_range ls (xs:=[ownS t]) (fun s hs=>by rw [List.mem_singleton.1 hs];exact slice_span (h1 o1)) hw x hx
 ·rw [if_neg o1] at hx
  by_cases o2:t.op=2\/t.op=3
  ·rw [if_pos o2] at hx
   unfold metM at hx
   have hx:=(List.mem_filter.1 hx).1
   cases hl:t.l with
   | nil=>rw [hl] at hx;simp at hx
   | cons y l0 =>
    have hy:y∈t.l:=by rw [hl];simp
    rw [hl] at hx
    simp only [List.map_cons,List.headD_cons] at hx
    exact (ih y hy (h4 y hy)).2 x hx
  ·rw [if_neg o2] at hx
   exact hall x hx
theorem alw_range' {d:Flat} (hok:d.ok) (hck:checkM d=0) {k:Nat} (hk:k<d.procs.length):∀ x∈alwM (offsD d) d.procs[k].l,0<=x/\x<(nB d:Nat):=by
 have hD:=procD_of hok hck k hk
 intro x hx
 have:=(alw_range d.signals (checkM_w hck) ⟨4,0,0,0,[],d.procs[k].l⟩ ((StD_iff _ _).2 ⟨by simp,by simp,by simp,hD.st⟩)).2 x hx
 unfold nB nBits
 omega
theorem Always_callsR (d:Flat) (v:Value) (w:World) (h:FlatV w v d) (hok:d.ok) (p:Int) (hpr:-9223372036854775808<=p/\p<=9223372036854775807) :
  Calls Tryz.prog 31 #[v,.int .i64 p] w fun r w'=>∃ u,r=.returned (.tuple #[u,.int .i64 (if toldOk d p=true then 0 else 1)])/\IntRow w.heap.size u (if toldOk d p=true then alwaysM d p else []) w'/\Ext w w':=by
 have HF:=Jh h
 have HLN:=Jh hok.signals
 have hlp:=hok.procs
 have HOK:=Jh hok
 obtain ⟨sv,pv,cv,rfl,hS,hP,hC⟩:=h
 have hone:[sv,pv,cv].all (·.oneCell')=true:=by simp [hS.one,hP.one,hC.one]
 have HX:=Jh (ext_alloc w (.cells [sv,pv,cv].toArray 26))
 have HB:=Jh (Blk.new w [sv,pv,cv].toArray 26)
 have HNO:=Jh (no_calls d _ _ (HF.out.ext HX.out) hok p)
 obtain ⟨a0,b0,o0,c0,rfl,hc1,hc2,ha,hr⟩:=hP.open
 have HA:=Jh ha
 have HR:=Jh hr
 clear hS hP hC ha hr hok
 cases ht:toldOk d p
 ·rw [ht] at HNO
  rw [if_neg (by decide),if_neg (by decide)]
  clear ht
  go_enter Tryz.func31,Tryz.ntmps31
  go_upto_region 1 with fail
  generalize w.alloc _=w1 at *
  go_wp2_with (first | ((with_reducible show Jl 26);refine Jm 26 (HB.out.has) agg_Flat rfl ?_) | (go_at_call 56;refine HNO.out.mono ?_;rintro r w2 ⟨rfl,hx2⟩))
  refine bodyPost_ret (v:=.tuple #[.slice Option.none 0 0,.int .i64 1]) (by simp [results,Tryz.results31,go_sem]) rfl ⟨_,rfl,IntRow.nil _ _,HX.out.trans hx2⟩
 ·rw [ht] at HNO
  rw [if_pos rfl,if_pos rfl]
  obtain ⟨hck,k,rfl,hk⟩:=toldOk_inv ht
  obtain rfl:=HA.out (by omega)
  have hnb:=nBits_le HOK.out hck
  have hnn:nB d<=67108864:=by unfold nB;omega
  have hnBe:nBits d=((nB d:Nat):Int):=by unfold nB;omega
  have HNE:=Jh hnBe
  have HW:=Jh (checkM_w hck)
  have hD:=procD_of HOK.out hck k hk
  have HM:=Jh (show markedK (setB (nB d) (alwM (offsD d) d.procs[k].l)) (nB d)=alwaysM d (k:Int) by
   unfold alwaysM
   rw [procL_get (by simpa using hk)]
   simp only [Int.toNat_natCast]
   rw [marked_set]
   ·refine setI_eq _ _ ?_ (fun x=>Iff.rfl)
    exact setI_lt _
   ·exact alw_range' HOK.out hck hk)
  have HST:=Jh (fun W (hx:Ext w W)=>starts_calls d _ W (HF.out.ext hx) HLN.out HW.out)
  have HRW:=Jh (alwR_calls HOK.out hck d.procs[k].l hD.st hD.nodes)
  obtain ⟨sk,hhas,hts⟩:=Procs.get HR.out hk
  have HH:=Jh hhas
  have HTS:=Jh hts
  have HDL:=Jh (offsM_length d.signals d.signals.length)
  have HDL2:=Jh (offsM_last d.signals d.signals.length)
  generalize d.procs[k]=pk at *
  clear ht hck hnb hnBe hD hhas hts
  go_enter Tryz.func31,Tryz.ntmps31
  go_upto_region 1 with fail
  generalize w.alloc _=w1 at *
  go_upto_region 3 with (first | ((with_reducible show Jl 26);refine Jm 26 (HB.out.has) agg_Flat rfl ?_) | (go_at_call 56;refine HNO.out.mono ?_;rintro r w3 ⟨rfl,hx2⟩))
  have HX3:=Jh (HX.out.trans hx2)
  have HB3:=Jh (HB.out.ext hx2)
  clear hx2 HNO
  refine Jg w3 fun hH=>?_
  generalize w3.drew=w4 at *
  try simp only [J]
  (refine Jt 0 (.agg #[sv,.slice (some ⟨b0,o0,Option.none⟩) d.procs.length c0,cv]) rfl (yif_load rfl 26 _ rfl rfl (fun W hW=>(HB3.out.ext hW).has) agg_Flat rfl) hH ?_;try simp only [J])
  (refine Jt 2 (_) rfl (yif_load1 rfl fun _ _=>rfl) hH ?_;try simp only [J])
  (refine Jt 3 (.slice (some ⟨b0,o0,Option.none⟩) d.procs.length c0) rfl (yif_load1 rfl (by intro W hW;have y:=(HB3.out.ext hW).has 1 _ rfl;rw [Nat.zero_add] at y;clear hW;go_simp)) hH ?_;try simp only [J])
  (refine Jt 4 (_) rfl (yif_load1 rfl fun _ _=>rfl) hH ?_;try simp only [J])
  (refine Jt 5 (.pointer (some ⟨b0,o0+k*2,Option.none⟩)) rfl (yif_load1 rfl (by intro W hW;clear hW;go_simp;try (intro h;omega))) hH ?_;try simp only [J])
  (refine Jt 6 (_) rfl (yif_load1 rfl (by intro W hW;clear hW;go_simp;rfl)) hH ?_;try simp only [J])
  (refine Jt 7 (sk) rfl (yif_load1 rfl (by intro W hW;have y:=HH.out.ext (HX3.out.trans hW) 1 _ rfl;clear hW;go_simp)) hH ?_;try simp only [J])
  refine Jr 1 rfl fun K hK=>?_
  go_simp
  refine (HST.out _ (HX3.out.trans hH)).mono ?_
  rintro r w5 ⟨u5,rfl,hu5,hx5⟩
  refine hK.out _ _ (hH.trans hx5) (fun hH=>?_)
  clear hK K
  try simp only [J]
  refine Jr 8 rfl fun K hK=>?_
  go_simp
  refine (HRW.out _ sk w5 hu5.cells (HTS.out.ext (HX3.out.trans hH))).mono ?_
  rintro r w6 ⟨u6,rfl,hu6,hx6⟩
  refine hK.out _ _ (hH.trans hx6) (fun hH=>?_)
  clear hK K hu5
  try simp only [J]
  have HMK:=Jh (marked_calls _ u6 w6 hu6 (by rw [setB_length];omega))
  rw [setB_length,HM.out] at HMK
  have hu1:=hu6.one
  refine Jr 9 rfl fun K hK=>?_
  go_simp
  refine HMK.out.mono ?_
  rintro r w7 ⟨u7,rfl,hr7,hx7⟩
  have hz7:=(HX3.out.trans hH).size
  refine hK.out _ _ (hH.trans hx7) (fun hH=>?_)
  clear hK K
  try simp only [J]
  (refine Jt 10 (_) rfl (yif_load1 rfl fun _ _=>rfl) hH ?_;try simp only [J])
  (refine Jt 11 (_) rfl (yif_load1 rfl fun _ _=>rfl) hH ?_;try simp only [J])
  refine Jz ?_
  go_wp2_with fail
  refine bodyPost_ret (v:=.tuple #[u7,.int .i64 0]) (by simp [results,Tryz.results31,go_sem]) rfl ⟨u7,rfl,hr7.less (by omega),HX3.out.trans hH⟩
theorem told_len {d:Flat} (hok:d.ok) {p:Int} (h:toldOk d p=true):(readsM d p).length<=1099511627776/\(writesM d p).length<=1099511627776/\(alwaysM d p).length<=1099511627776:=by
 unfold toldOk at h
 simp only [Bool.and_eq_true,decide_eq_true_eq] at h
 obtain ⟨⟨hc,h0⟩,h1⟩:=h
 have hp:p.toNat<d.procs.length:=by omega
 have hnb:=nBits_le hok hc
 have q1:=lt_length (readsM d p) _ (numbersM_lt _ _) (readsM_range hok hc hp)
 have q2:=lt_length (writesM d p) _ (numbersM_lt _ _) (writesM_range hok hc hp)
 have q3:(alwaysM d p).length<=(writesM d p).length:=nodup_le _ _ (lt_nodup (setI_lt _)) (always_sub hok hc h0 h1)
 omega
theorem StmtTells_calls (d:Flat) (v:Value) (p:Int) (w:World) (hF:FlatV w v d) (hok:d.ok) (hp:i64r p) :
  Calls Tryz.prog 5 #[v,.int .i64 p] w fun r w'=>r=.returned (.bool true)/\Ext w w':=by
 have HF:=Jh (fun W (h:Ext w W)=>hF.ext h)
 have HFW:=Jh (fun W (h:Ext w W)=>Few_calls d v W (hF.ext h) hok.nodes hok.signals hok.procs)
 have HOK:=Jh hok
 have hlpr:=hok.procs
 have HIP:=Jh hp
 obtain ⟨sv,pv,cv,rfl,hS,hP,hC⟩:=hF
 obtain ⟨ap,bp,op,cp,rfl,hp1,hp2,-,-⟩:=hP.open
 have x1:=ext_alloc w (.cells [sv,.slice ap d.procs.length cp,cv].toArray 26)
 have hD:=Blk.new w [sv,.slice ap d.procs.length cp,cv].toArray 26
 clear hS hP hC hok
 unfold i64r at hp
 go_enter Tryz.func5,Tryz.ntmps5
 go_upto_region 1 with fail
 generalize w.alloc _=w0 at *
 have HX0:=Jh x1
 have HD0:=Jh hD
 clear x1 hD
 go_upto_region 4 with (go_at_call 21;refine (live11_calls _).mono ?_;rintro r w1 ⟨rfl,hx1⟩)
 have HD:=Jh (HD0.out.ext hx1)
 have HX:=Jh (HX0.out.trans hx1)
 clear hx1 HD0 HX0
 have d1:=HD.out.has
 obtain ⟨fw,hfw⟩:∃ fw,few11 d=fw:=⟨_,rfl⟩
 rw [hfw] at HFW
 clear hfw
 cases fw
 ·go_wp2_with (first | ((with_reducible show Jl 26);refine Jm 26 (d1) agg_Flat rfl ?_) | (go_at_call 22;refine (HFW.out w1 HX.out).mono ?_;rintro r w2 ⟨rfl,hx2⟩))
  go_ret
  exact ⟨rfl,HX.out.trans hx2⟩
 go_upto_region 6 with (first | ((with_reducible show Jl 26);refine Jm 26 (d1) agg_Flat rfl ?_) | (go_at_call 22;refine (HFW.out w1 HX.out).mono ?_;rintro r w2 ⟨rfl,hx2⟩))
 have HD2:=Jh (HD.out.ext hx2)
 have HX2:=Jh (HX.out.trans hx2)
 clear hx2 d1 HD HX HFW
 have d2:=HD2.out.has
 have HC0:=Jh (fun W (h:Ext w W)=>Reads_calls d _ W (HF.out W h) HOK.out p HIP.out)
 have HC1:=Jh (fun W (h:Ext w W)=>Reads_callsR d _ W (HF.out W h) HOK.out p HIP.out)
 have HC2:=Jh (fun W (h:Ext w W)=>Writes_calls d _ W (HF.out W h) HOK.out p HIP.out)
 have HC3:=Jh (fun W (h:Ext w W)=>Writes_callsR d _ W (HF.out W h) HOK.out p HIP.out)
 have HC4:=Jh (fun W (h:Ext w W)=>Always_calls d _ W (HF.out W h) HOK.out p HIP.out)
 have HC5:=Jh (fun W (h:Ext w W)=>Always_callsR d _ W (HF.out W h) HOK.out p HIP.out)
 have HC6:=Jh (fun W (h:Ext w W)=>Bits_calls d _ W (HF.out W h) HOK.out)
 have HC7:=Jh (fun W (h:Ext w W)=>Bits_callsR d _ W (HF.out W h) HOK.out)
 have hlr:(if toldOk d p=true then readsM d p else []).length<=1099511627776:=by
  by_cases c:toldOk d p=true
  ·rw [if_pos c];exact (told_len HOK.out c).1
  ·rw [if_neg c];decide
 have hlw:(if toldOk d p=true then writesM d p else []).length<=1099511627776:=by
  by_cases c:toldOk d p=true
  ·rw [if_pos c];exact (told_len HOK.out c).2.1
  ·rw [if_neg c];decide
 have hla:(if toldOk d p=true then alwaysM d p else []).length<=1099511627776:=by
  by_cases c:toldOk d p=true
  ·rw [if_pos c];exact (told_len HOK.out c).2.2
  ·rw [if_neg c];decide
 have hlo:(if checkM d=0 then offsD d else []).length<=1099511627776:=by
  by_cases c:checkM d=0
  ·rw [if_pos c];unfold offsD;rw [offsM_length];have:=HOK.out.signals;omega
  ·rw [if_neg c];decide
 rw [show offsM d.signals d.signals.length=offsD d from rfl] at HC6
 generalize (if toldOk d p=true then readsM d p else [])=l0 at *
 generalize (if toldOk d p=true then writesM d p else [])=l2 at *
 generalize (if toldOk d p=true then alwaysM d p else [])=l4 at *
 generalize (if checkM d=0 then offsD d else [])=l6 at *
 generalize (if toldOk d p=true then (0:Int) else 1)=et at *
 generalize (if checkM d=0 then (0:Int) else 1)=eb at *
 have HL0:=Jh hlr
 have HL2:=Jh hlw
 have HL4:=Jh hla
 have HL6:=Jh hlo
 clear hlr hlw hla hlo
 go_upto_region 7 with (first | ((with_reducible show Jl 26);refine Jm 26 (d2) agg_Flat rfl ?_) | (go_at_call 26;refine (HC0.out w2 HX2.out).mono ?_;rintro r x0 ⟨u0,rfl,hr0,hx0⟩))
 have G0:=Jh hr0.cells
 have HY0:=Jh (HX2.out.trans hx0)
 have HE0:=Jh (HD2.out.ext hx0)
 have e0:=HE0.out.has
 clear hr0 hx0 d2 HC0 HX2 HD2
 go_upto_region 8 with (first | ((with_reducible show Jl 26);refine Jm 26 (e0) agg_Flat rfl ?_) | (go_at_call 27;refine (HC1.out x0 HY0.out).mono ?_;rintro r x1 ⟨u1,rfl,hr1,hx1⟩))
 have G1:=Jh hr1.cells
 replace G0:=Jh (Sl.mono G0.out fun _ _ _ _ q=>Has.ext q hx1)
 have HY1:=Jh (HY0.out.trans hx1)
 have HE1:=Jh (HE0.out.ext hx1)
 have e1:=HE1.out.has
 clear hr1 hx1 e0 HC1 HY0 HE0
 go_upto_region 9 with (first | ((with_reducible show Jl 26);refine Jm 26 (e1) agg_Flat rfl ?_) | (go_at_call 28;refine (HC2.out x1 HY1.out).mono ?_;rintro r x2 ⟨u2,rfl,hr2,hx2⟩))
 have G2:=Jh hr2.cells
 replace G0:=Jh (Sl.mono G0.out fun _ _ _ _ q=>Has.ext q hx2)
 replace G1:=Jh (Sl.mono G1.out fun _ _ _ _ q=>Has.ext q hx2)
 have HY2:=Jh (HY1.out.trans hx2)
 have HE2:=Jh (HE1.out.ext hx2)
 have e2:=HE2.out.has
 clear hr2 hx2 e1 HC2 HY1 HE1
 go_upto_region 10 with (first | ((with_reducible show Jl 26);refine Jm 26 (e2) agg_Flat rfl ?_) | (go_at_call 29;refine (HC3.out x2 HY2.out).mono ?_;rintro r x3 ⟨u3,rfl,hr3,hx3⟩))
 have G3:=Jh hr3.cells
 replace G0:=Jh (Sl.mono G0.out fun _ _ _ _ q=>Has.ext q hx3)
 replace G1:=Jh (Sl.mono G1.out fun _ _ _ _ q=>Has.ext q hx3)
 replace G2:=Jh (Sl.mono G2.out fun _ _ _ _ q=>Has.ext q hx3)
 have HY3:=Jh (HY2.out.trans hx3)
 have HE3:=Jh (HE2.out.ext hx3)
 have e3:=HE3.out.has
 clear hr3 hx3 e2 HC3 HY2 HE2
 go_upto_region 11 with (first | ((with_reducible show Jl 26);refine Jm 26 (e3) agg_Flat rfl ?_) | (go_at_call 30;refine (HC4.out x3 HY3.out).mono ?_;rintro r x4 ⟨u4,rfl,hr4,hx4⟩))
 have G4:=Jh hr4.cells
 replace G0:=Jh (Sl.mono G0.out fun _ _ _ _ q=>Has.ext q hx4)
 replace G1:=Jh (Sl.mono G1.out fun _ _ _ _ q=>Has.ext q hx4)
 replace G2:=Jh (Sl.mono G2.out fun _ _ _ _ q=>Has.ext q hx4)
 replace G3:=Jh (Sl.mono G3.out fun _ _ _ _ q=>Has.ext q hx4)
 have HY4:=Jh (HY3.out.trans hx4)
 have HE4:=Jh (HE3.out.ext hx4)
 have e4:=HE4.out.has
 clear hr4 hx4 e3 HC4 HY3 HE3
 go_upto_region 12 with (first | ((with_reducible show Jl 26);refine Jm 26 (e4) agg_Flat rfl ?_) | (go_at_call 31;refine (HC5.out x4 HY4.out).mono ?_;rintro r x5 ⟨u5,rfl,hr5,hx5⟩))
 have G5:=Jh hr5.cells
 replace G0:=Jh (Sl.mono G0.out fun _ _ _ _ q=>Has.ext q hx5)
 replace G1:=Jh (Sl.mono G1.out fun _ _ _ _ q=>Has.ext q hx5)
 replace G2:=Jh (Sl.mono G2.out fun _ _ _ _ q=>Has.ext q hx5)
 replace G3:=Jh (Sl.mono G3.out fun _ _ _ _ q=>Has.ext q hx5)
 replace G4:=Jh (Sl.mono G4.out fun _ _ _ _ q=>Has.ext q hx5)
 have HY5:=Jh (HY4.out.trans hx5)
 have HE5:=Jh (HE4.out.ext hx5)
 have e5:=HE5.out.has
 clear hr5 hx5 e4 HC5 HY4 HE4
 go_upto_region 13 with (first | ((with_reducible show Jl 26);refine Jm 26 (e5) agg_Flat rfl ?_) | (go_at_call 19;refine (HC6.out x5 HY5.out).mono ?_;rintro r x6 ⟨u6,rfl,hr6,hx6⟩))
 have G6:=Jh hr6.cells
 replace G0:=Jh (Sl.mono G0.out fun _ _ _ _ q=>Has.ext q hx6)
 replace G1:=Jh (Sl.mono G1.out fun _ _ _ _ q=>Has.ext q hx6)
 replace G2:=Jh (Sl.mono G2.out fun _ _ _ _ q=>Has.ext q hx6)
 replace G3:=Jh (Sl.mono G3.out fun _ _ _ _ q=>Has.ext q hx6)
 replace G4:=Jh (Sl.mono G4.out fun _ _ _ _ q=>Has.ext q hx6)
 replace G5:=Jh (Sl.mono G5.out fun _ _ _ _ q=>Has.ext q hx6)
 have HY6:=Jh (HY5.out.trans hx6)
 have HE6:=Jh (HE5.out.ext hx6)
 have e6:=HE6.out.has
 clear hr6 hx6 e5 HC6 HY5 HE5
 go_upto_region 14 with (first | ((with_reducible show Jl 26);refine Jm 26 (e6) agg_Flat rfl ?_) | (go_at_call 32;refine (HC7.out x6 HY6.out).mono ?_;rintro r x7 ⟨u7,rfl,hr7,hx7⟩))
 have G7:=Jh hr7.cells
 replace G0:=Jh (Sl.mono G0.out fun _ _ _ _ q=>Has.ext q hx7)
 replace G1:=Jh (Sl.mono G1.out fun _ _ _ _ q=>Has.ext q hx7)
 replace G2:=Jh (Sl.mono G2.out fun _ _ _ _ q=>Has.ext q hx7)
 replace G3:=Jh (Sl.mono G3.out fun _ _ _ _ q=>Has.ext q hx7)
 replace G4:=Jh (Sl.mono G4.out fun _ _ _ _ q=>Has.ext q hx7)
 replace G5:=Jh (Sl.mono G5.out fun _ _ _ _ q=>Has.ext q hx7)
 replace G6:=Jh (Sl.mono G6.out fun _ _ _ _ q=>Has.ext q hx7)
 have HY7:=Jh (HY6.out.trans hx7)
 have HE7:=Jh (HE6.out.ext hx7)
 have e7:=HE7.out.has
 clear hr7 hx7 e6 HC7 HY6 HE6
 clear e7
 have HI0:=Jh (fun W (h:Ext x7 W)=>Ints_calls11 l0 l0 _ _ W (Sl.mono G0.out fun _ _ _ _ q=>Has.ext q h) (Sl.mono G1.out fun _ _ _ _ q=>Has.ext q h) HL0.out)
 simp only [decide_true] at HI0
 have HI1:=Jh (fun W (h:Ext x7 W)=>Ints_calls11 l2 l2 _ _ W (Sl.mono G2.out fun _ _ _ _ q=>Has.ext q h) (Sl.mono G3.out fun _ _ _ _ q=>Has.ext q h) HL2.out)
 simp only [decide_true] at HI1
 have HI2:=Jh (fun W (h:Ext x7 W)=>Ints_calls11 l4 l4 _ _ W (Sl.mono G4.out fun _ _ _ _ q=>Has.ext q h) (Sl.mono G5.out fun _ _ _ _ q=>Has.ext q h) HL4.out)
 simp only [decide_true] at HI2
 have HI3:=Jh (fun W (h:Ext x7 W)=>Ints_calls11 l6 l6 _ _ W (Sl.mono G6.out fun _ _ _ _ q=>Has.ext q h) (Sl.mono G7.out fun _ _ _ _ q=>Has.ext q h) HL6.out)
 simp only [decide_true] at HI3
 go_wp2_with (first | (go_at_call 33;refine (HI3.out y2 ((hy0.trans hy1).trans hy2)).mono ?_;rintro r y3 ⟨rfl,hy3⟩) | (go_at_call 33;refine (HI2.out y1 (hy0.trans hy1)).mono ?_;rintro r y2 ⟨rfl,hy2⟩) | (go_at_call 33;refine (HI1.out y0 hy0).mono ?_;rintro r y1 ⟨rfl,hy1⟩) | (go_at_call 33;refine (HI0.out x7 (Below.refl _ _)).mono ?_;rintro r y0 ⟨rfl,hy0⟩))
 go_ret
 exact ⟨rfl,HY7.out.trans (((hy0.trans hy1).trans hy2).trans hy3)⟩
end Go.Proofs.YtaipaccpaljecaaGreat
