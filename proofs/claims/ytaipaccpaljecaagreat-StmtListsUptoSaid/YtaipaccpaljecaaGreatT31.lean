/- Laws and walks that a claim of this seat leans on: StmtLists. -/
import Derived.Test.YtaipaccpaljecaaGreatT25
import Derived.Test.YtaipaccpaljecaaGreatTFew11
import Derived.Test.YtaipaccpaljecaaGreatT30
import Derived.Test.YtaipaccpaljecaaGreatT00
set_option linter.all false
namespace Go.Proofs.YtaipaccpaljecaaGreat
open Go.RowKit
theorem appLists:AppT Tryz.prog 56 31 1 24:=⟨Tryz.underlying56,by kernel_rfl,by decide,by decide⟩
def RiseIn (nz:Nat) (m:List Int):Prop:=(∀ x ∈ m,0 ≤ x∧x < nz)∧m.Pairwise (· < ·)
set_option maxRecDepth 100000 in
set_option maxHeartbeats 40000000 in
theorem StmtLists_calls (d:Flat) (v:Value) (p:Int) (w:World) (hF:FlatV w v d) (hok:d.ok) (hp:i64r p) :
  Calls Tryz.prog 7 #[v,.int .i64 p] w fun r w'=>r=.returned (.bool true)∧Ext w w':=by
 have HF:=Lib.hid (fun W (h:Ext w W)=>hF.ext h)
 have HFW:=Lib.hid (fun W (h:Ext w W)=>Few_calls d v W (hF.ext h) hok.nodes hok.signals hok.procs)
 have HOK:=Lib.hid hok
 have hlpr:=hok.procs
 have HIP:=Lib.hid hp
 obtain ⟨sv,pv,cv,rfl,hS,hP,hC⟩:=hF
 obtain ⟨ap,bp,op,cp,rfl,hp1,hp2,hap,hpr⟩:=hP.open
 obtain ⟨a0,b0,o0,c0,rfl,hs1,hs2,hsa,hsr⟩:=hS.open
 have HAP:=Lib.hid hap
 have HPR:=Lib.hid hpr
 have HSA:=Lib.hid hsa
 have HSR:=Lib.hid hsr
 clear hap hpr hsa hsr
 have x1:=ext_alloc w (.cells [.slice a0 d.signals.length c0,.slice ap d.procs.length cp,cv].toArray 26)
 have hD:=Blk.new w [.slice a0 d.signals.length c0,.slice ap d.procs.length cp,cv].toArray 26
 clear hS hP hC hok
 unfold i64r at hp
 go_enter Tryz.func7,Tryz.ntmps7
 go_upto_region 1 with fail
 generalize w.alloc _=w0 at *
 have HX0:=Lib.hid x1
 have HD0:=Lib.hid hD
 clear x1 hD
 go_upto_region 4 with (go_at_call 21;refine (live11_calls _).mono ?_;rintro r w1 ⟨rfl,hx1⟩)
 have HD:=Lib.hid (HD0.out.ext hx1)
 have HX:=Lib.hid (HX0.out.trans hx1)
 clear hx1 HD0 HX0
 have d1:=HD.out.has
 obtain ⟨fw,hfw⟩ : ∃ fw,few11 d=fw:=⟨_,rfl⟩
 rw [hfw] at HFW
 clear hfw
 cases fw
 ·go_wp2_with (first | ((with_reducible show Jw (Op.load 26 _));refine wpList_load_has rfl 26 _ rfl rfl (d1) agg_Flat rfl ?_) | (go_at_call 22;refine (HFW.out w1 HX.out).mono ?_;rintro r w2 ⟨rfl,hx2⟩))
  go_ret
  exact ⟨rfl,HX.out.trans hx2⟩
 go_upto_region 6 with (first | ((with_reducible show Jw (Op.load 26 _));refine wpList_load_has rfl 26 _ rfl rfl (d1) agg_Flat rfl ?_) | (go_at_call 22;refine (HFW.out w1 HX.out).mono ?_;rintro r w2 ⟨rfl,hx2⟩))
 have HD2:=Lib.hid (HD.out.ext hx2)
 have HX2:=Lib.hid (HX.out.trans hx2)
 clear hx2 d1 HD HX HFW
 have d2:=HD2.out.has
 have HC0:=Lib.hid (fun W (h:Ext w W)=>Reads_calls d _ W (HF.out W h) HOK.out p HIP.out)
 have HC1:=Lib.hid (fun W (h:Ext w W)=>Writes_calls d _ W (HF.out W h) HOK.out p HIP.out)
 have HC2:=Lib.hid (fun W (h:Ext w W)=>Always_calls d _ W (HF.out W h) HOK.out p HIP.out)
 have HC3:=Lib.hid (fun W (h:Ext w W)=>Bits_calls d _ W (HF.out W h) HOK.out)
 have HCK:=Lib.hid (fun W (h:Ext w W)=>Check_calls d _ W (HF.out W h) HOK.out)
 by_cases hc:checkM d=0
 case neg =>
  have ht : ¬ toldOk d p=true:=by unfold toldOk;simp [hc]
  simp only [if_neg ht] at HC0 HC1 HC2
  simp only [if_neg hc] at HC3
  obtain ⟨c,hcc⟩ : ∃ c,checkM d=c:=⟨_,rfl⟩
  rw [hcc] at HCK hc
  have b0:(c != 0)=true:=by rw [bne_iff_ne];exact hc
  clear ht hcc hc
  go_upto_region 7 with (first | ((with_reducible show Jw (Op.load 26 _));refine wpList_load_has rfl 26 _ rfl rfl (d2) agg_Flat rfl ?_) | (go_at_call 26;refine (HC0.out w2 HX2.out).mono ?_;rintro r w3 ⟨ur,rfl,hr3,hx3⟩))
  have HX3:=Lib.hid (HX2.out.trans hx3)
  have HD3:=Lib.hid (HD2.out.ext hx3)
  have HR3:=Lib.hid hr3.cells
  have d3:=HD3.out.has
  clear hr3 hx3 d2 HX2 HD2
  go_upto_region 8 with (first | ((with_reducible show Jw (Op.load 26 _));refine wpList_load_has rfl 26 _ rfl rfl (d3) agg_Flat rfl ?_) | (go_at_call 28;refine (HC1.out w3 HX3.out).mono ?_;rintro r w4 ⟨uw,rfl,hr4,hx4⟩))
  have HX4:=Lib.hid (HX3.out.trans hx4)
  have HD4:=Lib.hid (HD3.out.ext hx4)
  have HW4:=Lib.hid hr4.cells
  have HR4:=Lib.hid (Sl.mono HR3.out fun _ _ _ _ q=>Has.ext q hx4:Ints w4 ur _)
  have d4:=HD4.out.has
  clear hr4 hx4 d3 HX3 HD3 HR3
  go_upto_region 9 with (first | ((with_reducible show Jw (Op.load 26 _));refine wpList_load_has rfl 26 _ rfl rfl (d4) agg_Flat rfl ?_) | (go_at_call 30;refine (HC2.out w4 HX4.out).mono ?_;rintro r w5 ⟨ul,rfl,hr5,hx5⟩))
  have HX5:=Lib.hid (HX4.out.trans hx5)
  have HD5:=Lib.hid (HD4.out.ext hx5)
  have HL5:=Lib.hid hr5.cells
  have HR5:=Lib.hid (Sl.mono HR4.out fun _ _ _ _ q=>Has.ext q hx5:Ints w5 ur _)
  have HW5:=Lib.hid (Sl.mono HW4.out fun _ _ _ _ q=>Has.ext q hx5:Ints w5 uw _)
  have d5:=HD5.out.has
  clear hr5 hx5 d4 HX4 HD4 HR4 HW4
  go_upto_region 10 with (first | ((with_reducible show Jw (Op.load 26 _));refine wpList_load_has rfl 26 _ rfl rfl (d5) agg_Flat rfl ?_) | (go_at_call 19;refine (HC3.out w5 HX5.out).mono ?_;rintro r w6 ⟨ub,rfl,hr6,hx6⟩))
  have HX6:=Lib.hid (HX5.out.trans hx6)
  have HD6:=Lib.hid (HD5.out.ext hx6)
  have HB6:=Lib.hid hr6.cells
  have HR6:=Lib.hid (Sl.mono HR5.out fun _ _ _ _ q=>Has.ext q hx6:Ints w6 ur _)
  have HW6:=Lib.hid (Sl.mono HW5.out fun _ _ _ _ q=>Has.ext q hx6:Ints w6 uw _)
  have HL6:=Lib.hid (Sl.mono HL5.out fun _ _ _ _ q=>Has.ext q hx6:Ints w6 ul _)
  have d6:=HD6.out.has
  clear hr6 hx6 d5 HX5 HD5 HR5 HW5 HL5
  go_wp2_with (first | ((with_reducible show Jw (Op.load 26 _));refine wpList_load_has rfl 26 _ rfl rfl (d6) agg_Flat rfl ?_) | (go_at_call 39;refine (HCK.out w6 HX6.out).mono ?_;rintro r w7 ⟨rfl,hx7⟩))
  go_ret
  exact ⟨rfl,HX6.out.trans hx7⟩
 have hwl:=checkM_w hc
 have hsl:=HOK.out.signals
 have hz0:=sumW_le d.signals hwl d.signals.length (Nat.le_refl _)
 have HTT:=Lib.hid (fun W sv' (h:Ext w W) (hs:Ints W sv' (offsM d.signals d.signals.length))=>total_calls d hwl hsl _ sv' W (HF.out W h) hs)
 rw [hc] at HCK
 simp only [if_pos hc] at HC3
 have HCC:=Lib.hid hc
 have HWL:=Lib.hid hwl
 obtain ⟨nz,hnz⟩ : ∃ nz:Nat,sumW d.signals d.signals.length=nz:=⟨(sumW d.signals d.signals.length).toNat,by omega⟩
 have HNZ:=Lib.hid hnz
 rw [hnz] at HTT
 have hnzb:nz ≤ 67108864:=by omega
 clear hz0 hnz
 by_cases hp0:0 ≤ p∧p < d.procs.length
 case neg =>
  have ht : ¬ toldOk d p=true:=by unfold toldOk;simp [hc];intro h;exact Int.not_lt.1 fun h2=>hp0 ⟨h,h2⟩
  simp only [if_neg ht] at HC0 HC1 HC2
  clear ht hc
  go_upto_region 7 with (first | ((with_reducible show Jw (Op.load 26 _));refine wpList_load_has rfl 26 _ rfl rfl (d2) agg_Flat rfl ?_) | (go_at_call 26;refine (HC0.out w2 HX2.out).mono ?_;rintro r w3 ⟨ur,rfl,hr3,hx3⟩))
  have HX3:=Lib.hid (HX2.out.trans hx3)
  have HD3:=Lib.hid (HD2.out.ext hx3)
  have HR3:=Lib.hid hr3.cells
  have d3:=HD3.out.has
  clear hr3 hx3 d2 HX2 HD2
  go_upto_region 8 with (first | ((with_reducible show Jw (Op.load 26 _));refine wpList_load_has rfl 26 _ rfl rfl (d3) agg_Flat rfl ?_) | (go_at_call 28;refine (HC1.out w3 HX3.out).mono ?_;rintro r w4 ⟨uw,rfl,hr4,hx4⟩))
  have HX4:=Lib.hid (HX3.out.trans hx4)
  have HD4:=Lib.hid (HD3.out.ext hx4)
  have HW4:=Lib.hid hr4.cells
  have HR4:=Lib.hid (Sl.mono HR3.out fun _ _ _ _ q=>Has.ext q hx4:Ints w4 ur _)
  have d4:=HD4.out.has
  clear hr4 hx4 d3 HX3 HD3 HR3
  go_upto_region 9 with (first | ((with_reducible show Jw (Op.load 26 _));refine wpList_load_has rfl 26 _ rfl rfl (d4) agg_Flat rfl ?_) | (go_at_call 30;refine (HC2.out w4 HX4.out).mono ?_;rintro r w5 ⟨ul,rfl,hr5,hx5⟩))
  have HX5:=Lib.hid (HX4.out.trans hx5)
  have HD5:=Lib.hid (HD4.out.ext hx5)
  have HL5:=Lib.hid hr5.cells
  have HR5:=Lib.hid (Sl.mono HR4.out fun _ _ _ _ q=>Has.ext q hx5:Ints w5 ur _)
  have HW5:=Lib.hid (Sl.mono HW4.out fun _ _ _ _ q=>Has.ext q hx5:Ints w5 uw _)
  have d5:=HD5.out.has
  clear hr5 hx5 d4 HX4 HD4 HR4 HW4
  go_upto_region 10 with (first | ((with_reducible show Jw (Op.load 26 _));refine wpList_load_has rfl 26 _ rfl rfl (d5) agg_Flat rfl ?_) | (go_at_call 19;refine (HC3.out w5 HX5.out).mono ?_;rintro r w6 ⟨ub,rfl,hr6,hx6⟩))
  have HX6:=Lib.hid (HX5.out.trans hx6)
  have HD6:=Lib.hid (HD5.out.ext hx6)
  have HB6:=Lib.hid hr6.cells
  have HR6:=Lib.hid (Sl.mono HR5.out fun _ _ _ _ q=>Has.ext q hx6:Ints w6 ur _)
  have HW6:=Lib.hid (Sl.mono HW5.out fun _ _ _ _ q=>Has.ext q hx6:Ints w6 uw _)
  have HL6:=Lib.hid (Sl.mono HL5.out fun _ _ _ _ q=>Has.ext q hx6:Ints w6 ul _)
  have d6:=HD6.out.has
  clear hr6 hx6 d5 HX5 HD5 HR5 HW5 HL5
  go_upto_region 12 with (first | ((with_reducible show Jw (Op.load 26 _));refine wpList_load_has rfl 26 _ rfl rfl (d6) agg_Flat rfl ?_) | (go_at_call 39;refine (HCK.out w6 HX6.out).mono ?_;rintro r w7 ⟨rfl,hx7⟩))
  have HX7:=Lib.hid (HX6.out.trans hx7)
  have HD7:=Lib.hid (HD6.out.ext hx7)
  have d7:=HD7.out.has
  have HT7:=Lib.hid (HTT.out w7 ub HX7.out (Sl.mono HB6.out fun _ _ _ _ q=>Has.ext q hx7))
  clear hx7 d6
  have b1:decide ((0:Int) ≤ (nz:Int))=true:=decide_eq_true (by omega)
  by_cases hp1':p < 0
  ·have b2:decide (p < 0)=true:=decide_eq_true hp1'
   clear hp0 hp1'
   go_wp2_with (first | ((with_reducible show Jw (Op.load 26 _));refine wpList_load_has rfl 26 _ rfl rfl (d7) agg_Flat rfl ?_) | (go_at_call 34;refine HT7.out.mono ?_;rintro r w8 ⟨rfl,hx8⟩))
   go_ret
   exact ⟨rfl,HX7.out.trans hx8⟩
  ·have b2:decide (p < 0)=false:=decide_eq_false hp1'
   have b3:decide ((d.procs.length:Int) ≤ p)=true:=decide_eq_true (by omega)
   clear hp0 hp1'
   go_wp2_with (first | ((with_reducible show Jw (Op.load 26 _));refine wpList_load_has rfl 26 _ rfl rfl (d7) agg_Flat rfl ?_) | (go_at_call 34;refine HT7.out.mono ?_;rintro r w8 ⟨rfl,hx8⟩;have d8:=(HD7.out.ext hx8).has 1 _ rfl))
   go_ret
   exact ⟨rfl,HX7.out.trans hx8⟩
 obtain ⟨m2,m3⟩:=hp0
 have ht:toldOk d p=true:=by unfold toldOk;simp [hc,m2,m3]
 simp only [if_pos ht] at HC0 HC1 HC2
 have HWK:=Lib.hid (writes_kind HOK.out hc m2 m3)
 have HAS:=Lib.hid (always_sub HOK.out hc m2 m3)
 have hr1:RiseIn nz (readsM d p):=⟨fun x hx=>by have:=reads_range HOK.out hc m2 m3 x hx;rwa [HNZ.out] at this,numbersM_lt _ _⟩
 have hr2:RiseIn nz (writesM d p):=⟨fun x hx=>by have:=writes_range HOK.out hc m2 m3 x hx;rwa [HNZ.out] at this,numbersM_lt _ _⟩
 have hr3:RiseIn nz (alwaysM d p):=⟨fun x hx=>hr2.1 x (HAS.out x hx),by unfold alwaysM alwM;exact setI_lt _⟩
 obtain ⟨k0,rfl⟩:=Int.eq_ofNat_of_zero_le m2
 have hk0:k0 < d.procs.length:=by omega
 generalize readsM d (k0:Int)=rd at *
 generalize writesM d (k0:Int)=wl at *
 generalize alwaysM d (k0:Int)=al at *
 have HRI:=Lib.hid (show ∀ m ∈ [rd,wl,al],RiseIn nz m by intro m hm;simp at hm;rcases hm with rfl | rfl | rfl <;> assumption)
 clear ht hc hr1 hr2 hr3 m2 m3
 go_upto_region 7 with (first | ((with_reducible show Jw (Op.load 26 _));refine wpList_load_has rfl 26 _ rfl rfl (d2) agg_Flat rfl ?_) | (go_at_call 26;refine (HC0.out w2 HX2.out).mono ?_;rintro r w3 ⟨ur,rfl,hr3,hx3⟩))
 have HX3:=Lib.hid (HX2.out.trans hx3)
 have HD3:=Lib.hid (HD2.out.ext hx3)
 have HR3:=Lib.hid hr3.cells
 have d3:=HD3.out.has
 clear hr3 hx3 d2 HX2 HD2
 go_upto_region 8 with (first | ((with_reducible show Jw (Op.load 26 _));refine wpList_load_has rfl 26 _ rfl rfl (d3) agg_Flat rfl ?_) | (go_at_call 28;refine (HC1.out w3 HX3.out).mono ?_;rintro r w4 ⟨uw,rfl,hr4,hx4⟩))
 have HX4:=Lib.hid (HX3.out.trans hx4)
 have HD4:=Lib.hid (HD3.out.ext hx4)
 have HW4:=Lib.hid hr4.cells
 have HR4:=Lib.hid (Sl.mono HR3.out fun _ _ _ _ q=>Has.ext q hx4:Ints w4 ur _)
 have d4:=HD4.out.has
 clear hr4 hx4 d3 HX3 HD3 HR3
 go_upto_region 9 with (first | ((with_reducible show Jw (Op.load 26 _));refine wpList_load_has rfl 26 _ rfl rfl (d4) agg_Flat rfl ?_) | (go_at_call 30;refine (HC2.out w4 HX4.out).mono ?_;rintro r w5 ⟨ul,rfl,hr5,hx5⟩))
 have HX5:=Lib.hid (HX4.out.trans hx5)
 have HD5:=Lib.hid (HD4.out.ext hx5)
 have HL5:=Lib.hid hr5.cells
 have HR5:=Lib.hid (Sl.mono HR4.out fun _ _ _ _ q=>Has.ext q hx5:Ints w5 ur _)
 have HW5:=Lib.hid (Sl.mono HW4.out fun _ _ _ _ q=>Has.ext q hx5:Ints w5 uw _)
 have d5:=HD5.out.has
 clear hr5 hx5 d4 HX4 HD4 HR4 HW4
 go_upto_region 10 with (first | ((with_reducible show Jw (Op.load 26 _));refine wpList_load_has rfl 26 _ rfl rfl (d5) agg_Flat rfl ?_) | (go_at_call 19;refine (HC3.out w5 HX5.out).mono ?_;rintro r w6 ⟨ub,rfl,hr6,hx6⟩))
 have HX6:=Lib.hid (HX5.out.trans hx6)
 have HD6:=Lib.hid (HD5.out.ext hx6)
 have HB6:=Lib.hid hr6.cells
 have HR6:=Lib.hid (Sl.mono HR5.out fun _ _ _ _ q=>Has.ext q hx6:Ints w6 ur _)
 have HW6:=Lib.hid (Sl.mono HW5.out fun _ _ _ _ q=>Has.ext q hx6:Ints w6 uw _)
 have HL6:=Lib.hid (Sl.mono HL5.out fun _ _ _ _ q=>Has.ext q hx6:Ints w6 ul _)
 have d6:=HD6.out.has
 clear hr6 hx6 d5 HX5 HD5 HR5 HW5 HL5
 go_upto_region 12 with (first | ((with_reducible show Jw (Op.load 26 _));refine wpList_load_has rfl 26 _ rfl rfl (d6) agg_Flat rfl ?_) | (go_at_call 39;refine (HCK.out w6 HX6.out).mono ?_;rintro r w7 ⟨rfl,hx7⟩))
 have HX7:=Lib.hid (HX6.out.trans hx7)
 have HD7:=Lib.hid (HD6.out.ext hx7)
 have d7:=HD7.out.has
 have HB7:=Lib.hid (Sl.mono HB6.out fun _ _ _ _ q=>Has.ext q hx7:Ints w7 ub (offsM d.signals d.signals.length))
 have HR7:=Lib.hid (Sl.mono HR6.out fun _ _ _ _ q=>Has.ext q hx7:Ints w7 ur rd)
 have HW7:=Lib.hid (Sl.mono HW6.out fun _ _ _ _ q=>Has.ext q hx7:Ints w7 uw wl)
 have HL7:=Lib.hid (Sl.mono HL6.out fun _ _ _ _ q=>Has.ext q hx7:Ints w7 ul al)
 have HT7:=Lib.hid (HTT.out w7 ub HX7.out HB7.out)
 clear hx7 d6 HX6 HD6 HB6 HR6 HW6 HL6 HTT HCK HC0 HC1 HC2 HC3
 have b2:decide ((k0:Int) < 0)=false:=decide_eq_false (by omega)
 have b3:decide ((d.procs.length:Int) ≤ (k0:Int))=false:=decide_eq_false (by omega)
 have b4:decide ((nz:Int) < 0)=false:=decide_eq_false (by omega)
 go_upto_region 17 with (first | ((with_reducible show Jw (Op.load 26 _));refine wpList_load_has rfl 26 _ rfl rfl (d7) agg_Flat rfl ?_) | (go_at_call 34;refine HT7.out.mono ?_;rintro r w8 ⟨rfl,hx8⟩;have d8:=(HD7.out.ext hx8).has 1 _ rfl))
 have HX8:=Lib.hid (HX7.out.trans hx8)
 have HD8:=Lib.hid (HD7.out.ext hx8)
 have HB8:=Lib.hid (Sl.mono HB7.out fun _ _ _ _ q=>Has.ext q hx8:Ints w8 ub (offsM d.signals d.signals.length))
 have HR8:=Lib.hid (Sl.mono HR7.out fun _ _ _ _ q=>Has.ext q hx8:Ints w8 ur rd)
 have HW8:=Lib.hid (Sl.mono HW7.out fun _ _ _ _ q=>Has.ext q hx8:Ints w8 uw wl)
 have HL8:=Lib.hid (Sl.mono HL7.out fun _ _ _ _ q=>Has.ext q hx8:Ints w8 ul al)
 clear hx8 d7 d8 HX7 HD7 HB7 HR7 HW7 HL7 HT7 b2 b3 b4
 obtain ⟨ra,rb,ro,rc,rfl,-,-,-,-⟩:=HR8.out.open
 obtain ⟨wa,wb,wo',wc,rfl,hwc1,hwc2,hwa,hwr⟩:=HW8.out.open
 obtain ⟨la,lb,lo',lc,rfl,hlc1,hlc2,hla,hlr⟩:=HL8.out.open
 have HWA:=Lib.hid hwa
 have HWR:=Lib.hid hwr
 have HLA:=Lib.hid hla
 have HLR:=Lib.hid hlr
 clear hwa hwr hla hlr
 go_wp2_with ((with_reducible show Jw (Op.buildSlice _ _ _));refine Hid.out ?_)
 refine Lib.hid ?_
 have hx9:=ext_alloc w8 (.cells ([[.slice ra rd.length rc],[.slice wa wl.length wc],[.slice la al.length lc]]:List (List Value)).flatten.toArray 31)
 have hb9:=Blk.new w8 ([[.slice ra rd.length rc],[.slice wa wl.length wc],[.slice la al.length lc]]:List (List Value)).flatten.toArray 31
 refine wpList_bsN rfl _ 3 _ rfl appInts (vs:=[.slice ra rd.length rc,.slice wa wl.length wc,.slice la al.length lc]) rfl rfl (css:=[[.slice ra rd.length rc],[.slice wa wl.length wc],[.slice la al.length lc]]) rfl (by intro cs h;simp at h;rcases h with rfl | rfl | rfl <;> rfl) (by decide) (by decide) ?_
 obtain ⟨BL,hBL⟩ : ∃ B,w8.heap.size=B:=⟨_,rfl⟩
 rw [hBL] at hb9 ⊢
 clear hBL
 have HX9:=Lib.hid (HX8.out.trans hx9)
 have HX89:=Lib.hid hx9
 have HD9:=Lib.hid (HD8.out.ext hx9)
 have HB9:=Lib.hid (Sl.mono HB8.out fun _ _ _ _ q=>Has.ext q hx9:Ints _ ub (offsM d.signals d.signals.length))
 have HR9:=Lib.hid (Sl.mono HR8.out fun _ _ _ _ q=>Has.ext q hx9:Ints _ (.slice ra rd.length rc) rd)
 have HW9:=Lib.hid (Sl.mono HW8.out fun _ _ _ _ q=>Has.ext q hx9:Ints _ (.slice wa wl.length wc) wl)
 have HL9:=Lib.hid (Sl.mono HL8.out fun _ _ _ _ q=>Has.ext q hx9:Ints _ (.slice la al.length lc) al)
 generalize w8.alloc _=w9 at *
 have HLL:=Lib.hid (show Rows 1 (fun (x:List Int) b o=>∃ u,Has w9 b o [u]∧Ints w9 u x) [rd,wl,al] BL 0 from
  ⟨⟨_,fun j u hj=>by have h:=hb9.has (0 + j) u (by match j,hj with | 0,hj=>exact hj | j + 1,hj=>exact absurd hj (by simp));simpa [Nat.add_assoc] using h,HR9.out⟩,⟨_,fun j u hj=>by have h:=hb9.has (1 + j) u (by match j,hj with | 0,hj=>exact hj | j + 1,hj=>exact absurd hj (by simp));simpa [Nat.add_assoc] using h,HW9.out⟩,⟨_,fun j u hj=>by have h:=hb9.has (2 + j) u (by match j,hj with | 0,hj=>exact hj | j + 1,hj=>exact absurd hj (by simp));simpa [Nat.add_assoc] using h,HL9.out⟩,trivial⟩)
 clear hx9 hb9 HX8 HD8 HB8 HR8 HW8 HL8
 obtain ⟨ls3,hls3⟩ : ∃ ls3,[rd,wl,al]=ls3:=⟨_,rfl⟩
 have HL3:=Lib.hid (show ls3.length=3 by rw [← hls3];rfl)
 rw [hls3] at HLL HRI
 clear hls3
 go_wp2_with fail
 go_loopw [16] (fun i wr=>∃ i0:Nat,i0 ≤ 3∧i=.int .i64 i0∧Ext w9 wr) (fun i _=>3 - (intOf i).toNat)
 case atStart=>exact ⟨0,by omega,rfl,Below.refl _ _⟩
 case round =>
  obtain ⟨i0,hi0,rfl,hxr⟩:=hrel
  have HXO:=Lib.hid hxr
  clear hxr
  by_cases hlt:i0 < 3
  ·have hi3:i0 < ls3.length:=by rw [HL3.out];exact hlt
   obtain ⟨um,hum,hmi⟩:=HLL.out.get (List.getElem?_eq_getElem hi3)
   have hri:=HRI.out _ (List.getElem_mem hi3)
   generalize ls3[i0]=m at *
   have HUM:=Lib.hid (fun W (h:Ext w9 W)=>show W.cell? ⟨BL,i0,none⟩=some um from by have:=(Has.ext hum h) 0 _ rfl;rw [Nat.add_zero,Nat.zero_add,Nat.mul_one] at this;exact this)
   obtain ⟨ma,mb,mo,mc,rfl,hmc1,hmc2,hma,hmr⟩:=hmi.open
   have HMA:=Lib.hid hma
   have HMR:=Lib.hid hmr
   have HRIM:=Lib.hid hri
   clear hum hmi hma hmr hri hi3
   obtain ⟨wo,rfl⟩ : ∃ wo,wo=wr:=⟨_,rfl⟩
   go_wp2_with fail
   go_loopw [17] (fun i wr=>∃ k:Nat,k ≤ m.length∧i=.int .i64 k∧Ext w9 wr) (fun i _=>m.length - (intOf i).toNat)
   case atStart=>exact ⟨0,Nat.zero_le _,rfl,HXO.out⟩
   case round =>
    obtain ⟨k,hk,rfl,hxr⟩:=hrel
    have HXR:=Lib.hid hxr
    clear hxr
    have y0:=HUM.out wr HXR.out
    by_cases hkm:k < m.length
    ·obtain rfl:=HMA.out (by omega)
     have HCM:=Lib.hid (fun W (h:Ext w9 W)=>Ints.cell (k:=k) (HMR.out.mono fun x _ b o hh=>Has.ext hh h) hkm)
     have hx:=HRIM.out.1 _ (List.getElem_mem hkm)
     have hrise:∀ j (hj:j < m.length),j + 1=k→m[j] < m[k]:=fun j hj e=>List.pairwise_iff_getElem.1 HRIM.out.2 j k hj hkm (by omega)
     by_cases hk00:k=0
     ·subst hk00
      generalize m[0]=x at *
      clear hrise
      go_upto_region 24 with fail
      clear y0
      refine wp_region_held_drew (S:=fun W=>Ext w9 W) (by kernel_rfl) HXR.out.drew (fun hHeld=>?_)
      try simp only [J]
      (refine Jt 0 (_) rfl (yif_load1 rfl fun _ _=>rfl) hHeld ?_;try simp only [J])
      (refine Jt 1 (_) rfl (yif_load1 rfl fun _ _=>rfl) hHeld ?_;try simp only [J])
      (refine Jt 2 (.pointer (some ⟨BL,i0,none⟩)) rfl (yif_load1 rfl (by intro W hW;clear hW;go_simp;try (intro h;omega))) hHeld ?_;try simp only [J])
      (refine Jt 3 (.slice (some ⟨mb,mo,none⟩) m.length mc) rfl (yif_load1 rfl (by intro W hW;have y:=HUM.out W hW;clear hW;go_simp)) hHeld ?_;try simp only [J])
      (refine Jt 4 (_) rfl (yif_load1 rfl fun _ _=>rfl) hHeld ?_;try simp only [J])
      (refine Jt 5 (.pointer (some ⟨mb,mo,none⟩)) rfl (yif_load1 rfl (by intro W hW;clear hW;go_simp;try (intro h;omega))) hHeld ?_;try simp only [J])
      (refine Jt 6 (.int .i64 x) rfl (yif_load1 rfl (by intro W hW;have y:=HCM.out W hW;rw [Nat.add_zero] at y;clear hW;go_simp)) hHeld ?_;try simp only [J])
      (refine Jt 7 (.bool false) rfl (yif_load1 rfl (by intro W hW;clear hW;go_simp;try omega)) hHeld ?_;try simp only [J])
      (refine Jt 8 (.bool false) rfl (yif_load1 rfl fun _ _=>rfl) hHeld ?_;try simp only [J])
      (refine Jt 9 (_) rfl (yif_load1 rfl fun _ _=>rfl) hHeld ?_;try simp only [J])
      (refine Jt 10 (_) rfl (yif_load1 rfl fun _ _=>rfl) hHeld ?_;try simp only [J])
      (refine Jt 11 (.pointer (some ⟨BL,i0,none⟩)) rfl (yif_load1 rfl (by intro W hW;clear hW;go_simp;try (intro h;omega))) hHeld ?_;try simp only [J])
      (refine Jt 12 (.slice (some ⟨mb,mo,none⟩) m.length mc) rfl (yif_load1 rfl (by intro W hW;have y:=HUM.out W hW;clear hW;go_simp)) hHeld ?_;try simp only [J])
      (refine Jt 13 (_) rfl (yif_load1 rfl fun _ _=>rfl) hHeld ?_;try simp only [J])
      (refine Jt 14 (.pointer (some ⟨mb,mo,none⟩)) rfl (yif_load1 rfl (by intro W hW;clear hW;go_simp;try (intro h;omega))) hHeld ?_;try simp only [J])
      (refine Jt 15 (.int .i64 x) rfl (yif_load1 rfl (by intro W hW;have y:=HCM.out W hW;rw [Nat.add_zero] at y;clear hW;go_simp)) hHeld ?_;try simp only [J])
      (refine Jt 16 (_) rfl (yif_load1 rfl fun _ _=>rfl) hHeld ?_;try simp only [J])
      (refine Jt 17 (.bool false) rfl (yif_load1 rfl (by intro W hW;clear hW;go_simp;try omega)) hHeld ?_;try simp only [J])
      (refine Jt 18 (.bool false) rfl (yif_load1 rfl (by intro W hW;clear hW;go_simp;try (intro h;omega))) hHeld ?_;try simp only [J])
      (refine Jt 19 (.bool false) rfl (yif_load1 rfl fun _ _=>rfl) hHeld ?_;try simp only [J])
      (refine Jt 20 (_) rfl (yif_load1 rfl fun _ _=>rfl) hHeld ?_;try simp only [J])
      (refine Jt 21 (.bool false) rfl (yif_load1 rfl (by intro W hW;clear hW;go_simp)) hHeld ?_;try simp only [J])
      (refine Jt 22 (.bool false) rfl (yif_load1 rfl fun _ _=>rfl) hHeld ?_;try simp only [J])
      (refine Jt 23 (undef) rfl (Or.inr ⟨rfl,rfl⟩) hHeld ?_;try simp only [J])
      (refine Jt 24 (undef) rfl (Or.inr ⟨rfl,rfl⟩) hHeld ?_;try simp only [J])
      (refine Jt 25 (undef) rfl (Or.inr ⟨rfl,rfl⟩) hHeld ?_;try simp only [J])
      (refine Jt 26 (undef) rfl (Or.inr ⟨rfl,rfl⟩) hHeld ?_;try simp only [J])
      (refine Jt 27 (undef) rfl (Or.inr ⟨rfl,rfl⟩) hHeld ?_;try simp only [J])
      (refine Jt 28 (undef) rfl (Or.inr ⟨rfl,rfl⟩) hHeld ?_;try simp only [J])
      (refine Jt 29 (undef) rfl (Or.inr ⟨rfl,rfl⟩) hHeld ?_;try simp only [J])
      (refine Jt 30 (undef) rfl (Or.inr ⟨rfl,rfl⟩) hHeld ?_;try simp only [J])
      (refine Jt 31 (undef) rfl (Or.inr ⟨rfl,rfl⟩) hHeld ?_;try simp only [J])
      (refine Jt 32 (undef) rfl (Or.inr ⟨rfl,rfl⟩) hHeld ?_;try simp only [J])
      (refine Jt 33 (undef) rfl (Or.inr ⟨rfl,rfl⟩) hHeld ?_;try simp only [J])
      (refine Jt 34 (undef) rfl (Or.inr ⟨rfl,rfl⟩) hHeld ?_;try simp only [J])
      (refine Jt 35 (undef) rfl (Or.inr ⟨rfl,rfl⟩) hHeld ?_;try simp only [J])
      (refine Jt 36 (undef) rfl (Or.inr ⟨rfl,rfl⟩) hHeld ?_;try simp only [J])
      (refine Jt 37 (undef) rfl (Or.inr ⟨rfl,rfl⟩) hHeld ?_;try simp only [J])
      (refine Jt 38 (undef) rfl (Or.inr ⟨rfl,rfl⟩) hHeld ?_;try simp only [J])
      (refine Jt 39 (.bool false) rfl (yif_load1 rfl (by intro W hW;clear hW;go_simp;try (intro h;omega))) hHeld ?_;try simp only [J])
      (refine Jt 40 (.bool false) rfl (yif_load1 rfl (by intro W hW;clear hW;go_simp;try (intro h;omega))) hHeld ?_;try simp only [J])
      refine wpAnyH_done (by kernel_rfl) ?_ _
      go_wp2_with fail
      go_roundw
      case rel=>exact ⟨0 + 1,hkm,by go_num,hHeld⟩
      case measure=>simp [intOf];omega
     ·obtain ⟨j,rfl⟩ : ∃ j,k=j + 1:=⟨k - 1,by omega⟩
      have hjm:j < m.length:=by omega
      have HCJ:=Lib.hid (fun W (h:Ext w9 W)=>Ints.cell (k:=j) (HMR.out.mono fun x _ b o hh=>Has.ext hh h) hjm)
      have hyx:=hrise j hjm rfl
      generalize m[j + 1]=x at *
      generalize m[j]=y at *
      clear hrise hk00
      go_upto_region 24 with fail
      clear y0
      refine wp_region_held_drew (S:=fun W=>Ext w9 W) (by kernel_rfl) HXR.out.drew (fun hHeld=>?_)
      try simp only [J]
      (refine Jt 0 (_) rfl (yif_load1 rfl fun _ _=>rfl) hHeld ?_;try simp only [J])
      (refine Jt 1 (_) rfl (yif_load1 rfl fun _ _=>rfl) hHeld ?_;try simp only [J])
      (refine Jt 2 (.pointer (some ⟨BL,i0,none⟩)) rfl (yif_load1 rfl (by intro W hW;clear hW;go_simp;try (intro h;omega))) hHeld ?_;try simp only [J])
      (refine Jt 3 (.slice (some ⟨mb,mo,none⟩) m.length mc) rfl (yif_load1 rfl (by intro W hW;have y:=HUM.out W hW;clear hW;go_simp)) hHeld ?_;try simp only [J])
      (refine Jt 4 (_) rfl (yif_load1 rfl fun _ _=>rfl) hHeld ?_;try simp only [J])
      (refine Jt 5 (.pointer (some ⟨mb,mo + (j + 1),none⟩)) rfl (yif_load1 rfl (by intro W hW;clear hW;go_simp;try (intro h;omega))) hHeld ?_;try simp only [J])
      (refine Jt 6 (.int .i64 x) rfl (yif_load1 rfl (by intro W hW;have y:=HCM.out W hW;clear hW;go_simp)) hHeld ?_;try simp only [J])
      (refine Jt 7 (.bool false) rfl (yif_load1 rfl (by intro W hW;clear hW;go_simp;try omega)) hHeld ?_;try simp only [J])
      (refine Jt 8 (.bool false) rfl (yif_load1 rfl fun _ _=>rfl) hHeld ?_;try simp only [J])
      (refine Jt 9 (_) rfl (yif_load1 rfl fun _ _=>rfl) hHeld ?_;try simp only [J])
      (refine Jt 10 (_) rfl (yif_load1 rfl fun _ _=>rfl) hHeld ?_;try simp only [J])
      (refine Jt 11 (.pointer (some ⟨BL,i0,none⟩)) rfl (yif_load1 rfl (by intro W hW;clear hW;go_simp;try (intro h;omega))) hHeld ?_;try simp only [J])
      (refine Jt 12 (.slice (some ⟨mb,mo,none⟩) m.length mc) rfl (yif_load1 rfl (by intro W hW;have y:=HUM.out W hW;clear hW;go_simp)) hHeld ?_;try simp only [J])
      (refine Jt 13 (_) rfl (yif_load1 rfl fun _ _=>rfl) hHeld ?_;try simp only [J])
      (refine Jt 14 (.pointer (some ⟨mb,mo + (j + 1),none⟩)) rfl (yif_load1 rfl (by intro W hW;clear hW;go_simp;try (intro h;omega))) hHeld ?_;try simp only [J])
      (refine Jt 15 (.int .i64 x) rfl (yif_load1 rfl (by intro W hW;have y:=HCM.out W hW;clear hW;go_simp)) hHeld ?_;try simp only [J])
      (refine Jt 16 (_) rfl (yif_load1 rfl fun _ _=>rfl) hHeld ?_;try simp only [J])
      (refine Jt 17 (.bool false) rfl (yif_load1 rfl (by intro W hW;clear hW;go_simp;try omega)) hHeld ?_;try simp only [J])
      (refine Jt 18 (.bool false) rfl (yif_load1 rfl (by intro W hW;clear hW;go_simp;try (intro h;omega))) hHeld ?_;try simp only [J])
      (refine Jt 19 (.bool false) rfl (yif_load1 rfl fun _ _=>rfl) hHeld ?_;try simp only [J])
      (refine Jt 20 (_) rfl (yif_load1 rfl fun _ _=>rfl) hHeld ?_;try simp only [J])
      (refine Jt 21 (.bool true) rfl (yif_load1 rfl (by intro W hW;clear hW;go_simp;try omega)) hHeld ?_;try simp only [J])
      (refine Jt 22 (.bool true) rfl (yif_load1 rfl fun _ _=>rfl) hHeld ?_;try simp only [J])
      (refine Jt 23 (_) rfl (yif_load1 rfl fun _ _=>rfl) hHeld ?_;try simp only [J])
      (refine Jt 24 (_) rfl (yif_load1 rfl fun _ _=>rfl) hHeld ?_;try simp only [J])
      (refine Jt 25 (.pointer (some ⟨BL,i0,none⟩)) rfl (yif_load1 rfl (by intro W hW;clear hW;go_simp;try (intro h;omega))) hHeld ?_;try simp only [J])
      (refine Jt 26 (.slice (some ⟨mb,mo,none⟩) m.length mc) rfl (yif_load1 rfl (by intro W hW;have y:=HUM.out W hW;clear hW;go_simp)) hHeld ?_;try simp only [J])
      (refine Jt 27 (_) rfl (yif_load1 rfl fun _ _=>rfl) hHeld ?_;try simp only [J])
      (refine Jt 28 (.int .i64 (j:Int)) rfl (yif_load1 rfl (by intro W hW;clear hW;go_simp;try (rw [IntKind.wrap_i64];omega))) hHeld ?_;try simp only [J])
      (refine Jt 29 (.pointer (some ⟨mb,mo + j,none⟩)) rfl (yif_load1 rfl (by intro W hW;clear hW;go_simp;try (intro h;omega))) hHeld ?_;try simp only [J])
      (refine Jt 30 (.int .i64 y) rfl (yif_load1 rfl (by intro W hW;have y:=HCJ.out W hW;clear hW;go_simp)) hHeld ?_;try simp only [J])
      (refine Jt 31 (_) rfl (yif_load1 rfl fun _ _=>rfl) hHeld ?_;try simp only [J])
      (refine Jt 32 (_) rfl (yif_load1 rfl fun _ _=>rfl) hHeld ?_;try simp only [J])
      (refine Jt 33 (.pointer (some ⟨BL,i0,none⟩)) rfl (yif_load1 rfl (by intro W hW;clear hW;go_simp;try (intro h;omega))) hHeld ?_;try simp only [J])
      (refine Jt 34 (.slice (some ⟨mb,mo,none⟩) m.length mc) rfl (yif_load1 rfl (by intro W hW;have y:=HUM.out W hW;clear hW;go_simp)) hHeld ?_;try simp only [J])
      (refine Jt 35 (_) rfl (yif_load1 rfl fun _ _=>rfl) hHeld ?_;try simp only [J])
      (refine Jt 36 (.pointer (some ⟨mb,mo + (j + 1),none⟩)) rfl (yif_load1 rfl (by intro W hW;clear hW;go_simp;try (intro h;omega))) hHeld ?_;try simp only [J])
      (refine Jt 37 (.int .i64 x) rfl (yif_load1 rfl (by intro W hW;have y:=HCM.out W hW;clear hW;go_simp)) hHeld ?_;try simp only [J])
      (refine Jt 38 (.bool false) rfl (yif_load1 rfl (by intro W hW;clear hW;go_simp;try omega)) hHeld ?_;try simp only [J])
      (refine Jt 39 (.bool false) rfl (yif_load1 rfl (by intro W hW;clear hW;go_simp;try (intro h;omega))) hHeld ?_;try simp only [J])
      (refine Jt 40 (.bool false) rfl (yif_load1 rfl (by intro W hW;clear hW;go_simp;try (intro h;omega))) hHeld ?_;try simp only [J])
      refine wpAnyH_done (by kernel_rfl) ?_ _
      go_wp2_with fail
      go_roundw
      case rel=>exact ⟨j + 1 + 1,hkm,by go_num,hHeld⟩
      case measure=>simp [intOf];omega
    ·obtain rfl:k=m.length:=by omega
     go_wp2_with fail
     go_roundw
     case rel=>exact ⟨i0 + 1,hlt,by go_num,HXR.out⟩
     case measure=>simp [intOf];omega
  ·have HLT:=Lib.hid hlt
   obtain ⟨wo,rfl⟩ : ∃ wo,wo=wr:=⟨_,rfl⟩
   go_wp2_with fail
   go_loopw [18] (fun i wr=>∃ k:Nat,k ≤ al.length∧i=.int .i64 k∧Ext w9 wr) (fun i _=>al.length - (intOf i).toNat)
   case atStart=>exact ⟨0,Nat.zero_le _,rfl,HXO.out⟩
   case round =>
    obtain ⟨k,hk,rfl,hxr⟩:=hrel
    have HXR:=Lib.hid hxr
    clear hxr
    by_cases hkm:k < al.length
    ·obtain rfl:=HLA.out (by omega)
     have y0:=Ints.cell (k:=k) (HLR.out.mono fun x _ b o hh=>Has.ext hh (HX89.out.trans HXR.out)) hkm
     have HAM:=Lib.hid (among_calls wl al[k] _ wr (Sl.mono HW9.out fun _ _ _ _ q=>Has.ext q HXR.out))
     rw [decide_eq_true (HAS.out _ (List.getElem_mem hkm))] at HAM
     generalize al[k]=x at *
     go_wp2_with (first | (go_at_call 37;refine HAM.out.mono ?_;rintro r wa' ⟨rfl,hxa⟩))
     go_roundw
     case rel=>exact ⟨k + 1,hkm,by go_num,HXR.out.trans hxa⟩
     case measure=>simp [intOf];omega
    ·obtain rfl:k=al.length:=by omega
     have HX3:=HXR
     obtain ⟨wp,rfl⟩ : ∃ wo,wo=wr:=⟨_,rfl⟩
     clear HXR
     go_wp2_with fail
     go_loopw [19] (fun i wr=>∃ k:Nat,k ≤ wl.length∧i=.int .i64 k∧Ext w9 wr) (fun i _=>wl.length - (intOf i).toNat)
     case atStart=>exact ⟨0,Nat.zero_le _,rfl,HX3.out⟩
     case round =>
      obtain ⟨k,hk,rfl,hxr⟩:=hrel
      have HXR:=Lib.hid hxr
      clear hxr
      by_cases hkm:k < wl.length
      ·obtain rfl:=HWA.out (by omega)
       obtain ⟨kk,j,hkk,hj,hxb,hn1,hn4⟩:=HWK.out _ (List.getElem_mem hkm)
       obtain rfl:=HSA.out (by omega)
       obtain rfl:=HAP.out (by omega)
       have HCX:=Lib.hid (fun W (h:Ext w9 W)=>Ints.cell (k:=k) (HWR.out.mono fun x _ b o hh=>Has.ext hh (HX89.out.trans h)) hkm)
       have hkd:kindOf d.signals (kk:Int)=d.signals[kk].kind:=by unfold kindOf;rw [Int.toNat_natCast,List.getElem?_eq_getElem hkk]
       have HCK:=Lib.hid (fun W (h:Ext w W)=>(Sigs.get (HSR.out.mono fun x _ b o hh=>Has.ext hh h) hkk) 2 _ rfl)
       have hclk:clkD d (k0:Int)=d.procs[k0].clocked:=by unfold clkD;rw [Int.toNat_natCast,List.getElem?_eq_getElem hk0];rfl
       obtain ⟨lvv,hph,-⟩:=HPR.out.get (List.getElem?_eq_getElem hk0)
       have HPC:=Lib.hid (fun W (h:Ext w W)=>show W.cell? ⟨bp,op + k0 * 2,none⟩=some (.bool d.procs[k0].clocked) from by have:=(hph.ext h) 0 _ rfl;rwa [Nat.add_zero] at this)
       rw [← hclk,hn4,hkd] at HPC
       rw [hkd] at hn1
       have HWH:=Lib.hid (fun W (h:Ext w9 W)=>where_calls (offsM d.signals d.signals.length) wl[k] _ W (Sl.mono HB9.out fun _ _ _ _ q=>Has.ext q h) (by rw [offsM_length];omega))
       simp only [offsM_length,Nat.add_sub_cancel] at HWH
       rw [hxb,whereK_eq HWL.out hkk hj _ hkk (Nat.le_refl _)] at HWH
       rw [hxb] at HCX
       generalize bn d.signals kk j=x at *
       generalize d.signals[kk].kind=kd at *
       obtain ⟨b4,hb4⟩ : ∃ b,(kd == (4:Int))=b:=⟨_,rfl⟩
       have hpk:decide (kd=4)=b4:=by rw [← hb4];rfl
       rw [hpk] at HPC
       have hk1:(kd == (1:Int))=false:=by rw [beq_eq_false_iff_ne];exact hn1
       have HB4:=Lib.hid hb4
       have HK1:=Lib.hid hk1
       clear hxb hn1 hn4 hkd hclk hph hj hb4 hpk hk1
       go_upto_region 34 with fail
       refine wp_region_held_drew (S:=fun W=>Ext w9 W) (by kernel_rfl) HXR.out.drew (fun hHeld=>?_)
       try simp only [J]
       (refine Jt 0 (.pointer (some ⟨w.heap.size,0,none⟩)) rfl (yif_load1 rfl (by intro W hW;clear hW;go_simp)) hHeld ?_;try simp only [J])
       (refine Jt 1 (.slice (some ⟨b0,o0,none⟩) d.signals.length c0) rfl (yif_load1 rfl (by intro W hW;have y:=(HD9.out.ext hW).has 0 _ rfl;clear hW;go_simp)) hHeld ?_;try simp only [J])
       (refine Jt 2 (_) rfl (yif_load1 rfl fun _ _=>rfl) hHeld ?_;try simp only [J])
       (refine Jt 3 (_) rfl (yif_load1 rfl fun _ _=>rfl) hHeld ?_;try simp only [J])
       (refine Jt 4 (_) rfl (yif_load1 rfl fun _ _=>rfl) hHeld ?_;try simp only [J])
       (refine Jt 5 (.pointer (some ⟨wb,wo' + k,none⟩)) rfl (yif_load1 rfl (by intro W hW;clear hW;go_simp;try (intro h;omega))) hHeld ?_;try simp only [J])
       (refine Jt 6 (.int .i64 x) rfl (yif_load1 rfl (by intro W hW;have y:=HCX.out W hW;clear hW;go_simp)) hHeld ?_;try simp only [J])
       (refine wpAnyH_ready (rs:=[7]) (by kernel_rfl) (by simp) ?_;refine AllReadyH.cons rfl (fun K hK=>?_) AllReadyH.nil)
       go_simp
       refine (HWH.out _ hHeld).mono ?_
       rintro r wq ⟨rfl,hxq⟩
       refine hK.out _ _ (hHeld.trans hxq) (fun hHeld=>?_)
       clear hK K hxq
       try simp only [J]
       (refine Jt 8 (.pointer (some ⟨b0,o0 + kk * 4,none⟩)) rfl (yif_load1 rfl (by intro W hW;clear hW;go_simp;try (intro h;omega))) hHeld ?_;try simp only [J])
       (refine Jt 9 (.pointer (some ⟨b0,o0 + kk * 4 + 2,none⟩)) rfl (yif_load1 rfl (by intro W hW;clear hW;go_simp)) hHeld ?_;try simp only [J])
       (refine Jt 10 (.int .i64 kd) rfl (yif_load1 rfl (by intro W hW;have y:=HCK.out W (HX9.out.trans hW);clear hW;go_simp)) hHeld ?_;try simp only [J])
       (refine Jt 11 (.int .i64 kd) rfl (yif_load1 rfl fun _ _=>rfl) hHeld ?_;try simp only [J])
       refine wpAnyH_done (by kernel_rfl) ?_ _
       have HXQ:=Lib.hid hHeld
       have e1:=(HD9.out.ext hHeld).has 1 _ rfl
       have ec:=HPC.out _ (HX9.out.trans hHeld)
       have hb4:=HB4.out
       have hk1:=HK1.out
       clear hHeld
       go_wp2_with fail
       go_roundw
       case rel=>exact ⟨k + 1,hkm,by go_num,HXQ.out⟩
       case measure=>simp [intOf];omega
      ·obtain rfl:k=wl.length:=by omega
       go_wp2_with fail
       go_ret
       exact ⟨rfl,HX9.out.trans HXR.out⟩
end Go.Proofs.YtaipaccpaljecaaGreat
