/- Laws and walks that a claim of this seat leans on: StmtHL, StmtHangs. -/
import Derived.Test.YtaipaccpaljecaaGreatT27
import Derived.Test.YtaipaccpaljecaaGreatT23
import Derived.Test.YtaipaccpaljecaaGreatT25
import Derived.Test.YtaipaccpaljecaaGreatTFew11
import Derived.Test.YtaipaccpaljecaaGreatT00
set_option linter.all false
namespace Go.Proofs.YtaipaccpaljecaaGreat
open Go.RowKit
theorem n_andNot {a b:Nat} (ha:a < 18446744073709551616) (hb:b < 18446744073709551616):bits .andNot .u64 (a:Int) (b:Int)=((a &&& (2 ^ 64 - (b + 1)):Nat):Int):=by
 obtain ⟨x,rfl⟩:=u_nat ha
 obtain ⟨y,rfl⟩:=u_nat hb
 rw [u_andNot,BitVec.toNat_and,BitVec.toNat_not,show (2:Nat) ^ 64 - (y.toNat + 1)=2 ^ 64 - 1 - y.toNat by omega]
theorem one_shl {j M:Nat} (hj:j < 64) (hM:2 ^ j=M):IntKind.u64.wrap (2 ^ j:Int)=(M:Int):=by
 have h2:(2:Nat) ^ j < 18446744073709551616:=by
  have:(2:Nat) ^ j < 2 ^ 64:=Nat.pow_lt_pow_right (by decide) hj
  omega
 rw [← hM,← u_wrapn h2];push_cast;rfl
def takeW (a b j:Nat):Nat:=(a &&& (2 ^ 64 - (2 ^ j + 1))) ||| (b &&& 2 ^ j)
theorem takeW_op {a b j:Nat} (ha:a < 18446744073709551616) (hb:b < 18446744073709551616) (hj:j < 64):bits .or .u64 (bits .andNot .u64 (a:Int) ((2 ^ j:Nat):Int)) (bits .and .u64 (b:Int) ((2 ^ j:Nat):Int))=((takeW a b j:Nat):Int):=by
 have h2:(2:Nat) ^ j < 18446744073709551616:=by
  have:(2:Nat) ^ j < 2 ^ 64:=Nat.pow_lt_pow_right (by decide) hj
  omega
 rw [n_andNot ha h2,n_and hb h2,n_or' (Nat.lt_of_le_of_lt Nat.and_le_left ha) (Nat.lt_of_le_of_lt Nat.and_le_left hb)]
 rfl
theorem takeV_ok {ls:List Signal} (hls:∀ x ∈ ls,x.w ≤ 64) {xs v:List Nat} (hx:Val2 ls xs) (hv:Val2 ls v) {k j:Nat} (hk:k < ls.length) (hj:(j:Int) < sigW ls (k:Int)) :
  Val2 ls (xs.set k (takeW (xs.getD k 0) (v.getD k 0) j))∧∀ k' j':Nat,k' < ls.length→((xs.set k (takeW (xs.getD k 0) (v.getD k 0) j)).getD k' 0).testBit j'=if k'=k∧j'=j then (v.getD k 0).testBit j else (xs.getD k' 0).testBit j':=by
 have hw:=sigW_le ls hls (k:Int)
 have hxk:=hx.2 (k:Int) (by omega) (by omega)
 have hvk:=hv.2 (k:Int) (by omega) (by omega)
 rw [Int.toNat_natCast] at hxk hvk
 have hx64:xs.getD k 0 < 2 ^ 64:=Nat.lt_of_lt_of_le hxk (Nat.pow_le_pow_right (by decide) (by omega))
 have htb:=fun i=>take_bit (xs.getD k 0) (v.getD k 0) j i hx64 (by omega)
 have hget:∀ k',k' < ls.length→(xs.set k (takeW (xs.getD k 0) (v.getD k 0) j)).getD k' 0=if k'=k then takeW (xs.getD k 0) (v.getD k 0) j else xs.getD k' 0:=by
  intro k' hk'
  rw [List.getD_eq_getElem?_getD,List.getElem?_set]
  by_cases e:k=k'
  ·subst e;rw [if_pos rfl,if_pos (by rw [hx.1];exact hk),if_pos rfl];rfl
  ·rw [if_neg e,if_neg fun h=>e h.symm,← List.getD_eq_getElem?_getD]
 refine ⟨⟨by rw [List.length_set];exact hx.1,fun sg h0 h1=>?_⟩,fun k' j' hk'=>?_⟩
 ·obtain ⟨k',rfl⟩:=Int.eq_ofNat_of_zero_le h0
  rw [Int.toNat_natCast,hget k' (by omega)]
  by_cases e:k'=k
  ·subst e
   rw [if_pos rfl]
   refine Nat.lt_pow_two_of_testBit _ fun i hi=>?_
   unfold takeW
   rw [htb i,if_neg (by omega)]
   exact Nat.testBit_lt_two_pow (Nat.lt_of_lt_of_le hxk (Nat.pow_le_pow_right (by decide) hi))
  ·rw [if_neg e];exact hx.2 (k':Int) h0 h1
 ·rw [hget k' hk']
  by_cases e:k'=k
  ·subst e
   rw [if_pos rfl]
   unfold takeW
   rw [htb j']
   by_cases e2:j'=j
   ·rw [if_pos e2,if_pos ⟨rfl,e2⟩,e2]
   ·rw [if_neg e2,if_neg fun h=>e2 h.2]
  ·rw [if_neg e,if_neg fun h=>e h.1]
def AgK (ls:List Signal) (v xs:List Nat) (rd:List Int) (k:Nat):Prop:=∀ i,i < k→∀ k' j':Nat,k' < ls.length→(j':Int) < sigW ls (k':Int)→rd[i]? = some (bn ls k' j')→(v.getD k' 0).testBit j'=(xs.getD k' 0).testBit j'
theorem AgK.step {ls:List Signal} (hls:∀ x ∈ ls,1 ≤ x.w∧x.w ≤ 64) {v xs:List Nat} {rd:List Int} {i:Nat} (h:AgK ls v xs rd i) (hx:Val2 ls xs) (hv:Val2 ls v) {k j:Nat} (hk:k < ls.length) (hj:(j:Int) < sigW ls (k:Int)) (hi:rd[i]? = some (bn ls k j)) :
  AgK ls v (xs.set k (takeW (xs.getD k 0) (v.getD k 0) j)) rd (i + 1):=by
 obtain ⟨-,hb⟩:=takeV_ok (fun x hx=>(hls x hx).2) hx hv hk hj
 intro i' hi' k' j' hk' hj' he
 rw [hb k' j' hk']
 by_cases e:k'=k∧j'=j
 ·rw [if_pos e,e.1,e.2]
 ·rw [if_neg e]
  by_cases e2:i'=i
  ·subst e2
   rw [hi] at he
   injection he with he
   obtain ⟨q1,q2⟩:=bn_inj hls hk hk' hj hj' he
   exact absurd ⟨q1.symm,q2.symm⟩ e
  ·exact h i' (by omega) k' j' hk' hj' he
theorem AgK.all {ls:List Signal} {v xs:List Nat} {rd:List Int} (h:AgK ls v xs rd rd.length):Ag ls v xs (· ∈ rd):=by
 intro k j hk hj hm
 obtain ⟨i,hi,e⟩:=List.getElem_of_mem hm
 exact h i hi k j hk hj (by rw [List.getElem?_eq_getElem hi,e];rfl)
theorem hang_bits {ls:List Signal} (hls:∀ x ∈ ls,1 ≤ x.w∧x.w ≤ 64) {v x a b:List Nat} {al wl:List Int} (h1:Ag ls a b (· ∈ al)) (h2:Ag ls v a (fun n=>¬ n ∈ wl)) (h3:Ag ls x b (fun n=>¬ n ∈ wl))
  (h4:∀ k j:Nat,k < ls.length→(j:Int) < sigW ls (k:Int)→(v.getD k 0).testBit j=(x.getD k 0).testBit j→(a.getD k 0).testBit j=(b.getD k 0).testBit j) {i:Int} (h0:0 ≤ i) (hi:i < sumW ls ls.length) :
  (i ∈ al→bitN11 ls a i=bitN11 ls b i)∧(¬ i ∈ wl→bitN11 ls a i=bitN11 ls v i∧bitN11 ls b i=bitN11 ls x i)∧(bitN11 ls v i=bitN11 ls x i→bitN11 ls a i=bitN11 ls b i):=by
 obtain ⟨k,j,hk,hj,rfl⟩:=bn_of hls h0 ls.length (Nat.le_refl _) hi
 have e:bn ls k j=sumW ls k + j:=rfl
 refine ⟨fun hm=>(bitN11_same hls a b hk hj).2 (h1 k j hk hj (by rw [← e];exact hm)),fun hm=>⟨(bitN11_same hls a v hk hj).2 (h2 k j hk hj (by rw [← e];exact hm)).symm,(bitN11_same hls b x hk hj).2 (h3 k j hk hj (by rw [← e];exact hm)).symm⟩,fun hm=>(bitN11_same hls a b hk hj).2 (h4 k j hk hj ((bitN11_same hls v x hk hj).1 hm))⟩
set_option maxRecDepth 100000 in
set_option maxHeartbeats 2000000 in
theorem total_no (d:Flat) (hln:d.signals.length ≤ 1048576) (v sv:Value) (w:World) (hF:FlatV w v d) (hs:Ints w sv []) :
  Calls Tryz.prog 34 #[v,sv] w fun r w'=>r=.returned (.int .i64 (-1))∧Ext w w':=by
 obtain ⟨sg,pv,cv,rfl,hS,hP,hC⟩:=hF
 have hX:=ext_alloc w (.cells [sg,pv,cv].toArray 26)
 have hD:=Blk.new w [sg,pv,cv].toArray 26
 obtain ⟨a0,b0,o0,c0,rfl,hc1,hc2,-,-⟩:=hS.open
 obtain ⟨a,b,o,cap,rfl,-,-,-,-⟩:=hs.open
 have d0:=hD.has 0 _ rfl
 have b1:((0:Int) != (d.signals.length:Int) + 1)=true:=by rw [bne_iff_ne];omega
 clear hS hP hC hs hD
 go_enter Tryz.func34,Tryz.ntmps34
 go_upto_region 1 with fail
 generalize w.alloc _=w0 at *
 go_wp2_with fail
 go_ret
 exact ⟨rfl,hX⟩
open Go.RowKit
set_option maxRecDepth 100000 in
set_option maxHeartbeats 40000000 in
theorem StmtHangs_calls (d:Flat) (v:Value) (vs:List Nat) (s:Value) (us:List Nat) (t:Value) (p:Int) (w:World) (hF:FlatV w v d) (hok:d.ok) (hs:Us w s vs) (h64s:us64 vs) (hls:vs.length + 1 ≤ 1048576) (ht:Us w t us) (h64t:us64 us) (hlt:us.length + 1 ≤ 1048576) (hp:i64r p) :
  Calls Tryz.prog 6 #[v,s,t,.int .i64 p] w fun r w'=>r=.returned (.bool true)∧Ext w w':=by
 have HF:=Lib.hid (fun W (h:Ext w W)=>hF.ext h)
 have HFW:=Lib.hid (fun W (h:Ext w W)=>Few_calls d v W (hF.ext h) hok.nodes hok.signals hok.procs)
 have HOK:=Lib.hid hok
 have hlpr:=hok.procs
 have HUS:=Lib.hid (fun W (h:Ext w W)=>hs.ext h)
 have H64:=Lib.hid h64s
 have HUT:=Lib.hid (fun W (h:Ext w W)=>ht.ext h)
 have H64T:=Lib.hid h64t
 have HIP:=Lib.hid hp
 obtain ⟨sv,pv,cv,rfl,hS,hP,hC⟩:=hF
 obtain ⟨ap,bp,op,cp,rfl,hp1,hp2,-,-⟩:=hP.open
 obtain ⟨a0,b0,o0,c0,rfl,-,-,-,-⟩:=hS.open
 obtain ⟨av,bv,ov,capv,rfl,-,-,-,-⟩:=hs.open
 obtain ⟨at',bt,ot,capt,rfl,-,-,-,-⟩:=ht.open
 have x1:=ext_alloc w (.cells [.slice a0 d.signals.length c0,.slice ap d.procs.length cp,cv].toArray 26)
 have hD:=Blk.new w [.slice a0 d.signals.length c0,.slice ap d.procs.length cp,cv].toArray 26
 clear hS hP hC hok hs h64s ht h64t
 unfold i64r at hp
 go_enter Tryz.func6,Tryz.ntmps6
 go_upto_region 1 with fail
 generalize w.alloc _=w0 at *
 have HX0:=Lib.hid x1
 have HD0:=Lib.hid hD
 clear x1 hD
 go_upto_region 4 with (go_at_call 21;refine (live11_calls _).mono ?_;rintro r w1 ⟨rfl,hx1⟩)
 have HD:=Lib.hid (HD0.out.ext hx1)
 have HX:=Lib.hid (HX0.out.trans hx1)
 clear hx1 HD0 HX0
 have d1:=HD.out.has
 obtain ⟨fw,hfw⟩ : ∃ fw,few11 d=fw:=⟨_,rfl⟩
 rw [hfw] at HFW
 clear hfw
 cases fw
 ·go_wp2_with (first | ((with_reducible show Jw (Op.load 26 _));refine wpList_load_has rfl 26 _ rfl rfl (d1) agg_Flat rfl ?_) | (go_at_call 22;refine (HFW.out w1 HX.out).mono ?_;rintro r w2 ⟨rfl,hx2⟩))
  go_ret
  exact ⟨rfl,HX.out.trans hx2⟩
 by_cases hl:(100:Int) < (vs.length:Int)
 ·have blhl:decide ((100:Int) < (vs.length:Int))=true:=decide_eq_true hl
  clear hl
  go_wp2_with (first | ((with_reducible show Jw (Op.load 26 _));refine wpList_load_has rfl 26 _ rfl rfl (d1) agg_Flat rfl ?_) | (go_at_call 22;refine (HFW.out w1 HX.out).mono ?_;rintro r w2 ⟨rfl,hx2⟩))
  go_ret
  exact ⟨rfl,HX.out.trans hx2⟩
 have blhl:decide ((100:Int) < (vs.length:Int))=false:=decide_eq_false hl
 by_cases hm:(100:Int) < (us.length:Int)
 ·have blhm:decide ((100:Int) < (us.length:Int))=true:=decide_eq_true hm
  clear hm
  go_wp2_with (first | ((with_reducible show Jw (Op.load 26 _));refine wpList_load_has rfl 26 _ rfl rfl (d1) agg_Flat rfl ?_) | (go_at_call 22;refine (HFW.out w1 HX.out).mono ?_;rintro r w2 ⟨rfl,hx2⟩))
  go_ret
  exact ⟨rfl,HX.out.trans hx2⟩
 have blhm:decide ((100:Int) < (us.length:Int))=false:=decide_eq_false hm
 go_upto_region 6 with (first | ((with_reducible show Jw (Op.load 26 _));refine wpList_load_has rfl 26 _ rfl rfl (d1) agg_Flat rfl ?_) | (go_at_call 22;refine (HFW.out w1 HX.out).mono ?_;rintro r w2 ⟨rfl,hx2⟩))
 have HD2:=Lib.hid (HD.out.ext hx2)
 have HX2:=Lib.hid (HX.out.trans hx2)
 clear hx2 d1 HD HX HFW
 have d2:=HD2.out.has
 have HRUN:=Lib.hid (Run_calls d _ vs _ p w2 (HF.out w2 HX2.out) HOK.out (HUS.out w2 HX2.out) H64.out HIP.out)
 have HBT:=Lib.hid (fun W (h:Ext w W)=>Bits_calls d _ W (HF.out W h) HOK.out)
 by_cases hmay:valsOk d vs=true∧0 ≤ p∧p < d.procs.length
 case neg =>
  rw [runM_no hmay] at HRUN
  clear hmay
  go_upto_region 7 with (first | ((with_reducible show Jw (Op.load 26 _));refine wpList_load_has rfl 26 _ rfl rfl (d2) agg_Flat rfl ?_) | (go_at_call 23;refine HRUN.out.mono ?_;rintro r w3 ⟨u,rfl,hr3,hx3⟩))
  have HX3:=Lib.hid (HX2.out.trans hx3)
  have HD3:=Lib.hid (HD2.out.ext hx3)
  have d3:=HD3.out.has
  clear hr3 hx3 d2 HRUN
  by_cases hc:checkM d=0
  ·have HTT:=Lib.hid (fun W sv' (h:Ext w W) (hs:Ints W sv' (offsM d.signals d.signals.length))=>total_calls d (checkM_w hc) HOK.out.signals _ sv' W (HF.out W h) hs)
   simp only [if_pos hc] at HBT
   generalize sumW d.signals d.signals.length=z at *
   clear hc
   go_upto_region 8 with (first | ((with_reducible show Jw (Op.load 26 _));refine wpList_load_has rfl 26 _ rfl rfl (d3) agg_Flat rfl ?_) | (go_at_call 19;refine (HBT.out w3 HX3.out).mono ?_;rintro r w4 ⟨ub,rfl,hr4,hx4⟩))
   have HT4:=Lib.hid (HTT.out w4 ub (HX3.out.trans hx4) hr4.cells)
   have HX4:=Lib.hid (HX3.out.trans hx4)
   have d4:=(HD3.out.ext hx4).has
   clear hr4 hx4 d3
   go_wp2_with (first | ((with_reducible show Jw (Op.load 26 _));refine wpList_load_has rfl 26 _ rfl rfl (d4) agg_Flat rfl ?_) | (go_at_call 34;refine HT4.out.mono ?_;rintro r w5 ⟨rfl,hx5⟩))
   go_ret
   exact ⟨rfl,HX4.out.trans hx5⟩
  ·have HTT:=Lib.hid (fun W sv' (h:Ext w W) (hs:Ints W sv' [])=>total_no d HOK.out.signals _ sv' W (HF.out W h) hs)
   simp only [if_neg hc] at HBT
   clear hc
   go_upto_region 8 with (first | ((with_reducible show Jw (Op.load 26 _));refine wpList_load_has rfl 26 _ rfl rfl (d3) agg_Flat rfl ?_) | (go_at_call 19;refine (HBT.out w3 HX3.out).mono ?_;rintro r w4 ⟨ub,rfl,hr4,hx4⟩))
   have HT4:=Lib.hid (HTT.out w4 ub (HX3.out.trans hx4) hr4.cells)
   have HX4:=Lib.hid (HX3.out.trans hx4)
   have d4:=(HD3.out.ext hx4).has
   clear hr4 hx4 d3
   go_wp2_with (first | ((with_reducible show Jw (Op.load 26 _));refine wpList_load_has rfl 26 _ rfl rfl (d4) agg_Flat rfl ?_) | (go_at_call 34;refine HT4.out.mono ?_;rintro r w5 ⟨rfl,hx5⟩))
   go_ret
   exact ⟨rfl,HX4.out.trans hx5⟩
 obtain ⟨m1,m2,m3⟩:=hmay
 obtain ⟨v1,hc,-⟩:=valsOk_ck m1
 have hwl:=checkM_w hc
 have hlw:∀ x ∈ d.signals,x.w ≤ 64:=fun x hx=>(hwl x hx).2
 have hvv:=valsOk_val2 m1
 have hr0:=runM_of hc hvv m2 m3
 have hva:=(run_kept HOK.out hc m2 m3 hvv).1
 have hsl:=HOK.out.signals
 have hz0:=sumW_le d.signals hwl d.signals.length (Nat.le_refl _)
 rw [hr0] at HRUN
 have HHG:=Lib.hid (fun (xs:List Nat) (hx:Val2 d.signals xs)=>run_hangs HOK.out hc m2 m3 hvv hx)
 have HRM:=Lib.hid (fun (xs:List Nat) (hx:Val2 d.signals xs)=>runM_of (p:=p) hc hx m2 m3)
 have htold:toldOk d p=true:=by unfold toldOk;rw [hc];simp [m2,m3]
 have HRD:=Lib.hid (fun W (h:Ext w W)=>Reads_calls d _ W (HF.out W h) HOK.out p HIP.out)
 have HWR:=Lib.hid (fun W (h:Ext w W)=>Writes_calls d _ W (HF.out W h) HOK.out p HIP.out)
 have HAW:=Lib.hid (fun W (h:Ext w W)=>Always_calls d _ W (HF.out W h) HOK.out p HIP.out)
 simp only [if_pos htold] at HRD HWR HAW
 simp only [if_pos hc] at HBT
 have HTT:=Lib.hid (fun W sv' (h:Ext w W) (hs:Ints W sv' (offsM d.signals d.signals.length))=>total_calls d hwl hsl _ sv' W (HF.out W h) hs)
 have HRR:=Lib.hid (reads_range HOK.out hc m2 m3)
 have HWL:=Lib.hid hwl
 have HLS:=Lib.hid hlw
 have HVV:=Lib.hid hvv
 have HVA:=Lib.hid hva
 have HCK:=Lib.hid hc
 generalize runL d p vs=aa at *
 generalize readsM d p=rd at *
 generalize writesM d p=wl at *
 generalize alwaysM d p=al at *
 obtain ⟨nz,hnz⟩ : ∃ nz:Nat,sumW d.signals d.signals.length=nz:=⟨(sumW d.signals d.signals.length).toNat,by omega⟩
 have HNZ:=Lib.hid hnz
 rw [hnz] at HTT HRR hz0
 have hnzb:nz ≤ 67108864:=by omega
 have HVL:=Lib.hid (Values_calls d)
 obtain ⟨q,hq⟩ : ∃ q,valsOk d us=q:=⟨_,rfl⟩
 have HVU:=Lib.hid (fun W (h:Ext w W)=>Values_calls d _ us _ W (HF.out W h) HOK.out (HUT.out W h) H64T.out)
 rw [hq] at HVU
 have HQ:=Lib.hid hq
 have HV1:=Lib.hid v1
 have htw:toldOk d p=true:=htold
 clear m1 v1 hc hwl hlw hvv hr0 hva htold htw hnz hq hz0 HVL
 go_upto_region 7 with (first | ((with_reducible show Jw (Op.load 26 _));refine wpList_load_has rfl 26 _ rfl rfl (d2) agg_Flat rfl ?_) | (go_at_call 23;refine HRUN.out.mono ?_;rintro r w3 ⟨u,rfl,hr3,hx3⟩))
 have HAL:=Lib.hid (show aa.length=vs.length by rw [HVA.out.1,HV1.out])
 obtain ⟨ua,uc,rfl,-⟩:=hr3.open
 have HA3:=Lib.hid hr3.cells
 have HX3:=Lib.hid (HX2.out.trans hx3)
 have HD3:=Lib.hid (HD2.out.ext hx3)
 have d3:=HD3.out.has
 clear hr3 hx3 d2 HRUN HD2
 go_upto_region 8 with (first | ((with_reducible show Jw (Op.load 26 _));refine wpList_load_has rfl 26 _ rfl rfl (d3) agg_Flat rfl ?_) | (go_at_call 19;refine (HBT.out w3 HX3.out).mono ?_;rintro r w4 ⟨ub,rfl,hr4,hx4⟩))
 have HB4:=Lib.hid hr4.cells
 have HX4:=Lib.hid (HX3.out.trans hx4)
 have HD4:=Lib.hid (HD3.out.ext hx4)
 have HA4:=Lib.hid (HA3.out.ext hx4)
 have d4:=HD4.out.has
 have HT4:=Lib.hid (HTT.out w4 ub HX4.out HB4.out)
 clear hr4 hx4 d3 HD3 HA3 HTT HBT
 go_upto_region 9 with (first | ((with_reducible show Jw (Op.load 26 _));refine wpList_load_has rfl 26 _ rfl rfl (d4) agg_Flat rfl ?_) | (go_at_call 34;refine HT4.out.mono ?_;rintro r w5 ⟨rfl,hx5⟩))
 have HX5:=Lib.hid (HX4.out.trans hx5)
 have HD5:=Lib.hid (HD4.out.ext hx5)
 have HA5:=Lib.hid (HA4.out.ext hx5)
 have HB5:=Lib.hid (Sl.mono HB4.out fun _ _ _ _ q=>Has.ext q hx5:Ints w5 ub (offsM d.signals d.signals.length))
 have d5:=HD5.out.has
 clear hx5 d4 HD4 HA4 HB4 HT4
 have bz0:decide ((nz:Int) < 0)=false:=decide_eq_false (by omega)
 have bz1:decide ((0:Int) ≤ (nz:Int))=true:=decide_eq_true (by omega)
 cases q
 ·go_wp2_with (first | ((with_reducible show Jw (Op.load 26 _));refine wpList_load_has rfl 26 _ rfl rfl (d5) agg_Flat rfl ?_) | (go_at_call 35;refine (HVU.out w5 HX5.out).mono ?_;rintro r w6 ⟨rfl,hx6⟩))
  go_ret
  exact ⟨rfl,HX5.out.trans hx6⟩
 have hul:us.length=vs.length:=by rw [(valsOk_ck HQ.out).1,HV1.out]
 have HVW:=Lib.hid (valsOk_val2 HQ.out)
 have HUL:=Lib.hid hul
 have bl1:((vs.length:Int) != (d.signals.length:Int))=false:=by rw [bne_eq_false_iff_eq,HV1.out]
 have bl2:((us.length:Int) != (vs.length:Int))=false:=by rw [bne_eq_false_iff_eq,hul]
 clear hul
 go_upto_region 11 with (first | ((with_reducible show Jw (Op.load 26 _));refine wpList_load_has rfl 26 _ rfl rfl (d5) agg_Flat rfl ?_) | (go_at_call 35;refine (HVU.out w5 HX5.out).mono ?_;rintro r w6 ⟨rfl,hx6⟩;have s6:=(HD5.out.ext hx6).has 0 _ rfl))
 have HX6:=Lib.hid (HX5.out.trans hx6)
 have HD6:=Lib.hid (HD5.out.ext hx6)
 have HA6:=Lib.hid (HA5.out.ext hx6)
 have HB6:=Lib.hid (Sl.mono HB5.out fun _ _ _ _ q=>Has.ext q hx6:Ints w6 ub (offsM d.signals d.signals.length))
 have d6:=HD6.out.has
 clear hx6 s6 d5 HD5 HA5 HB5 HX5 HVU
 go_upto_region 12 with (first | ((with_reducible show Jw (Op.load 26 _));refine wpList_load_has rfl 26 _ rfl rfl (d6) agg_Flat rfl ?_) | (go_at_call 26;refine (HRD.out w6 HX6.out).mono ?_;rintro r w7 ⟨ur,rfl,hr7,hx7⟩))
 have HX7:=Lib.hid (HX6.out.trans hx7)
 have HR7:=Lib.hid hr7.cells
 have d7:=(HD6.out.ext hx7).has
 have X67:=Lib.hid hx7
 clear hr7 hx7 d6
 go_upto_region 13 with (first | ((with_reducible show Jw (Op.load 26 _));refine wpList_load_has rfl 26 _ rfl rfl (d7) agg_Flat rfl ?_) | (go_at_call 28;refine (HWR.out w7 HX7.out).mono ?_;rintro r w8 ⟨uw,rfl,hr8,hx8⟩))
 have HX8:=Lib.hid (HX7.out.trans hx8)
 have HW8:=Lib.hid hr8.cells
 have HR8:=Lib.hid (Sl.mono HR7.out fun _ _ _ _ q=>Has.ext q hx8:Ints w8 ur rd)
 have X68:=Lib.hid (X67.out.trans hx8)
 have d8:=(HD6.out.ext X68.out).has
 clear hr8 hx8 d7 X67 HR7
 go_upto_region 14 with (first | ((with_reducible show Jw (Op.load 26 _));refine wpList_load_has rfl 26 _ rfl rfl (d8) agg_Flat rfl ?_) | (go_at_call 30;refine (HAW.out w8 HX8.out).mono ?_;rintro r w9 ⟨ul,rfl,hr9,hx9⟩))
 have HX9:=Lib.hid (HX8.out.trans hx9)
 have HL9:=Lib.hid hr9.cells
 have HR9:=Lib.hid (Sl.mono HR8.out fun _ _ _ _ q=>Has.ext q hx9:Ints w9 ur rd)
 have HW9:=Lib.hid (Sl.mono HW8.out fun _ _ _ _ q=>Has.ext q hx9:Ints w9 uw wl)
 have X69:=Lib.hid (X68.out.trans hx9)
 have HD9:=Lib.hid (HD6.out.ext X69.out)
 have HA9:=Lib.hid (HA6.out.ext X69.out)
 have HB9:=Lib.hid (Sl.mono HB6.out fun _ _ _ _ q=>Has.ext q X69.out:Ints w9 ub (offsM d.signals d.signals.length))
 have HV9:=Lib.hid (HUS.out w9 HX9.out)
 have HU9:=Lib.hid (HUT.out w9 HX9.out)
 clear hr9 hx9 d8 X68 X69 HR8 HW8 HX8 HX7 HX6 HD6 HA6 HB6 HRD HWR HAW
 have HXA:=Lib.hid (ext_alloc w9 (.cells #[] 34))
 have HROW0:=Lib.hid (WordRow.bs0 w9 (N:=w9.heap.size) (Nat.le_refl _))
 have HUA:=Lib.hid (HU9.out.ext HXA.out)
 go_wp2_with (first | ((with_reducible show Jw (Op.buildSlice _ _ _));refine wpList_bs0 rfl _ rfl appWord ?_) | ((with_reducible show Jw (Op.call { callee:=.builtin .append,args:=_,argTypes:=_ }));refine wpList_appW rfl _ _ rfl rfl HROW0.out rfl HUA.out (by simp;omega) (by simp) ?_;intro xv w10 hrow hgr))
 have hrow:WordRow w9.heap.size xv us w10:=hrow
 have HX10:=Lib.hid (show Ext w9 w10 from Below.grown HXA.out hgr HXA.out.size (fun k hk=>by cases hk;exact Nat.le_refl _))
 have HROW:=Lib.hid hrow
 obtain ⟨xa,xc,rfl,-⟩:=hrow.open
 obtain ⟨N,hN⟩ : ∃ N,w9.heap.size=N:=⟨_,rfl⟩
 have HN:=Lib.hid hN
 rw [hN] at HROW
 clear hrow hgr HXA HROW0 HUA hN HU9
 have HRO:=Lib.hid HR9.out.open
 have HBO:=Lib.hid HB9.out.open
 obtain ⟨ra,rb,ro,rc,rfl,hrc1,hrc2,hra,hrr⟩:=HRO.out
 obtain ⟨ba,bb,bo,bc,rfl,hbc1,hbc2,hba,hbr⟩:=HBO.out
 have HRA:=Lib.hid hra
 have HRRW:=Lib.hid hrr
 have HBA:=Lib.hid hba
 have HBRW:=Lib.hid hbr
 have HWH:=Lib.hid (fun W n (h:Ext w9 W)=>where_calls (offsM d.signals d.signals.length) n _ W (Sl.mono HB9.out fun _ _ _ _ q=>Has.ext q h) (by rw [offsM_length];omega))
 simp only [offsM_length,Nat.add_sub_cancel] at HWH hbc1
 rw [offsM_length]
 clear hra hrr hba hbr HRO HBO
 go_loopw [22] (fun i wr=>∃ (k:Nat) (xs:List Nat),k ≤ rd.length∧i=.int .i64 k∧WordRow N (.slice xa us.length xc) xs wr∧Val2 d.signals xs∧AgK d.signals vs xs rd k∧Ext w9 wr) (fun i _=>rd.length - (intOf i).toNat)
 case atStart=>exact ⟨0,us,Nat.zero_le _,rfl,HROW.out,HVW.out,fun i hi=>absurd hi (by omega),HX10.out⟩
 case round =>
  obtain ⟨k,xs,hk,rfl,hrow,hvx,hag,hxr⟩:=hrel
  have HRW:=Lib.hid hrow
  have HVX:=Lib.hid hvx
  have HAG:=Lib.hid hag
  have HXR:=Lib.hid hxr
  clear hrow hvx hag hxr
  by_cases hlt:k < rd.length
  ·obtain rfl:=HRA.out (by omega)
   have hbr:=HRR.out _ (List.getElem_mem hlt)
   obtain ⟨kk,j,hkk,hj,hbn⟩:=bn_of HWL.out hbr.1 d.signals.length (Nat.le_refl _) (by rw [HNZ.out];exact hbr.2)
   obtain rfl:=HBA.out (by rw [offsM_length];omega)
   have hget:rd[k]? = some (bn d.signals kk j):=by rw [List.getElem?_eq_getElem hlt,hbn]
   have hjw:j < 64:=by have:=sigW_le d.signals HLS.out (kk:Int);omega
   have hkx:kk < xs.length:=by rw [HVX.out.1];exact hkk
   have hkv:kk < vs.length:=by rw [HV1.out];exact hkk
   have hku:kk < us.length:=by rw [HUL.out];exact hkv
   have hstep:=takeV_ok HLS.out HVX.out HVV.out hkk hj
   have hags:=AgK.step HWL.out HAG.out HVX.out HVV.out hkk hj hget
   have hgx:xs.getD kk 0=xs[kk]:=by simp [List.getD_eq_getElem?_getD,List.getElem?_eq_getElem hkx]
   have hgv:vs.getD kk 0=vs[kk]:=by simp [List.getD_eq_getElem?_getD,List.getElem?_eq_getElem hkv]
   rw [hgx,hgv] at hstep hags
   have hx64:=val2_us64 HLS.out HVX.out _ (List.getElem_mem hkx)
   have hv64:=H64.out _ (List.getElem_mem hkv)
   obtain ⟨g,cap,hxe,hgN,hcl⟩:=HRW.out.open1 (by omega)
   injection hxe with e1 e2 e3
   subst e1
   subst e3
   clear e2
   have hc1:=hcl kk _ (List.getElem?_eq_getElem hkx)
   have hf1:wr.frozen? ⟨g,kk,none⟩=false:=by
    obtain ⟨-,cur,hcur⟩:=HRW.out.at rfl
    exact Blk.frozen (cs:=cur) (T:=34) hcur kk
   have hrow':=HRW.out.set kk hkx (takeW xs[kk] vs[kk] j)
   obtain ⟨-,cur,hcur⟩:=HRW.out.at (k:=g) rfl
   have hgw:g < wr.heap.size:=(Array.getElem?_eq_some_iff.1 hcur).1
   have HSET:=Lib.hid (fun W (h:Ext wr W)=>(HRW.out.ext h).set kk hkx (takeW xs[kk] vs[kk] j))
   have HCX:=Lib.hid (fun W (h:Ext wr W)=>show W.cell? ⟨g,kk,none⟩=some (W64 xs[kk]) from (h.cell (p:=⟨g,kk,none⟩) hgw).trans hc1)
   have HFX:=Lib.hid (fun W (h:Ext wr W)=>show W.frozen? ⟨g,kk,none⟩=false from (h.frozen (p:=⟨g,kk,none⟩) hgw).trans hf1)
   have HVO:=Lib.hid HV9.out.open
   obtain ⟨av',bv',ov',cv',hve,hvc1,hvc2,hvaa,hvr⟩:=HVO.out
   injection hve with e1 e2 e3
   subst e1
   subst e3
   clear e2
   obtain rfl:=hvaa (by omega)
   have HCV:=Lib.hid (fun W (h:Ext w9 W)=>Us.get (k:=kk) (hvr.mono fun x _ b o (hh:UAt w9 x b o)=>Has.ext hh h) hkv)
   have HCR:=Lib.hid (fun W (h:Ext w9 W)=>Ints.cell (k:=k) (HRRW.out.mono fun x _ b o hh=>Has.ext hh h) hlt)
   have HCB:=Lib.hid (fun W (h:Ext w9 W)=>Ints.cell (k:=kk) (HBRW.out.mono fun x _ b o hh=>Has.ext hh h) (by rw [offsM_length];omega))
   have hof:(offsM d.signals d.signals.length)[kk]'(by rw [offsM_length];omega)=sumW d.signals kk:=by simp [offsM]
   simp only [hof] at HCB
   have hz0:=sumW_le d.signals HWL.out kk (by omega)
   have HW0:=Lib.hid (HWH.out wr (rd[k]) HXR.out)
   rw [hbn,whereK_eq HWL.out hkk hj _ hkk (Nat.le_refl _)] at HW0
   rw [hbn] at HCR
   unfold bn at HW0 HCR
   have hopw:=takeW_op hx64 hv64 hjw
   have hbr2:sumW d.signals kk + (j:Int) < nz:=by have:=hbr.2;rw [hbn] at this;exact this
   generalize sumW d.signals kk=z at *
   have HST:=Lib.hid hstep.1
   have HAGS:=Lib.hid hags
   have HOP:=Lib.hid hopw
   have hkl:kk < d.signals.length + 1:=by omega
   have q1:decide (z + (j:Int) < 0)=false:=decide_eq_false (by omega)
   have q2:decide ((nz:Int) ≤ z + (j:Int))=false:=decide_eq_false (by omega)
   have y1:=HCR.out wr HXR.out
   have HGN:=Lib.hid hgN
   have HJW:=Lib.hid hjw
   clear hbr hbn hget hstep hags hgx hgv hx64 hv64 hcl hc1 hf1 hrow' hcur hvr hvaa HVO hof hopw hgN hj
   obtain ⟨Z,hZ⟩ : ∃ Z,takeW xs[kk] vs[kk] j=Z:=⟨_,rfl⟩
   simp only [hZ] at HSET HST HAGS HOP
   generalize xs[kk]=X at *
   generalize vs[kk]=V at *
   clear hZ
   obtain ⟨M,hM⟩ : ∃ M,2 ^ j=M:=⟨_,rfl⟩
   rw [hM] at HOP
   have HM:=Lib.hid hM
   clear hM
   clear bl1 bl2 blhl blhm bz0 bz1
   go_upto_region 21 with (first | (go_at_call 36;refine HW0.out.mono ?_;rintro r wa ⟨rfl,hxa⟩))
   have HXA:=Lib.hid (HXR.out.trans hxa)
   have HRA2:=Lib.hid hxa
   clear hxa y1
   refine wp_region_held_drew (S:=fun W=>Ext wa W) (by kernel_rfl) (Below.drew (Below.refl _ _)) (fun hHeld=>?_)
   try simp only [J]
   (refine Jt 0 (_) rfl (yif_load1 rfl fun _ _=>rfl) hHeld ?_;try simp only [J])
   (refine Jt 1 (_) rfl (yif_load1 rfl fun _ _=>rfl) hHeld ?_;try simp only [J])
   (refine Jt 2 (.pointer (some ⟨rb,ro + k,none⟩)) rfl (yif_load1 rfl (by intro W hW;clear hW;go_simp;try (intro h;omega))) hHeld ?_;try simp only [J])
   (refine Jt 3 (.int .i64 (z + (j:Int))) rfl (yif_load1 rfl (by intro W hW;have y:=HCR.out W (HXA.out.trans hW);clear hW;go_simp)) hHeld ?_;try simp only [J])
   (refine Jt 4 (_) rfl (yif_load1 rfl fun _ _=>rfl) hHeld ?_;try simp only [J])
   (refine Jt 5 (_) rfl (yif_load1 rfl fun _ _=>rfl) hHeld ?_;try simp only [J])
   (refine Jt 6 (.pointer (some ⟨bb,bo + kk,none⟩)) rfl (yif_load1 rfl (by intro W hW;clear hW;go_simp;try (intro h;omega))) hHeld ?_;try simp only [J])
   (refine Jt 7 (.int .i64 z) rfl (yif_load1 rfl (by intro W hW;have y:=HCB.out W (HXA.out.trans hW);clear hW;go_simp)) hHeld ?_;try simp only [J])
   (refine Jt 8 (.int .i64 (j:Int)) rfl (yif_load1 rfl (by intro W hW;clear hW;go_simp;rw [IntKind.wrap_i64];omega)) hHeld ?_;try simp only [J])
   (refine Jt 9 (.int .u64 (j:Int)) rfl (yif_load1 rfl (by intro W hW;clear hW;go_simp;exact u_wrapn (by omega))) hHeld ?_;try simp only [J])
   (refine Jt 10 (.int .u64 (M:Int)) rfl (yif_load1 rfl (by intro W hW;clear hW;go_simp;exact one_shl HJW.out HM.out)) hHeld ?_;try simp only [J])
   (refine Jt 11 (.int .u64 (M:Int)) rfl (yif_load1 rfl fun _ _=>rfl) hHeld ?_;try simp only [J])
   refine wpAnyH_done (by kernel_rfl) ?_ _
   have HRA3:=Lib.hid (HRA2.out.trans hHeld)
   have HXA3:=Lib.hid (HXA.out.trans hHeld)
   clear hHeld HXA HRA2
   generalize wa.drew=wc at *
   go_upto_region 22 with fail
   refine wp_region_held_drew (S:=fun W=>Ext w9 W) (by kernel_rfl) HXA3.out.drew (fun hHeld=>?_)
   try simp only [J]
   (refine Jt 0 (_) rfl (yif_load1 rfl fun _ _=>rfl) hHeld ?_;try simp only [J])
   (refine Jt 1 (_) rfl (yif_load1 rfl fun _ _=>rfl) hHeld ?_;try simp only [J])
   (refine Jt 2 (_) rfl (yif_load1 rfl fun _ _=>rfl) hHeld ?_;try simp only [J])
   (refine Jt 3 (_) rfl (yif_load1 rfl fun _ _=>rfl) hHeld ?_;try simp only [J])
   (refine Jt 4 (.pointer (some ⟨g,kk,none⟩)) rfl (yif_load1 rfl (by intro W hW;clear hW;go_simp;try (intro h;omega))) hHeld ?_;try simp only [J])
   (refine Jt 6 (_) rfl (yif_load1 rfl fun _ _=>rfl) hHeld ?_;try simp only [J])
   (refine Jt 8 (_) rfl (yif_load1 rfl fun _ _=>rfl) hHeld ?_;try simp only [J])
   (refine Jt 9 (_) rfl (yif_load1 rfl fun _ _=>rfl) hHeld ?_;try simp only [J])
   (refine Jt 10 (.pointer (some ⟨bv',ov' + kk,none⟩)) rfl (yif_load1 rfl (by intro W hW;clear hW;go_simp;try (intro h;omega))) hHeld ?_;try simp only [J])
   (refine Jt 11 (.int .u64 (V:Int)) rfl (yif_load1 rfl (by intro W hW;have y:=HCV.out W hW;clear hW;go_simp)) hHeld ?_;try simp only [J])
   (refine Jt 12 (_) rfl (yif_load1 rfl fun _ _=>rfl) hHeld ?_;try simp only [J])
   (refine Jt 13 (.int .u64 (bits .and .u64 (V:Int) (M:Int))) rfl (yif_load1 rfl (by intro W hW;clear hW;go_simp)) hHeld ?_;try simp only [J])
   have hxd:Ext wr wc.drew:=HRA3.out.trans (Below.drew (Below.refl _ wc))
   have c1:=HCX.out _ hxd
   (refine wpAnyH_ready (rs:=[5]) (by kernel_rfl) (by simp) ?_;refine AllReadyH.cons rfl (fun K hK=>?_) AllReadyH.nil)
   go_simp
   refine hK.out _ _ hHeld (fun hHeld=>?_)
   clear hK K c1
   try simp only [J]
   (refine Jt 7 (.int .u64 (bits .andNot .u64 (X:Int) (M:Int))) rfl (yif_load1 rfl (by intro W hW;clear hW;go_simp)) hHeld ?_;try simp only [J])
   (refine Jt 14 (.int .u64 (Z:Int)) rfl (yif_load1 rfl (by intro W hW;clear hW;go_simp;exact HOP.out)) hHeld ?_;try simp only [J])
   (refine Jt 15 (.pointer (some ⟨g,kk,none⟩)) rfl (yif_load1 rfl (by intro W hW;clear hW;go_simp;try (intro h;omega))) hHeld ?_;try simp only [J])
   have c1:=HCX.out _ hxd
   have f1:=HFX.out _ hxd
   have HRN:=Lib.hid (HSET.out _ hxd)
   clear hxd
   (refine wpAnyH_ready (rs:=[16]) (by kernel_rfl) (by simp) ?_;refine AllReadyH.cons rfl (fun K hK=>?_) AllReadyH.nil)
   go_simp
   have hxs:Ext w9 (wc.drew.setCell ⟨g,kk,none⟩ (W64 Z)):=hHeld.grown (gb_set _ g kk _) (by rw [HN.out];exact HGN.out)
   refine hK.out _ _ hxs (fun hHeld=>?_)
   clear hK K c1 f1
   refine wpAnyH_done (by kernel_rfl) ?_ _
   have HXS:=Lib.hid hxs
   clear hHeld hxs
   go_wp2_with fail
   go_roundw
   case rel=>exact ⟨k + 1,xs.set kk Z,hlt,by go_num,HRN.out,HST.out,HAGS.out,HXS.out⟩
   case measure=>simp [intOf];omega
  ·obtain rfl:k=rd.length:=by omega
   obtain ⟨-,hvb,g1,g2,g3,g4⟩:=HHG.out xs HVX.out HAG.out.all
   have hrm:=HRM.out xs HVX.out
   have HRUN2:=Lib.hid (fun W u (h:Ext w W) (hu:Us W u xs)=>Run_calls d _ xs u p W (HF.out W h) HOK.out hu (val2_us64 HLS.out HVX.out) HIP.out)
   rw [hrm] at HRUN2
   have HBITS:=Lib.hid (fun (i:Nat) (h1:i < nz)=>hang_bits HWL.out g1 g2 g3 g4 (i:=(i:Int)) (by omega) (by rw [HNZ.out];omega))
   generalize runL d p xs=ys at *
   have HVB:=Lib.hid hvb
   obtain ⟨wo,rfl⟩ : ∃ wo,wo=wr:=⟨_,rfl⟩
   have HXO:=HXR
   have HUX:=Lib.hid HRW.out.cells
   have HDO:=Lib.hid (HD9.out.ext HXR.out)
   have dO:=HDO.out.has
   have HR2:=Lib.hid (HRUN2.out wo _ (HX9.out.trans HXR.out) HUX.out)
   clear hrm g1 g2 g3 g4 hvb HHG HRM HRUN2 HAG HXR
   go_upto_region 24 with (first | ((with_reducible show Jw (Op.load 26 _));refine wpList_load_has rfl 26 _ rfl rfl (dO) agg_Flat rfl ?_) | (go_at_call 23;refine HR2.out.mono ?_;rintro r w11 ⟨uy,rfl,hry,hxy⟩))
   obtain ⟨ya,yc,rfl,-⟩:=hry.open
   have HY11:=Lib.hid hry.cells
   have HX911:=Lib.hid (HXO.out.trans hxy)
   have HX11:=Lib.hid (HX9.out.trans HX911.out)
   have HUX11:=Lib.hid (HUX.out.ext hxy)
   have HA11:=Lib.hid (HA9.out.ext HX911.out)
   have HV11:=Lib.hid (HV9.out.ext HX911.out)
   have HB11:=Lib.hid (Sl.mono HB9.out fun _ _ _ _ q=>Has.ext q HX911.out:Ints w11 _ (offsM d.signals d.signals.length))
   have HL11:=Lib.hid (Sl.mono HL9.out fun _ _ _ _ q=>Has.ext q HX911.out:Ints w11 ul al)
   have HW11:=Lib.hid (Sl.mono HW9.out fun _ _ _ _ q=>Has.ext q HX911.out:Ints w11 uw wl)
   have l1:((aa.length:Int) != (vs.length:Int))=false:=by rw [bne_eq_false_iff_eq,HAL.out]
   have l2:((ys.length:Int) != (vs.length:Int))=false:=by rw [bne_eq_false_iff_eq,HVB.out.1,HV1.out]
   clear hry hxy dO HR2 HUX HDO HXO HD9 HA9 HB9 HL9 HW9 HV9 bl1 bl2 blhl blhm bz0 bz1
   go_wp2_with fail
   clear l1 l2
   go_loopw [27] (fun i wr=>∃ k:Nat,k ≤ nz∧i=.int .i64 k∧Ext w11 wr) (fun i _=>nz - (intOf i).toNat)
   case atStart=>exact ⟨0,Nat.zero_le _,rfl,Below.refl _ _⟩
   case round =>
    obtain ⟨k,hk,rfl,hxr⟩:=hrel
    have HXR:=Lib.hid hxr
    clear hxr
    by_cases hlt:k < nz
    ·obtain ⟨f1,f2,f3⟩:=HBITS.out k hlt
     have hln:=HOK.out.signals
     have HCA:=Lib.hid (fun W (h:Ext w11 W)=>bit11_calls HWL.out hln aa (k:Int) _ _ W (Sl.mono HB11.out fun _ _ _ _ q=>Has.ext q h) (HA11.out.ext h) HVA.out.1 (val2_us64 HLS.out HVA.out) (by omega) (by rw [HNZ.out];omega))
     have HCB:=Lib.hid (fun W (h:Ext w11 W)=>bit11_calls HWL.out hln ys (k:Int) _ _ W (Sl.mono HB11.out fun _ _ _ _ q=>Has.ext q h) (HY11.out.ext h) HVB.out.1 (val2_us64 HLS.out HVB.out) (by omega) (by rw [HNZ.out];omega))
     have HCV:=Lib.hid (fun W (h:Ext w11 W)=>bit11_calls HWL.out hln vs (k:Int) _ _ W (Sl.mono HB11.out fun _ _ _ _ q=>Has.ext q h) (HV11.out.ext h) HVV.out.1 H64.out (by omega) (by rw [HNZ.out];omega))
     have HCX:=Lib.hid (fun W (h:Ext w11 W)=>bit11_calls HWL.out hln xs (k:Int) _ _ W (Sl.mono HB11.out fun _ _ _ _ q=>Has.ext q h) (HUX11.out.ext h) HVX.out.1 (val2_us64 HLS.out HVX.out) (by omega) (by rw [HNZ.out];omega))
     have HML:=Lib.hid (fun W (h:Ext w11 W)=>among_calls al (k:Int) ul W (Sl.mono HL11.out fun _ _ _ _ q=>Has.ext q h))
     have HMW:=Lib.hid (fun W (h:Ext w11 W)=>among_calls wl (k:Int) uw W (Sl.mono HW11.out fun _ _ _ _ q=>Has.ext q h))
     generalize bitN11 d.signals aa (k:Int)=A at *
     generalize bitN11 d.signals ys (k:Int)=B at *
     generalize bitN11 d.signals vs (k:Int)=V at *
     generalize bitN11 d.signals xs (k:Int)=X at *
     simp only [offsM_length] at HCA HCB HCV HCX
     obtain ⟨t1,ht1⟩ : ∃ t,decide ((k:Int) ∈ al)=t:=⟨_,rfl⟩
     obtain ⟨t2,ht2⟩ : ∃ t,decide ((k:Int) ∈ wl)=t:=⟨_,rfl⟩
     rw [ht1] at HML
     rw [ht2] at HMW
     have F1:=Lib.hid (show t1=true→A=B from fun h=>f1 (of_decide_eq_true (by rw [ht1,h])))
     have F2:=Lib.hid (show t2=false→A=V∧B=X from fun h=>f2 (of_decide_eq_false (by rw [ht2,h])))
     have F3:=Lib.hid f3
     have hy:=HXR.out
     clear f1 f2 f3 ht1 ht2 hln HWL HLS HBITS HVA HVB HVV HVX HB11 HA11 HY11 HV11 HUX11 HL11 HW11
     cases t1 <;> cases t2
     ·obtain ⟨e1,e2⟩:=F2.out rfl
      subst e1
      subst e2
      by_cases e:A=B
      ·subst e
       go_wp2_with (first | (go_at_call 38;refine (HCB.out y8 z8).mono ?_;rintro r y9 ⟨rfl,h9⟩;have z9:=z8.trans h9;clear h9) | (go_at_call 38;refine (HCA.out y7 z7).mono ?_;rintro r y8 ⟨rfl,h8⟩;have z8:=z7.trans h8;clear h8) | (go_at_call 38;refine (HCX.out y6 z6).mono ?_;rintro r y7 ⟨rfl,h7⟩;have z7:=z6.trans h7;clear h7) | (go_at_call 38;refine (HCV.out y5 z5).mono ?_;rintro r y6 ⟨rfl,h6⟩;have z6:=z5.trans h6;clear h6) | (go_at_call 38;refine (HCX.out y4 z4).mono ?_;rintro r y5 ⟨rfl,h5⟩;have z5:=z4.trans h5;clear h5) | (go_at_call 38;refine (HCB.out y3 z3).mono ?_;rintro r y4 ⟨rfl,h4⟩;have z4:=z3.trans h4;clear h4) | (go_at_call 38;refine (HCV.out y2 z2).mono ?_;rintro r y3 ⟨rfl,h3⟩;have z3:=z2.trans h3;clear h3) | (go_at_call 38;refine (HCA.out y1 z1).mono ?_;rintro r y2 ⟨rfl,h2⟩;have z2:=z1.trans h2;clear h2) | (go_at_call 37;refine (HMW.out y0 z0).mono ?_;rintro r y1 ⟨rfl,h1⟩;have z1:=z0.trans h1;clear h1) | (go_at_call 37;refine (HML.out wr hy).mono ?_;rintro r y0 ⟨rfl,h0⟩;have z0:=hy.trans h0;clear h0))
       go_roundw
       case rel=>exact ⟨k + 1,hlt,by go_num,z9⟩
       case measure=>simp [intOf];omega
      ·have b1:((A:Int) == (B:Int))=false:=by rw [beq_eq_false_iff_ne];omega
       clear e
       go_wp2_with (first | (go_at_call 38;refine (HCX.out y6 z6).mono ?_;rintro r y7 ⟨rfl,h7⟩;have z7:=z6.trans h7;clear h7) | (go_at_call 38;refine (HCV.out y5 z5).mono ?_;rintro r y6 ⟨rfl,h6⟩;have z6:=z5.trans h6;clear h6) | (go_at_call 38;refine (HCX.out y4 z4).mono ?_;rintro r y5 ⟨rfl,h5⟩;have z5:=z4.trans h5;clear h5) | (go_at_call 38;refine (HCB.out y3 z3).mono ?_;rintro r y4 ⟨rfl,h4⟩;have z4:=z3.trans h4;clear h4) | (go_at_call 38;refine (HCV.out y2 z2).mono ?_;rintro r y3 ⟨rfl,h3⟩;have z3:=z2.trans h3;clear h3) | (go_at_call 38;refine (HCA.out y1 z1).mono ?_;rintro r y2 ⟨rfl,h2⟩;have z2:=z1.trans h2;clear h2) | (go_at_call 37;refine (HMW.out y0 z0).mono ?_;rintro r y1 ⟨rfl,h1⟩;have z1:=z0.trans h1;clear h1) | (go_at_call 37;refine (HML.out wr hy).mono ?_;rintro r y0 ⟨rfl,h0⟩;have z0:=hy.trans h0;clear h0))
       go_roundw
       case rel=>exact ⟨k + 1,hlt,by go_num,z7⟩
       case measure=>simp [intOf];omega
     ·by_cases e:V=X
      ·obtain rfl:=F3.out e
       subst e
       go_wp2_with (first | (go_at_call 38;refine (HCB.out y4 z4).mono ?_;rintro r y5 ⟨rfl,h5⟩;have z5:=z4.trans h5;clear h5) | (go_at_call 38;refine (HCA.out y3 z3).mono ?_;rintro r y4 ⟨rfl,h4⟩;have z4:=z3.trans h4;clear h4) | (go_at_call 38;refine (HCX.out y2 z2).mono ?_;rintro r y3 ⟨rfl,h3⟩;have z3:=z2.trans h3;clear h3) | (go_at_call 38;refine (HCV.out y1 z1).mono ?_;rintro r y2 ⟨rfl,h2⟩;have z2:=z1.trans h2;clear h2) | (go_at_call 37;refine (HMW.out y0 z0).mono ?_;rintro r y1 ⟨rfl,h1⟩;have z1:=z0.trans h1;clear h1) | (go_at_call 37;refine (HML.out wr hy).mono ?_;rintro r y0 ⟨rfl,h0⟩;have z0:=hy.trans h0;clear h0))
       go_roundw
       case rel=>exact ⟨k + 1,hlt,by go_num,z5⟩
       case measure=>simp [intOf];omega
      ·have b1:((V:Int) == (X:Int))=false:=by rw [beq_eq_false_iff_ne];omega
       clear e
       go_wp2_with (first | (go_at_call 38;refine (HCX.out y2 z2).mono ?_;rintro r y3 ⟨rfl,h3⟩;have z3:=z2.trans h3;clear h3) | (go_at_call 38;refine (HCV.out y1 z1).mono ?_;rintro r y2 ⟨rfl,h2⟩;have z2:=z1.trans h2;clear h2) | (go_at_call 37;refine (HMW.out y0 z0).mono ?_;rintro r y1 ⟨rfl,h1⟩;have z1:=z0.trans h1;clear h1) | (go_at_call 37;refine (HML.out wr hy).mono ?_;rintro r y0 ⟨rfl,h0⟩;have z0:=hy.trans h0;clear h0))
       go_roundw
       case rel=>exact ⟨k + 1,hlt,by go_num,z3⟩
       case measure=>simp [intOf];omega
     ·obtain rfl:=F1.out rfl
      obtain ⟨e1,e2⟩:=F2.out rfl
      subst e1
      subst e2
      go_wp2_with (first | (go_at_call 38;refine (HCB.out y10 z10).mono ?_;rintro r y11 ⟨rfl,h11⟩;have z11:=z10.trans h11;clear h11) | (go_at_call 38;refine (HCA.out y9 z9).mono ?_;rintro r y10 ⟨rfl,h10⟩;have z10:=z9.trans h10;clear h10) | (go_at_call 38;refine (HCX.out y8 z8).mono ?_;rintro r y9 ⟨rfl,h9⟩;have z9:=z8.trans h9;clear h9) | (go_at_call 38;refine (HCV.out y7 z7).mono ?_;rintro r y8 ⟨rfl,h8⟩;have z8:=z7.trans h8;clear h8) | (go_at_call 38;refine (HCX.out y6 z6).mono ?_;rintro r y7 ⟨rfl,h7⟩;have z7:=z6.trans h7;clear h7) | (go_at_call 38;refine (HCB.out y5 z5).mono ?_;rintro r y6 ⟨rfl,h6⟩;have z6:=z5.trans h6;clear h6) | (go_at_call 38;refine (HCV.out y4 z4).mono ?_;rintro r y5 ⟨rfl,h5⟩;have z5:=z4.trans h5;clear h5) | (go_at_call 38;refine (HCA.out y3 z3).mono ?_;rintro r y4 ⟨rfl,h4⟩;have z4:=z3.trans h4;clear h4) | (go_at_call 37;refine (HMW.out y2 z2).mono ?_;rintro r y3 ⟨rfl,h3⟩;have z3:=z2.trans h3;clear h3) | (go_at_call 38;refine (HCB.out y1 z1).mono ?_;rintro r y2 ⟨rfl,h2⟩;have z2:=z1.trans h2;clear h2) | (go_at_call 38;refine (HCA.out y0 z0).mono ?_;rintro r y1 ⟨rfl,h1⟩;have z1:=z0.trans h1;clear h1) | (go_at_call 37;refine (HML.out wr hy).mono ?_;rintro r y0 ⟨rfl,h0⟩;have z0:=hy.trans h0;clear h0))
      go_roundw
      case rel=>exact ⟨k + 1,hlt,by go_num,z11⟩
      case measure=>simp [intOf];omega
     ·obtain rfl:=F1.out rfl
      by_cases e:V=X
      ·subst e
       go_wp2_with (first | (go_at_call 38;refine (HCB.out y6 z6).mono ?_;rintro r y7 ⟨rfl,h7⟩;have z7:=z6.trans h7;clear h7) | (go_at_call 38;refine (HCA.out y5 z5).mono ?_;rintro r y6 ⟨rfl,h6⟩;have z6:=z5.trans h6;clear h6) | (go_at_call 38;refine (HCX.out y4 z4).mono ?_;rintro r y5 ⟨rfl,h5⟩;have z5:=z4.trans h5;clear h5) | (go_at_call 38;refine (HCV.out y3 z3).mono ?_;rintro r y4 ⟨rfl,h4⟩;have z4:=z3.trans h4;clear h4) | (go_at_call 37;refine (HMW.out y2 z2).mono ?_;rintro r y3 ⟨rfl,h3⟩;have z3:=z2.trans h3;clear h3) | (go_at_call 38;refine (HCB.out y1 z1).mono ?_;rintro r y2 ⟨rfl,h2⟩;have z2:=z1.trans h2;clear h2) | (go_at_call 38;refine (HCA.out y0 z0).mono ?_;rintro r y1 ⟨rfl,h1⟩;have z1:=z0.trans h1;clear h1) | (go_at_call 37;refine (HML.out wr hy).mono ?_;rintro r y0 ⟨rfl,h0⟩;have z0:=hy.trans h0;clear h0))
       go_roundw
       case rel=>exact ⟨k + 1,hlt,by go_num,z7⟩
       case measure=>simp [intOf];omega
      ·have b1:((V:Int) == (X:Int))=false:=by rw [beq_eq_false_iff_ne];omega
       clear e
       go_wp2_with (first | (go_at_call 38;refine (HCX.out y4 z4).mono ?_;rintro r y5 ⟨rfl,h5⟩;have z5:=z4.trans h5;clear h5) | (go_at_call 38;refine (HCV.out y3 z3).mono ?_;rintro r y4 ⟨rfl,h4⟩;have z4:=z3.trans h4;clear h4) | (go_at_call 37;refine (HMW.out y2 z2).mono ?_;rintro r y3 ⟨rfl,h3⟩;have z3:=z2.trans h3;clear h3) | (go_at_call 38;refine (HCB.out y1 z1).mono ?_;rintro r y2 ⟨rfl,h2⟩;have z2:=z1.trans h2;clear h2) | (go_at_call 38;refine (HCA.out y0 z0).mono ?_;rintro r y1 ⟨rfl,h1⟩;have z1:=z0.trans h1;clear h1) | (go_at_call 37;refine (HML.out wr hy).mono ?_;rintro r y0 ⟨rfl,h0⟩;have z0:=hy.trans h0;clear h0))
       go_roundw
       case rel=>exact ⟨k + 1,hlt,by go_num,z5⟩
       case measure=>simp [intOf];omega
    ·obtain rfl:k=nz:=by omega
     go_wp2_with fail
     go_ret
     exact ⟨rfl,HX11.out.trans HXR.out⟩
end Go.Proofs.YtaipaccpaljecaaGreat
