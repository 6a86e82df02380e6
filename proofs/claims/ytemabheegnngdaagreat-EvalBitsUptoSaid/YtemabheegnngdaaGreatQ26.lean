/- Laws and walks that a claim of this seat leans on: R01a, EvalFits. -/
import Derived.Test.YtemabheegnngdaaGreatQ17
import Derived.Test.YtemabheegnngdaaGreatQ16
import Derived.Test.YtemabheegnngdaaGreatQ15
import Derived.Test.YtemabheegnngdaaGreatQ23
import Derived.Test.YtemabheegnngdaaGreatQ24
import Derived.Test.YtemabheegnngdaaGreatQ00
set_option linter.all false
namespace Go.Proofs.YtemabheegnngdaaGreat
open Go.RowKit
theorem mask_val {k:Nat} (h:k ≤ 63):IntKind.u64.wrap (IntKind.u64.wrap (2 ^ k) - 1)=((2 ^ k - 1:Nat):Int):=by
 revert k
 decide +kernel
set_option maxHeartbeats 400000 in
theorem MaskR_calls (wd:Int) (h1:1 ≤ wd) (h2:wd ≤ 64) (w:World):Calls Tryz.prog 31 #[.int .i64 wd] w fun r w'=>r=.returned (.int .u64 ((2 ^ wd.toNat - 1:Nat):Int))∧w'=w:=by
 obtain ⟨k,rfl⟩:=Int.eq_ofNat_of_zero_le (show 0 ≤ wd by omega)
 rw [Int.toNat_natCast]
 have c1:decide ((k:Int) < 1)=false:=decide_eq_false (by omega)
 go_enter Tryz.func31,Tryz.ntmps31
 by_cases h3:(63:Int) < (k:Int)
 ·have c2:decide ((63:Int) < (k:Int))=true:=decide_eq_true h3
  obtain rfl:k=64:=by omega
  clear h3
  go_wp2_with fail
  go_ret
  exact ⟨rfl,rfl⟩
 ·have c2:decide ((63:Int) < (k:Int))=false:=decide_eq_false h3
  have hm:=mask_val (show k ≤ 63 by omega)
  have HM:=Lib.hid hm
  clear h3 hm
  go_wp2_with fail
  go_ret
  refine ⟨?_,rfl⟩
  rw [← HM.out]
  first | rfl | (trace_state;simp)
set_option maxHeartbeats 400000 in
theorem CheckR_calls (a:Bt) (ha:a.ok) (w:World):Calls Tryz.prog 65 #[.agg a.cells.toArray] w fun r w'=>r=.returned (.int .i64 0)∧Ext w w':=by
 obtain ⟨h1,h2,h3⟩:=ha
 have HM:=Lib.hid (fun W=>MaskR_calls a.w h1 h2 W)
 obtain ⟨wd,v⟩:=a
 simp only at h1 h2 h3 HM
 have hv:v ≤ 2 ^ wd.toNat - 1:=by omega
 generalize 2 ^ wd.toNat - 1=M at *
 have c1:decide (wd < 1)=false:=decide_eq_false (by omega)
 have c2:decide (64 < wd)=false:=decide_eq_false (by omega)
 have c3:decide (M < v)=false:=decide_eq_false (by omega)
 clear h1 h2 h3 hv
 have HX:=ext_alloc w (.cells (Bt.cells ⟨wd,v⟩).toArray 60)
 have hb:=Blk.new w (Bt.cells ⟨wd,v⟩).toArray 60
 go_enter Tryz.func65,Tryz.ntmps65
 go_upto_region 1 with fail
 generalize w.alloc _=w0 at *
 have g0:=hb.has 0 _ rfl
 have g1:=hb.has 1 _ rfl
 go_quiet (first | (go_at_call 31;refine Calls.quiet_of_same (HM.out _)))
 go_wp2_with fail
 go_ret
 exact ⟨rfl,HX.drewNB nq⟩
set_option maxHeartbeats 400000 in
theorem bitR_calls (b:Bool) (w:World):Calls Tryz.prog 68 #[.bool b] w fun r w'=>r=.returned (.agg (Bt.cells ⟨1,b2n b⟩).toArray)∧Ext w w':=by
 have HX:=ext_alloc w (.cells #[.int .i64 0,.int .u64 0] 60)
 have hb:=Blk.new w #[.int .i64 0,.int .u64 0] 60
 go_enter Tryz.func68,Tryz.ntmps68
 go_upto_region 1 with fail
 generalize w.alloc _=w0 at *
 cases b
 ·go_wp2_with (first | ((with_reducible show wpList _ _ _ (⟨_,Op.store 60 _ _,_,_,_,_⟩ :: _) _ _);refine wpList_store_blk rfl 60 _ _ rfl (hb) rfl (cs:=Bt.cells ⟨1,b2n false⟩) (rfl) agg_Bits (rfl) rfl (rfl) ?_;intro w4 hb4 hg4) | ((with_reducible show bodyPost _ _ _ _ _ _);refine Hid.out ?_))
  refine Lib.hid ?_
  exact post_ret_blk rfl rfl hb4.has agg_Bits rfl rfl ⟨rfl,HX.grown hg4 (by omega)⟩
 ·go_wp2_with (first | ((with_reducible show wpList _ _ _ (⟨_,Op.store 60 _ _,_,_,_,_⟩ :: _) _ _);refine wpList_store_blk rfl 60 _ _ rfl (hb) rfl (cs:=Bt.cells ⟨1,b2n true⟩) (rfl) agg_Bits (rfl) rfl (rfl) ?_;intro w4 hb4 hg4) | ((with_reducible show bodyPost _ _ _ _ _ _);refine Hid.out ?_))
  refine Lib.hid ?_
  exact post_ret_blk rfl rfl hb4.has agg_Bits rfl rfl ⟨rfl,HX.grown hg4 (by omega)⟩
def par (k v:Nat):Bool:=decide (pop k v % 2=1)
theorem par_succ (k v:Nat):par (k + 1) v=if v / 2 ^ k % 2=1 then !par k v else par k v:=by
 have h:=pop_add k 1 v
 rw [show pop 1 (v / 2 ^ k)=v / 2 ^ k % 2 by simp [pop]] at h
 unfold par
 rw [h]
 by_cases c:v / 2 ^ k % 2=1
 ·rw [if_pos c,c]
  by_cases p:pop k v % 2=1
  ·rw [decide_eq_true p,decide_eq_false (by omega)];rfl
  ·rw [decide_eq_false p,decide_eq_true (by omega)];rfl
 ·rw [if_neg c,show v / 2 ^ k % 2=0 by omega,Nat.add_zero]
theorem and_one (n:Nat) (h:n < 2 ^ 64):bits .and .u64 (n:Int) 1=((n % 2:Nat):Int):=by
 rw [show (1:Int)=((1:Nat):Int) from rfl,n_and h (by decide),show (1:Nat)=2 ^ 1 - 1 from rfl,Nat.and_two_pow_sub_one_eq_mod]
set_option maxHeartbeats 400000 in
theorem oddR_calls (v:Nat) (hv:v < 2 ^ 64) (w:World):Calls Tryz.prog 149 #[.int .u64 (v:Int)] w fun r w'=>r=.returned (.bool (par 64 v))∧w'=w:=by
 go_enter Tryz.func149,Tryz.ntmps149
 go_wp2_with fail
 go_loopw [3,4] (fun b i wr=>∃ k:Nat,k ≤ 64∧i=.int .i64 k∧b=.bool (par k v)∧wr=w) (fun _ i _=>64 - (intOf i).toNat)
 case atStart=>exact ⟨0,Nat.zero_le _,rfl,rfl,rfl⟩
 case round =>
  obtain ⟨k,hk,rfl,rfl,rfl⟩:=hrel
  by_cases hlt:k < 64
  ·have hp:=par_succ k v
   have hn:v / 2 ^ k < 2 ^ 64:=Nat.lt_of_le_of_lt (Nat.div_le_self _ _) hv
   have h1:(v:Int) / 2 ^ k=((v / 2 ^ k:Nat):Int):=n_shr v k
   have h2:=and_one _ hn
   generalize v / 2 ^ k=n at *
   have H1:=Lib.hid h1
   have H2:=Lib.hid h2
   have HP:=Lib.hid hp
   clear h1 h2 hp
   by_cases c:n % 2=1
   ·have bt:(bits .and .u64 ((v:Int) / 2 ^ k) 1 == 1)=true:=by rw [H1.out,H2.out,beq_iff_eq];omega
    rw [if_pos c] at HP
    go_wp2_with fail
    go_roundw
    case rel=>exact ⟨k + 1,by omega,by go_num,by rw [HP.out],trivial⟩
    case measure=>simp [intOf];omega
   ·have bt:(bits .and .u64 ((v:Int) / 2 ^ k) 1 == 1)=false:=by rw [H1.out,H2.out,beq_eq_false_iff_ne];omega
    rw [if_neg c] at HP
    go_wp2_with fail
    go_roundw
    case rel=>exact ⟨k + 1,by omega,by go_num,by rw [HP.out],trivial⟩
    case measure=>simp [intOf];omega
  ·obtain rfl:k=64:=by omega
   go_wp2_with fail
   go_ret
   exact ⟨rfl,rfl⟩
open Go.RowKit
set_option maxRecDepth 100000 in
set_option maxHeartbeats 4000000 in
theorem EvalFits_calls (d:Flat) (v:Value) (vs:List Nat) (s:Value) (e:E) (cs:List Value) (w:World) (hF:FlatV w v d) (hok:d.ok) (hs:Us w s vs) (h64:us64 vs) (_:vs.length + 1 ≤ 1048576) (hV:VE w cs e) (hwf:e.wf) (hn:nodes e ≤ 1048576) :
  Calls Tryz.prog 7 #[v,s,.agg cs.toArray] w fun r w'=>r=.returned (.bool true)∧Ext w w':=by
 have HFW:=Lib.hid (fun W (h:Ext w W)=>few_calls d v e cs W (hF.ext h) hok (hV.ext h) hn (Nat.le_trans (deep_le_nodes e) hn))
 have HEV:=Lib.hid (fun x cx W (h:Ext w W) (hx:VE W cx x) (h1:x.wf) (h2:nodes x ≤ 1048576)=>Eval_calls d v vs s x cx W (hF.ext h) hok (hs.ext h) h64 hx h1 h2)
 have HFO:=Lib.hid (fun x cx W (h:Ext w W) (hx:VE W cx x) (h1:x.wf) (h2:nodes x ≤ 1048576)=>Fold_calls d v x cx W (hF.ext h) hok hx h1 h2)
 have HNE:=Lib.hid (fun x cx W (h:Ext w W) (hx:VE W cx x) (h1:x.wf) (h2:nodes x ≤ 1048576)=>Needs_calls d v x cx W (hF.ext h) hok hx h1 h2)
 have HLAW:=Lib.hid (fits_law (d:=d) (vs:=vs) hwf)
 have HVE:=Lib.hid (fun W (h:Ext w W)=>hV.ext h)
 have HWF:=Lib.hid hwf
 have HN:=Lib.hid hn
 obtain ⟨s0,rfl,hs0⟩:=hV
 obtain ⟨sv,pv,cv,rfl,hS,hP,hC⟩:=hF
 obtain ⟨av,bv,ov,capv,rfl,-,-,-,-⟩:=hs.open
 have x1:=ext_alloc w (.cells [sv,pv,cv].toArray 26)
 have x2:=ext_alloc (w.alloc (.cells [sv,pv,cv].toArray 26)) (.cells (e.cells s0).toArray 44)
 have hD:=(Blk.new w [sv,pv,cv].toArray 26).ext x2
 have hE:=Blk.new (w.alloc (.cells [sv,pv,cv].toArray 26)) (e.cells s0).toArray 44
 have hX:=x1.trans x2
 simp only [World.size_alloc] at hE
 clear x1 x2 hS hP hC hs h64 hok hwf hn hs0
 go_enter Tryz.func7,Tryz.ntmps7
 go_upto_region 1 with fail
 generalize (w.alloc _).alloc _=w0 at *
 have HD0:=Lib.hid hD
 have HE0:=Lib.hid hE
 have HX0:=Lib.hid hX
 clear hD hE hX
 go_upto_region 2 with (first | (go_at_call 17;refine (live10_calls _).mono ?_;rintro r w1 ⟨rfl,hx1⟩))
 have HD:=Lib.hid (HD0.out.ext hx1)
 have HE:=Lib.hid (HE0.out.ext hx1)
 have HX:=Lib.hid (HX0.out.trans hx1)
 clear hx1 HD0 HE0 HX0
 have d1:=HD.out.has
 have e1:=HE.out.has
 obtain ⟨q,hq⟩ : ∃ q,fewM d e=q:=⟨_,rfl⟩
 rw [hq] at HFW
 clear hq
 cases q
 ·go_wp2_with (first | ((with_reducible show wpList _ _ _ (⟨_,Op.load 26 _,_,_,_,_⟩ :: _) _ _);refine wpList_load_has rfl 26 _ rfl rfl (d1) agg_Flat rfl ?_) | ((with_reducible show wpList _ _ _ (⟨_,Op.load 44 _,_,_,_,_⟩ :: _) _ _);refine wpList_load_has rfl 44 _ rfl rfl (e1) agg_E rfl ?_) | (go_at_call 18;refine (HFW.out w1 HX.out).mono ?_;rintro r w2 ⟨rfl,hx2⟩))
  go_ret
  exact ⟨rfl,HX.out.trans hx2⟩
 by_cases hl:(600:Int) < (vs.length:Int)
 ·have bl:decide ((600:Int) < (vs.length:Int))=true:=decide_eq_true hl
  clear hl
  go_wp2_with (first | ((with_reducible show wpList _ _ _ (⟨_,Op.load 26 _,_,_,_,_⟩ :: _) _ _);refine wpList_load_has rfl 26 _ rfl rfl (d1) agg_Flat rfl ?_) | ((with_reducible show wpList _ _ _ (⟨_,Op.load 44 _,_,_,_,_⟩ :: _) _ _);refine wpList_load_has rfl 44 _ rfl rfl (e1) agg_E rfl ?_) | (go_at_call 18;refine (HFW.out w1 HX.out).mono ?_;rintro r w2 ⟨rfl,hx2⟩))
  go_ret
  exact ⟨rfl,HX.out.trans hx2⟩
 have bl:decide ((600:Int) < (vs.length:Int))=false:=decide_eq_false hl
 clear hl
 go_upto_region 4 with (first | ((with_reducible show wpList _ _ _ (⟨_,Op.load 26 _,_,_,_,_⟩ :: _) _ _);refine wpList_load_has rfl 26 _ rfl rfl (d1) agg_Flat rfl ?_) | ((with_reducible show wpList _ _ _ (⟨_,Op.load 44 _,_,_,_,_⟩ :: _) _ _);refine wpList_load_has rfl 44 _ rfl rfl (e1) agg_E rfl ?_) | (go_at_call 18;refine (HFW.out w1 HX.out).mono ?_;rintro r w2 ⟨rfl,hx2⟩))
 have HD2:=Lib.hid (HD.out.ext hx2)
 have HE2:=Lib.hid (HE.out.ext hx2)
 have HX2:=Lib.hid (HX.out.trans hx2)
 clear hx2 d1 e1 HD HE HX HFW
 have d2:=HD2.out.has
 have e2:=HE2.out.has
 have HEV1:=Lib.hid (HEV.out e _ w2 HX2.out (HVE.out w2 HX2.out) HWF.out HN.out)
 obtain ⟨a,ha⟩ : ∃ a,(evalM d vs e).1=a:=⟨_,rfl⟩
 obtain ⟨f,hf⟩ : ∃ f,(evalM d vs e).2=f:=⟨_,rfl⟩
 rw [ha,hf] at HEV1
 have HA:=Lib.hid ha
 have HFF:=Lib.hid hf
 clear ha hf
 go_upto_region 5 with (first | ((with_reducible show wpList _ _ _ (⟨_,Op.load 26 _,_,_,_,_⟩ :: _) _ _);refine wpList_load_has rfl 26 _ rfl rfl (d2) agg_Flat rfl ?_) | ((with_reducible show wpList _ _ _ (⟨_,Op.load 44 _,_,_,_,_⟩ :: _) _ _);refine wpList_load_has rfl 44 _ rfl rfl (e2) agg_E rfl ?_) | (go_at_call 19;refine (HEV1.out).mono ?_;rintro r w3 ⟨rfl,hx3⟩))
 have HD3:=Lib.hid (HD2.out.ext hx3)
 have HE3:=Lib.hid (HE2.out.ext hx3)
 have HX3:=Lib.hid (HX2.out.trans hx3)
 clear hx3 d2 e2 HD2 HE2 HX2 HEV1
 have d3:=HD3.out.has
 have e3:=HE3.out.has
 by_cases hf0:f=0
 case neg =>
  have bf:(f != 0)=true:=by rw [bne_iff_ne];exact hf0
  clear hf0
  go_wp2_with fail
  go_ret
  exact ⟨rfl,HX3.out⟩
 subst hf0
 obtain ⟨l1,l2,l3,l4,l5,l6⟩:=HLAW.out HFF.out
 have HMK:=Lib.hid (fun W=>MaskR_calls e.w l1 l2 W)
 rw [HA.out] at l3 l6
 have ham:a ≤ 2 ^ e.w.toNat - 1:=by omega
 obtain ⟨M,hM⟩ : ∃ M,2 ^ e.w.toNat - 1=M:=⟨_,rfl⟩
 rw [hM] at HMK ham
 have bm:decide (a ≤ M)=true:=decide_eq_true ham
 have HNE1:=Lib.hid (HNE.out e _ w3 HX3.out (HVE.out w3 HX3.out) HWF.out HN.out)
 have HFO1:=Lib.hid (fun W (h:Ext w3 W)=>HFO.out e _ W (HX3.out.trans h) (HVE.out W (HX3.out.trans h)) HWF.out HN.out)
 obtain ⟨l,hl⟩ : ∃ l,(needsM d e).1=l:=⟨_,rfl⟩
 obtain ⟨x,hx⟩ : ∃ x,(foldR d e).1=x:=⟨_,rfl⟩
 rw [l4,hl] at HNE1
 rw [l5,hx] at HFO1
 rw [hl,hx] at l6
 have L6:=Lib.hid l6
 clear l1 l2 l3 l4 l5 l6 hM ham hl hx HLAW HNE HFO
 go_upto_region 8 with (first | ((with_reducible show wpList _ _ _ (⟨_,Op.load 26 _,_,_,_,_⟩ :: _) _ _);refine wpList_load_has rfl 26 _ rfl rfl (d3) agg_Flat rfl ?_) | ((with_reducible show wpList _ _ _ (⟨_,Op.load 44 _,_,_,_,_⟩ :: _) _ _);refine wpList_load_has rfl 44 _ rfl rfl (e3) agg_E rfl ?_) | (go_at_call 25;refine HNE1.out.mono ?_;rintro r w4 ⟨u4,rfl,hr4,hx4⟩))
 have HD4:=Lib.hid (HD3.out.ext hx4)
 have HE4:=Lib.hid (HE3.out.ext hx4)
 have HX4:=Lib.hid (HX3.out.trans hx4)
 have H34:=Lib.hid hx4
 obtain ⟨au,cu,rfl,-⟩:=hr4.open
 have d4:=HD4.out.has
 have e4:=HE4.out.has
 clear hx4 hr4 d3 e3 HD3 HE3 HX3 HNE1
 go_upto_region 9 with (first | ((with_reducible show wpList _ _ _ (⟨_,Op.load 26 _,_,_,_,_⟩ :: _) _ _);refine wpList_load_has rfl 26 _ rfl rfl (d4) agg_Flat rfl ?_) | ((with_reducible show wpList _ _ _ (⟨_,Op.load 44 _,_,_,_,_⟩ :: _) _ _);refine wpList_load_has rfl 44 _ rfl rfl (e4) agg_E rfl ?_) | (go_at_call 23;refine (HFO1.out w4 H34.out).mono ?_;rintro r w5 ⟨c5,rfl,hfv,hx5⟩;have HV5:=Lib.hid hfv.here;clear hfv) | ((with_reducible show wpList _ _ _ (⟨_,Op.store 44 _ _,_,_,_,_⟩ :: _) _ _);refine wpList_store_new rfl 44 _ _ rfl rfl (by first | rfl | simp) rfl agg_E (HV5.out.len8) rfl (HV5.out.one) ?_))
 have hx6:=ext_alloc w5 (.cells c5.toArray 44)
 have hP:=Blk.new w5 c5.toArray 44
 obtain ⟨P,hPP⟩ : ∃ P,w5.heap.size=P:=⟨_,rfl⟩
 rw [hPP] at hP ⊢
 clear hPP
 generalize w5.alloc _=w6 at *
 have HX6:=Lib.hid (HX4.out.trans (hx5.trans hx6))
 obtain ⟨s5,hc5,-⟩:=HV5.out
 subst hc5
 have HE6:=Lib.hid (HE4.out.ext (hx5.trans hx6))
 have g0:=hP.has 0 _ rfl
 have g2:=hP.has 2 _ rfl
 have ge:=HE6.out.has 1 _ rfl
 clear hx5 hx6 d4 e4 HD4 HE4 HX4 HFO1 HV5 hP H34
 obtain ⟨n,hn⟩ : ∃ n,l.length=n:=⟨_,rfl⟩
 rw [hn]
 by_cases hl0:n=0
 ·subst hl0
  obtain ⟨m1,m2⟩:=L6.out (List.eq_nil_of_length_eq_zero hn)
  have b1:(x.op == 1)=true:=by rw [beq_iff_eq];exact m1
  have b2:(x.v == (a:Int))=true:=by rw [beq_iff_eq];exact m2
  clear m1 m2 L6 hn
  go_wp2_with (first | (go_at_call 31;refine (HMK.out _).mono ?_;rintro r w7 ⟨rfl,rfl⟩))
  go_ret
  exact ⟨rfl,HX6.out⟩
 ·have b1:decide (0 < n)=true:=decide_eq_true (by omega)
  clear hl0 L6 hn
  go_wp2_with (first | (go_at_call 31;refine (HMK.out _).mono ?_;rintro r w7 ⟨rfl,rfl⟩))
  go_ret
  exact ⟨rfl,HX6.out⟩
end Go.Proofs.YtemabheegnngdaaGreat
