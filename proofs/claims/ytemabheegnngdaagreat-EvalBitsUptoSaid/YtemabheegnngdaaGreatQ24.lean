/- Laws and walks that a claim of this seat leans on: Rel, LiveE2, RefX. -/
import Derived.Test.YtemabheegnngdaaGreatQ01
import Derived.Test.YtemabheegnngdaaGreatQ23
import Derived.Test.YtemabheegnngdaaGreatQ18
import Derived.Test.YtemabheegnngdaaGreatQ00
set_option linter.all false
namespace Go.Proofs.YtemabheegnngdaaGreat
open Go.RowKit
def Rel1 (fr:Nat→(Nat→Value)→Act) (I:Nat→World→Prop):Act→World→Prop:=fun a w=>∃ k f,a=fr k f∧I k w
theorem Rel1.intro {fr:Nat→(Nat→Value)→Act} {I:Nat→World→Prop} {a:Act} {w:World} (k:Nat) (h:a=fr k (fun i=>a.tmps.getD i undef)) (hI:I k w):Rel1 fr I a w:=⟨k,_,h,hI⟩
theorem forget {P:Program} {C:Code} {Q:Exit→Act→World→Prop} {a:Act} {w:World} (fr:(Nat→Value)→Act) (h:a=fr (fun i=>a.tmps.getD i undef)) (k:∀ f,C.wp P Q (fr f) w):C.wp P Q a w:=by
 rw [h];exact k _
open Go.RowKit
set_option maxRecDepth 100000 in
set_option maxHeartbeats 8000000 in
theorem live10_calls (w:World):Calls Tryz.prog 17 #[] w fun r w'=>r=.returned (.bool true)∧Ext w w':=by
 go_enter Tryz.func17,Tryz.ntmps17
 go_wp2_with ((with_reducible show wpList _ _ _ (⟨_,Op.buildSlice _ _ _,_,_,_,_⟩ :: _) _ _);refine Hid.out ?_)
 refine Lib.hid ?_
 have hx1:=ext_alloc w (.cells evS.toArray 36)
 have hb1:=Blk.new w evS.toArray 36
 refine wpList_bs1 rfl _ _ rfl appSignal rfl (cs:=evS) rfl rfl (by decide) ?_
 generalize w.alloc _=w1 at *
 obtain ⟨N,hN⟩ : ∃ N,w.heap.size=N:=⟨_,rfl⟩
 rw [hN] at hb1 ⊢
 clear hN
 have hx2:=ext_alloc w1 (.cells [Value.slice (some ⟨N,0,none⟩) 1 1,.slice none 0 0,.slice none 0 0].toArray 26)
 have hb2:=Blk.new w1 [Value.slice (some ⟨N,0,none⟩) 1 1,.slice none 0 0,.slice none 0 0].toArray 26
 go_upto_region 2 with (((with_reducible show wpList _ _ _ (⟨_,Op.store 26 _ _,_,_,_,_⟩ :: _) _ _);refine wpList_store_new rfl 26 _ _ rfl rfl (by first | rfl | simp) rfl agg_Flat (rfl) rfl (by simp [Value.oneCell']) ?_))
 generalize w1.alloc _=w2 at *
 obtain ⟨B1,hB1⟩ : ∃ B1,w1.heap.size=B1:=⟨_,rfl⟩
 rw [hB1] at hb2 ⊢
 clear hB1
 have HB1:=Lib.hid hb2
 have HBS:=Lib.hid (hb1.ext hx2)
 have HX:=Lib.hid (hx1.trans hx2)
 clear hb1 hb2 hx1 hx2
 go_upto_region 3 with (first | (go_at_call 37;refine (sig_calls 3 0 3 1 _).mono ?_;rintro r waX ⟨rfl,hxaX⟩) | (go_at_call 36;refine (num_calls 3 5 _).mono ?_;rintro r wbX ⟨rfl,hxbX⟩) | (go_at_call 33;refine (bin_calls 3 14 (sigX 3 0 3 1) (numE 3 5) _ _ wbX ⟨_,rfl,Sl.nil _ _⟩ ⟨_,rfl,Sl.nil _ _⟩).mono ?_;rintro r wcX ⟨csX,rfl,hvX,hxcX⟩;have HVX:=Lib.hid hvX;clear hvX) | ((with_reducible show wpList _ _ _ (⟨_,Op.store 44 _ _,_,_,_,_⟩ :: _) _ _);refine wpList_store_new rfl 44 _ _ rfl rfl (by first | rfl | simp) rfl agg_E (HVX.out.len8) rfl (HVX.out.one) ?_))
 have hxdX:=ext_alloc wcX (.cells csX.toArray 44)
 have hbdX:=Blk.new wcX csX.toArray 44
 generalize wcX.alloc _=wdX at *
 obtain ⟨BX,hBX⟩ : ∃ B,wcX.heap.size=B:=⟨_,rfl⟩
 rw [hBX] at hbdX ⊢
 clear hBX
 replace HB1:=Lib.hid (HB1.out.ext (((hxaX.trans hxbX).trans hxcX).trans hxdX))
 replace HBS:=Lib.hid (HBS.out.ext (((hxaX.trans hxbX).trans hxcX).trans hxdX))
 replace HX:=Lib.hid (HX.out.trans (((hxaX.trans hxbX).trans hxcX).trans hxdX))
 have HBX:=Lib.hid hbdX
 have HLX:=Lib.hid HVX.out.len8
 replace HVX:=Lib.hid (HVX.out.ext hxdX)
 clear hbdX hxaX hxbX hxcX hxdX
 go_wp2_with (first | (go_at_call 36;refine (num_calls 2 3 _).mono ?_;rintro r waY ⟨rfl,hxaY⟩) | ((with_reducible show wpList _ _ _ (⟨_,Op.buildSlice _ _ _,_,_,_,_⟩ :: _) _ _);refine Hid.out ?_))
 refine Lib.hid ?_
 have hxbY:=ext_alloc waY (.cells ((numE 2 3).cells (.slice none 0 0)).toArray 44)
 have hbbY:=Blk.new waY ((numE 2 3).cells (.slice none 0 0)).toArray 44
 refine wpList_bs1 rfl _ _ rfl appE rfl (cs:=(numE 2 3).cells (.slice none 0 0)) rfl rfl (by decide) ?_
 generalize waY.alloc _=wbY at *
 obtain ⟨G,hG⟩ : ∃ B,waY.heap.size=B:=⟨_,rfl⟩
 rw [hG] at hbbY ⊢
 clear hG
 have hveY:VE wbY [Value.int .i64 3,.int .i64 1,.int .u64 0,.int .i64 0,.int .i64 0,.int .i64 0,.int .i64 0,.slice (some ⟨G,0,none⟩) 1 1] evY:=⟨_,rfl,⟨G,0,⟨_,1,rfl,Nat.le_refl _,by simp [maxLen],fun _=>rfl⟩,⟨EAt_iff.2 ⟨_,hbbY.has,Sl.nil _ _⟩,trivial⟩⟩⟩
 have HVY:=Lib.hid hveY
 clear hveY hbbY
 have hxdY:=ext_alloc wbY (.cells [Value.int .i64 3,.int .i64 1,.int .u64 0,.int .i64 0,.int .i64 0,.int .i64 0,.int .i64 0,.slice (some ⟨G,0,none⟩) 1 1].toArray 44)
 have hbdY:=Blk.new wbY [Value.int .i64 3,.int .i64 1,.int .u64 0,.int .i64 0,.int .i64 0,.int .i64 0,.int .i64 0,.slice (some ⟨G,0,none⟩) 1 1].toArray 44
 go_upto_region 4 with (((with_reducible show wpList _ _ _ (⟨_,Op.store 44 _ _,_,_,_,_⟩ :: _) _ _);refine wpList_store_new rfl 44 _ _ rfl rfl (by first | rfl | simp) rfl agg_E (rfl) rfl (by simp [Value.oneCell',one_int]) ?_))
 generalize wbY.alloc _=wdY at *
 obtain ⟨BY,hBY⟩ : ∃ B,wbY.heap.size=B:=⟨_,rfl⟩
 rw [hBY] at hbdY ⊢
 clear hBY
 obtain ⟨csY,hcsY⟩ : ∃ c,[Value.int .i64 3,.int .i64 1,.int .u64 0,.int .i64 0,.int .i64 0,.int .i64 0,.int .i64 0,.slice (some ⟨G,0,none⟩) 1 1]=c:=⟨_,rfl⟩
 rw [hcsY] at hbdY HVY
 clear hcsY
 replace HB1:=Lib.hid (HB1.out.ext ((hxaY.trans hxbY).trans hxdY))
 replace HBS:=Lib.hid (HBS.out.ext ((hxaY.trans hxbY).trans hxdY))
 replace HBX:=Lib.hid (HBX.out.ext ((hxaY.trans hxbY).trans hxdY))
 replace HVX:=Lib.hid (HVX.out.ext ((hxaY.trans hxbY).trans hxdY))
 replace HX:=Lib.hid (HX.out.trans ((hxaY.trans hxbY).trans hxdY))
 have HBY:=Lib.hid hbdY
 have HLY:=Lib.hid HVY.out.len8
 replace HVY:=Lib.hid (HVY.out.ext hxdY)
 clear hbdY hxaY hxbY hxdY
 go_upto_region 5 with (first | (go_at_call 36;refine (num_calls 2 1 _).mono ?_;rintro r waZ ⟨rfl,hxaZ⟩) | (go_at_call 36;refine (num_calls 2 2 _).mono ?_;rintro r wbZ ⟨rfl,hxbZ⟩) | (go_at_call 33;refine (bin_calls 2 14 (numE 2 1) (numE 2 2) _ _ wbZ ⟨_,rfl,Sl.nil _ _⟩ ⟨_,rfl,Sl.nil _ _⟩).mono ?_;rintro r wcZ ⟨csZ,rfl,hvZ,hxcZ⟩;have HVZ:=Lib.hid hvZ;clear hvZ) | ((with_reducible show wpList _ _ _ (⟨_,Op.store 44 _ _,_,_,_,_⟩ :: _) _ _);refine wpList_store_new rfl 44 _ _ rfl rfl (by first | rfl | simp) rfl agg_E (HVZ.out.len8) rfl (HVZ.out.one) ?_))
 have hxdZ:=ext_alloc wcZ (.cells csZ.toArray 44)
 have hbdZ:=Blk.new wcZ csZ.toArray 44
 generalize wcZ.alloc _=wdZ at *
 obtain ⟨BZ,hBZ⟩ : ∃ B,wcZ.heap.size=B:=⟨_,rfl⟩
 rw [hBZ] at hbdZ ⊢
 clear hBZ
 replace HB1:=Lib.hid (HB1.out.ext (((hxaZ.trans hxbZ).trans hxcZ).trans hxdZ))
 replace HBS:=Lib.hid (HBS.out.ext (((hxaZ.trans hxbZ).trans hxcZ).trans hxdZ))
 replace HBX:=Lib.hid (HBX.out.ext (((hxaZ.trans hxbZ).trans hxcZ).trans hxdZ))
 replace HBY:=Lib.hid (HBY.out.ext (((hxaZ.trans hxbZ).trans hxcZ).trans hxdZ))
 replace HVX:=Lib.hid (HVX.out.ext (((hxaZ.trans hxbZ).trans hxcZ).trans hxdZ))
 replace HVY:=Lib.hid (HVY.out.ext (((hxaZ.trans hxbZ).trans hxcZ).trans hxdZ))
 replace HX:=Lib.hid (HX.out.trans (((hxaZ.trans hxbZ).trans hxcZ).trans hxdZ))
 have HBZ:=Lib.hid hbdZ
 have HLZ:=Lib.hid HVZ.out.len8
 replace HVZ:=Lib.hid (HVZ.out.ext hxdZ)
 clear hbdZ hxaZ hxbZ hxcZ hxdZ
 have d0:=HB1.out.has
 go_wp2_with (first | ((with_reducible show wpList _ _ _ (⟨_,Op.load 26 _,_,_,_,_⟩ :: _) _ _);refine wpList_load_has rfl 26 _ rfl rfl (d0) agg_Flat rfl ?_) | ((with_reducible show wpList _ _ _ (⟨_,Op.buildSlice _ _ _,_,_,_,_⟩ :: _) _ _);refine Hid.out ?_))
 refine Lib.hid ?_
 refine wpList_bs1 rfl _ _ rfl appU64 rfl (cs:=[.int .u64 9]) rfl rfl (by decide) ?_
 clear d0
 have hxu1:=ext_alloc wdZ (.cells [Value.int .u64 9].toArray 34)
 have hbu1:=Blk.new wdZ [Value.int .u64 9].toArray 34
 generalize wdZ.alloc _=wu1 at *
 obtain ⟨U1,hU1⟩ : ∃ B,wdZ.heap.size=B:=⟨_,rfl⟩
 rw [hU1] at hbu1 ⊢
 clear hU1
 replace HB1:=Lib.hid (HB1.out.ext hxu1)
 replace HBS:=Lib.hid (HBS.out.ext hxu1)
 replace HBX:=Lib.hid (HBX.out.ext hxu1)
 replace HBY:=Lib.hid (HBY.out.ext hxu1)
 replace HBZ:=Lib.hid (HBZ.out.ext hxu1)
 replace HVX:=Lib.hid (HVX.out.ext hxu1)
 replace HVY:=Lib.hid (HVY.out.ext hxu1)
 replace HVZ:=Lib.hid (HVZ.out.ext hxu1)
 replace HX:=Lib.hid (HX.out.trans hxu1)
 have hus1:Us wu1 (.slice (some ⟨U1,0,none⟩) 1 1) [9]:=⟨U1,0,⟨_,1,rfl,Nat.le_refl _,by simp [maxLen],fun _=>rfl⟩,⟨hbu1.has,trivial⟩⟩
 have hev1:=Eval_calls evD _ [9] _ evX csX wu1 (evD_at HBS.out) evD_ok hus1 (by intro x hx;simp at hx;subst hx;decide) HVX.out evX_wf (by decide +kernel)
 rw [ev_1] at hev1
 have HEV1:=Lib.hid hev1
 clear hev1 hus1 hbu1 hxu1
 have e0:=HBX.out.has
 have e8:=HLX.out
 go_upto_region 6 with (first | ((with_reducible show wpList _ _ _ (⟨_,Op.load 44 _,_,_,_,_⟩ :: _) _ _);refine wpList_load_has rfl 44 _ rfl rfl (e0) agg_E e8 ?_) | (go_at_call 19;refine HEV1.out.mono ?_;rintro r wv1 ⟨rfl,hxv1⟩))
 clear e0 e8
 clear HEV1
 replace HB1:=Lib.hid (HB1.out.ext hxv1)
 replace HBS:=Lib.hid (HBS.out.ext hxv1)
 replace HBX:=Lib.hid (HBX.out.ext hxv1)
 replace HBY:=Lib.hid (HBY.out.ext hxv1)
 replace HBZ:=Lib.hid (HBZ.out.ext hxv1)
 replace HVX:=Lib.hid (HVX.out.ext hxv1)
 replace HVY:=Lib.hid (HVY.out.ext hxv1)
 replace HVZ:=Lib.hid (HVZ.out.ext hxv1)
 replace HX:=Lib.hid (HX.out.trans hxv1)
 clear hxv1
 have d0:=HB1.out.has
 go_wp2_with (first | ((with_reducible show wpList _ _ _ (⟨_,Op.load 26 _,_,_,_,_⟩ :: _) _ _);refine wpList_load_has rfl 26 _ rfl rfl (d0) agg_Flat rfl ?_) | ((with_reducible show wpList _ _ _ (⟨_,Op.buildSlice _ _ _,_,_,_,_⟩ :: _) _ _);refine Hid.out ?_))
 refine Lib.hid ?_
 refine wpList_bs1 rfl _ _ rfl appU64 rfl (cs:=[.int .u64 9]) rfl rfl (by decide) ?_
 clear d0
 have hxu2:=ext_alloc wv1 (.cells [Value.int .u64 9].toArray 34)
 have hbu2:=Blk.new wv1 [Value.int .u64 9].toArray 34
 generalize wv1.alloc _=wu2 at *
 obtain ⟨U2,hU2⟩ : ∃ B,wv1.heap.size=B:=⟨_,rfl⟩
 rw [hU2] at hbu2 ⊢
 clear hU2
 replace HB1:=Lib.hid (HB1.out.ext hxu2)
 replace HBS:=Lib.hid (HBS.out.ext hxu2)
 replace HBX:=Lib.hid (HBX.out.ext hxu2)
 replace HBY:=Lib.hid (HBY.out.ext hxu2)
 replace HBZ:=Lib.hid (HBZ.out.ext hxu2)
 replace HVX:=Lib.hid (HVX.out.ext hxu2)
 replace HVY:=Lib.hid (HVY.out.ext hxu2)
 replace HVZ:=Lib.hid (HVZ.out.ext hxu2)
 replace HX:=Lib.hid (HX.out.trans hxu2)
 have hus2:Us wu2 (.slice (some ⟨U2,0,none⟩) 1 1) [9]:=⟨U2,0,⟨_,1,rfl,Nat.le_refl _,by simp [maxLen],fun _=>rfl⟩,⟨hbu2.has,trivial⟩⟩
 have hev2:=Eval_calls evD _ [9] _ evY csY wu2 (evD_at HBS.out) evD_ok hus2 (by intro x hx;simp at hx;subst hx;decide) HVY.out evY_wf (by decide +kernel)
 rw [ev_2] at hev2
 have HEV2:=Lib.hid hev2
 clear hev2 hus2 hbu2 hxu2
 have e0:=HBY.out.has
 have e8:=HLY.out
 go_upto_region 7 with (first | ((with_reducible show wpList _ _ _ (⟨_,Op.load 44 _,_,_,_,_⟩ :: _) _ _);refine wpList_load_has rfl 44 _ rfl rfl (e0) agg_E e8 ?_) | (go_at_call 19;refine HEV2.out.mono ?_;rintro r wv2 ⟨rfl,hxv2⟩))
 clear e0 e8
 clear HEV2
 replace HB1:=Lib.hid (HB1.out.ext hxv2)
 replace HBS:=Lib.hid (HBS.out.ext hxv2)
 replace HBX:=Lib.hid (HBX.out.ext hxv2)
 replace HBY:=Lib.hid (HBY.out.ext hxv2)
 replace HBZ:=Lib.hid (HBZ.out.ext hxv2)
 replace HVX:=Lib.hid (HVX.out.ext hxv2)
 replace HVY:=Lib.hid (HVY.out.ext hxv2)
 replace HVZ:=Lib.hid (HVZ.out.ext hxv2)
 replace HX:=Lib.hid (HX.out.trans hxv2)
 clear hxv2
 have d0:=HB1.out.has
 go_wp2_with (first | ((with_reducible show wpList _ _ _ (⟨_,Op.load 26 _,_,_,_,_⟩ :: _) _ _);refine wpList_load_has rfl 26 _ rfl rfl (d0) agg_Flat rfl ?_) | ((with_reducible show wpList _ _ _ (⟨_,Op.buildSlice _ _ _,_,_,_,_⟩ :: _) _ _);refine Hid.out ?_))
 refine Lib.hid ?_
 refine wpList_bs1 rfl _ _ rfl appU64 rfl (cs:=[.int .u64 16]) rfl rfl (by decide) ?_
 clear d0
 have hxu3:=ext_alloc wv2 (.cells [Value.int .u64 16].toArray 34)
 have hbu3:=Blk.new wv2 [Value.int .u64 16].toArray 34
 generalize wv2.alloc _=wu3 at *
 obtain ⟨U3,hU3⟩ : ∃ B,wv2.heap.size=B:=⟨_,rfl⟩
 rw [hU3] at hbu3 ⊢
 clear hU3
 replace HB1:=Lib.hid (HB1.out.ext hxu3)
 replace HBS:=Lib.hid (HBS.out.ext hxu3)
 replace HBX:=Lib.hid (HBX.out.ext hxu3)
 replace HBY:=Lib.hid (HBY.out.ext hxu3)
 replace HBZ:=Lib.hid (HBZ.out.ext hxu3)
 replace HVX:=Lib.hid (HVX.out.ext hxu3)
 replace HVY:=Lib.hid (HVY.out.ext hxu3)
 replace HVZ:=Lib.hid (HVZ.out.ext hxu3)
 replace HX:=Lib.hid (HX.out.trans hxu3)
 have hus3:Us wu3 (.slice (some ⟨U3,0,none⟩) 1 1) [16]:=⟨U3,0,⟨_,1,rfl,Nat.le_refl _,by simp [maxLen],fun _=>rfl⟩,⟨hbu3.has,trivial⟩⟩
 have hev3:=Eval_calls evD _ [16] _ evX csX wu3 (evD_at HBS.out) evD_ok hus3 (by intro x hx;simp at hx;subst hx;decide) HVX.out evX_wf (by decide +kernel)
 rw [ev_3] at hev3
 have HEV3:=Lib.hid hev3
 clear hev3 hus3 hbu3 hxu3
 have e0:=HBX.out.has
 have e8:=HLX.out
 go_upto_region 8 with (first | ((with_reducible show wpList _ _ _ (⟨_,Op.load 44 _,_,_,_,_⟩ :: _) _ _);refine wpList_load_has rfl 44 _ rfl rfl (e0) agg_E e8 ?_) | (go_at_call 19;refine HEV3.out.mono ?_;rintro r wv3 ⟨rfl,hxv3⟩))
 clear e0 e8
 clear HEV3
 replace HB1:=Lib.hid (HB1.out.ext hxv3)
 replace HBS:=Lib.hid (HBS.out.ext hxv3)
 replace HBX:=Lib.hid (HBX.out.ext hxv3)
 replace HBY:=Lib.hid (HBY.out.ext hxv3)
 replace HBZ:=Lib.hid (HBZ.out.ext hxv3)
 replace HVX:=Lib.hid (HVX.out.ext hxv3)
 replace HVY:=Lib.hid (HVY.out.ext hxv3)
 replace HVZ:=Lib.hid (HVZ.out.ext hxv3)
 replace HX:=Lib.hid (HX.out.trans hxv3)
 clear hxv3
 have d0:=HB1.out.has
 have e0:=HBY.out.has
 have e8:=HLY.out
 have hf:=Fold_calls evD _ evY csY wv3 (evD_at HBS.out) evD_ok HVY.out evY_wf (by decide +kernel)
 rw [ev_f1.1] at hf
 have HF:=Lib.hid hf
 clear hf
 go_upto_region 9 with (first | ((with_reducible show wpList _ _ _ (⟨_,Op.load 26 _,_,_,_,_⟩ :: _) _ _);refine wpList_load_has rfl 26 _ rfl rfl (d0) agg_Flat rfl ?_) | ((with_reducible show wpList _ _ _ (⟨_,Op.load 44 _,_,_,_,_⟩ :: _) _ _);refine wpList_load_has rfl 44 _ rfl rfl (e0) agg_E e8 ?_) | (go_at_call 23;refine HF.out.mono ?_;rintro r wfY ⟨cfY,rfl,hvfY,hxfY⟩;have HFY:=Lib.hid hvfY.here;clear hvfY) | ((with_reducible show wpList _ _ _ (⟨_,Op.store 44 _ _,_,_,_,_⟩ :: _) _ _);refine wpList_store_new rfl 44 _ _ rfl rfl (by first | rfl | simp) rfl agg_E (HFY.out.len8) rfl (HFY.out.one) ?_))
 clear d0 e0 e8 HF
 have hxgY:=ext_alloc wfY (.cells cfY.toArray 44)
 have hbgY:=Blk.new wfY cfY.toArray 44
 generalize wfY.alloc _=wgY at *
 obtain ⟨FY,hFY⟩ : ∃ B,wfY.heap.size=B:=⟨_,rfl⟩
 rw [hFY] at hbgY ⊢
 clear hFY
 replace HB1:=Lib.hid (HB1.out.ext (hxfY.trans hxgY))
 replace HBS:=Lib.hid (HBS.out.ext (hxfY.trans hxgY))
 replace HBX:=Lib.hid (HBX.out.ext (hxfY.trans hxgY))
 replace HBY:=Lib.hid (HBY.out.ext (hxfY.trans hxgY))
 replace HBZ:=Lib.hid (HBZ.out.ext (hxfY.trans hxgY))
 replace HVX:=Lib.hid (HVX.out.ext (hxfY.trans hxgY))
 replace HVY:=Lib.hid (HVY.out.ext (hxfY.trans hxgY))
 replace HVZ:=Lib.hid (HVZ.out.ext (hxfY.trans hxgY))
 replace HX:=Lib.hid (HX.out.trans (hxfY.trans hxgY))
 have HGY:=Lib.hid hbgY
 have HMY:=Lib.hid HFY.out.len8
 replace HFY:=Lib.hid (HFY.out.ext hxgY)
 clear hbgY hxfY hxgY
 have d0:=HB1.out.has
 have e0:=HBZ.out.has
 have e8:=HLZ.out
 have hf:=Fold_calls evD _ evZ csZ wgY (evD_at HBS.out) evD_ok HVZ.out evZ_wf (by decide +kernel)
 rw [ev_f2.1] at hf
 have HF:=Lib.hid hf
 clear hf
 go_upto_region 10 with (first | ((with_reducible show wpList _ _ _ (⟨_,Op.load 26 _,_,_,_,_⟩ :: _) _ _);refine wpList_load_has rfl 26 _ rfl rfl (d0) agg_Flat rfl ?_) | ((with_reducible show wpList _ _ _ (⟨_,Op.load 44 _,_,_,_,_⟩ :: _) _ _);refine wpList_load_has rfl 44 _ rfl rfl (e0) agg_E e8 ?_) | (go_at_call 23;refine HF.out.mono ?_;rintro r wfZ ⟨cfZ,rfl,hvfZ,hxfZ⟩;have HFZ:=Lib.hid hvfZ.here;clear hvfZ) | ((with_reducible show wpList _ _ _ (⟨_,Op.store 44 _ _,_,_,_,_⟩ :: _) _ _);refine wpList_store_new rfl 44 _ _ rfl rfl (by first | rfl | simp) rfl agg_E (HFZ.out.len8) rfl (HFZ.out.one) ?_))
 clear d0 e0 e8 HF
 have hxgZ:=ext_alloc wfZ (.cells cfZ.toArray 44)
 have hbgZ:=Blk.new wfZ cfZ.toArray 44
 generalize wfZ.alloc _=wgZ at *
 obtain ⟨FZ,hFZ⟩ : ∃ B,wfZ.heap.size=B:=⟨_,rfl⟩
 rw [hFZ] at hbgZ ⊢
 clear hFZ
 replace HB1:=Lib.hid (HB1.out.ext (hxfZ.trans hxgZ))
 replace HBS:=Lib.hid (HBS.out.ext (hxfZ.trans hxgZ))
 replace HBX:=Lib.hid (HBX.out.ext (hxfZ.trans hxgZ))
 replace HBY:=Lib.hid (HBY.out.ext (hxfZ.trans hxgZ))
 replace HBZ:=Lib.hid (HBZ.out.ext (hxfZ.trans hxgZ))
 replace HGY:=Lib.hid (HGY.out.ext (hxfZ.trans hxgZ))
 replace HVX:=Lib.hid (HVX.out.ext (hxfZ.trans hxgZ))
 replace HVY:=Lib.hid (HVY.out.ext (hxfZ.trans hxgZ))
 replace HVZ:=Lib.hid (HVZ.out.ext (hxfZ.trans hxgZ))
 replace HFY:=Lib.hid (HFY.out.ext (hxfZ.trans hxgZ))
 replace HX:=Lib.hid (HX.out.trans (hxfZ.trans hxgZ))
 have HGZ:=Lib.hid hbgZ
 have HMZ:=Lib.hid HFZ.out.len8
 replace HFZ:=Lib.hid (HFZ.out.ext hxgZ)
 clear hbgZ hxfZ hxgZ
 have d0:=HB1.out.has
 have e0:=HBX.out.has
 have e8:=HLX.out
 have hf:=Needs_calls evD _ evX csX wgZ (evD_at HBS.out) evD_ok HVX.out evX_wf (by decide +kernel)
 rw [ev_n1] at hf
 have HF:=Lib.hid hf
 clear hf
 go_upto_region 11 with (first | ((with_reducible show wpList _ _ _ (⟨_,Op.load 26 _,_,_,_,_⟩ :: _) _ _);refine wpList_load_has rfl 26 _ rfl rfl (d0) agg_Flat rfl ?_) | ((with_reducible show wpList _ _ _ (⟨_,Op.load 44 _,_,_,_,_⟩ :: _) _ _);refine wpList_load_has rfl 44 _ rfl rfl (e0) agg_E e8 ?_) | (go_at_call 25;refine HF.out.mono ?_;rintro r wnX ⟨unX,rfl,hrnX,hxnX⟩))
 clear d0 e0 e8 HF
 replace HB1:=Lib.hid (HB1.out.ext hxnX)
 replace HBS:=Lib.hid (HBS.out.ext hxnX)
 replace HBX:=Lib.hid (HBX.out.ext hxnX)
 replace HBY:=Lib.hid (HBY.out.ext hxnX)
 replace HBZ:=Lib.hid (HBZ.out.ext hxnX)
 replace HGY:=Lib.hid (HGY.out.ext hxnX)
 replace HGZ:=Lib.hid (HGZ.out.ext hxnX)
 replace HVX:=Lib.hid (HVX.out.ext hxnX)
 replace HVY:=Lib.hid (HVY.out.ext hxnX)
 replace HVZ:=Lib.hid (HVZ.out.ext hxnX)
 replace HFY:=Lib.hid (HFY.out.ext hxnX)
 replace HFZ:=Lib.hid (HFZ.out.ext hxnX)
 replace HX:=Lib.hid (HX.out.trans hxnX)
 have HNX:=Lib.hid hrnX
 clear hrnX hxnX
 have d0:=HB1.out.has
 have e0:=HBY.out.has
 have e8:=HLY.out
 have hf:=Needs_calls evD _ evY csY wnX (evD_at HBS.out) evD_ok HVY.out evY_wf (by decide +kernel)
 rw [ev_n2] at hf
 have HF:=Lib.hid hf
 clear hf
 go_upto_region 12 with (first | ((with_reducible show wpList _ _ _ (⟨_,Op.load 26 _,_,_,_,_⟩ :: _) _ _);refine wpList_load_has rfl 26 _ rfl rfl (d0) agg_Flat rfl ?_) | ((with_reducible show wpList _ _ _ (⟨_,Op.load 44 _,_,_,_,_⟩ :: _) _ _);refine wpList_load_has rfl 44 _ rfl rfl (e0) agg_E e8 ?_) | (go_at_call 25;refine HF.out.mono ?_;rintro r wnY ⟨unY,rfl,hrnY,hxnY⟩))
 clear d0 e0 e8 HF
 replace HB1:=Lib.hid (HB1.out.ext hxnY)
 replace HBS:=Lib.hid (HBS.out.ext hxnY)
 replace HBX:=Lib.hid (HBX.out.ext hxnY)
 replace HBY:=Lib.hid (HBY.out.ext hxnY)
 replace HBZ:=Lib.hid (HBZ.out.ext hxnY)
 replace HGY:=Lib.hid (HGY.out.ext hxnY)
 replace HGZ:=Lib.hid (HGZ.out.ext hxnY)
 replace HVX:=Lib.hid (HVX.out.ext hxnY)
 replace HVY:=Lib.hid (HVY.out.ext hxnY)
 replace HVZ:=Lib.hid (HVZ.out.ext hxnY)
 replace HFY:=Lib.hid (HFY.out.ext hxnY)
 replace HFZ:=Lib.hid (HFZ.out.ext hxnY)
 replace HNX:=Lib.hid (HNX.out.ext hxnY)
 replace HX:=Lib.hid (HX.out.trans hxnY)
 have HNY:=Lib.hid hrnY
 clear hrnY hxnY
 obtain ⟨gX,cX,rfl,-,hcX⟩:=HNX.out.open1 (by decide)
 obtain ⟨gY,cY,rfl,-,hcY⟩:=HNY.out.open1 (by decide)
 have zx0:=hcX 0 1 rfl
 have zx2:=hcX 2 3 rfl
 have ZX0:=Lib.hid zx0
 have ZX2:=Lib.hid zx2
 clear hcX hcY zx0 zx2 HNX HNY HVX HVY HVZ HBX HBY HBZ HLX HLY HLZ
 refine forget (fun f=>⟨#[.bool false,.pointer (some ⟨B1,0,Option.none⟩),f 2,f 3,f 4,.int .u64 1,.int .i64 0,.int .u64 1,.int .i64 0,f 9,.int .i64 1,.pointer (some ⟨FY,0,Option.none⟩),.int .i64 0,.pointer (some ⟨FZ,0,Option.none⟩),.int .i64 0,.slice (some ⟨gX,0,Option.none⟩) 3 cX,.int .i64 0,.slice (some ⟨gY,0,Option.none⟩) 4 cY,.int .i64 0,f 19,f 20,f 21,f 22,f 23,f 24,f 25,f 26,f 27,f 28,f 29,f 30,f 31,f 32,f 33,f 34,f 35,f 36,f 37,f 38,f 39,f 40,f 41,f 42,f 43,f 44,f 45,f 46,f 47,f 48,f 49,f 50,f 51,f 52,f 53,f 54,f 55,f 56,f 57,f 58,f 59,f 60,f 61,f 62,f 63,f 64,f 65,f 66,f 67,f 68,f 69,f 70,f 71,f 72,f 73,f 74,f 75,f 76,f 77,f 78,f 79,f 80,f 81,f 82,f 83,f 84,f 85,f 86,f 87,f 88,f 89,f 90,f 91,f 92,f 93,f 94,f 95,f 96,f 97,f 98,f 99,f 100,f 101,f 102,f 103,f 104,f 105,f 106,f 107,f 108,f 109,f 110,f 111,f 112,f 113,f 114,f 115,f 116,f 117,f 118,f 119,f 120,f 121,f 122,f 123,f 124,f 125,f 126,f 127,f 128,f 129,f 130,f 131,f 132,f 133,f 134,f 135,f 136,f 137,f 138,f 139,f 140,f 141,f 142,f 143,f 144,f 145,f 146,f 147,f 148,f 149,f 150,f 151,f 152],[]⟩) rfl ?_
 intro f
 simp only [List.append_eq,List.cons_append,List.nil_append]
 refine wp_region_held_drew (S:=fun W=>Ext wnY W) (by kernel_rfl) (Below.drew (Below.refl _ _)) (fun hHeld=>?_)
 try simp only [J]
 (refine Jt 0 (.int .u64 1) rfl (yif_load1 (by kernel_rfl) fun _ _=>rfl) hHeld ?_;try simp only [J])
 (refine Jt 1 (.bool true) rfl (yif_load1 (by kernel_rfl) (by intro W hW;clear hW;go_simp)) hHeld ?_;try simp only [J])
 (refine Jt 2 (.bool true) rfl (yif_load1 (by kernel_rfl) fun _ _=>rfl) hHeld ?_;try simp only [J])
 (refine Jt 3 (.int .i64 0) rfl (yif_load1 (by kernel_rfl) fun _ _=>rfl) hHeld ?_;try simp only [J])
 (refine Jt 4 (.bool true) rfl (yif_load1 (by kernel_rfl) (by intro W hW;clear hW;go_simp)) hHeld ?_;try simp only [J])
 (refine Jt 5 (.bool true) rfl (yif_load1 (by kernel_rfl) (by intro W hW;clear hW;go_simp)) hHeld ?_;try simp only [J])
 (refine Jt 6 (.bool true) rfl (yif_load1 (by kernel_rfl) fun _ _=>rfl) hHeld ?_;try simp only [J])
 (refine Jt 7 (.int .u64 1) rfl (yif_load1 (by kernel_rfl) fun _ _=>rfl) hHeld ?_;try simp only [J])
 (refine Jt 8 (.bool true) rfl (yif_load1 (by kernel_rfl) (by intro W hW;clear hW;go_simp)) hHeld ?_;try simp only [J])
 (refine Jt 9 (.bool true) rfl (yif_load1 (by kernel_rfl) (by intro W hW;clear hW;go_simp)) hHeld ?_;try simp only [J])
 (refine Jt 10 (.bool true) rfl (yif_load1 (by kernel_rfl) fun _ _=>rfl) hHeld ?_;try simp only [J])
 (refine Jt 11 (.int .i64 0) rfl (yif_load1 (by kernel_rfl) fun _ _=>rfl) hHeld ?_;try simp only [J])
 (refine Jt 12 (.bool true) rfl (yif_load1 (by kernel_rfl) (by intro W hW;clear hW;go_simp)) hHeld ?_;try simp only [J])
 (refine Jt 13 (.bool true) rfl (yif_load1 (by kernel_rfl) (by intro W hW;clear hW;go_simp)) hHeld ?_;try simp only [J])
 (refine Jt 14 (.bool true) rfl (yif_load1 (by kernel_rfl) fun _ _=>rfl) hHeld ?_;try simp only [J])
 (refine Jt 15 (.int .i64 1) rfl (yif_load1 (by kernel_rfl) fun _ _=>rfl) hHeld ?_;try simp only [J])
 (refine Jt 16 (.bool true) rfl (yif_load1 (by kernel_rfl) (by intro W hW;clear hW;go_simp)) hHeld ?_;try simp only [J])
 (refine Jt 17 (.bool true) rfl (yif_load1 (by kernel_rfl) (by intro W hW;clear hW;go_simp)) hHeld ?_;try simp only [J])
 (refine Jt 18 (.bool true) rfl (yif_load1 (by kernel_rfl) fun _ _=>rfl) hHeld ?_;try simp only [J])
 (refine Jt 19 (.agg cfY.toArray) rfl (yif_load (by kernel_rfl) 44 _ rfl rfl (fun W hW=>(HGY.out.ext hW).has) agg_E HMY.out) hHeld ?_;try simp only [J])
 (refine wpAnyH_ready (rs:=[20]) (by kernel_rfl) (by simp) ?_;refine AllReadyH.cons rfl (fun K hK=>?_) AllReadyH.nil)
 rw [if_pos (by kernel_rfl)]
 go_simp
 refine (sig_calls 1 0 3 3 _).mono ?_
 rintro r wA ⟨rfl,hxwA⟩
 refine hK.out _ _ (hHeld.trans hxwA) (fun hHeld=>?_)
 clear hK K
 try simp only [J]
 have hs1:=SameE_callsR _ _ _ _ wA (HFY.out.ext hHeld) (⟨_,rfl,Sl.nil _ _⟩ : VE wA ((sigX 1 0 3 3).cells (.slice none 0 0)) (sigX 1 0 3 3))
 rw [ev_f1.2] at hs1
 have HS1:=Lib.hid hs1
 clear hs1
 (refine wpAnyH_ready (rs:=[21]) (by kernel_rfl) (by simp) ?_;refine AllReadyH.cons rfl (fun K hK=>?_) AllReadyH.nil)
 rw [if_pos (by kernel_rfl)]
 go_simp
 refine (HS1.out).mono ?_
 rintro r wB ⟨rfl,hxwB⟩
 refine hK.out _ _ (hHeld.trans hxwB) (fun hHeld=>?_)
 clear hK K
 try simp only [J]
 (refine Jt 22 (.bool true) rfl (yif_load1 (by kernel_rfl) (by intro W hW;clear hW;go_simp)) hHeld ?_;try simp only [J])
 (refine Jt 23 (.bool true) rfl (yif_load1 (by kernel_rfl) fun _ _=>rfl) hHeld ?_;try simp only [J])
 (refine Jt 24 (.int .i64 0) rfl (yif_load1 (by kernel_rfl) fun _ _=>rfl) hHeld ?_;try simp only [J])
 (refine Jt 25 (.bool true) rfl (yif_load1 (by kernel_rfl) (by intro W hW;clear hW;go_simp)) hHeld ?_;try simp only [J])
 (refine Jt 26 (.bool true) rfl (yif_load1 (by kernel_rfl) (by intro W hW;clear hW;go_simp)) hHeld ?_;try simp only [J])
 (refine Jt 27 (.bool true) rfl (yif_load1 (by kernel_rfl) fun _ _=>rfl) hHeld ?_;try simp only [J])
 (refine Jt 28 (.agg cfZ.toArray) rfl (yif_load (by kernel_rfl) 44 _ rfl rfl (fun W hW=>(HGZ.out.ext hW).has) agg_E HMZ.out) hHeld ?_;try simp only [J])
 (refine wpAnyH_ready (rs:=[29]) (by kernel_rfl) (by simp) ?_;refine AllReadyH.cons rfl (fun K hK=>?_) AllReadyH.nil)
 rw [if_pos (by kernel_rfl)]
 go_simp
 refine (num_calls 2 3 _).mono ?_
 rintro r wC ⟨rfl,hxwC⟩
 refine hK.out _ _ (hHeld.trans hxwC) (fun hHeld=>?_)
 clear hK K
 try simp only [J]
 have hs2:=SameE_callsR _ _ _ _ wC (HFZ.out.ext hHeld) (⟨_,rfl,Sl.nil _ _⟩ : VE wC ((numE 2 3).cells (.slice none 0 0)) (numE 2 3))
 rw [ev_f2.2] at hs2
 have HS2:=Lib.hid hs2
 clear hs2
 (refine wpAnyH_ready (rs:=[30]) (by kernel_rfl) (by simp) ?_;refine AllReadyH.cons rfl (fun K hK=>?_) AllReadyH.nil)
 rw [if_pos (by kernel_rfl)]
 go_simp
 refine (HS2.out).mono ?_
 rintro r wD ⟨rfl,hxwD⟩
 refine hK.out _ _ (hHeld.trans hxwD) (fun hHeld=>?_)
 clear hK K
 try simp only [J]
 (refine Jt 31 (.bool true) rfl (yif_load1 (by kernel_rfl) (by intro W hW;clear hW;go_simp)) hHeld ?_;try simp only [J])
 (refine Jt 32 (.bool true) rfl (yif_load1 (by kernel_rfl) fun _ _=>rfl) hHeld ?_;try simp only [J])
 (refine Jt 33 (.int .i64 0) rfl (yif_load1 (by kernel_rfl) fun _ _=>rfl) hHeld ?_;try simp only [J])
 (refine Jt 34 (.bool true) rfl (yif_load1 (by kernel_rfl) (by intro W hW;clear hW;go_simp)) hHeld ?_;try simp only [J])
 (refine Jt 35 (.bool true) rfl (yif_load1 (by kernel_rfl) (by intro W hW;clear hW;go_simp)) hHeld ?_;try simp only [J])
 (refine Jt 36 (.bool true) rfl (yif_load1 (by kernel_rfl) fun _ _=>rfl) hHeld ?_;try simp only [J])
 (refine Jt 37 (.slice (some ⟨gX,0,Option.none⟩) 3 cX) rfl (yif_load1 (by kernel_rfl) fun _ _=>rfl) hHeld ?_;try simp only [J])
 (refine Jt 38 (.int .i64 3) rfl (yif_load1 (by kernel_rfl) (by intro W hW;clear hW;go_simp)) hHeld ?_;try simp only [J])
 (refine Jt 39 (.bool true) rfl (yif_load1 (by kernel_rfl) (by intro W hW;clear hW;go_simp)) hHeld ?_;try simp only [J])
 (refine Jt 40 (.bool true) rfl (yif_load1 (by kernel_rfl) (by intro W hW;clear hW;go_simp)) hHeld ?_;try simp only [J])
 (refine Jt 41 (.bool true) rfl (yif_load1 (by kernel_rfl) fun _ _=>rfl) hHeld ?_;try simp only [J])
 (refine Jt 42 (.slice (some ⟨gX,0,Option.none⟩) 3 cX) rfl (yif_load1 (by kernel_rfl) fun _ _=>rfl) hHeld ?_;try simp only [J])
 (refine Jt 43 (.pointer (some ⟨gX,0,Option.none⟩)) rfl (yif_load1 (by kernel_rfl) (by intro W hW;clear hW;go_simp)) hHeld ?_;try simp only [J])
 (refine Jt 44 (.int .i64 1) rfl (yif_load1 (by kernel_rfl) (by intro W hW;have y:=(hW.cell (p:=⟨gX,0,Option.none⟩) (World.block_lt_of_cell? _ _ ZX0.out)).trans ZX0.out;clear hW;go_simp)) hHeld ?_;try simp only [J])
 (refine Jt 45 (.bool true) rfl (yif_load1 (by kernel_rfl) (by intro W hW;clear hW;go_simp)) hHeld ?_;try simp only [J])
 (refine Jt 46 (.bool true) rfl (yif_load1 (by kernel_rfl) (by intro W hW;clear hW;go_simp)) hHeld ?_;try simp only [J])
 (refine Jt 47 (.bool true) rfl (yif_load1 (by kernel_rfl) fun _ _=>rfl) hHeld ?_;try simp only [J])
 (refine Jt 48 (.slice (some ⟨gX,0,Option.none⟩) 3 cX) rfl (yif_load1 (by kernel_rfl) fun _ _=>rfl) hHeld ?_;try simp only [J])
 (refine Jt 49 (.pointer (some ⟨gX,2,Option.none⟩)) rfl (yif_load1 (by kernel_rfl) (by intro W hW;clear hW;go_simp)) hHeld ?_;try simp only [J])
 (refine Jt 50 (.int .i64 3) rfl (yif_load1 (by kernel_rfl) (by intro W hW;have y:=(hW.cell (p:=⟨gX,2,Option.none⟩) (World.block_lt_of_cell? _ _ ZX2.out)).trans ZX2.out;clear hW;go_simp)) hHeld ?_;try simp only [J])
 (refine Jt 51 (.bool true) rfl (yif_load1 (by kernel_rfl) (by intro W hW;clear hW;go_simp)) hHeld ?_;try simp only [J])
 (refine Jt 52 (.bool true) rfl (yif_load1 (by kernel_rfl) (by intro W hW;clear hW;go_simp)) hHeld ?_;try simp only [J])
 (refine Jt 53 (.bool true) rfl (yif_load1 (by kernel_rfl) fun _ _=>rfl) hHeld ?_;try simp only [J])
 (refine Jt 54 (.int .i64 0) rfl (yif_load1 (by kernel_rfl) fun _ _=>rfl) hHeld ?_;try simp only [J])
 (refine Jt 55 (.bool true) rfl (yif_load1 (by kernel_rfl) (by intro W hW;clear hW;go_simp)) hHeld ?_;try simp only [J])
 (refine Jt 56 (.bool true) rfl (yif_load1 (by kernel_rfl) (by intro W hW;clear hW;go_simp)) hHeld ?_;try simp only [J])
 (refine Jt 57 (.bool true) rfl (yif_load1 (by kernel_rfl) fun _ _=>rfl) hHeld ?_;try simp only [J])
 (refine Jt 58 (.slice (some ⟨gY,0,Option.none⟩) 4 cY) rfl (yif_load1 (by kernel_rfl) fun _ _=>rfl) hHeld ?_;try simp only [J])
 (refine Jt 59 (.int .i64 4) rfl (yif_load1 (by kernel_rfl) (by intro W hW;clear hW;go_simp)) hHeld ?_;try simp only [J])
 (refine Jt 60 (.bool true) rfl (yif_load1 (by kernel_rfl) (by intro W hW;clear hW;go_simp)) hHeld ?_;try simp only [J])
 (refine Jt 61 (.bool true) rfl (yif_load1 (by kernel_rfl) (by intro W hW;clear hW;go_simp)) hHeld ?_;try simp only [J])
 (refine Jt 62 (.bool true) rfl (yif_load1 (by kernel_rfl) fun _ _=>rfl) hHeld ?_;try simp only [J])
 (refine Jt 63 (.int .i64 0) rfl (yif_load1 (by kernel_rfl) fun _ _=>rfl) hHeld ?_;try simp only [J])
 (refine Jt 64 (.bool true) rfl (yif_load1 (by kernel_rfl) (by intro W hW;clear hW;go_simp)) hHeld ?_;try simp only [J])
 (refine Jt 65 (.bool true) rfl (yif_load1 (by kernel_rfl) (by intro W hW;clear hW;go_simp)) hHeld ?_;try simp only [J])
 (refine Jt 66 (.bool true) rfl (yif_load1 (by kernel_rfl) fun _ _=>rfl) hHeld ?_;try simp only [J])
 (refine Jt 67 (.agg [Value.slice (some ⟨N,0,none⟩) 1 1,.slice none 0 0,.slice none 0 0].toArray) rfl (yif_load (by kernel_rfl) 26 _ rfl rfl (fun W hW=>(HB1.out.ext hW).has) agg_Flat rfl) hHeld ?_;try simp only [J])
 (refine wpAnyH_ready (rs:=[68]) (by kernel_rfl) (by simp) ?_;refine AllReadyH.cons rfl (fun K hK=>?_) AllReadyH.nil)
 refine step_bs1 (by kernel_rfl) _ _ rfl appU64 rfl (cs:=[Value.int .u64 15]) rfl rfl (by decide) ?_
 have hxu:=ext_alloc wD (.cells [Value.int .u64 15].toArray 34)
 have hbu:=Blk.new wD [Value.int .u64 15].toArray 34
 refine hK.out _ _ (hHeld.trans hxu) (fun hHeld=>?_)
 clear hK K
 generalize wD.alloc _=wE at *
 obtain ⟨U,hU⟩ : ∃ B,wD.heap.size=B:=⟨_,rfl⟩
 rw [hU] at hbu ⊢
 clear hU
 try simp only [J]
 have hv1:=Values_calls evD _ [15] (.slice (some ⟨U,0,none⟩) 1 1) wE (evD_at (HBS.out.ext hHeld)) evD_ok ⟨U,0,⟨_,1,rfl,Nat.le_refl _,by simp [maxLen],fun _=>rfl⟩,⟨hbu.has,trivial⟩⟩ (by intro x hx;simp at hx;subst hx;decide)
 rw [ev_v1,if_pos rfl] at hv1
 have HV1:=Lib.hid hv1
 clear hv1 hbu hxu
 (refine wpAnyH_ready (rs:=[69]) (by kernel_rfl) (by simp) ?_;refine AllReadyH.cons rfl (fun K hK=>?_) AllReadyH.nil)
 rw [if_pos (by kernel_rfl)]
 go_simp
 refine (HV1.out).mono ?_
 rintro r wF ⟨rfl,hxwF⟩
 refine hK.out _ _ (hHeld.trans hxwF) (fun hHeld=>?_)
 clear hK K
 try simp only [J]
 (refine Jt 70 (.bool true) rfl (yif_load1 (by kernel_rfl) (by intro W hW;clear hW;go_simp)) hHeld ?_;try simp only [J])
 (refine Jt 71 (.bool true) rfl (yif_load1 (by kernel_rfl) (by intro W hW;clear hW;go_simp)) hHeld ?_;try simp only [J])
 (refine Jt 72 (.bool true) rfl (yif_load1 (by kernel_rfl) fun _ _=>rfl) hHeld ?_;try simp only [J])
 (refine Jt 73 (.agg [Value.slice (some ⟨N,0,none⟩) 1 1,.slice none 0 0,.slice none 0 0].toArray) rfl (yif_load (by kernel_rfl) 26 _ rfl rfl (fun W hW=>(HB1.out.ext hW).has) agg_Flat rfl) hHeld ?_;try simp only [J])
 have hv2:=Values_calls evD _ [] (.slice none 0 0) wF (evD_at (HBS.out.ext hHeld)) evD_ok (Sl.nil _ _) (by intro x hx;cases hx)
 rw [ev_v2,if_neg (by simp)] at hv2
 have HV2:=Lib.hid hv2
 clear hv2
 (refine wpAnyH_ready (rs:=[74]) (by kernel_rfl) (by simp) ?_;refine AllReadyH.cons rfl (fun K hK=>?_) AllReadyH.nil)
 rw [if_pos (by kernel_rfl)]
 go_simp
 refine (HV2.out).mono ?_
 rintro r wG ⟨rfl,hxwG⟩
 refine hK.out _ _ (hHeld.trans hxwG) (fun hHeld=>?_)
 clear hK K
 try simp only [J]
 (refine Jt 75 (.bool true) rfl (yif_load1 (by kernel_rfl) (by intro W hW;clear hW;go_simp)) hHeld ?_;try simp only [J])
 (refine Jt 76 (.bool true) rfl (yif_load1 (by kernel_rfl) (by intro W hW;clear hW;go_simp)) hHeld ?_;try simp only [J])
 (refine Jt 77 (.bool true) rfl (yif_load1 (by kernel_rfl) fun _ _=>rfl) hHeld ?_;try simp only [J])
 refine wpAnyH_done (by kernel_rfl) ?_ _
 have HE:=Lib.hid (HX.out.trans hHeld)
 clear hHeld
 go_wp2_with fail
 go_ret
 exact ⟨rfl,HE.out⟩
open Go.RowKit
set_option maxRecDepth 100000 in
set_option maxHeartbeats 2000000 in
theorem Expr_callsR (d:Flat) (v:Value) (e:E) (want:Int) (cs:List Value) (w:World) (hF:FlatV w v d) (hok:d.ok) (hV:VE w cs e) (hwf:e.wf) (hn:nodes e ≤ 1048576) :
  Calls Tryz.prog 64 #[v,.agg cs.toArray,.int .i64 want] w (ExprP w (exprM d.signals e want)):=by
 obtain ⟨sv,pv,cv,rfl,hS,hP,hC⟩:=hF
 obtain ⟨s,rfl,hs⟩:=hV
 have x1:=ext_alloc w (.cells [sv,pv,cv].toArray 26)
 have x2:=ext_alloc (w.alloc (.cells [sv,pv,cv].toArray 26)) (.cells (e.cells s).toArray 44)
 have x3:=ext_alloc ((w.alloc (.cells [sv,pv,cv].toArray 26)).alloc (.cells (e.cells s).toArray 44)) (.cells zeroE.toArray 44)
 have hD:=((Blk.new w [sv,pv,cv].toArray 26).ext x2).ext x3
 have hE:=(Blk.new (w.alloc (.cells [sv,pv,cv].toArray 26)) (e.cells s).toArray 44).ext x3
 have hR:=Blk.new ((w.alloc (.cells [sv,pv,cv].toArray 26)).alloc (.cells (e.cells s).toArray 44)) zeroE.toArray 44
 have HX:=(x1.trans x2).trans x3
 simp only [World.size_alloc] at hE hR
 clear x1 x2 x3
 have HSV:=Lib.hid (fun W (h:Ext w W)=>Signals_callsR d.signals sv W (hS.ext h) hok.signals)
 have HSH:=Lib.hid (fun W (h:Ext w W)=>Shape_callsR d.signals e sv (e.cells s) W (hS.ext h) ⟨s,rfl,hs.ext h⟩ hwf)
 have HND:=Lib.hid (fun W (h:Ext w W)=>Nodes_calls e s W (hs.ext h) hn)
 have HDP:=Lib.hid (fun W (h:Ext w W)=>Deep_calls e s W (hs.ext h) (Nat.le_trans (deep_le_nodes e) hn))
 have HVX:=Lib.hid (fun W (h:Ext w W)=>show VE W (e.cells s) e from ⟨s,rfl,hs.ext h⟩)
 have HWF:=Lib.hid hwf
 have HN:=Lib.hid hn
 obtain ⟨a0,b0,o0,c0,rfl,-,-,-,-⟩:=hS.open
 obtain ⟨ap,bp,op,cp,rfl,-,-,-,-⟩:=hP.open
 obtain ⟨ac,bc,oc,cc,rfl,-,-,-,-⟩:=hC.open
 clear hS hP hC hs hok hwf hn
 obtain ⟨OUT,hout⟩ : ∃ o,exprM d.signals e want=o:=⟨_,rfl⟩
 have HOUT:=Lib.hid hout
 rw [hout]
 clear hout
 obtain ⟨sg,hsg⟩ : ∃ s,sigsOk [[]] d.signals=s:=⟨_,rfl⟩
 obtain ⟨p,hp⟩ : ∃ p,shape d.signals e=p:=⟨_,rfl⟩
 have HEB:=Lib.hid (show exprBad d.signals e want=(!sg || decide (want < 0) || decide (64 < want) || !p) by unfold exprBad;rw [hsg,hp])
 have HSG:=Lib.hid hsg
 have HPP:=Lib.hid hp
 rw [hsg] at HSV
 rw [hp] at HSH
 clear hsg hp
 go_enter Tryz.func64,Tryz.ntmps64
 go_upto_region 1 with fail
 generalize ((w.alloc _).alloc _).alloc _=w0 at *
 have HD:=Lib.hid hD
 have HE:=Lib.hid hE
 have HR:=Lib.hid hR
 have HXX:=Lib.hid HX
 have g0:=hD.has 0 _ rfl
 clear hD hE hR HX
 have hbad:exprBad d.signals e want=true→OUT=.error 1:=fun h=>by
  have ho:=HOUT.out
  unfold exprM at ho
  rw [h,if_pos rfl] at ho
  exact ho.symm
 have HBAD:=Lib.hid hbad
 clear hbad
 cases sg
 ·obtain rfl:=HBAD.out (by rw [HEB.out];rfl)
  go_wp2_with (first | (go_at_call 109;refine (HSV.out w0 HXX.out).mono ?_;rintro r w1 ⟨rfl,hx1⟩) | ((with_reducible show wpList _ _ _ (⟨_,Op.store 44 _ _,_,_,_,_⟩ :: _) _ _);refine wpList_store_blk rfl 44 _ _ rfl (HR.out.ext hx1) rfl (cs:=zeroE) (rfl) agg_E (rfl) rfl (rfl) ?_;intro w4 hb4 hg4) | ((with_reducible show bodyPost _ _ _ _ _ _);refine Hid.out ?_))
  refine Lib.hid ?_
  refine post_ret_blk2 rfl rfl rfl hb4.has agg_E rfl rfl (.inl ⟨1,rfl,by decide,rfl,(HXX.out.trans hx1).grown hg4 (by omega)⟩)
 by_cases c1:want < 0
 ·obtain rfl:=HBAD.out (by rw [HEB.out,decide_eq_true c1];rfl)
  go_wp2_with (first | (go_at_call 109;refine (HSV.out w0 HXX.out).mono ?_;rintro r w1 ⟨rfl,hx1⟩) | ((with_reducible show wpList _ _ _ (⟨_,Op.store 44 _ _,_,_,_,_⟩ :: _) _ _);refine wpList_store_blk rfl 44 _ _ rfl (HR.out.ext hx1) rfl (cs:=zeroE) (rfl) agg_E (rfl) rfl (rfl) ?_;intro w4 hb4 hg4) | ((with_reducible show bodyPost _ _ _ _ _ _);refine Hid.out ?_))
  refine Lib.hid ?_
  refine post_ret_blk2 rfl rfl rfl hb4.has agg_E rfl rfl (.inl ⟨1,rfl,by decide,rfl,(HXX.out.trans hx1).grown hg4 (by omega)⟩)
 by_cases c2:64 < want
 ·obtain rfl:=HBAD.out (by rw [HEB.out,decide_eq_true c2];simp)
  go_wp2_with (first | (go_at_call 109;refine (HSV.out w0 HXX.out).mono ?_;rintro r w1 ⟨rfl,hx1⟩) | ((with_reducible show wpList _ _ _ (⟨_,Op.store 44 _ _,_,_,_,_⟩ :: _) _ _);refine wpList_store_blk rfl 44 _ _ rfl (HR.out.ext hx1) rfl (cs:=zeroE) (rfl) agg_E (rfl) rfl (rfl) ?_;intro w4 hb4 hg4) | ((with_reducible show bodyPost _ _ _ _ _ _);refine Hid.out ?_))
  refine Lib.hid ?_
  refine post_ret_blk2 rfl rfl rfl hb4.has agg_E rfl rfl (.inl ⟨1,rfl,by decide,rfl,(HXX.out.trans hx1).grown hg4 (by omega)⟩)
 have b1:decide (want < 0)=false:=decide_eq_false c1
 have b2:decide (64 < want)=false:=decide_eq_false c2
 have HWN:=Lib.hid (show 0 ≤ want∧want ≤ 64 by omega)
 clear c1 c2
 cases p
 ·obtain rfl:=HBAD.out (by rw [HEB.out,b1,b2];rfl)
  go_wp2_with (first | (go_at_call 109;refine (HSV.out w0 HXX.out).mono ?_;rintro r w1 ⟨rfl,hx1⟩;have g1:=(HD.out.ext hx1).has 0 _ rfl;have k1:=(HE.out.ext hx1).has) | ((with_reducible show wpList _ _ _ (⟨_,Op.load 44 _,_,_,_,_⟩ :: _) _ _);refine wpList_load_has rfl 44 _ rfl rfl (k1) agg_E rfl ?_) | (go_at_call 110;refine (HSH.out _ (HXX.out.trans hx1)).mono ?_;rintro r w2 ⟨rfl,hx2⟩) | ((with_reducible show wpList _ _ _ (⟨_,Op.store 44 _ _,_,_,_,_⟩ :: _) _ _);refine wpList_store_blk rfl 44 _ _ rfl (HR.out.ext (hx1.trans hx2)) rfl (cs:=zeroE) (rfl) agg_E (rfl) rfl (rfl) ?_;intro w4 hb4 hg4) | ((with_reducible show bodyPost _ _ _ _ _ _);refine Hid.out ?_))
  refine Lib.hid ?_
  refine post_ret_blk2 rfl rfl rfl hb4.has agg_E rfl rfl (.inl ⟨1,rfl,by decide,rfl,(HXX.out.trans (hx1.trans hx2)).grown hg4 (by omega)⟩)
 have HGB:=Lib.hid (show exprBad d.signals e want=false by rw [HEB.out,b1,b2];rfl)
 go_upto_region 3 with (first | (go_at_call 109;refine (HSV.out w0 HXX.out).mono ?_;rintro r w1 ⟨rfl,hx1⟩;have g1:=(HD.out.ext hx1).has 0 _ rfl;have k1:=(HE.out.ext hx1).has) | ((with_reducible show wpList _ _ _ (⟨_,Op.load 44 _,_,_,_,_⟩ :: _) _ _);refine wpList_load_has rfl 44 _ rfl rfl (k1) agg_E rfl ?_) | (go_at_call 110;refine (HSH.out _ (HXX.out.trans hx1)).mono ?_;rintro r w2 ⟨rfl,hx2⟩))
 have HX2:=Lib.hid (hx1.trans hx2)
 have HE2:=Lib.hid (HE.out.ext HX2.out)
 have HR2:=Lib.hid (HR.out.ext HX2.out)
 have HXA:=Lib.hid (HXX.out.trans HX2.out)
 clear hx1 hx2 g0 g1 k1
 have k2:=HE2.out.has
 have hbig:(decide (nodes e ≤ 65536) && decide (deep e ≤ 64))=false→OUT=.error 2:=fun h=>by
  have ho:=HOUT.out
  unfold exprM at ho
  rw [HGB.out,if_neg (by simp),if_pos h] at ho
  exact ho.symm
 have hgood:nodes e ≤ 65536→deep e ≤ 64→OUT=sizeE e want:=fun h h'=>by
  have ho:=HOUT.out
  unfold exprM at ho
  rw [HGB.out,if_neg (by simp),decide_eq_true h,decide_eq_true h',if_neg (by simp)] at ho
  exact ho.symm
 have HBIG:=Lib.hid hbig
 have HGOOD:=Lib.hid hgood
 clear hbig hgood
 by_cases n1:(65536:Int) < (nodes e:Int)
 ·obtain rfl:=HBIG.out (by rw [decide_eq_false (by omega)];rfl)
  have b3:decide ((65536:Int) < (nodes e:Int))=true:=decide_eq_true n1
  clear n1
  go_wp2_with (first | ((with_reducible show wpList _ _ _ (⟨_,Op.load 44 _,_,_,_,_⟩ :: _) _ _);refine wpList_load_has rfl 44 _ rfl rfl (k2) agg_E rfl ?_) | (go_at_call 29;refine (HND.out _ HXA.out).mono ?_;rintro r w3 ⟨rfl,hx3⟩) | ((with_reducible show wpList _ _ _ (⟨_,Op.store 44 _ _,_,_,_,_⟩ :: _) _ _);refine wpList_store_blk rfl 44 _ _ rfl (HR2.out.ext hx3) rfl (cs:=zeroE) (rfl) agg_E (rfl) rfl (rfl) ?_;intro w4 hb4 hg4) | ((with_reducible show bodyPost _ _ _ _ _ _);refine Hid.out ?_))
  refine Lib.hid ?_
  refine post_ret_blk2 rfl rfl rfl hb4.has agg_E rfl rfl (.inl ⟨2,rfl,by decide,rfl,(HXA.out.trans hx3).grown hg4 (by omega)⟩)
 have b3:decide ((65536:Int) < (nodes e:Int))=false:=decide_eq_false n1
 by_cases n2:(64:Int) < (deep e:Int)
 ·obtain rfl:=HBIG.out (by rw [decide_eq_false (show ¬ deep e ≤ 64 by omega)];simp)
  have b4:decide ((64:Int) < (deep e:Int))=true:=decide_eq_true n2
  clear n1 n2
  go_wp2_with (first | ((with_reducible show wpList _ _ _ (⟨_,Op.load 44 _,_,_,_,_⟩ :: _) _ _);refine wpList_load_has rfl 44 _ rfl rfl (k2) agg_E rfl ?_) | (go_at_call 29;refine (HND.out _ HXA.out).mono ?_;rintro r w3 ⟨rfl,hx3⟩;have k3:=(HE2.out.ext hx3).has) | ((with_reducible show wpList _ _ _ (⟨_,Op.load 44 _,_,_,_,_⟩ :: _) _ _);refine wpList_load_has rfl 44 _ rfl rfl (k3) agg_E rfl ?_) | (go_at_call 32;refine (HDP.out _ (HXA.out.trans hx3)).mono ?_;rintro r w5 ⟨rfl,hx5⟩) | ((with_reducible show wpList _ _ _ (⟨_,Op.store 44 _ _,_,_,_,_⟩ :: _) _ _);refine wpList_store_blk rfl 44 _ _ rfl (HR2.out.ext (hx3.trans hx5)) rfl (cs:=zeroE) (rfl) agg_E (rfl) rfl (rfl) ?_;intro w4 hb4 hg4) | ((with_reducible show bodyPost _ _ _ _ _ _);refine Hid.out ?_))
  refine Lib.hid ?_
  refine post_ret_blk2 rfl rfl rfl hb4.has agg_E rfl rfl (.inl ⟨2,rfl,by decide,rfl,(HXA.out.trans (hx3.trans hx5)).grown hg4 (by omega)⟩)
 have b4:decide ((64:Int) < (deep e:Int))=false:=decide_eq_false n2
 obtain rfl:=HGOOD.out (by omega) (by omega)
 have hls:∀ x ∈ d.signals,x.w ≤ 64:=sigs_w _ _ HSG.out
 have HSZ:=Lib.hid (fun W (h:Ext w W)=>sized_callsR hls e HPP.out HWF.out HN.out want (e.cells s) W (HVX.out W h) HWN.out.1 (by have:=HWN.out.2;omega))
 clear n1 n2 hls
 go_wp2_with (first | ((with_reducible show wpList _ _ _ (⟨_,Op.load 44 _,_,_,_,_⟩ :: _) _ _);refine wpList_load_has rfl 44 _ rfl rfl (k2) agg_E rfl ?_) | (go_at_call 29;refine (HND.out _ HXA.out).mono ?_;rintro r w3 ⟨rfl,hx3⟩;have k3:=(HE2.out.ext hx3).has) | ((with_reducible show wpList _ _ _ (⟨_,Op.load 44 _,_,_,_,_⟩ :: _) _ _);refine wpList_load_has rfl 44 _ rfl rfl (k3) agg_E rfl ?_) | (go_at_call 32;refine (HDP.out _ (HXA.out.trans hx3)).mono ?_;rintro r w5 ⟨rfl,hx5⟩;have k5:=(HE2.out.ext (hx3.trans hx5)).has) | ((with_reducible show wpList _ _ _ (⟨_,Op.load 44 _,_,_,_,_⟩ :: _) _ _);refine wpList_load_has rfl 44 _ rfl rfl (k5) agg_E rfl ?_) | (go_at_call 111;refine (HSZ.out _ (HXA.out.trans (hx3.trans hx5))).mono ?_;intro r w6 hp6;obtain ⟨cs2,g,rfl,h82,hone,hx6,-⟩:=hp6.open;have HP6:=Lib.hid hp6;clear hp6;have hk4:=HR2.out.ext ((hx3.trans hx5).trans hx6)) | ((with_reducible show wpList _ _ _ (⟨_,Op.store 44 _ _,_,_,_,_⟩ :: _) _ _);refine wpList_store_blk rfl 44 _ _ rfl hk4 rfl (cs:=cs2) rfl agg_E h82 rfl hone ?_;intro w9 hb9 hg9) | ((with_reducible show bodyPost _ _ _ _ _ _);refine Hid.out ?_))
 refine Lib.hid ?_
 have hs0:=HXA.out.size
 have hs1:=hx3.size
 have hs2:=hx5.size
 have hlt:=HR2.out.lt
 refine post_ret_blk2 rfl rfl rfl hb9.has agg_E h82 rfl ?_
 rcases HP6.out.again (HXA.out.trans (hx3.trans hx5)) ((HXA.out.trans ((hx3.trans hx5).trans hx6)).grown hg9 (by omega)) (Since.of_grown hg9 (by omega)) with ⟨g9,h1,h2,h3,h4⟩ | ⟨y,cs9,h1,h2,h3,h4⟩
 ·exact .inl ⟨g9,h1,by omega,h3,h4⟩
 ·exact .inr ⟨y,cs9,h1,h2,h3,h4⟩
set_option maxRecDepth 100000 in
set_option maxHeartbeats 2000000 in
theorem CheckE_callsR (d:Flat) (v:Value) (e:E) (cs:List Value) (w:World) (hF:FlatV w v d) (hok:d.ok) (hV:VE w cs e) (hwf:e.wf) (hn:nodes e ≤ 1048576) :
  Calls Tryz.prog 30 #[v,.agg cs.toArray] w fun r w'=>r=.returned (.int .i64 (checkEM d.signals e))∧Ext w w':=by
 have HF:=Lib.hid (fun W (h:Ext w W)=>hF.ext h)
 have HEX:=Lib.hid (fun W (h:Ext w W)=>Expr_callsR d v e e.w cs W (hF.ext h) hok (hV.ext h) hwf hn)
 obtain ⟨sv,pv,cv,rfl,hS,hP,hC⟩:=hF
 have hone : [sv,pv,cv].all (·.oneCell')=true:=by simp [hS.one,hP.one,hC.one]
 obtain ⟨s0,rfl,hs0⟩:=hV
 have HVX:=Lib.hid (fun W (h:Ext w W)=>show VE W (e.cells s0) e from ⟨s0,rfl,hs0.ext h⟩)
 have h8:(e.cells s0).length=8:=rfl
 have x1:=ext_alloc w (.cells [sv,pv,cv].toArray 26)
 have x2:=ext_alloc (w.alloc (.cells [sv,pv,cv].toArray 26)) (.cells (e.cells s0).toArray 44)
 have hD:=(Blk.new w [sv,pv,cv].toArray 26).ext x2
 have hE:=Blk.new (w.alloc (.cells [sv,pv,cv].toArray 26)) (e.cells s0).toArray 44
 have HX:=x1.trans x2
 simp only [World.size_alloc] at hE
 clear x1 x2
 obtain ⟨a0,b0,o0,c0,rfl,-,-,-,-⟩:=hS.open
 obtain ⟨ap,bp,op,cp,rfl,-,-,-,-⟩:=hP.open
 obtain ⟨ac,bc,oc,cc,rfl,-,-,-,-⟩:=hC.open
 clear hS hP hC hok hwf hn hs0
 obtain ⟨OUT,hout⟩ : ∃ o,checkEM d.signals e=o:=⟨_,rfl⟩
 have HOUT:=Lib.hid hout
 rw [hout]
 clear hout
 go_enter Tryz.func30,Tryz.ntmps30
 go_upto_region 1 with fail
 generalize (w.alloc _).alloc _=w0 at *
 have HD:=Lib.hid hD
 have HE:=Lib.hid hE
 have HXX:=Lib.hid HX
 have d0:=hD.has
 have e0:=hE.has
 have g1:=hE.has 1 _ rfl
 clear hD hE HX
 go_upto_region 2 with (first | ((with_reducible show wpList _ _ _ (⟨_,Op.load 26 _,_,_,_,_⟩ :: _) _ _);refine wpList_load_has rfl 26 _ rfl rfl (d0) agg_Flat rfl ?_) | ((with_reducible show wpList _ _ _ (⟨_,Op.load 44 _,_,_,_,_⟩ :: _) _ _);refine wpList_load_has rfl 44 _ rfl rfl (e0) agg_E rfl ?_) | (go_at_call 64;refine (HEX.out _ HXX.out).mono ?_;rintro r w1 hp;obtain ⟨cs2,g,rfl,hl2,ho2,hx1,hq⟩:=hp.open) | ((with_reducible show wpList _ _ _ (⟨_,Op.store 44 _ _,_,_,_,_⟩ :: _) _ _);refine wpList_store_new rfl 44 _ _ rfl rfl (by first | rfl | simp) rfl agg_E (hl2) rfl (ho2) ?_))
 have HQ:=Lib.hid hq
 have hx2:=hx1.alloc (.cells cs2.toArray 44)
 have hb2:=Has.alloc w1 cs2 44
 have HV2:=Lib.hid (fun y (h:VE w1 cs2 y)=>h.ext (ext_alloc w1 (.cells cs2.toArray 44)))
 have HE2:=Lib.hid (HE.out.ext hx2)
 have HX2:=Lib.hid (HXX.out.trans hx2)
 clear hq hx1 hx2 g1 d0 e0
 generalize w1.alloc _=w2 at *
 have e2:=HE2.out.has
 have g1:=HE2.out.has 1 _ rfl
 have ho:=HOUT.out
 unfold checkEM at ho
 rcases HQ.out with ⟨rfl,y,hy,hvy⟩ | ⟨hg9,hy⟩
 ·rw [hy] at ho
  simp only at ho
  have HVY:=Lib.hid (HV2.out y hvy)
  have HO:=Lib.hid ho
  clear ho hy hvy HQ
  by_cases hw:e.w=0
  ·have c1:(e.w == 0)=true:=by rw [beq_iff_eq];exact hw
   obtain rfl:OUT=90:=by have:=HO.out;rw [if_pos (.inl hw)] at this;exact this.symm
   clear hw
   go_wp2_with fail
   go_ret
   exact ⟨rfl,HX2.out⟩
  ·have c1:(e.w == 0)=false:=by rw [beq_eq_false_iff_ne];exact hw
   obtain ⟨q,hq⟩ : ∃ q,eqE y e=q:=⟨_,rfl⟩
   have HSM:=Lib.hid (SameE_callsR y e cs2 (e.cells s0) w2 HVY.out (HVX.out w2 HX2.out))
   rw [hq] at HSM
   have HW:=Lib.hid hw
   have HQ:=Lib.hid hq
   clear hw hq
   cases q
   ·obtain rfl:OUT=90:=by have:=HO.out;rw [HQ.out,if_pos (.inr rfl)] at this;exact this.symm
    go_wp2_with (first | ((with_reducible show wpList _ _ _ (⟨_,Op.load 44 _,_,_,_,_⟩ :: _) _ _);refine wpList_load_has rfl 44 _ rfl rfl (hb2) agg_E hl2 ?_) | ((with_reducible show wpList _ _ _ (⟨_,Op.load 44 _,_,_,_,_⟩ :: _) _ _);refine wpList_load_has rfl 44 _ rfl rfl (e2) agg_E rfl ?_) | (go_at_call 27;refine (HSM.out).mono ?_;rintro r w3 ⟨rfl,hx3⟩))
    go_ret
    exact ⟨rfl,HX2.out.trans hx3⟩
   ·obtain rfl:OUT=0:=by have:=HO.out;rw [HQ.out,if_neg (by rintro (h | h);exact HW.out h;cases h)] at this;exact this.symm
    go_wp2_with (first | ((with_reducible show wpList _ _ _ (⟨_,Op.load 44 _,_,_,_,_⟩ :: _) _ _);refine wpList_load_has rfl 44 _ rfl rfl (hb2) agg_E hl2 ?_) | ((with_reducible show wpList _ _ _ (⟨_,Op.load 44 _,_,_,_,_⟩ :: _) _ _);refine wpList_load_has rfl 44 _ rfl rfl (e2) agg_E rfl ?_) | (go_at_call 27;refine (HSM.out).mono ?_;rintro r w3 ⟨rfl,hx3⟩))
    go_ret
    exact ⟨rfl,HX2.out.trans hx3⟩
 ·rw [hy] at ho
  simp only at ho
  subst ho
  have c0:(g == 0)=false:=by rw [beq_eq_false_iff_ne];exact hg9
  clear hg9 hy HQ
  go_wp2_with fail
  go_ret
  exact ⟨rfl,HX2.out⟩
end Go.Proofs.YtemabheegnngdaaGreat
