/- Laws and walks that a claim of this seat leans on: Mark12. -/
import Derived.Test.YthpemngachlehaaGreatY25
import Derived.Test.YthpemngachlehaaGreatY00
set_option linter.all false
namespace Go.Proofs.YthpemngachlehaaGreat
open Go.RowKit
theorem lookM_cases (d:Flat) (hok:d.ok):(∃ e,drvD d=(e,[])∧e ≠ 0∧lookM d=(e,[],[])) ∨ (checkM d=0∧∃ o,drvD d=(0,o)∧(o.length:Int)=nBits d∧(∀ x ∈ o,-1 ≤ x∧x < d.procs.length) ∧
  lookM d=if noneF d.signals o 0 d.signals=true then (121,[],[]) else if latF d 0 d.procs=true then (122,[],[]) else if (ordM (graphM d o) (clks d)).length < wiresM (clks d) then (123,[],[]) else (0,graphM d o,ordM (graphM d o) (clks d))):=by
 rcases drvD_cases d with ⟨e,h1,h2⟩ | ⟨hc,o,h1,h2⟩
 ·refine .inl ⟨e,h1,h2,?_⟩
  unfold lookM;rw [h1,if_pos h2]
 ·have hl:=drvD_len hok hc h2
  refine .inr ⟨hc,o,h1,hl.1,hl.2,?_⟩
  unfold lookM;rw [h1,if_neg (by simp)]
/-! ### filigreeref12.Check, Order -/
set_option maxRecDepth 100000 in
set_option maxHeartbeats 4000000 in
theorem Check_calls12 (d:Flat) (v:Value) (w:World) (h:FlatV w v d) (hok:d.ok) :
  Calls Tryz.prog 15 #[v] w fun r w'=>r=.returned (.int .i64 (lookM d).1)∧Ext w w':=by
 have HF:=Lib.hid h
 have HOK:=Lib.hid hok
 have HDR:=Lib.hid (fun W (hx:Ext w W)=>Drivers_calls12 d _ W (h.ext hx) hok)
 have hcs:=lookM_cases d hok
 obtain ⟨sv,pv,cv,rfl,hS,hP,hC⟩:=h
 have hone : [sv,pv,cv].all (·.oneCell')=true:=by simp [hS.one,hP.one,hC.one]
 have HX:=Lib.hid (ext_alloc w (.cells [sv,pv,cv].toArray 26))
 have HB:=Lib.hid (Blk.new w [sv,pv,cv].toArray 26)
 clear hS hP hC hok
 rcases hcs with ⟨e,h1,h2,h3⟩ | ⟨hck,o,h1,hol,hob,h3⟩
 ·rw [h3]
  rw [h1] at HDR
  have hb:(e != 0)=true:=by rw [bne_iff_ne];exact h2
  clear h1 h2 h3
  go_enter Tryz.func15,Tryz.ntmps15
  go_upto_region 1 with fail
  generalize w.alloc _=w1 at *
  go_wp2_with (first | ((with_reducible show wpList _ _ _ (⟨_,Op.load 26 _,_,_,_,_⟩ :: _) _ _);refine wpList_load_has rfl 26 _ rfl rfl (HB.out.has) agg_Flat rfl ?_) | (go_at_call 12;refine (HDR.out _ HX.out).mono ?_;rintro r w2 ⟨u,rfl,hr2,hx2⟩))
  go_ret
  exact ⟨rfl,HX.out.trans hx2⟩
 ·rw [h1] at HDR
  have HNO:=Lib.hid (fun W (hx:Ext w W) lv (hl:Ints W lv o)=>none_calls12 d _ lv W (HF.out.ext hx) HOK.out hck o hl hol (fun x hx=>(hob x hx).1))
  have HLA:=Lib.hid (fun W (hx:Ext w W)=>latch_calls12 d _ W (HF.out.ext hx) HOK.out hck)
  have HOD:=Lib.hid (fun W (hx:Ext w W) lv (hl:Ints W lv o)=>order_calls12 d _ lv W (HF.out.ext hx) HOK.out hck o hl hol hob)
  obtain ⟨c1,hc1⟩ : ∃ c,noneF d.signals o 0 d.signals=c:=⟨_,rfl⟩
  obtain ⟨c2,hc2⟩ : ∃ c,latF d 0 d.procs=c:=⟨_,rfl⟩
  obtain ⟨c3,hc3⟩ : ∃ c,decide (wiresM (clks d) ≤ (ordM (graphM d o) (clks d)).length)=c:=⟨_,rfl⟩
  rw [hc1] at HNO h3
  rw [hc2] at HLA h3
  rw [hc3] at HOD
  have H3:=Lib.hid (show (lookM d).1=if c1=true then 121 else if c2=true then 122 else if c3=true then 0 else 123 by
   rw [h3]
   by_cases e1:c1=true
   ·rw [if_pos e1,if_pos e1]
   ·rw [if_neg e1,if_neg e1]
    by_cases e2:c2=true
    ·rw [if_pos e2,if_pos e2]
    ·rw [if_neg e2,if_neg e2]
     by_cases e3:c3=true
     ·rw [if_neg (by rw [← hc3,decide_eq_true_eq] at e3;omega),if_pos e3]
     ·rw [if_pos (by rw [← hc3,decide_eq_true_eq] at e3;omega),if_neg e3])
  rw [H3.out]
  clear h1 h3 hc1 hc2 hc3 hol hob hck H3
  go_enter Tryz.func15,Tryz.ntmps15
  go_upto_region 1 with fail
  generalize w.alloc _=w1 at *
  cases c1
  ·cases c2
   ·cases c3
    all_goals (
     go_wp2_with (first | ((with_reducible show wpList _ _ _ (⟨_,Op.load 26 _,_,_,_,_⟩ :: _) _ _);refine wpList_load_has rfl 26 _ rfl rfl (HB.out.has) agg_Flat rfl ?_) | (go_at_call 12;refine (HDR.out _ HX.out).mono ?_;rintro r w2 ⟨u,rfl,hr2,hx2⟩;have HB2:=Lib.hid (HB.out.ext hx2)) | ((with_reducible show wpList _ _ _ (⟨_,Op.load 26 _,_,_,_,_⟩ :: _) _ _);refine wpList_load_has rfl 26 _ rfl rfl (HB2.out.has) agg_Flat rfl ?_) | (go_at_call 32;refine (HNO.out _ (HX.out.trans hx2) _ hr2.cells).mono ?_;rintro r w3 ⟨rfl,hx3⟩;have HB3:=Lib.hid (HB2.out.ext hx3)) | ((with_reducible show wpList _ _ _ (⟨_,Op.load 26 _,_,_,_,_⟩ :: _) _ _);refine wpList_load_has rfl 26 _ rfl rfl (HB3.out.has) agg_Flat rfl ?_) | (go_at_call 33;refine (HLA.out _ ((HX.out.trans hx2).trans hx3)).mono ?_;rintro r w4 ⟨rfl,hx4⟩;have HB4:=Lib.hid (HB3.out.ext hx4)) | ((with_reducible show wpList _ _ _ (⟨_,Op.load 26 _,_,_,_,_⟩ :: _) _ _);refine wpList_load_has rfl 26 _ rfl rfl (HB4.out.has) agg_Flat rfl ?_) | (go_at_call 34;refine (HOD.out _ (((HX.out.trans hx2).trans hx3).trans hx4) _ (hr2.cells.ext (hx3.trans hx4))).mono ?_;rintro r w5 ⟨u5,rfl,hr5,hx5⟩))
     go_ret
     exact ⟨rfl,(((HX.out.trans hx2).trans hx3).trans hx4).trans hx5⟩)
   ·go_wp2_with (first | ((with_reducible show wpList _ _ _ (⟨_,Op.load 26 _,_,_,_,_⟩ :: _) _ _);refine wpList_load_has rfl 26 _ rfl rfl (HB.out.has) agg_Flat rfl ?_) | (go_at_call 12;refine (HDR.out _ HX.out).mono ?_;rintro r w2 ⟨u,rfl,hr2,hx2⟩;have HB2:=Lib.hid (HB.out.ext hx2)) | ((with_reducible show wpList _ _ _ (⟨_,Op.load 26 _,_,_,_,_⟩ :: _) _ _);refine wpList_load_has rfl 26 _ rfl rfl (HB2.out.has) agg_Flat rfl ?_) | (go_at_call 32;refine (HNO.out _ (HX.out.trans hx2) _ hr2.cells).mono ?_;rintro r w3 ⟨rfl,hx3⟩;have HB3:=Lib.hid (HB2.out.ext hx3)) | ((with_reducible show wpList _ _ _ (⟨_,Op.load 26 _,_,_,_,_⟩ :: _) _ _);refine wpList_load_has rfl 26 _ rfl rfl (HB3.out.has) agg_Flat rfl ?_) | (go_at_call 33;refine (HLA.out _ ((HX.out.trans hx2).trans hx3)).mono ?_;rintro r w4 ⟨rfl,hx4⟩))
    go_ret
    exact ⟨rfl,((HX.out.trans hx2).trans hx3).trans hx4⟩
  ·go_wp2_with (first | ((with_reducible show wpList _ _ _ (⟨_,Op.load 26 _,_,_,_,_⟩ :: _) _ _);refine wpList_load_has rfl 26 _ rfl rfl (HB.out.has) agg_Flat rfl ?_) | (go_at_call 12;refine (HDR.out _ HX.out).mono ?_;rintro r w2 ⟨u,rfl,hr2,hx2⟩;have HB2:=Lib.hid (HB.out.ext hx2)) | ((with_reducible show wpList _ _ _ (⟨_,Op.load 26 _,_,_,_,_⟩ :: _) _ _);refine wpList_load_has rfl 26 _ rfl rfl (HB2.out.has) agg_Flat rfl ?_) | (go_at_call 32;refine (HNO.out _ (HX.out.trans hx2) _ hr2.cells).mono ?_;rintro r w3 ⟨rfl,hx3⟩))
   go_ret
   exact ⟨rfl,(HX.out.trans hx2).trans hx3⟩
set_option maxRecDepth 100000 in
set_option maxHeartbeats 4000000 in
theorem Order_calls12 (d:Flat) (v:Value) (w:World) (h:FlatV w v d) (hok:d.ok) :
  Calls Tryz.prog 17 #[v] w fun r w'=>∃ u,r=.returned (.tuple #[u,.int .i64 (lookM d).1])∧IntRow w.heap.size u (lookM d).2.2 w'∧Ext w w':=by
 have HF:=Lib.hid h
 have HOK:=Lib.hid hok
 have HCK:=Lib.hid (fun W (hx:Ext w W)=>Check_calls12 d _ W (h.ext hx) hok)
 have hcs:=lookM_cases d hok
 obtain ⟨sv,pv,cv,rfl,hS,hP,hC⟩:=h
 have hone : [sv,pv,cv].all (·.oneCell')=true:=by simp [hS.one,hP.one,hC.one]
 have HX:=Lib.hid (ext_alloc w (.cells [sv,pv,cv].toArray 26))
 have HB:=Lib.hid (Blk.new w [sv,pv,cv].toArray 26)
 clear hS hP hC hok
 by_cases hl:(lookM d).1=0
 ·rcases hcs with ⟨e,h1,h2,h3⟩ | ⟨hck,o,h1,hol,hob,h3⟩
  ·rw [h3] at hl;exact absurd hl h2
  ·have hoo:(lookM d).2.2=ordM (graphM d o) (clks d):=by
    rw [h3] at hl ⊢
    by_cases e1:noneF d.signals o 0 d.signals=true
    ·rw [if_pos e1] at hl;cases hl
    ·rw [if_neg e1] at hl ⊢
     by_cases e2:latF d 0 d.procs=true
     ·rw [if_pos e2] at hl;cases hl
     ·rw [if_neg e2] at hl ⊢
      by_cases e3:(ordM (graphM d o) (clks d)).length < wiresM (clks d)
      ·rw [if_pos e3] at hl;cases hl
      ·rw [if_neg e3]
   have hrd:(rD d).1=o:=by
    have:=rD_drvD hck
    rw [h1] at this
    by_cases e:(rD d).2=true
    ·rw [if_pos e] at this;injection this with h _;cases h
    ·rw [if_neg e] at this;injection this with _ h;exact h.symm
   have HDV:=Lib.hid (fun W (hx:Ext w W)=>drivers_calls12 d _ W (HF.out.ext hx) HOK.out hck)
   have HOD:=Lib.hid (fun W (hx:Ext w W) lv (hl:Ints W lv o)=>order_calls12 d _ lv W (HF.out.ext hx) HOK.out hck o hl hol hob)
   rw [hrd] at HDV
   rw [hl] at HCK
   rw [hl,hoo]
   generalize (rD d).2=tb at *
   generalize ordM (graphM d o) (clks d)=oo at *
   generalize decide (wiresM (clks d) ≤ oo.length)=bb at *
   clear hl h1 h3 hoo hrd hol hob hck
   go_enter Tryz.func17,Tryz.ntmps17
   go_upto_region 1 with fail
   generalize w.alloc _=w1 at *
   go_wp2_with (first | ((with_reducible show wpList _ _ _ (⟨_,Op.load 26 _,_,_,_,_⟩ :: _) _ _);refine wpList_load_has rfl 26 _ rfl rfl (HB.out.has) agg_Flat rfl ?_) | (go_at_call 15;refine (HCK.out _ HX.out).mono ?_;rintro r w2 ⟨rfl,hx2⟩;have HB2:=Lib.hid (HB.out.ext hx2)) | ((with_reducible show wpList _ _ _ (⟨_,Op.load 26 _,_,_,_,_⟩ :: _) _ _);refine wpList_load_has rfl 26 _ rfl rfl (HB2.out.has) agg_Flat rfl ?_) | (go_at_call 30;refine (HDV.out _ (HX.out.trans hx2)).mono ?_;rintro r w3 ⟨u,rfl,hr3,hx3⟩;have HB3:=Lib.hid (HB2.out.ext hx3)) | ((with_reducible show wpList _ _ _ (⟨_,Op.load 26 _,_,_,_,_⟩ :: _) _ _);refine wpList_load_has rfl 26 _ rfl rfl (HB3.out.has) agg_Flat rfl ?_) | (go_at_call 34;refine (HOD.out _ ((HX.out.trans hx2).trans hx3) _ hr3.cells).mono ?_;rintro r w4 ⟨u4,rfl,hr4,hx4⟩))
   refine bodyPost_ret (v:=.tuple #[u4,.int .i64 0]) (by simp [results,Tryz.results17,go_sem]) rfl ⟨u4,rfl,hr4.less ((HX.out.trans hx2).trans hx3).size,((HX.out.trans hx2).trans hx3).trans hx4⟩
 ·obtain ⟨e,he⟩ : ∃ e,(lookM d).1=e:=⟨_,rfl⟩
  have hb2:(lookM d).2.2=[]:=by
   rcases hcs with ⟨e',h1,h2,h3⟩ | ⟨hck,o,h1,hol,hob,h3⟩
   ·rw [h3]
   ·rw [h3] at hl ⊢
    by_cases e1:noneF d.signals o 0 d.signals=true
    ·rw [if_pos e1]
    ·rw [if_neg e1] at hl ⊢
     by_cases e2:latF d 0 d.procs=true
     ·rw [if_pos e2]
     ·rw [if_neg e2] at hl ⊢
      by_cases e3:(ordM (graphM d o) (clks d)).length < wiresM (clks d)
      ·rw [if_pos e3]
      ·rw [if_neg e3] at hl;exact absurd rfl hl
  rw [he] at HCK hl
  rw [he,hb2]
  have hb:(e != 0)=true:=by rw [bne_iff_ne];exact hl
  clear hcs hl he hb2
  go_enter Tryz.func17,Tryz.ntmps17
  go_upto_region 1 with fail
  generalize w.alloc _=w1 at *
  go_wp2_with (first | ((with_reducible show wpList _ _ _ (⟨_,Op.load 26 _,_,_,_,_⟩ :: _) _ _);refine wpList_load_has rfl 26 _ rfl rfl (HB.out.has) agg_Flat rfl ?_) | (go_at_call 15;refine (HCK.out _ HX.out).mono ?_;rintro r w2 ⟨rfl,hx2⟩))
  refine bodyPost_ret (v:=.tuple #[.slice Option.none 0 0,.int .i64 e]) (by simp [results,Tryz.results17,go_sem]) rfl ⟨_,rfl,IntRow.nil _ _,HX.out.trans hx2⟩
end Go.Proofs.YthpemngachlehaaGreat
