/- ref10's first walked: where each signal's bits begin. -/
import Derived.Test.YtemabheegnngdaaGreatQ06
import Derived.Test.YtemabheegnngdaaGreatQ12
import Derived.Test.YtemabheegnngdaaGreatQStmtS
import Derived.Test.YtemabheegnngdaaGreatQ14
import Derived.Test.YtemabheegnngdaaGreatQ00
set_option linter.all false
namespace Go.Proofs.YtemabheegnngdaaGreat
open Go.RowKit
theorem IntRow.empty {N B:Nat} {w:World} (hb:Blk w B #[] 3) (hN:N ≤ B):IntRow N (.slice (some ⟨B,0,none⟩) 0 0) [] w :=
 ⟨by simp,.inr ⟨B,0,#[],rfl,hN,hb,Nat.le_refl _,by simp [maxLen],by simp,by simp⟩⟩
def offsF (ls:List Signal) (k:Nat):List Int:=(List.range k).map (sumW ls)
theorem offsF_succ (ls:List Signal) (k:Nat):offsF ls (k + 1)=offsF ls k ++ [sumW ls k]:=by unfold offsF;rw [List.range_succ,List.map_append];rfl
theorem offsF_length (ls:List Signal) (k:Nat):(offsF ls k).length=k:=by simp [offsF]
set_option maxRecDepth 100000 in
set_option maxHeartbeats 4000000 in
theorem first10_calls (d:Flat) (v:Value) (w:World) (h:FlatV w v d) (hlen:d.signals.length ≤ 1048576) (hw:∀ x ∈ d.signals,1 ≤ x.w∧x.w ≤ 64) :
  Calls Tryz.prog 62 #[v] w fun r w'=>∃ u,r=.returned u∧IntRow w.heap.size u (offsM d.signals d.signals.length) w'∧Ext w w':=by
 obtain ⟨sv,pv,cv,rfl,hS,hP,hC⟩:=h
 have HX:=Lib.hid (ext_alloc w (.cells [sv,pv,cv].toArray 26))
 have HB:=Lib.hid (Blk.new w [sv,pv,cv].toArray 26)
 obtain ⟨a0,b0,o0,c0,rfl,hc1,hc2,ha,hr⟩:=hS.open
 have HA:=Lib.hid ha
 have HR:=Lib.hid hr
 have HW:=Lib.hid hw
 clear hS hP hC ha hr hw
 go_enter Tryz.func62,Tryz.ntmps62
 go_upto_region 1 with fail
 have hs1:(w.alloc (.cells [.slice a0 d.signals.length c0,pv,cv].toArray 26)).heap.size=w.heap.size + 1:=by simp
 generalize w.alloc _=w1 at *
 have x3:=ext_alloc w1 (.cells #[] 3)
 have hL:=Blk.new w1 #[] 3
 have hrow0:=IntRow.empty (N:=w1.heap.size) hL (Nat.le_refl _)
 have hss:w1.heap.size < (w1.alloc (.cells #[] 3)).heap.size:=by simp
 go_wp2_with ((with_reducible show wpList _ _ _ (⟨_,Op.buildSlice _ _ _,_,_,_,_⟩ :: _) _ _);refine wpList_bs0 rfl _ rfl appInt ?_)
 generalize w1.alloc _=w2 at *
 clear hL
 go_loopw [3,4,5] (fun u n i wr=>∃ k:Nat,k ≤ d.signals.length∧i=.int .i64 k∧n=.int .i64 (sumW d.signals k)∧IntRow w1.heap.size u (offsF d.signals k) wr∧Ext w1 wr) (fun _ _ i _=>d.signals.length - (intOf i).toNat)
 case atStart=>exact ⟨0,Nat.zero_le _,rfl,rfl,by rw [← hs1];exact hrow0,x3⟩
 case round =>
  obtain ⟨k,hk,rfl,rfl,hrow,hx⟩:=hrel
  have HROW:=Lib.hid hrow
  have HXR:=Lib.hid hx
  have hsz:=hx.size
  have z0:=(HB.out.ext hx).has 0 _ rfl
  rw [Nat.zero_add] at z0
  clear hrow hx
  have hlk:=offsF_length d.signals k
  have hsucc:=offsF_succ d.signals k
  have hbd:=sumW_le d.signals HW.out k hk
  by_cases hlt:k < d.signals.length
  ·obtain rfl:=HA.out (by omega)
   have hhas:Has wr b0 (o0 + k * 4) d.signals[k].cells:=Sigs.get (HR.out.mono fun x _ b o h=>SigAt.ext' (HX.out.trans HXR.out) h) hlt
   have hwk:=HW.out _ (List.getElem_mem hlt)
   have hsw:=sumW_succ d.signals k hlt
   have hbd1:=sumW_le d.signals HW.out (k + 1) hlt
   obtain ⟨x,hxk⟩ : ∃ x,d.signals[k]=x:=⟨_,rfl⟩
   have HXK:=Lib.hid hxk
   rw [hxk] at hwk hsw hhas
   obtain ⟨s0,hs0⟩ : ∃ s0,sumW d.signals k=s0:=⟨_,rfl⟩
   obtain ⟨s1,hs1'⟩ : ∃ s1,sumW d.signals (k + 1)=s1:=⟨_,rfl⟩
   have HS1:=Lib.hid hs1'
   rw [hs1'] at hbd1 hsw
   rw [hs0] at hbd hsw hsucc ⊢
   have HB1:=Lib.hid hbd1
   clear hxk hs0 hs1' hbd1
   have HSUCC:=Lib.hid hsucc
   have HLK:=Lib.hid hlk
   have HSW:=Lib.hid hsw
   have HHAS:=Lib.hid hhas
   clear hsucc hlk hsw hhas
   go_wp2_with ((with_reducible show wpList _ _ _ (⟨_,Op.buildSlice _ _ _,_,_,_,_⟩ :: _) _ _);refine Hid.out ?_)
   refine Lib.hid ?_
   refine wpList_bs1 rfl _ _ rfl appInt rfl (cs:=[.int .i64 s0]) rfl rfl (by decide) ?_
   have hx2:=ext_alloc wr (.cells [Value.int .i64 s0].toArray 3)
   have hb2:=Blk.new wr [Value.int .i64 s0].toArray 3
   have hs2:(wr.alloc (.cells [Value.int .i64 s0].toArray 3)).heap.size=wr.heap.size + 1:=by simp
   refine wpList_appI rfl _ _ rfl rfl (HROW.out.ext hx2) rfl (fun _=>Nat.lt_of_lt_of_le Nat.zero_lt_one (Nat.le_refl 1)) (news:=[s0]) rfl (news_has hb2.has) (by rw [HLK.out];omega) (by omega) ?_
   intro g3 cap3 w3 hrow3 hg3
   have hX3:Ext w1 w3:=Ext.grownO (HXR.out.trans hx2) hg3 (fun j hj=>(HROW.out.at hj).1)
   have z0:=(HB.out.ext hX3).has 0 _ rfl
   rw [Nat.zero_add] at z0
   have hw3:w3.cell? ⟨b0,o0 + k * 4 + 1,none⟩=some (.int .i64 x.w):=by
    have hhas:Has w3 b0 (o0 + k * 4) d.signals[k].cells:=Sigs.get (HR.out.mono fun x _ b o h=>SigAt.ext' (HX.out.trans hX3) h) hlt
    have:=hhas 1 _ rfl
    rw [HXK.out] at this
    exact this
   rw [← HSUCC.out,HLK.out] at hrow3
   rw [HLK.out]
   have HR3:=Lib.hid hrow3
   have hadd:s0 + x.w=s1:=HSW.out.symm
   have hb1:=HB1.out
   clear hrow3 hg3 hb2 hx2 hs2
   go_wp2_with fail
   go_roundw
   case rel=>exact ⟨k + 1,hlt,by go_num,by rw [HS1.out],HR3.out,hX3⟩
   case measure=>simp [intOf];omega
  ·obtain rfl:k=d.signals.length:=by omega
   have HSUCC:=Lib.hid hsucc
   have HLK:=Lib.hid hlk
   obtain ⟨s0,hs0⟩ : ∃ s0,sumW d.signals d.signals.length=s0:=⟨_,rfl⟩
   rw [hs0] at HSUCC ⊢
   clear hsucc hlk hbd hs0
   go_wp2_with ((with_reducible show wpList _ _ _ (⟨_,Op.buildSlice _ _ _,_,_,_,_⟩ :: _) _ _);refine Hid.out ?_)
   refine Lib.hid ?_
   refine wpList_bs1 rfl _ _ rfl appInt rfl (cs:=[.int .i64 s0]) rfl rfl (by decide) ?_
   have hx2:=ext_alloc wr (.cells [Value.int .i64 s0].toArray 3)
   have hb2:=Blk.new wr [Value.int .i64 s0].toArray 3
   have hs2:(wr.alloc (.cells [Value.int .i64 s0].toArray 3)).heap.size=wr.heap.size + 1:=by simp
   refine wpList_appI rfl _ _ rfl rfl (HROW.out.ext hx2) rfl (fun _=>Nat.lt_of_lt_of_le Nat.zero_lt_one (Nat.le_refl 1)) (news:=[s0]) rfl (news_has hb2.has) (by rw [HLK.out];omega) (by omega) ?_
   intro g3 cap3 w3 hrow3 hg3
   have hX3:Ext w1 w3:=Ext.grownO (HXR.out.trans hx2) hg3 (fun j hj=>(HROW.out.at hj).1)
   rw [← HSUCC.out] at hrow3
   have HR3:=Lib.hid hrow3
   clear hrow3 hg3 hb2 hx2 hs2
   go_wp2_with fail
   go_ret
   exact ⟨_,rfl,HR3.out.less HX.out.size,HX.out.trans hX3⟩
theorem First_calls (d:Flat) (v:Value) (w:World) (h:FlatV w v d) (hlen:d.signals.length ≤ 1048576) (hw:∀ x ∈ d.signals,1 ≤ x.w∧x.w ≤ 64) :
  Calls Tryz.prog 38 #[v] w fun r w'=>∃ u,r=.returned u∧IntRow w.heap.size u (offsM d.signals d.signals.length) w'∧Ext w w':=by
 have HF:=Lib.hid (fun W (hx:Ext w W)=>first10_calls d v W (h.ext hx) hlen hw)
 obtain ⟨sv,pv,cv,rfl,hS,hP,hC⟩:=h
 have HX:=Lib.hid (ext_alloc w (.cells [sv,pv,cv].toArray 26))
 have hB:=Blk.new w [sv,pv,cv].toArray 26
 clear hS hP hC hlen hw
 go_enter Tryz.func38,Tryz.ntmps38
 go_upto_region 1 with fail
 generalize w.alloc _=w1 at *
 have d1:=hB.has
 go_wp2_with (first | ((with_reducible show wpList _ _ _ (⟨_,Op.load 26 _,_,_,_,_⟩ :: _) _ _);refine wpList_load_has rfl 26 _ rfl rfl (d1) agg_Flat rfl ?_) | (go_at_call 62;refine (HF.out w1 HX.out).mono ?_;rintro r w2 ⟨u2,rfl,hr2,hx2⟩))
 go_ret
 exact ⟨_,rfl,hr2.less HX.out.size,HX.out.trans hx2⟩
end Go.Proofs.YtemabheegnngdaaGreat
