/- Laws and walks that a claim of this seat leans on: Cyc8, Cyc9, Cyc10, Cyc11. -/
import Derived.Test.YtoaamjgfhppppaaGreatT29
import Derived.Test.YtoaamjgfhppppaaGreatT26
import Derived.Test.YtoaamjgfhppppaaGreatT17
import Derived.Test.YtoaamjgfhppppaaGreatT00
set_option maxRecDepth 100000
set_option maxHeartbeats 8000000
set_option linter.all false
namespace Go.Proofs.YtoaamjgfhppppaaGreat
open Go.RowKit
theorem wpAnyT_two {P:Program} {ops:Array Oper} {Q:Exit->Act->World->Prop} {md:Region.Mode} {S:World->Prop} {stop:Nat} {i j:Nat} {oi oj:Oper} {fuel:Nat} {listed:Array Bool} {a:Act} {w:World} (hr:Region.ready md ops listed=[i,j]) (hi:ops[i]? = some oi) (hj:ops[j]? = some oj)
  (h:∀ K:Act->World->Prop,Shut (∀ a w,((listed.setIfInBounds i true).getD stop true=false->S w)->wpAnyT P md ops Q S stop fuel (listed.setIfInBounds i true) a w->K a w)->if Region.wanted oi (yielded ops a.tmps)=true then Oper.wp P oi a w K Q else K (a.put oi.dst undef) w)
  (h':∀ K:Act->World->Prop,Shut (∀ a w,((listed.setIfInBounds j true).getD stop true=false->S w)->wpAnyT P md ops Q S stop fuel (listed.setIfInBounds j true) a w->K a w)->if Region.wanted oj (yielded ops a.tmps)=true then Oper.wp P oj a w K Q else K (a.put oj.dst undef) w) :
  wpAnyT P md ops Q S stop (fuel+1) listed a w:=by
 refine ⟨fun h0=>(by rw [hr] at h0;cases h0),fun k hk=>?_⟩
 rw [hr] at hk
 rcases List.mem_cons.1 hk with rfl | hk
 ·exact wpOp_step hi (fun K hK=>h K (fun a w hS hW=>hK a w ⟨hS,hW⟩))
 ·obtain rfl:=List.mem_singleton.1 hk
  exact wpOp_step hj (fun K hK=>h' K (fun a w hS hW=>hK a w ⟨hS,hW⟩))
structure RS (N Bo Bc:Nat) (ov0 uo lo ua ta:Value) (R:List (List Nat)) (L:List (List Bool)) (OV:List Nat) (CV:List Bool) (w2 w:World):Prop where
 oc:Blk w Bo #[ov0] 55/\Blk w Bc #[lo] 57
 u:RowU N w.heap.size uo R w
 l:RowL N w.heap.size lo L w
 wu:WordRow N ua OV w
 wt:BoolRow N ta CV w
 n:N<=w.heap.size
 fr:Fr (fun b=>ov0.ownBlock=some b) w2 w
theorem RS.ext {N Bo Bc:Nat} {ov0 uo lo ua ta:Value} {R:List (List Nat)} {L:List (List Bool)} {OV:List Nat} {CV:List Bool} {w2 w w':World} (h:RS N Bo Bc ov0 uo lo ua ta R L OV CV w2 w) (hx:Ext w w'):RS N Bo Bc ov0 uo lo ua ta R L OV CV w2 w' :=
 ⟨⟨h.oc.1.ext hx,h.oc.2.ext hx⟩,(h.u.ext wordEl hx).top wordEl,(h.l.ext boolEl hx).top boolEl,h.wu.ext hx,h.wt.ext hx,Nat.le_trans h.n hx.size,h.fr.trans (Fr.of_ext hx)⟩
theorem own_ne {e T:TypeId} {N n:Nat} {v:Value} {xs:List Value} {w:World} {b:Nat} {cs:Array Value} (h:w.ownsRow N e 1 v n xs) (hb:Blk w b cs T) (hT:T≠e):some b≠v.ownBlock:=fun e'=>by
 obtain ⟨-,cur,hc⟩:=ownsRow_at h e'.symm
 unfold Blk at hb
 rw [hc] at hb
 injection hb with hb
 injection hb with _ hb
 exact hT hb.symm
theorem RS.app {N Bo Bc:Nat} {ov0 u' lo ua ta:Value} {R R':List (List Nat)} {L:List (List Bool)} {OV:List Nat} {CV:List Bool} {w2 w w':World} (h:RS N Bo Bc ov0 ov0 lo ua ta R L OV CV w2 w) (hu:RowU N w'.heap.size u' R' w') (hg:w.grownBy w' ov0.ownBlock):RS N Bo Bc ov0 u' lo ua ta R' L OV CV w2 w':=by
 have hu0:=h.u
 obtain ⟨us,h1,-⟩:=hu0
 have hat:∀ b,ov0.ownBlock=some b->∃ cur,w.heap[b]? = some (.cells cur 27 (0,0)):=fun b hb=>(ownsRow_at h1 hb).2
 refine ⟨⟨(hg.block _ h.oc.1.lt (own_ne h1 h.oc.1 (by decide))).trans h.oc.1,(hg.block _ h.oc.2.lt (own_ne h1 h.oc.2 (by decide))).trans h.oc.2⟩,hu,(h.l.grown boolEl hg fun b hb=>?_).top boolEl,h.wu.grown hg fun k hk e=>?_,h.wt.grown hg fun k hk e=>?_,Nat.le_trans h.n hg.size,h.fr.trans (Fr.of_gb hg fun k hk=>hk)⟩
 ·obtain ⟨cur,hc⟩:=hat b hb
  exact .inr ⟨cur,_,hc,by decide,by decide⟩
 ·obtain ⟨cur,hc⟩:=hat k e.symm
  exact h.wu.ne (B:=k) (cs:=cur) (T:=27) hc (by decide) hk rfl
 ·obtain ⟨cur,hc⟩:=hat k e.symm
  exact h.wt.ne (B:=k) (cs:=cur) (T:=27) hc (by decide) hk rfl
theorem Run11_calls {d:Flat} {sv pv cv nv ov:Value} {P Bq Bo Bc N M:Nat} {ou oc:Value} {rows:List (List Nat)} {chks:List (List Bool)} {wb w:World} {v:List Nat} (H:Cy d sv pv cv wb) (h:CyW d sv pv cv nv ov P wb v w)
  (hq:Blk w Bq #[.pointer (some ⟨P,0,none⟩)] 84) (ho:Blk w Bo #[ou] 55) (hc:Blk w Bc #[oc] 57) (hru:RowU N M ou rows w) (hrl:RowL N M oc chks w) (hN:N<=w.heap.size) (hr1:rows.length<=1048576) (hr2:chks.length<=1048576) :
  Calls Tryz.prog 59 #[.pointer (some ⟨Bq,0,none⟩),.pointer (some ⟨Bo,0,none⟩),.pointer (some ⟨Bc,0,none⟩)] w fun r w'=>r=.returned (.tuple #[])/\∃ ou' oc',Blk w' Bo #[ou'] 55/\Blk w' Bc #[oc'] 57 /\
   RowU N w'.heap.size ou' (rows++[outV d.signals v]) w'/\RowL N w'.heap.size oc' (chks++[chkV d v]) w'/\Fr (fun b=>b=Bo\/b=Bc\/ou.ownBlock=some b\/oc.ownBlock=some b) w w':=by
 have HOC:=Jh (outs_calls H h)
 have hne:Bo≠Bc:=fun e=>by
  subst e
  unfold Blk at ho hc
  rw [ho] at hc
  injection hc with hc
  injection hc with _ hc
  exact absurd hc (by decide)
 obtain ⟨oa,ocap,rfl⟩:=hru.head
 obtain ⟨la,lcap,rfl⟩:=hrl.head
 have HU:=Jh (hru.top wordEl)
 have HL:=Jh (hrl.top boolEl)
 have HO:=Jh ho
 have HC:=Jh hc
 have yq:=hq.has 0 _ rfl
 rw [Nat.zero_add] at yq
 clear H h hq ho hc hru hrl
 obtain ⟨OV,hOV⟩:∃ O,outV d.signals v=O:=⟨_,rfl⟩
 obtain ⟨CV,hCV⟩:∃ O,chkV d v=O:=⟨_,rfl⟩
 rw [hOV,hCV] at HOC
 rw [hOV,hCV]
 clear hOV hCV
 go_enter Tryz.func59,Tryz.ntmps59
 go_upto_region 1 with (go_at_call 60;refine HOC.out.mono ?_;rintro r w1 ⟨u,t,rfl,hu,ht,hx1⟩)
 clear yq
 obtain ⟨ua,uc,rfl,-⟩:=hu.open
 obtain ⟨ta,tc,rfl,-⟩:=ht.open
 have HX1:=Jh hx1
 have HO1:=Jh (HO.out.ext hx1)
 have HC1:=Jh (HC.out.ext hx1)
 have HU1:=Jh ((HU.out.ext wordEl hx1).top wordEl)
 have HL1:=Jh ((HL.out.ext boolEl hx1).top boolEl)
 have HWU:=Jh (hu.less hN)
 have HWT:=Jh (ht.less hN)
 have HN1:=Jh (Nat.le_trans hN hx1.size)
 clear hu ht hx1
 refine wp_region_T (S:=fun W=>Blk W Bo #[.slice oa rows.length ocap] 55/\Blk W Bc #[.slice la chks.length lcap] 57) (stop:=8) (by kernel_rfl) ⟨HO1.out.drew,HC1.out.drew⟩ (fun hH=>?_)
 try simp only [J]
 (refine wpAnyT_take (i:=0) (v:=.slice oa rows.length ocap) rfl (by kernel_rfl) (by kernel_rfl) (by kernel_rfl) (by decide) (by kernel_rfl) (by kernel_rfl) (fun _ _ _ h=>h) (yif_load1 rfl (by intro W hW;have z:=hW.1.cell 0;simp only [List.getElem?_toArray,List.getElem?_cons_zero] at z;clear hW;go_simp)) hH ?_;try simp only [J])
 (refine wpAnyT_takeP (i:=1) (v:=.slice ua OV.length uc) rfl (by kernel_rfl) (by kernel_rfl) (by kernel_rfl) (by decide) (fun _ _ _ h=>h) (yif_load1 rfl fun _ _=>rfl) hH ?_;try simp only [J])
 (refine wpAnyT_take (i:=4) (v:=.slice la chks.length lcap) rfl (by kernel_rfl) (by kernel_rfl) (by kernel_rfl) (by decide) (by kernel_rfl) (by kernel_rfl) (fun _ _ _ h=>h) (yif_load1 rfl (by intro W hW;have z:=hW.2.cell 0;simp only [List.getElem?_toArray,List.getElem?_cons_zero] at z;clear hW;go_simp)) hH ?_;try simp only [J])
 (refine wpAnyT_takeP (i:=5) (v:=.slice ta CV.length tc) rfl (by kernel_rfl) (by kernel_rfl) (by kernel_rfl) (by decide) (fun _ _ _ h=>h) (yif_load1 rfl fun _ _=>rfl) hH ?_;try simp only [J])
 have HX2:=Jh (show Ext w1 w1.drew from Below.drew (Below.refl _ w1))
 generalize w1.drew=w2 at *
 have HX02:=Jh (HX1.out.trans HX2.out)
 have RS2:=Jh (show RS N Bo Bc (.slice oa rows.length ocap) (.slice oa rows.length ocap) (.slice la chks.length lcap) (.slice ua OV.length uc) (.slice ta CV.length tc) rows chks OV CV w2 w2 from
  ⟨hH,(HU1.out.ext wordEl HX2.out).top wordEl,(HL1.out.ext boolEl HX2.out).top boolEl,HWU.out.ext HX2.out,HWT.out.ext HX2.out,Nat.le_trans HN1.out HX2.out.size,Fr.refl _ _⟩)
 clear HU1 HL1 HWU HWT HN1 HX1 HX2 HO1 HC1
 refine wpAnyT_two (i:=2) (j:=6) (by kernel_rfl) rfl rfl ?gA ?gB
 case' gA =>
  intro K hK
  refine step_bs1 rfl _ _ rfl appWords rfl (cs:=[Value.slice ua OV.length uc]) rfl rfl (by decide) ?_
  have hx:=ext_alloc w2 (.cells [Value.slice ua OV.length uc].toArray 27)
  have rs3:=RS2.out.ext hx
  have hb2:=(Blk.new w2 [Value.slice ua OV.length uc].toArray 27).has
  refine hK.out _ _ (fun _=>rs3.oc) ?_
  clear hK K hx
  obtain ⟨B2,hB2⟩:∃ B,w2.heap.size=B:=⟨_,rfl⟩
  rw [hB2] at hb2 ⊢
  clear hB2
  generalize w2.alloc _=w3 at *
  try simp only [J]
  refine wpAnyT_two (i:=3) (j:=6) (by kernel_rfl) rfl rfl ?gC ?gD
 case' gC =>
  intro K hK
  refine step_appR wordEl (by decide) rfl _ _ rfl appWords rfl rs3.u rfl hb2 rs3.wu ⟨_,_,_,rfl⟩ (by omega) rs3.n ?_
  intro g4 cap4 w4 hr4 hg4
  have rs4:=rs3.app hr4 hg4
  refine hK.out _ _ (fun _=>rs4.oc) ?_
  clear hK K hr4 hg4
  try simp only [J]
  (refine wpAnyT_one (i:=6) (by kernel_rfl) rfl ?_;intro K hK)
  refine step_bs1 rfl _ _ rfl appBoolss rfl (cs:=[Value.slice ta CV.length tc]) rfl rfl (by decide) ?_
  have hx:=ext_alloc w4 (.cells [Value.slice ta CV.length tc].toArray 64)
  have rs5:=rs4.ext hx
  have hb6:=(Blk.new w4 [Value.slice ta CV.length tc].toArray 64).has
  refine hK.out _ _ (fun _=>rs5.oc) ?_
  clear hK K hx
  obtain ⟨B6,hB6⟩:∃ B,w4.heap.size=B:=⟨_,rfl⟩
  rw [hB6] at hb6 ⊢
  clear hB6
  generalize w4.alloc _=w5 at *
  try simp only [J]
 case' gD =>
  intro K hK
  refine step_bs1 rfl _ _ rfl appBoolss rfl (cs:=[Value.slice ta CV.length tc]) rfl rfl (by decide) ?_
  have hx:=ext_alloc w3 (.cells [Value.slice ta CV.length tc].toArray 64)
  have rs4:=rs3.ext hx
  have hb6:=(Blk.new w3 [Value.slice ta CV.length tc].toArray 64).has
  have hb2:=hb2.ext hx
  have hbB:=Blk.new w3 [Value.slice ta CV.length tc].toArray 64
  refine hK.out _ _ (fun _=>rs4.oc) ?_
  clear hK K hx
  obtain ⟨B6,hB6⟩:∃ B,w3.heap.size=B:=⟨_,rfl⟩
  rw [hB6] at hb6 hbB ⊢
  clear hB6
  generalize w3.alloc _=w4 at *
  try simp only [J]
  (refine wpAnyT_one (i:=3) (by kernel_rfl) rfl ?_;intro K hK)
  refine step_appR wordEl (by decide) rfl _ _ rfl appWords rfl rs4.u rfl hb2 rs4.wu ⟨_,_,_,rfl⟩ (by omega) rs4.n ?_
  intro g4 cap4 w5 hr4 hg4
  have rs5:=rs4.app hr4 hg4
  have hb6:=hb6.grownR hg4 (own_ne rs4.u.choose_spec.1 hbB (by decide)).symm
  refine hK.out _ _ (fun _=>rs5.oc) ?_
  clear hK K hr4 hg4
  try simp only [J]
 case' gB =>
  intro K hK
  refine step_bs1 rfl _ _ rfl appBoolss rfl (cs:=[Value.slice ta CV.length tc]) rfl rfl (by decide) ?_
  have hx:=ext_alloc w2 (.cells [Value.slice ta CV.length tc].toArray 64)
  have rs3:=RS2.out.ext hx
  have hb6:=(Blk.new w2 [Value.slice ta CV.length tc].toArray 64).has
  have hbB:=Blk.new w2 [Value.slice ta CV.length tc].toArray 64
  refine hK.out _ _ (fun _=>rs3.oc) ?_
  clear hK K hx
  obtain ⟨B6,hB6⟩:∃ B,w2.heap.size=B:=⟨_,rfl⟩
  rw [hB6] at hb6 hbB ⊢
  clear hB6
  generalize w2.alloc _=w3 at *
  try simp only [J]
  (refine wpAnyT_one (i:=2) (by kernel_rfl) rfl ?_;intro K hK)
  refine step_bs1 rfl _ _ rfl appWords rfl (cs:=[Value.slice ua OV.length uc]) rfl rfl (by decide) ?_
  have hx:=ext_alloc w3 (.cells [Value.slice ua OV.length uc].toArray 27)
  have rs4:=rs3.ext hx
  have hb2:=(Blk.new w3 [Value.slice ua OV.length uc].toArray 27).has
  have hb6:=hb6.ext hx
  have hbB:=hbB.ext hx
  refine hK.out _ _ (fun _=>rs4.oc) ?_
  clear hK K hx
  obtain ⟨B2,hB2⟩:∃ B,w3.heap.size=B:=⟨_,rfl⟩
  rw [hB2] at hb2 ⊢
  clear hB2
  generalize w3.alloc _=w4 at *
  try simp only [J]
  (refine wpAnyT_one (i:=3) (by kernel_rfl) rfl ?_;intro K hK)
  refine step_appR wordEl (by decide) rfl _ _ rfl appWords rfl rs4.u rfl hb2 rs4.wu ⟨_,_,_,rfl⟩ (by omega) rs4.n ?_
  intro g4 cap4 w5 hr4 hg4
  have rs5:=rs4.app hr4 hg4
  have hb6:=hb6.grownR hg4 (own_ne rs4.u.choose_spec.1 hbB (by decide)).symm
  refine hK.out _ _ (fun _=>rs5.oc) ?_
  clear hK K hr4 hg4
  try simp only [J]
 all_goals (
  (refine wpAnyT_one (i:=7) (by kernel_rfl) rfl ?_;intro K hK)
  refine step_appR boolEl (by decide) rfl _ _ rfl appBoolss rfl rs5.l rfl hb6 rs5.wt ⟨_,_,_,rfl⟩ (by omega) rs5.n ?_
  intro g7 cap7 w7 hr7 hg7
  have ho7:=(hg7.block _ rs5.oc.1.lt (own_ne rs5.l.choose_spec.1 rs5.oc.1 (by decide))).trans rs5.oc.1
  have hc7:=(hg7.block _ rs5.oc.2.lt (own_ne rs5.l.choose_spec.1 rs5.oc.2 (by decide))).trans rs5.oc.2
  have hu7:=rs5.u.grown wordEl hg7 fun b hb=>by
   obtain ⟨-,cur,hc⟩:=ownsRow_at rs5.l.choose_spec.1 hb
   exact .inr ⟨cur,_,hc,by decide,by decide⟩
  have hf7:Fr (fun b=>b=Bo\/b=Bc\/(Value.slice oa rows.length ocap).ownBlock=some b\/(Value.slice la chks.length lcap).ownBlock=some b) w w7 :=
   ((Fr.of_ext HX02.out).trans (rs5.fr.mono fun b hb=>.inr (.inr (.inl hb)))).trans (Fr.of_gb hg7 fun b hb=>.inr (.inr (.inr hb)))
  refine hK.out _ _ (fun _=>⟨ho7,hc7⟩) ?_
  clear hK K hg7 rs5 hb6
  try simp only [J]
  replace ho7:Blk w7 Bo #[.slice oa rows.length ocap] 55:=ho7
  replace hc7:Blk w7 Bc #[.slice la chks.length lcap] 57:=hc7
  have yo:=ho7.cell 0
  have fo:=ho7.frozen 0
  simp only [List.getElem?_toArray,List.getElem?_cons_zero] at yo
  (refine wpAnyT_one (i:=8) (by kernel_rfl) rfl ?_;intro K hK)
  go_simp
  refine hK.out _ _ (fun h=>absurd h (by decide)) ?_
  clear hK K yo fo
  try simp only [J]
  refine wpAnyT_of_held _ _ _ _ (by kernel_rfl) ?_
  have g8:=gb_set w7 Bo 0 (.slice (some ⟨g4,0,none⟩) (rows.length+1) cap4)
  have ho8:=ho7.set 0 (.slice (some ⟨g4,0,none⟩) (rows.length+1) cap4)
  have hc8:=hc7.grown g8 hne.symm
  have hu8:=hu7.grown wordEl g8 fun b hb=>by injection hb with hb;subst hb;exact .inr ⟨_,_,ho7,by decide,by decide⟩
  have hr8:=hr7.grown boolEl g8 fun b hb=>by injection hb with hb;subst hb;exact .inr ⟨_,_,ho7,by decide,by decide⟩
  have hf8:=hf7.trans (Fr.of_gb g8 fun b hb=>.inl (by injection hb with hb;exact hb.symm))
  clear hf7 hu7 hr7 ho7 hc7 g8
  generalize w7.setCell _ _=w8 at *
  have yc:=hc8.cell 0
  have fc:=hc8.frozen 0
  simp only [List.getElem?_toArray,List.getElem?_cons_zero] at yc
  have g9:=gb_set w8 Bc 0 (.slice (some ⟨g7,0,none⟩) (chks.length+1) cap7)
  have ho9:=ho8.grown g9 hne
  have hc9:=hc8.set 0 (.slice (some ⟨g7,0,none⟩) (chks.length+1) cap7)
  have hu9:=(hu8.grown wordEl g9 fun b hb=>by injection hb with hb;subst hb;exact .inr ⟨_,_,hc8,by decide,by decide⟩).top wordEl
  have hr9:=(hr8.grown boolEl g9 fun b hb=>by injection hb with hb;subst hb;exact .inr ⟨_,_,hc8,by decide,by decide⟩).top boolEl
  have hf9:=hf8.trans (Fr.of_gb g9 fun b hb=>.inr (.inl (by injection hb with hb;exact hb.symm)))
  have HO9:=Jh ho9
  have HC9:=Jh hc9
  have HU9:=Jh hu9
  have HR9:=Jh hr9
  have HF9:=Jh hf9
  clear ho9 hc9 hu9 hr9 hf9 g9 ho8 hc8 hu8 hr8 hf8
  (refine Jr 9 rfl fun K hK=>?_)
  go_simp
  refine hK.out _ _ trivial (fun hH=>?_)
  clear hK K yc fc
  refine Jz ?_
  go_wp2_with fail
  all_goals go_end0
  exact ⟨rfl,_,_,by simpa using HO9.out,by simpa using HC9.out,HU9.out,HR9.out,HF9.out⟩)
theorem blk_ne {w:World} {b b':Nat} {cs cs':Array Value} {T T':TypeId} (h:Blk w b cs T) (h':Blk w b' cs' T') (hT:T≠T'):b≠b':=fun e=>by
 subst e
 unfold Blk at h h'
 rw [h] at h'
 injection h' with h'
 injection h' with _ h'
 exact hT h'
structure RunW (d:Flat) (sv pv cv:Value) (P Bo Bc Bq Bs N0 M:Nat) (wA wb:World) (fs:Array Value) (v:List Nat) (nv ov ou oc:Value) (rows:List (List Nat)) (chks:List (List Bool)) (wk W:World):Prop where
 cy:Cy d sv pv cv wk
 cw:CyW d sv pv cv nv ov P wk v W
 sz:wk.heap.size=wb.heap.size
 exA:Ext wA wk
 mid:∀ b,N0<=b->b<wb.heap.size->wk.heap[b]? = wb.heap[b]?
 q:Blk W Bq #[.pointer (some ⟨P,0,none⟩)] 84
 st:Blk W Bs fs 1
 o:Blk W Bo #[ou] 55
 c:Blk W Bc #[oc] 57
 u:RowU wb.heap.size M ou rows W
 l:RowL wb.heap.size M oc chks W
section
variable {d:Flat} {sv pv cv nv ov ou oc:Value} {P Bo Bc Bq Bs N0 M:Nat} {wA wb wk W W':World} {fs:Array Value} {v:List Nat} {rows:List (List Nat)} {chks:List (List Bool)}
theorem RunW.step (h:RunW d sv pv cv P Bo Bc Bq Bs N0 M wA wb fs v nv ov ou oc rows chks wk W) {v':List Nat} {nv' ov':Value} (hc:CyW d sv pv cv nv' ov' P wk v' W') {Rb:Option Nat} (hg:W.grownBy W' Rb) (hR:∀ b,Rb=some b->b=P\/nv.ownBlock=some b/\M<=b) :
  RunW d sv pv cv P Bo Bc Bq Bs N0 M wA wb fs v' nv' ov' ou oc rows chks wk W':=by
 have key:∀ {B:Nat} {cs:Array Value} {T:TypeId},Blk W B cs T->T≠89->T≠39->Blk W' B cs T:=fun {B cs T} hb h1 h2=>(hg.block B hb.lt fun e=>by
  rcases hR B e.symm with rfl | ⟨hn,-⟩
  ·exact blk_ne hb h.cw.blk h1 rfl
  ·obtain ⟨-,cur,hcur⟩:=h.cw.row.at hn
   exact blk_ne hb (show Blk W B cur 39 from hcur) h2 rfl).trans hb
 refine ⟨h.cy,hc,h.sz,h.exA,h.mid,key h.q (by decide) (by decide),key h.st (by decide) (by decide),key h.o (by decide) (by decide),key h.c (by decide) (by decide),h.u.grown wordEl hg fun b hb=>?_,h.l.grown boolEl hg fun b hb=>?_⟩
 ·rcases hR b hb with rfl | ⟨-,hm⟩
  ·exact .inr ⟨_,_,h.cw.blk,by decide,by decide⟩
  ·exact .inl hm
 ·rcases hR b hb with rfl | ⟨-,hm⟩
  ·exact .inr ⟨_,_,h.cw.blk,by decide,by decide⟩
  ·exact .inl hm
theorem RunW.wrote (h:RunW d sv pv cv P Bo Bc Bq Bs N0 M wA wb fs v nv ov ou oc rows chks wk W) (HF:∀ W,Ext wA W->FlatV W (.agg #[sv,pv,cv]) d) (hbo:wA.heap.size<=Bo/\Bo<N0) (hbc:wA.heap.size<=Bc/\Bc<N0) (hN0:N0<=wb.heap.size) {ou' oc':Value} {rows':List (List Nat)} {chks':List (List Bool)}
  (ho:Blk W' Bo #[ou'] 55) (hc:Blk W' Bc #[oc'] 57) (hu:RowU wb.heap.size W'.heap.size ou' rows' W') (hl:RowL wb.heap.size W'.heap.size oc' chks' W') (hf:Fr (fun b=>b=Bo\/b=Bc\/ou.ownBlock=some b\/oc.ownBlock=some b) W W') :
  ∃ wk',RunW d sv pv cv P Bo Bc Bq Bs N0 W'.heap.size wA wb fs v nv ov ou' oc' rows' chks' wk' W':=by
 have hun:=h.u
 have hln:=h.l
 obtain ⟨us,hu1,-⟩:=hun
 obtain ⟨ls,hl1,-⟩:=hln
 have hlow:∀ b,(ou.ownBlock=some b\/oc.ownBlock=some b)->wb.heap.size<=b:=fun b hb=>hb.elim (fun e=>(ownsRow_at hu1 e).1) (fun e=>(ownsRow_at hl1 e).1)
 have key:∀ {B:Nat} {cs:Array Value} {T:TypeId},Blk W B cs T->T≠55->T≠57->T≠27->T≠64->Blk W' B cs T:=fun {B cs T} hb h1 h2 h3 h4=>(hf.block B hb.lt fun e=>by
  rcases e with rfl | rfl | e | e
  ·exact blk_ne hb h.o h1 rfl
  ·exact blk_ne hb h.c h2 rfl
  ·obtain ⟨-,cur,hcur⟩:=ownsRow_at hu1 e
   exact blk_ne hb (show Blk W B cur 27 from hcur) h3 rfl
  ·obtain ⟨-,cur,hcur⟩:=ownsRow_at hl1 e
   exact blk_ne hb (show Blk W B cur 64 from hcur) h4 rfl).trans hb
 have hsz:wk.heap.size<=W'.heap.size:=Nat.le_trans h.cw.ext.size hf.size
 have hks:(W'.heap.extract 0 wk.heap.size).size=wk.heap.size:=by rw [Array.size_extract];omega
 have hget:∀ k,k<wk.heap.size->(W'.heap.extract 0 wk.heap.size)[k]? = W'.heap[k]?:=fun k hk=>by rw [Array.getElem?_extract];simp;omega
 have hold:∀ b,b<wk.heap.size->b≠Bo->b≠Bc->W'.heap[b]? = wk.heap[b]?:=fun b hb h1 h2=>(hf.block b (Nat.lt_of_lt_of_le hb h.cw.ext.size) fun e=>by
  rcases e with e | e | e
  ·exact h1 e
  ·exact h2 e
  ·have:=hlow b e
   have:=h.sz
   omega).trans (h.cw.ext.block b hb)
 have hszA:=h.exA.size
 have hsz2:=h.sz
 have hexA:Ext wA { W' with heap:=W'.heap.extract 0 wk.heap.size }:=by
  refine ⟨hf.os.trans (h.cw.ext.os.trans h.exA.os),hf.tape.trans (h.cw.ext.tape.trans h.exA.tape),hf.output.trans (h.cw.ext.output.trans h.exA.output),?_,fun k hk=>?_⟩
  ·show wA.heap.size<=(W'.heap.extract 0 wk.heap.size).size
   rw [hks];exact hszA
  ·show (W'.heap.extract 0 wk.heap.size)[k]? = wA.heap[k]?
   rw [hget k (by omega),hold k (by omega) (by omega) (by omega)]
   exact h.exA.block k hk
 have hwk:Ext { W' with heap:=W'.heap.extract 0 wk.heap.size } W':=by
  refine ⟨rfl,rfl,rfl,?_,fun k hk=>?_⟩
  ·show (W'.heap.extract 0 wk.heap.size).size<=W'.heap.size
   rw [hks];exact hsz
  ·have hk':k<(W'.heap.extract 0 wk.heap.size).size:=hk
   rw [hks] at hk'
   exact (hget k hk').symm
 have hsize:({ W' with heap:=W'.heap.extract 0 wk.heap.size }:World).heap.size=wk.heap.size:=hks
 refine ⟨{ W' with heap:=W'.heap.extract 0 wk.heap.size },⟨h.cy.ok,h.cy.lk,HF _ hexA⟩,⟨hwk,?_,h.cw.val,?_,key h.cw.blk (by decide) (by decide) (by decide) (by decide),?_⟩,hks.trans h.sz,hexA,fun b h1 h2=>?_,key h.q (by decide) (by decide) (by decide) (by decide),key h.st (by decide) (by decide) (by decide) (by decide),ho,hc,hu,hl⟩
 ·rw [hsize];exact h.cw.le
 ·rw [hsize]
  refine h.cw.row.keep fun k hk o hok=>?_
  obtain ⟨-,cur,hcur⟩:=h.cw.row.at hk
  have:=key (show Blk W k cur 39 from hcur) (by decide) (by decide) (by decide) (by decide)
  rw [hcur] at hok
  rw [<-hok];exact this
 ·rw [hsize]
  refine h.cw.ord.imp id fun q=>q.keep fun k hk o hok=>?_
  obtain ⟨-,cur,hcur⟩:=q.at hk
  have:=key (show Blk W k cur 3 from hcur) (by decide) (by decide) (by decide) (by decide)
  rw [hcur] at hok
  rw [<-hok];exact this
 ·show (W'.heap.extract 0 wk.heap.size)[b]? = wb.heap[b]?
  rw [hget b (by omega),hold b (by omega) (by omega) (by omega)]
  exact h.mid b h1 h2
end
theorem appFuncs:AppT Tryz.prog 106 1 1 8:=⟨Tryz.underlying106,by kernel_rfl,by decide,by decide⟩
theorem leads_run11:Leads Tryz.prog 59:=leads_of Tryz.func59 (by kernel_rfl) rfl
theorem cycM_cons (d:Flat) (i:List Nat) (ins:List (List Nat)) (v:List Nat):cycM d (i::ins) v=match putM d.signals v i with | none=>none | some w=>(cycM d ins (tickM d (settleM d w))).map fun r=>(outV d.signals (settleM d w)::r.1,chkV d (settleM d w)::r.2):=by rw [cycM];cases putM d.signals v i<;>rfl
abbrev steps13 (P Bo Bc Bq:Nat):List Value:=[.func (.func 48) #[.pointer (some ⟨P,0,none⟩)] #[],.func (.func 59) #[] #[.pointer (some ⟨Bq,0,none⟩),.pointer (some ⟨Bo,0,none⟩),.pointer (some ⟨Bc,0,none⟩)],.func (.func 50) #[.pointer (some ⟨P,0,none⟩)] #[]]
theorem Run1_calls {d:Flat} {sv pv cv nv:Value} {P Bo Bc Bi N0:Nat} {wA wb w:World} {v:List Nat} {iv:Value} {ins:List (List Nat)} (HF:∀ W,Ext wA W->FlatV W (.agg #[sv,pv,cv]) d) (hok:d.ok) (hl:(lookM d).1=0) (hA:Ext wA wb) (hN0:N0<=wb.heap.size)
  (h:CyW d sv pv cv nv (.slice none 0 0) P wb v w) (hbo:wA.heap.size<=Bo/\Bo<N0) (hbc:wA.heap.size<=Bc/\Bc<N0) (hbi:wA.heap.size<=Bi/\Bi<N0) (ho:Blk wb Bo #[.slice none 0 0] 55) (hc:Blk wb Bc #[.slice none 0 0] 57) (hi:Blk wb Bi #[iv] 55) (hoi:Bo≠Bi)
  (hI:UsL wA iv ins) (hI64:∀ l∈ins,us64 l) (hIl:ins.length<=1048576) :
  Calls Tryz.prog 58 #[.pointer (some ⟨P,0,none⟩),.pointer (some ⟨Bo,0,none⟩),.pointer (some ⟨Bc,0,none⟩),.pointer (some ⟨Bi,0,none⟩)] w fun r W'=>(∀ b,N0<=b->b<wb.heap.size->W'.heap[b]? = wb.heap[b]?)/\wb.heap.size<=W'.heap.size /\
   ∃ ou oc,Blk W' Bo #[ou] 55/\Blk W' Bc #[oc] 57/\Ext wA W' /\
   ((r=.returned (.tuple #[])/\∃ rows chks,cycM d ins (resetM d)=some (rows,chks)/\∃ M,RowU wb.heap.size M ou rows W'/\RowL wb.heap.size M oc chks W')\/(cycM d ins (resetM d)=none/\r=panicOf 1)):=by
 have HFF:=Jh HF
 have HH:Cy d sv pv cv wb:=⟨hok,hl,HF wb hA⟩
 have HCY:=Jh HH
 have HW:=Jh h
 have HA:=Jh hA
 have HBO:=Jh ho
 have HBC:=Jh hc
 have HBI:=Jh hi
 have HI64:=Jh hI64
 obtain ⟨ia,ib,io,ic,rfl,hi1,hi2,hia,hir⟩:=hI.open
 have HIA:=Jh hia
 have HIR:=Jh hir
 obtain ⟨Tot,hTot⟩:∃ T,cycM d ins (resetM d)=T:=⟨_,rfl⟩
 have HTOT:=Jh hTot
 rw [hTot]
 have hmf:∀ (fn:Fn) (first cap:Array Value) (w:World),(Instr.makeFunc fn first cap).run Tryz.prog w=.ok (.func fn first cap) w:=fun _ _ _ _=>rfl
 clear HF HH h hA ho hc hi hI hI64 hia hir hTot hok hl
 have HX1:=Jh (ext_alloc w (.cells #[.pointer (some ⟨P,0,none⟩)] 84))
 have HQ1:=Jh (Blk.new w #[.pointer (some ⟨P,0,none⟩)] 84)
 go_enter Tryz.func58,Tryz.ntmps58
 go_upto_region 1 with fail
 generalize w.alloc _=w1 at *
 obtain ⟨Bq,hBq⟩:∃ B,w.heap.size=B:=⟨_,rfl⟩
 have HBQ:=Jh hBq
 rw [hBq] at HQ1 ⊢
 clear hBq
 have yq:=HQ1.out.cell 0
 simp only [List.getElem?_toArray,List.getElem?_cons_zero] at yq
 go_wp2_with ((with_reducible show Jw (Op.buildSlice _ _ _));refine Hid.out ?_)
 refine Jh ?_
 refine wpList_bsN rfl _ 3 _ rfl appFuncs (vs:=steps13 P Bo Bc Bq) (css:=(steps13 P Bo Bc Bq).map fun f=>[f]) rfl rfl rfl (by simp) (by decide) (by decide) ?_
 have ecs:((steps13 P Bo Bc Bq).map fun f=>[f]).flatten.toArray=(steps13 P Bo Bc Bq).toArray:=rfl
 rw [ecs]
 have HX2:=Jh (HX1.out.trans (ext_alloc w1 (.cells (steps13 P Bo Bc Bq).toArray 1)))
 have HQ2:=Jh (HQ1.out.ext (ext_alloc w1 (.cells (steps13 P Bo Bc Bq).toArray 1)))
 have HS2:=Jh (Blk.new w1 (steps13 P Bo Bc Bq).toArray 1)
 clear HX1 HQ1 yq ecs
 generalize w1.alloc _=w2 at *
 obtain ⟨Bs,hBs⟩:∃ B,w1.heap.size=B:=⟨_,rfl⟩
 rw [hBs] at HS2 ⊢
 clear hBs
 have yq:=HQ2.out.cell 0
 simp only [List.getElem?_toArray,List.getElem?_cons_zero] at yq
 go_upto_region 3 with (go_at_call 61;refine (reset_calls HCY.out (HW.out.ext' HX2.out)).mono ?_;rintro r w3 ⟨rfl,hc3,hg3⟩)
 clear yq
 have hrw3:RunW d sv pv cv P Bo Bc Bq Bs N0 wb.heap.size wA wb (steps13 P Bo Bc Bq).toArray v nv (.slice none 0 0) (.slice none 0 0) (.slice none 0 0) [] [] wb w2 :=
  ⟨HCY.out,HW.out.ext' HX2.out,rfl,HA.out,fun _ _ _=>rfl,HQ2.out,HS2.out,HBO.out.ext (HW.out.ext.trans HX2.out),HBC.out.ext (HW.out.ext.trans HX2.out),RowR.nil _ _ _ _ _,RowR.nil _ _ _ _ _⟩
 have hr3:=hrw3.step hc3 hg3 (fun b hb=>.inr ⟨hb,(HW.out.row.at hb).1⟩)
 have HR3:=Jh hr3
 have HN3:=Jh (fun k (hk:nv.ownBlock=some k)=>(HW.out.row.at hk).1)
 have yi:=(HBI.out.ext hc3.ext).cell 0
 simp only [List.getElem?_toArray,List.getElem?_cons_zero] at yi
 clear hrw3 hr3 hc3 hg3 HX2 HQ2 HS2
 go_wp2_with fail
 clear yi
 go_loopw [7,9,20] (fun _ _ i wr=>∃ (k:Nat) (vv:List Nat) (nv' ov ou oc:Value) (rows:List (List Nat)) (chks:List (List Bool)) (wk:World) (M:Nat),k<=ins.length/\i=.int .i64 k/\RunW d sv pv cv P Bo Bc Bq Bs N0 M wA wb (steps13 P Bo Bc Bq).toArray vv nv' ov ou oc rows chks wk wr/\(∀ b,nv'.ownBlock=some b->M<=b) /\
  rows.length=k/\chks.length=k/\Tot=(cycM d (ins.drop k) vv).map (fun r=>(rows++r.1,chks++r.2))) (fun _ _ i _=>ins.length-(intOf i).toNat)
 case atStart=>exact ⟨0,resetM d,nv,_,_,_,[],[],wb,_,Nat.zero_le _,rfl,HR3.out,HN3.out,rfl,rfl,by rw [List.drop_zero,<-HTOT.out];simp⟩
 case round =>
  obtain ⟨k,vv,nv',ov,ou,oc,rows,chks,wk,M,hk,rfl,hrw,hap,hr1,hr2,htot⟩:=hrel
  have HR:=Jh hrw
  have HAP:=Jh hap
  have HR1:=Jh hr1
  have HR2:=Jh hr2
  have HT:=Jh htot
  clear hrw hap hr1 hr2 htot
  by_cases hlt:k<ins.length
  ·obtain rfl:=HIA.out (by omega)
   obtain ⟨ui,hui,hus⟩:=HIR.out.get (List.getElem?_eq_getElem hlt)
   rw [Nat.mul_one] at hui
   have yk:=(hui.ext (HR.out.exA.trans HR.out.cw.ext)) 0 _ rfl
   rw [Nat.add_zero] at yk
   have h64i:=HI64.out _ (List.getElem_mem hlt)
   have yq:=HR.out.q.cell 0
   simp only [List.getElem?_toArray,List.getElem?_cons_zero] at yq
   have ht1:=HT.out
   rw [List.drop_eq_getElem_cons hlt,cycM_cons] at ht1
   have HPUT:=Jh (put_calls HR.out.cy HR.out.cw _ ins[k] (hus.ext HR.out.exA) h64i)
   obtain ⟨va,vb,vo,vc,rfl,-,-,-,-⟩:=hus.open
   generalize ins[k]=ii at *
   by_cases hn:putM d.signals vv ii=none
   ·rw [hn] at ht1
    have HTN:=Jh (show Tot=none from ht1)
    have HP2:=Jh (HPUT.out.mono fun r w' hh=>show r=panicOf 1/\Ext wk w' from by
     rcases hh with ⟨x,hx,-⟩ | ⟨-,h1,h2⟩
     ·rw [hn] at hx;cases hx
     ·exact ⟨h1,h2⟩)
    clear ht1 hn HPUT hui hus
    go_wp2_with (go_at_call 57;refine HP2.out.mono ?_;rintro r w4 ⟨rfl,hx4⟩)
    have hsz:=HR.out.sz
    have keepB:∀ {B:Nat} {cs:Array Value} {T:TypeId},Blk wr B cs T->B<wb.heap.size->Blk w4 B cs T:=fun {B cs T} hb hB=>by
     have h1:=hx4.block B (by omega)
     have h2:=HR.out.cw.ext.block B (by omega)
     unfold Blk at hb ⊢
     rw [h1,<-h2];exact hb
    refine ⟨rfl,fun b h1 h2=>?_,?_,ou,oc,keepB HR.out.o (by omega),keepB HR.out.c (by omega),HR.out.exA.trans hx4,.inr ⟨HTN.out,rfl⟩⟩
    ·rw [hx4.block b (by omega)];exact HR.out.mid b h1 h2
    ·rw [<-hsz];exact hx4.size
   ·obtain ⟨v1,hv1⟩:=Option.ne_none_iff_exists'.1 hn
    rw [hv1] at ht1
    have HT1:=Jh ht1
    have HP2:=Jh (HPUT.out.mono fun r w' hh=>show r=.returned (.tuple #[])/\CyW d sv pv cv nv' ov P wk v1 w'/\wr.grownBy w' nv'.ownBlock from by
     rcases hh with ⟨x,hx,h1,h2,h3⟩ | ⟨h0,-⟩
     ·rw [hv1] at hx;injection hx with hx;subst hx;exact ⟨h1,h2,h3⟩
     ·exact absurd h0 hn)
    clear ht1 hn hv1 HPUT hui hus
    go_upto_region 7 with (go_at_call 57;refine HP2.out.mono ?_;rintro r w4 ⟨rfl,hc4,hg4⟩)
    have HR4:=Jh (HR.out.step hc4 hg4 (fun b hb=>.inr ⟨hb,HAP.out b hb⟩))
    clear hc4 hg4 yk yq
    go_wp2_with fail
    generalize wr=wo at *
    obtain ⟨S1,hS1⟩:∃ S,settleM d v1=S:=⟨_,rfl⟩
    have HS1:=Jh hS1
    rw [hS1] at HT1
    clear hS1
    go_loopw [9,29] (fun _ i wq=>∃ (j:Nat) (uu:List Nat) (nv2 ov2 ou2 oc2:Value) (rr:List (List Nat)) (cc:List (List Bool)) (wk2:World) (M2:Nat),j<=3/\i=.int .i64 j/\RunW d sv pv cv P Bo Bc Bq Bs N0 M2 wA wb (steps13 P Bo Bc Bq).toArray uu nv2 ov2 ou2 oc2 rr cc wk2 wq /\
     ((j=0/\uu=v1/\rr=rows/\cc=chks)\/(j=1/\uu=S1/\rr=rows/\cc=chks)\/(j=2/\uu=S1/\rr=rows++[outV d.signals S1]/\cc=chks++[chkV d S1]/\M2<=wq.heap.size) \/
      (j=3/\uu=tickM d S1/\rr=rows++[outV d.signals S1]/\cc=chks++[chkV d S1]/\∀ b,nv2.ownBlock=some b->M2<=b))) (fun _ i _=>3-(intOf i).toNat)
    case atStart=>exact ⟨0,v1,nv',ov,ou,oc,rows,chks,wk,M,by decide,rfl,HR4.out,.inl ⟨rfl,rfl,rfl,rfl⟩⟩
    case round =>
     obtain ⟨j,uu,nv2,ov2,ou2,oc2,rr,cc,wk2,M2,hj3,rfl,hq2,hcase⟩:=hrel
     have HQ:=Jh hq2
     clear hq2
     rcases hcase with ⟨hj,rfl,rfl,rfl⟩ | ⟨hj,rfl,rfl,rfl⟩ | ⟨hj,rfl,rfl,rfl,hM⟩ | ⟨hj,rfl,rfl,rfl,hob⟩
     ·have HJ:=Jh hj
      have yb:wr.cell? ⟨Bs,j,none⟩=some (.func (.func 48) #[.pointer (some ⟨P,0,none⟩)] #[]):=by rw [hj];simpa using HQ.out.st.cell 0
      have b3:(j:Int)<3:=by omega
      have b4:j<3:=by omega
      have hS:=settle_calls HQ.out.cy HQ.out.cw
      rw [HS1.out] at hS
      clear hj
      go_wp2_with ((with_reducible show Jw (Op.call { callee:=.value (.tmp _),args:=_,argTypes:=_ }));refine Hid.out ?_)
      refine Jh ?_
      refine wpList_call_any rfl _ [] _ rfl rfl leads_settle rfl hS ?_ (fun c w' h=>by cases h.1) (fun w' h=>by cases h.1)
      rintro u w5 ⟨hr,nv5,ov5,hc5,hg5⟩
      injection hr with hr
      subst hr
      have HR5:=Jh (HQ.out.step hc5 hg5 (fun b hb=>.inl (by injection hb with hb;exact hb.symm)))
      clear hc5 hg5 hS yb b3 b4
      go_wp2_with fail
      go_roundw
      case rel=>exact ⟨j+1,_,nv5,ov5,_,_,_,_,_,_,by rw [HJ.out];decide,by go_num,HR5.out,.inr (.inl ⟨by rw [HJ.out],rfl,rfl,rfl⟩)⟩
      case measure=>have:=HJ.out;simp [intOf];omega
     ·have HJ:=Jh hj
      have yb:wr.cell? ⟨Bs,j,none⟩=some (.func (.func 59) #[] #[.pointer (some ⟨Bq,0,none⟩),.pointer (some ⟨Bo,0,none⟩),.pointer (some ⟨Bc,0,none⟩)]):=by rw [hj];simpa using HQ.out.st.cell 1
      have b3:(j:Int)<3:=by omega
      have b4:j<3:=by omega
      have hsz:=HQ.out.cw.ext.size
      have hS:=Run11_calls HQ.out.cy HQ.out.cw HQ.out.q HQ.out.o HQ.out.c HQ.out.u HQ.out.l (by rw [<-HQ.out.sz];exact hsz) (by rw [HR1.out];omega) (by rw [HR2.out];omega)
      clear hj
      go_wp2_with ((with_reducible show Jw (Op.call { callee:=.value (.tmp _),args:=_,argTypes:=_ }));refine Hid.out ?_)
      refine Jh ?_
      refine wpList_call_any rfl _ [] _ rfl rfl leads_run11 rfl hS ?_ (fun c w' h=>by cases h.1) (fun w' h=>by cases h.1)
      rintro u w5 ⟨hr,ou5,oc5,ho5,hc5,hu5,hl5,hf5⟩
      injection hr with hr
      subst hr
      obtain ⟨wk5,hr5⟩:=HQ.out.wrote HFF.out hbo hbc hN0 ho5 hc5 hu5 hl5 hf5
      have HR5:=Jh hr5
      clear ho5 hc5 hu5 hl5 hf5 hr5 hS yb b3 b4 hsz
      go_wp2_with fail
      go_roundw
      case rel=>exact ⟨j+1,_,_,_,_,_,_,_,_,_,by rw [HJ.out];decide,by go_num,HR5.out,.inr (.inr (.inl ⟨by rw [HJ.out],rfl,rfl,rfl,Nat.le_refl _⟩))⟩
      case measure=>have:=HJ.out;simp [intOf];omega
     ·have HJ:=Jh hj
      have HM:=Jh hM
      have yb:wr.cell? ⟨Bs,j,none⟩=some (.func (.func 50) #[.pointer (some ⟨P,0,none⟩)] #[]):=by rw [hj];simpa using HQ.out.st.cell 2
      have b3:(j:Int)<3:=by omega
      have b4:j<3:=by omega
      have hS:=tick_calls HQ.out.cy HQ.out.cw
      clear hj hM
      go_wp2_with ((with_reducible show Jw (Op.call { callee:=.value (.tmp _),args:=_,argTypes:=_ }));refine Hid.out ?_)
      refine Jh ?_
      refine wpList_call_any rfl _ [] _ rfl rfl leads_tick rfl hS ?_ (fun c w' h=>by cases h.1) (fun w' h=>by cases h.1)
      rintro u w5 ⟨hr,nv5,hc5,hg5,hob5⟩
      injection hr with hr
      subst hr
      have HR5:=Jh (HQ.out.step hc5 hg5 (fun b hb=>.inl (by injection hb with hb;exact hb.symm)))
      have HOB:=Jh hob5
      clear hc5 hg5 hob5 hS yb b3 b4
      go_wp2_with fail
      go_roundw
      case rel=>exact ⟨j+1,_,nv5,_,_,_,_,_,_,_,by rw [HJ.out];decide,by go_num,HR5.out,.inr (.inr (.inr ⟨by rw [HJ.out],rfl,rfl,rfl,fun b hb=>Nat.le_trans HM.out (HOB.out b hb)⟩))⟩
      case measure=>have:=HJ.out;simp [intOf];omega
     ·have HJ:=Jh hj
      have HOB:=Jh hob
      have b3:¬ (j:Int)<3:=by omega
      have b4:¬ j<3:=by omega
      clear hj hob
      go_wp2_with fail
      go_roundw
      case rel=>exact ⟨k+1,_,nv2,ov2,ou2,oc2,_,_,wk2,M2,hlt,by go_num,HQ.out,HOB.out,by rw [List.length_append,HR1.out];rfl,by rw [List.length_append,HR2.out];rfl,by rw [HT1.out,Option.map_map];congr 1;funext r;simp⟩
      case measure=>simp [intOf];omega
  ·obtain rfl:k=ins.length:=by omega
   go_wp2_with fail
   all_goals go_end0
   refine ⟨fun b h1 h2=>?_,?_,ou,oc,HR.out.o,HR.out.c,HR.out.exA.trans HR.out.cw.ext,.inl ⟨rfl,rows,chks,?_,M,HR.out.u,HR.out.l⟩⟩
   ·rw [HR.out.cw.ext.block b (by rw [HR.out.sz];exact h2)];exact HR.out.mid b h1 h2
   ·rw [<-HR.out.sz];exact HR.out.cw.ext.size
   ·rw [HT.out,List.drop_length,cycM];simp
theorem setCell_same {w:World} {B:Nat} {v:Value} {T:TypeId} (h:Blk w B #[v] T):w.setCell ⟨B,0,none⟩ v=w:=by
 have e:(w.setCell ⟨B,0,none⟩ v).heap=w.heap:=by
  refine Array.ext_getElem? fun i=>?_
  by_cases hi:i=B
  ·subst hi
   have:=h.set 0 v
   unfold Blk at this h
   rw [this,h];rfl
  ·exact Below.heap_setCell _ _ _ _ (fun e=>hi e)
 unfold World.setCell at e ⊢
 simp only at e
 rw [e]
theorem leads_run1:Leads Tryz.prog 58:=leads_of Tryz.func58 (by kernel_rfl) rfl
theorem Run1_does {d:Flat} {sv pv cv iv:Value} {ins:List (List Nat)} {Bo Bc Bi:Nat} {w w4:World} (HF:∀ W,Ext w W->FlatV W (.agg #[sv,pv,cv]) d) (hok:d.ok) (hl:(lookM d).1=0) (h4:Ext w w4)
  (hbo:w.heap.size<=Bo) (hbc:w.heap.size<=Bc) (hbi:w.heap.size<=Bi) (ho:Blk w4 Bo #[.slice none 0 0] 55) (hc:Blk w4 Bc #[.slice none 0 0] 57) (hi:Blk w4 Bi #[iv] 55) (hoi:Bo≠Bi)
  (hI:UsL w iv ins) (hI64:∀ l∈ins,us64 l) (hIl:ins.length<=1048576) (v:List Nat) :
  Does1 d sv pv cv v w4 58 #[] #[.pointer (some ⟨Bo,0,none⟩),.pointer (some ⟨Bc,0,none⟩),.pointer (some ⟨Bi,0,none⟩)]
   (fun wb P W'=>∃ rows chks ou oc M,cycM d ins (resetM d)=some (rows,chks)/\Blk W' Bo #[ou] 55/\Blk W' Bc #[oc] 57/\Ext w W'/\RowU wb.heap.size M ou rows W'/\RowL wb.heap.size M oc chks W')
   (fun e wb W'=>e=1/\cycM d ins (resetM d)=none/\∃ ou oc,Blk W' Bo #[ou] 55/\Blk W' Bc #[oc] 57/\Ext w W'):=by
 intro wb P nv W hx hcw
 refine (Run1_calls (N0:=w4.heap.size) HF hok hl (h4.trans hx) hx.size hcw ⟨hbo,ho.lt⟩ ⟨hbc,hc.lt⟩ ⟨hbi,hi.lt⟩ (ho.ext hx) (hc.ext hx) (hi.ext hx) hoi hI hI64 hIl).mono fun r W' h=>?_
 obtain ⟨g1,g2,ou,oc,q1,q2,q3,⟨hr,rows,chks,hT,M,hu,hl'⟩ | ⟨hT,hr⟩⟩:=h
 ·exact ⟨g1,g2,.inl ⟨hr,rows,chks,ou,oc,M,hT,q1,q2,q3,hu,hl'⟩⟩
 ·exact ⟨g1,g2,.inr ⟨1,by decide,hr,rfl,hT,ou,oc,q1,q2,q3⟩⟩
theorem Run_calls13 (d:Flat) (v:Value) (ins:List (List Nat)) (iv:Value) (w:World) (hF:FlatV w v d) (hok:d.ok) (hI:UsL w iv ins) (hI64:∀ l∈ins,us64 l) (hIl:ins.length<=1048576) :
  Calls Tryz.prog 29 #[v,iv] w fun r w'=>∃ u t,r=.returned (.tuple #[u,t,.int .i64 (cycR d ins).2.2])/\UsL w' u (cycR d ins).1/\BsL w' t (cycR d ins).2.1/\Ext w w':=by
 have HF:=Jh (fun W (h:Ext w W)=>hF.ext h)
 obtain ⟨sv,pv,cv,rfl,hS,hP,hC⟩:=hF
 have hsl:=hok.signals
 have hmf:∀ (fn:Fn) (first cap:Array Value) (w:World),(Instr.makeFunc fn first cap).run Tryz.prog w=.ok (.func fn first cap) w:=fun _ _ _ _=>rfl
 have HX4:=Jh ((((ext_alloc w (.cells [sv,pv,cv].toArray 26)).trans (ext_alloc _ (.cells #[iv] 55))).trans (ext_alloc _ (.cells #[.slice none 0 0] 55))).trans (ext_alloc _ (.cells #[.slice none 0 0] 57)))
 have HD4:=Jh ((((Blk.new w [sv,pv,cv].toArray 26).alloc (.cells #[iv] 55)).alloc (.cells #[.slice none 0 0] 55)).alloc (.cells #[.slice none 0 0] 57))
 have HI4:=Jh (show Blk _ (w.heap.size+1) _ _ from by have:=((Blk.new (w.alloc (.cells [sv,pv,cv].toArray 26)) #[iv] 55).alloc (.cells #[.slice none 0 0] 55)).alloc (.cells #[.slice none 0 0] 57);rwa [World.size_alloc] at this)
 have HO4:=Jh (show Blk _ (w.heap.size+1+1) _ _ from by have:=(Blk.new ((w.alloc (.cells [sv,pv,cv].toArray 26)).alloc (.cells #[iv] 55)) #[.slice none 0 0] 55).alloc (.cells #[.slice none 0 0] 57);rwa [World.size_alloc,World.size_alloc] at this)
 have HC4:=Jh (show Blk _ (w.heap.size+1+1+1) _ _ from by have:=Blk.new (((w.alloc (.cells [sv,pv,cv].toArray 26)).alloc (.cells #[iv] 55)).alloc (.cells #[.slice none 0 0] 55)) #[.slice none 0 0] 57;rwa [World.size_alloc,World.size_alloc,World.size_alloc] at this)
 have HOK:=Jh hok
 have HI:=Jh hI
 have HI64:=Jh hI64
 obtain ⟨ia,ib,io,ic,rfl,-,-,-,-⟩:=hI.open
 clear hS hP hC hok hI hI64
 go_enter Tryz.func29,Tryz.ntmps29
 go_upto_region 1 with fail
 generalize (((w.alloc _).alloc _).alloc _).alloc _=w4 at *
 obtain ⟨Bi,hBi⟩:∃ B,w.heap.size+1=B:=⟨_,rfl⟩
 have hbi:w.heap.size<=Bi:=by omega
 have hbi2:w.heap.size<Bi:=by omega
 rw [hBi] at HI4 HO4 HC4 ⊢
 clear hBi
 obtain ⟨Bf,hBf⟩:∃ B,w.heap.size=B:=⟨_,rfl⟩
 have HBF:=Jh hBf
 rw [hBf] at HD4 ⊢
 clear hBf
 have d4:=HD4.out.has
 have HPL:=Jh (played_calls (HF.out w4 HX4.out) HOK.out (.inr ⟨rfl,rfl⟩) (us64_zeros d.signals.length) (by simpa using hsl) (fi:=#[]) leads_run1 (fun h=>Run1_does HF.out HOK.out ((playE_zero.1 h).1) HX4.out (by omega) (by omega) hbi HO4.out HC4.out HI4.out (by omega) HI.out HI64.out hIl _))
 rw [playE_zeros HOK.out] at HPL
 by_cases hg:(lookM d).1=0/\cycM d ins (resetM d)≠none
 case neg =>
  have HP2:=Jh (HPL.out.mono fun r w' hh=>show ∃ Z e x y,e≠0/\r=.returned (.tuple #[.pointer (some ⟨Z,0,none⟩),.int .i64 e])/\cycR d ins=([],[],e)/\Blk w' (Bi+1) #[x] 55/\Blk w' (Bi+1+1) #[y] 57/\Ext w w' from by
   rcases hh with ⟨h0,Z,h1,-,h3⟩ | ⟨h0,wb,P,W',w1,Bp,Be,h1,h2,h3,h4,h5,h6,h7,⟨-,rows,chks,-,-,-,hT,-⟩ | ⟨e,Z,he,hr,-,-,he1,hT,ou,oc,q1,q2,q3⟩⟩
   ·exact ⟨Z,(lookM d).1,_,_,h0,h1,by unfold cycR;rw [if_neg h0],HO4.out.ext h3,HC4.out.ext h3,HX4.out.trans h3⟩
   ·exact absurd ⟨h0,by rw [hT];simp⟩ hg
   ·have hol:=HO4.out.lt
    have hcl:=HC4.out.lt
    have hxs:=HX4.out.size
    exact ⟨Z,e,_,_,he,hr,by unfold cycR;rw [if_pos h0,hT,he1],(q1.grown h6 (by omega)).grown h7 (by omega),(q2.grown h6 (by omega)).grown h7 (by omega),(q3.grown h6 (by omega)).grown h7 (by omega)⟩)
  clear hg HPL
  go_upto_region 2 with (first | ((with_reducible show Jl 26);refine Jm 26 (d4) agg_Flat rfl ?_) | (go_at_call 46;refine HP2.out.mono ?_;rintro r w5 ⟨Z,e,x,y,he,rfl,hR,ho5,hc5,hx5⟩))
  have HR:=Jh hR
  have HX5:=Jh hx5
  have b0:(e != 0)=true:=by rw [bne_iff_ne];exact he
  have yo:=ho5.cell 0
  have fo:=ho5.frozen 0
  simp only [List.getElem?_toArray,List.getElem?_cons_zero] at yo
  have g6:=gb_set w5 (Bi+1) 0 (.slice none 0 0)
  have ho6:=ho5.set 0 (.slice none 0 0)
  have hc6:=hc5.grown g6 (by omega)
  have yc:=hc6.cell 0
  have fc:=hc6.frozen 0
  simp only [List.getElem?_toArray,List.getElem?_cons_zero] at yc
  have g7:=gb_set (w5.setCell ⟨Bi+1,0,none⟩ (.slice none 0 0)) (Bi+1+1) 0 (.slice none 0 0)
  have hc7:=hc6.set 0 (.slice none 0 0)
  have ho7:=ho6.grown g7 (by omega)
  have HX7:=Jh ((HX5.out.grown g6 (by omega)).grown g7 (by omega))
  have z1:=ho7.cell 0
  have z2:=hc7.cell 0
  have Z1:=Jh (show _=some (Value.slice none 0 0) from by simpa using z1)
  have Z2:=Jh (show _=some (Value.slice none 0 0) from by simpa using z2)
  clear d4 hR hx5 he ho5 hc5 ho6 hc6 hc7 ho7 g6 g7 z1 z2
  go_wp2_with ((with_reducible show bodyPost _ _ _ _ _ _);refine Hid.out ?_)
  refine Jh ?_
  have z1:=Z1.out
  have z2:=Z2.out
  refine bodyPost_ret (v:=.tuple #[.slice none 0 0,.slice none 0 0,.int .i64 e]) (by simp [results,Tryz.results29,go_sem,z1,z2]) rfl ⟨_,_,by rw [HR.out],by rw [HR.out];exact Sl.nil _ _,by rw [HR.out];exact Sl.nil _ _,HX7.out⟩
 obtain ⟨hl,hg⟩:=hg
 obtain ⟨⟨rows,chks⟩,hT⟩:=Option.ne_none_iff_exists'.1 hg
 have HR:=Jh (show cycR d ins=(rows,chks,0) by unfold cycR;rw [if_pos hl,hT])
 have HP3:=Jh (HPL.out.mono fun r w' hh=>show ∃ P u t,r=.returned (.tuple #[.pointer (some ⟨P,0,none⟩),.int .i64 0])/\(∃ a n c,u=.slice a n c)/\(∃ a n c,t=.slice a n c)/\Blk w' (Bi+1) #[u] 55/\Blk w' (Bi+1+1) #[t] 57/\UsL w' u rows/\BsL w' t chks/\Ext w w' from by
  rcases hh with ⟨h0,-⟩ | ⟨h0,wb,P,W',w1,Bp,Be,h1,h2,h3,h4,h5,h6,h7,⟨hr,rows',chks',ou,oc,M,hT',q1,q2,q3,hu,hl'⟩ | ⟨e,Z,he,hr,-,-,he1,hT',-⟩⟩
  ·exact absurd hl h0
  ·rw [hT] at hT'
   injection hT' with hT'
   injection hT' with e1 e2
   subst e1 e2
   have hol:=HO4.out.lt
   have hcl:=HC4.out.lt
   have hxs:=HX4.out.size
   have hu2:=(hu.low wordEl h6 (fun b hb=>by injection hb with hb;omega)).low wordEl h7 (fun b hb=>by injection hb with hb;omega)
   have hl2:=(hl'.low boolEl h6 (fun b hb=>by injection hb with hb;omega)).low boolEl h7 (fun b hb=>by injection hb with hb;omega)
   obtain ⟨a1,c1,e1⟩:=hu2.head
   obtain ⟨a2,c2,e2⟩:=hl2.head
   exact ⟨P,ou,oc,hr,⟨_,_,_,e1⟩,⟨_,_,_,e2⟩,(q1.grown h6 (by omega)).grown h7 (by omega),(q2.grown h6 (by omega)).grown h7 (by omega),hu2.sl (fun u x h=>h.cells),hl2.sl (fun u x h=>h.cells),(q3.grown h6 (by omega)).grown h7 (by omega)⟩
  ·rw [hT] at hT';cases hT')
 clear hl hg hT HPL
 go_upto_region 4 with (first | ((with_reducible show Jl 26);refine Jm 26 (d4) agg_Flat rfl ?_) | (go_at_call 46;refine HP3.out.mono ?_;rintro r w5 ⟨P,u,t,rfl,⟨ua,un,uc,rfl⟩,⟨ta,tn,tc,rfl⟩,ho5,hc5,hu5,ht5,hx5⟩))
 have HU5:=Jh hu5
 have HT5:=Jh ht5
 have HX5:=Jh hx5
 have HO5:=Jh ho5
 have HC5:=Jh hc5
 clear d4 hu5 ht5 hx5 ho5 hc5
 refine wp_region_held_drew (S:=fun W=>Blk W (Bi+1) #[.slice ua un uc] 55/\Blk W (Bi+1+1) #[.slice ta tn tc] 57) (by kernel_rfl) ⟨HO5.out.drew,HC5.out.drew⟩ (fun hH=>?_)
 try simp only [J]
 (refine Jt 0 (.slice ua un uc) rfl (yif_load1 rfl (by intro W hW;have z:=hW.1.cell 0;simp only [List.getElem?_toArray,List.getElem?_cons_zero] at z;clear hW;go_simp)) hH ?_;try simp only [J])
 (refine Jt 1 (.slice ta tn tc) rfl (yif_load1 rfl (by intro W hW;have z:=hW.2.cell 0;simp only [List.getElem?_toArray,List.getElem?_cons_zero] at z;clear hW;go_simp)) hH ?_;try simp only [J])
 have HX6:=Jh (HX5.out.trans (Below.drew (Below.refl _ w5)))
 have hd5:Ext w5 w5.drew:=Below.drew (Below.refl _ w5)
 have HU6:=Jh (show UsL w5.drew _ _ from HU5.out.mono fun x _ b o ⟨u,h1,h2⟩=>⟨u,h1.ext hd5,h2.ext hd5⟩)
 have HT6:=Jh (show BsL w5.drew _ _ from HT5.out.mono fun x _ b o ⟨u,h1,h2⟩=>⟨u,h1.ext hd5,h2.mono fun y _ b o h=>Has.ext h hd5⟩)
 have HO6:=Jh HO5.out.drew
 have HC6:=Jh HC5.out.drew
 clear HX5 HU5 HT5 HO5 HC5 hd5
 generalize w5.drew=w6 at *
 have yo:=HO6.out.cell 0
 have fo:=HO6.out.frozen 0
 simp only [List.getElem?_toArray,List.getElem?_cons_zero] at yo
 have so:=setCell_same HO6.out
 (refine Jr 2 rfl fun K hK=>?_)
 go_simp
 refine hK.out _ _ hH (fun hH=>?_)
 clear hK K yo fo so
 try simp only [J]
 have yo:=HC6.out.cell 0
 have fo:=HC6.out.frozen 0
 simp only [List.getElem?_toArray,List.getElem?_cons_zero] at yo
 have so:=setCell_same HC6.out
 (refine Jr 3 rfl fun K hK=>?_)
 go_simp
 refine hK.out _ _ hH (fun hH=>?_)
 clear hK K yo fo so
 try simp only [J]
 (refine Jt 4 (.int .i64 0) rfl (yif_load1 rfl fun _ _=>rfl) hH ?_;try simp only [J])
 refine Jz ?_
 clear hH
 go_wp2_with ((with_reducible show bodyPost _ _ _ _ _ _);refine Hid.out ?_)
 refine Jh ?_
 have z1:=HO6.out.cell 0
 have z2:=HC6.out.cell 0
 simp only [List.getElem?_toArray,List.getElem?_cons_zero] at z1 z2
 refine bodyPost_ret (v:=.tuple #[.slice ua un uc,.slice ta tn tc,.int .i64 0]) (by simp [results,Tryz.results29,go_sem,z1,z2]) rfl ⟨_,_,by rw [HR.out],by rw [HR.out];exact HU6.out,by rw [HR.out];exact HT6.out,HX6.out⟩
end Go.Proofs.YtoaamjgfhppppaaGreat
