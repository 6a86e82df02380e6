/- Laws and walks that a claim of this seat leans on: Live3. -/
import Derived.Test.YtpdpgmfnfajbfaaGreatL27
import Derived.Test.YtpdpgmfnfajbfaaGreatL00
set_option maxRecDepth 100000
set_option maxHeartbeats 8000000
set_option linter.all false
namespace Go.Proofs.YtpdpgmfnfajbfaaGreat
open Go.RowKit
theorem live_calls (w:World):Calls Tryz.prog 16 #[] w fun r w'=>r=.returned (.bool true)/\Ext w w':=by
 go_enter Tryz.func16,Tryz.ntmps16
 go_wp2_with ((with_reducible show Jw (Op.buildSlice _ _ _));refine Hid.out ?_)
 refine Jh ?_
 have hx1:=ext_alloc w (.cells (liveS.map Signal.cells).flatten.toArray 36)
 have hb1:=Blk.new w (liveS.map Signal.cells).flatten.toArray 36
 refine wpList_bsN rfl _ 4 _ rfl appSignal (vs:=liveS.map fun x=>Value.agg x.cells.toArray) rfl rfl (css:=liveS.map Signal.cells) rfl (by intro cs h;simp [liveS] at h;rcases h with rfl | rfl | rfl | rfl<;>rfl) (by decide) (by decide) ?_
 have hs1:(w.alloc (.cells (liveS.map Signal.cells).flatten.toArray 36)).heap.size=w.heap.size+1:=by simp
 generalize w.alloc _=w1 at *
 obtain ⟨N,hN⟩:∃ N,w.heap.size=N:=⟨_,rfl⟩
 rw [hN] at hb1 ⊢
 obtain ⟨B1,hB1⟩:∃ B1,w1.heap.size=B1:=⟨_,rfl⟩
 have hNB:N<B1:=by omega
 have HN:=Jh hN
 clear hN hs1
 have hx2:=ext_alloc w1 (.cells [Value.slice (some ⟨N,0,none⟩) 4 4,.slice none 0 0,.slice none 0 0].toArray 26)
 have hb2:=Blk.new w1 [Value.slice (some ⟨N,0,none⟩) 4 4,.slice none 0 0,.slice none 0 0].toArray 26
 have hs2:(w1.alloc (.cells [Value.slice (some ⟨N,0,none⟩) 4 4,.slice none 0 0,.slice none 0 0].toArray 26)).heap.size=w1.heap.size+1:=by simp
 go_upto_region 2 with (first | ((with_reducible show Js 26);refine wpList_store_new rfl 26 _ _ rfl rfl (by first | rfl | simp) rfl agg_Flat (rfl) rfl (by simp [Value.oneCell']) ?_))
 generalize w1.alloc _=w2 at *
 rw [hB1] at hb2 hs2
 have HB1:=Jh hb2
 have HBS:=Jh (hb1.ext hx2)
 have HXW:=Jh (hx1.trans hx2)
 obtain ⟨M,hM⟩:∃ M,w2.heap.size=M:=⟨_,rfl⟩
 have hBM:B1<M:=by omega
 have HNW:=Jh (show w.heap.size<=N from by rw [HN.out];exact Nat.le_refl _)
 clear hb1 hb2 hx1 hx2 hB1 hs2
 go_wp2_with (first | (go_at_call 56;refine (sig_calls 0 _).mono ?_;rintro r w3 ⟨rfl,hx3⟩) | (go_at_call 56;refine (sig_calls 3 _).mono ?_;rintro r w4 ⟨rfl,hx4⟩) | ((with_reducible show Jw (Op.buildSlice _ _ _));refine Hid.out ?_))
 refine Jh ?_
 have hxa:=hx3.trans hx4
 replace HB1:=Jh (HB1.out.ext hxa)
 replace HBS:=Jh (HBS.out.ext hxa)
 replace HXW:=Jh (HXW.out.trans hxa)
 have hm4:M<=w4.heap.size:=by have:=hxa.size;omega
 have hxb:=ext_alloc w4 (.cells [(sigE 0).cells (.slice none 0 0),(sigE 3).cells (.slice none 0 0)].flatten.toArray 44)
 have hbl:=Blk.new w4 [(sigE 0).cells (.slice none 0 0),(sigE 3).cells (.slice none 0 0)].flatten.toArray 44
 refine wpList_bsN rfl _ 2 _ rfl appE (vs:=[.agg ((sigE 0).cells (.slice none 0 0)).toArray,.agg ((sigE 3).cells (.slice none 0 0)).toArray]) rfl rfl (css:=[(sigE 0).cells (.slice none 0 0),(sigE 3).cells (.slice none 0 0)]) rfl (by intro cs h;simp at h;rcases h with rfl | rfl<;>rfl) (by decide) (by decide) ?_
 replace HB1:=Jh (HB1.out.ext hxb)
 replace HBS:=Jh (HBS.out.ext hxb)
 replace HXW:=Jh (HXW.out.trans hxb)
 have hm5:M<=(w4.alloc (.cells [(sigE 0).cells (.slice none 0 0),(sigE 3).cells (.slice none 0 0)].flatten.toArray 44)).heap.size:=by have:=hxb.size;omega
 generalize w4.alloc _=w5 at *
 obtain ⟨BL,hBL⟩:∃ BL,w4.heap.size=BL:=⟨_,rfl⟩
 rw [hBL] at hbl hm4 ⊢
 clear hBL
 have hfe:FV VE M w5 ((⟨5,1,0,0,0,0,11,[sigE 0,sigE 3]⟩:E).cells (.slice (some ⟨BL,0,none⟩) 2 2)) ⟨5,1,0,0,0,0,11,[sigE 0,sigE 3]⟩:=fun W hW =>
  ⟨_,rfl,BL,0,⟨_,2,rfl,Nat.le_refl _,by decide,fun _=>rfl⟩,rows_of_flat (V:=VE) (fun _ _ _ _ _ h hv=>VE.at h hv) [sigE 0,sigE 3] [(sigE 0).cells (.slice none 0 0),(sigE 3).cells (.slice none 0 0)] W BL 0 (hW.blk hbl hm4).has rfl (by intro cs h;simp at h;rcases h with rfl | rfl<;>rfl) (fun i h h'=>by
   match i,h with
   | 0,_=>exact sig_VE 0 W
   | 1,_=>exact sig_VE 3 W
   | i+2,h=>exact absurd h (by simp))⟩
 have HFE:=Jh hfe
 clear hfe hx3 hx4 hxa hxb hbl
 go_upto_region 3 with (first | (go_at_call 55;refine (lset_calls M 2 _ _ _ HFE.out hm5).mono ?_;rintro r w6 ⟨cy,rfl,hly,hoy,hfy,hx6⟩) | ((with_reducible show Js 39);refine wpList_store_new rfl 39 _ _ rfl rfl (by first | rfl | simp) rfl agg_Proc (hly) rfl (hoy) ?_))
 replace HB1:=Jh (HB1.out.ext hx6)
 replace HBS:=Jh (HBS.out.ext hx6)
 replace HXW:=Jh (HXW.out.trans hx6)
 have hxb:=ext_alloc w6 (.cells cy.toArray 39)
 have hby:=Blk.new w6 cy.toArray 39
 replace HB1:=Jh (HB1.out.ext hxb)
 replace HBS:=Jh (HBS.out.ext hxb)
 replace HXW:=Jh (HXW.out.trans hxb)
 have hs7:(w6.alloc (.cells cy.toArray 39)).heap.size=w6.heap.size+1:=by simp
 have hfy7:=hfy.ext hxb
 generalize w6.alloc _=w7 at *
 obtain ⟨B2,hB2⟩:∃ B2,w6.heap.size=B2:=⟨_,rfl⟩
 have hmb:M<=B2/\B2<w7.heap.size:=by have:=hx6.size;omega
 rw [hB2] at hby ⊢
 have HBY:=Jh hby
 have HFY:=Jh hfy7
 have HSY:=Jh (Since.refl M w7)
 clear hB2 hby hfy hfy7 hx6 hxb hs7 HFE hm4 hm5
 refine wp_region_held_drew (S:=fun W3=>Blk W3 B2 cy.toArray 39) (by kernel_rfl) HBY.out.drew (fun hH=>?_)
 have hxd:Ext w7 w7.drew:=Below.drew (Below.refl _ _)
 replace HB1:=Jh (HB1.out.ext hxd)
 replace HBS:=Jh (HBS.out.ext hxd)
 replace HXW:=Jh (HXW.out.trans hxd)
 replace HBY:=Jh (HBY.out.ext hxd)
 replace HSY:=Jh (HSY.out.trans (Since.of_ext hxd))
 generalize w7.drew=a0 at *
 clear hxd
 try simp only [J]
 (refine Jt 0 (.agg cy.toArray) rfl (yif_load rfl 39 _ rfl rfl (fun _ h=>Blk.has h) agg_Proc hly) hH ?_;try simp only [J])
 refine Jr 1 rfl fun K hK=>?_
 go_simp
 refine (sig_calls 1 _).mono ?_
 rintro r a1 ⟨rfl,hxs⟩
 replace HB1:=Jh (HB1.out.ext hxs)
 replace HBS:=Jh (HBS.out.ext hxs)
 replace HXW:=Jh (HXW.out.trans hxs)
 replace HBY:=Jh (HBY.out.ext hxs)
 replace HSY:=Jh (HSY.out.trans (Since.of_ext hxs))
 refine hK.out _ _ (hH.ext hxs) (fun hH=>?_)
 clear hK K hxs
 try simp only [J]
 have hmz:M<=a1.heap.size:=by have:=HSY.out.1;omega
 refine Jr 2 rfl fun K hK=>?_
 go_simp
 refine (lset_calls M 3 _ (sigE 1) _ (sig_FV 1 M _) hmz).mono ?_
 rintro r a2 ⟨ac0,rfl,hlac0,hoac0,hfac0,hxs⟩
 replace HB1:=Jh (HB1.out.ext hxs)
 replace HBS:=Jh (HBS.out.ext hxs)
 replace HXW:=Jh (HXW.out.trans hxs)
 replace HBY:=Jh (HBY.out.ext hxs)
 replace HSY:=Jh (HSY.out.trans (Since.of_ext hxs))
 have HFac0:=Jh hfac0
 refine hK.out _ _ (hH.ext hxs) (fun hH=>?_)
 clear hK K hxs hmz hfac0
 try simp only [J]
 have hlen:∀ cs∈[cy,ac0],cs.length=2:=by intro cs h;simp at h;rcases h with rfl | rfl<;>assumption
 refine Jr 3 rfl fun K hK=>?_
 refine step_bsN rfl _ 2 _ rfl appProc (vs:=[.agg cy.toArray,.agg ac0.toArray]) rfl rfl (css:=[cy,ac0]) rfl hlen (by decide) (by decide) ?_
 have hPy:M<=a2.heap.size:=by have:=HSY.out.1;omega
 have hPyB:=HB1.out.lt
 have hxs:=ext_alloc a2 (.cells [cy,ac0].flatten.toArray 39)
 have hbp:=Blk.new a2 [cy,ac0].flatten.toArray 39
 replace HB1:=Jh (HB1.out.ext hxs)
 replace HBS:=Jh (HBS.out.ext hxs)
 replace HXW:=Jh (HXW.out.trans hxs)
 replace HBY:=Jh (HBY.out.ext hxs)
 replace HSY:=Jh (HSY.out.trans (Since.of_ext hxs))
 replace HFac0:=Jh (HFac0.out.ext hxs)
 obtain ⟨Pa,hP⟩:∃ P,a2.heap.size=P:=⟨_,rfl⟩
 have hPza:M<=Pa/\B1<Pa:=by rw [<-hP];exact ⟨hPy,hPyB⟩
 rw [hP] at hbp ⊢
 clear hP hPy hPyB
 refine hK.out _ _ (hH.ext hxs) (fun hH=>?_)
 clear hK K
 generalize hG:a2.alloc _=a8 at *
 clear hG
 try simp only [J]
 (refine Jt 4 (.pointer (some ⟨B1,1,Option.none⟩)) rfl (yif_load1 rfl (by intro W3 hW;clear hW;go_simp)) hH ?_;try simp only [J])
 refine Jr 5 rfl fun K hK=>?_
 have x0:=HB1.out.has 1 _ rfl
 have y0:=HB1.out.frozen 1
 have hbs:=HB1.out.set 1 (.slice (some ⟨Pa,0,none⟩) 2 2)
 have hgs:=gb_set a8 B1 1 (.slice (some ⟨Pa,0,none⟩) 2 2)
 replace HBS:=Jh (HBS.out.grown hgs (by omega))
 replace HXW:=Jh (Ext.grown HXW.out hgs (by have:=HNW.out;omega))
 replace HBY:=Jh (HBY.out.grown hgs (by omega))
 replace HSY:=Jh (HSY.out.more hgs (by omega))
 have HFac0z:=HFac0
 have HSP:=Jh ((Since.refl M a8).more hgs (by omega))
 have hbp9:=hbp.grown hgs (by omega)
 go_simp
 refine hK.out _ _ (hH.grown hgs (by omega)) (fun hH=>?_)
 clear hK K x0 y0
 refine Jz ?_
 generalize a8.setCell _ _=a9 at *
 have HB1:=Jh (show Blk a9 B1 [.slice (some ⟨N,0,none⟩) 4 4,.slice (some ⟨Pa,0,none⟩) 2 2,.slice none 0 0].toArray 26 from hbs)
 have HDa:Hid (MadeD N a9 (.agg #[.slice (some ⟨N,0,none⟩) 4 4,.slice (some ⟨Pa,0,none⟩) 2 2,.slice none 0 0]) liveD):=Jh (madeD_of (l:=[liveY,setP 3 (sigE 1)]) HBS.out (Nat.le_refl _) hbp9 (by omega) rfl hlen (by decide) (fun i h h'=>by
  match i,h with
  | 0,_=>exact HFY.out.mono' HSY.out (by omega)
  | 1,_=>exact HFac0.out.mono' HSP.out (by omega)
  | i+2,h=>exact absurd h (by simp)
  ))
 have HSDa:=Jh (Since.refl N a9)
 clear hbp hbp9 hgs hbs hlen hxs HSP hH
 go_upto_region 5 with (first | ((with_reducible show Jl 26);refine Jm 26 (HB1.out.has) agg_Flat rfl ?_) | (go_at_call 30;refine (live_order _ _ (HDa.out _ HSDa.out)).mono ?_;rintro r wo ⟨go,co,rfl,hgo,hho,hxo⟩))
 have hgNo:N<=go:=by have:=HB1.out.lt;omega
 replace HB1:=Jh (HB1.out.ext hxo)
 replace HBS:=Jh (HBS.out.ext hxo)
 replace HXW:=Jh (HXW.out.trans hxo)
 replace HBY:=Jh (HBY.out.ext hxo)
 replace HSY:=Jh (HSY.out.trans (Since.of_ext hxo))
 replace HSDa:=Jh (HSDa.out.trans (Since.of_ext hxo))
 have HHo:=Jh hho
 have HSo:=Jh (Since.refl N wo)
 clear hho hxo hgo
 go_upto_region 6 with (first | ((with_reducible show Jl 26);refine Jm 26 (HB1.out.has) agg_Flat rfl ?_) | (go_at_call 57;refine (live_levels _ _ (HDa.out _ HSDa.out)).mono ?_;rintro r wl ⟨gl,cl,rfl,hgl,hhl,hxl⟩))
 have hgNl:N<=gl:=by have:=HB1.out.lt;omega
 replace HB1:=Jh (HB1.out.ext hxl)
 replace HBS:=Jh (HBS.out.ext hxl)
 replace HXW:=Jh (HXW.out.trans hxl)
 replace HBY:=Jh (HBY.out.ext hxl)
 replace HSY:=Jh (HSY.out.trans (Since.of_ext hxl))
 replace HSDa:=Jh (HSDa.out.trans (Since.of_ext hxl))
 replace HSo:=Jh (HSo.out.trans (Since.of_ext hxl))
 have HHl:=Jh hhl
 have HSl:=Jh (Since.refl N wl)
 clear hhl hxl hgl
 go_upto_region 7 with (first | ((with_reducible show Jl 26);refine Jm 26 (HB1.out.has) agg_Flat rfl ?_) | (go_at_call 19;refine (live_drivers _ _ (HDa.out _ HSDa.out)).mono ?_;rintro r wr ⟨gr,cr,rfl,hgr,hhr,hxr⟩))
 have hgNr:N<=gr:=by have:=HB1.out.lt;omega
 replace HB1:=Jh (HB1.out.ext hxr)
 replace HBS:=Jh (HBS.out.ext hxr)
 replace HXW:=Jh (HXW.out.trans hxr)
 replace HBY:=Jh (HBY.out.ext hxr)
 replace HSY:=Jh (HSY.out.trans (Since.of_ext hxr))
 replace HSDa:=Jh (HSDa.out.trans (Since.of_ext hxr))
 replace HSo:=Jh (HSo.out.trans (Since.of_ext hxr))
 replace HSl:=Jh (HSl.out.trans (Since.of_ext hxr))
 have HHr:=Jh hhr
 have HSr:=Jh (Since.refl N wr)
 clear hhr hxr hgr
 have hxb:=ext_alloc wr (.cells [Value.slice (some ⟨N,0,none⟩) 4 4,.slice (some ⟨Pa,0,none⟩) 2 2,.slice none 0 0].toArray 26)
 have hbb:=Blk.new wr [Value.slice (some ⟨N,0,none⟩) 4 4,.slice (some ⟨Pa,0,none⟩) 2 2,.slice none 0 0].toArray 26
 have hsb:(wr.alloc (.cells [Value.slice (some ⟨N,0,none⟩) 4 4,.slice (some ⟨Pa,0,none⟩) 2 2,.slice none 0 0].toArray 26)).heap.size=wr.heap.size+1:=by simp
 go_upto_region 8 with (first | ((with_reducible show Jl 26);refine Jm 26 (HB1.out.has) agg_Flat rfl ?_) | ((with_reducible show Js 26);refine wpList_store_new rfl 26 _ _ rfl rfl (by first | rfl | simp) rfl agg_Flat (rfl) rfl (by simp [Value.oneCell']) ?_))
 have zHB1B9:B1<wr.heap.size:=HB1.out.lt
 have zHBSB9:N<wr.heap.size:=HBS.out.lt
 have zHBYB9:B2<wr.heap.size:=HBY.out.lt
 have zHSYB9:w7.heap.size<=wr.heap.size:=HSY.out.1
 have zHSDaB9:a9.heap.size<=wr.heap.size:=HSDa.out.1
 have zHSoB9:wo.heap.size<=wr.heap.size:=HSo.out.1
 have zHSlB9:wl.heap.size<=wr.heap.size:=HSl.out.1
 have zHSrB9:wr.heap.size<=wr.heap.size:=HSr.out.1
 replace HB1:=Jh (HB1.out.ext hxb)
 replace HBS:=Jh (HBS.out.ext hxb)
 replace HXW:=Jh (HXW.out.trans hxb)
 replace HBY:=Jh (HBY.out.ext hxb)
 replace HSY:=Jh (HSY.out.trans (Since.of_ext hxb))
 replace HSDa:=Jh (HSDa.out.trans (Since.of_ext hxb))
 replace HSo:=Jh (HSo.out.trans (Since.of_ext hxb))
 replace HSl:=Jh (HSl.out.trans (Since.of_ext hxb))
 replace HSr:=Jh (HSr.out.trans (Since.of_ext hxb))
 generalize wr.alloc _=wb at *
 obtain ⟨B9,hB⟩:∃ B,wr.heap.size=B:=⟨_,rfl⟩
 replace zHB1B9:B1<B9:=by rw [<-hB];exact zHB1B9
 replace zHBSB9:N<B9:=by rw [<-hB];exact zHBSB9
 replace zHBYB9:B2<B9:=by rw [<-hB];exact zHBYB9
 replace zHSYB9:w7.heap.size<=B9:=by rw [<-hB];exact zHSYB9
 replace zHSDaB9:a9.heap.size<=B9:=by rw [<-hB];exact zHSDaB9
 replace zHSoB9:wo.heap.size<=B9:=by rw [<-hB];exact zHSoB9
 replace zHSlB9:wl.heap.size<=B9:=by rw [<-hB];exact zHSlB9
 replace zHSrB9:wr.heap.size<=B9:=by rw [<-hB];exact zHSrB9
 rw [hB] at hbb ⊢
 have hMBB9:M<=B9:=by have:=zHSYB9;have:=hmb;omega
 have HB9:=Jh hbb
 clear hB hbb hxb hsb
 refine wp_region_held_drew (S:=fun W3=>Blk W3 B2 cy.toArray 39) (by kernel_rfl) HBY.out.drew (fun hH=>?_)
 have hxd:Ext wb wb.drew:=Below.drew (Below.refl _ _)
 replace HB1:=Jh (HB1.out.ext hxd)
 replace HBS:=Jh (HBS.out.ext hxd)
 replace HXW:=Jh (HXW.out.trans hxd)
 replace HBY:=Jh (HBY.out.ext hxd)
 replace HSY:=Jh (HSY.out.trans (Since.of_ext hxd))
 replace HSDa:=Jh (HSDa.out.trans (Since.of_ext hxd))
 replace HSo:=Jh (HSo.out.trans (Since.of_ext hxd))
 replace HSl:=Jh (HSl.out.trans (Since.of_ext hxd))
 replace HSr:=Jh (HSr.out.trans (Since.of_ext hxd))
 replace HB9:=Jh (HB9.out.ext hxd)
 generalize wb.drew=b0 at *
 clear hxd
 try simp only [J]
 (refine Jt 0 (.agg cy.toArray) rfl (yif_load rfl 39 _ rfl rfl (fun _ h=>Blk.has h) agg_Proc hly) hH ?_;try simp only [J])
 refine Jr 1 rfl fun K hK=>?_
 go_simp
 refine (sig_calls 1 _).mono ?_
 rintro r b1 ⟨rfl,hxs⟩
 replace HB1:=Jh (HB1.out.ext hxs)
 replace HBS:=Jh (HBS.out.ext hxs)
 replace HXW:=Jh (HXW.out.trans hxs)
 replace HBY:=Jh (HBY.out.ext hxs)
 replace HSY:=Jh (HSY.out.trans (Since.of_ext hxs))
 replace HSDa:=Jh (HSDa.out.trans (Since.of_ext hxs))
 replace HSo:=Jh (HSo.out.trans (Since.of_ext hxs))
 replace HSl:=Jh (HSl.out.trans (Since.of_ext hxs))
 replace HSr:=Jh (HSr.out.trans (Since.of_ext hxs))
 replace HB9:=Jh (HB9.out.ext hxs)
 refine hK.out _ _ (hH.ext hxs) (fun hH=>?_)
 clear hK K hxs
 try simp only [J]
 have hmz:(B9+1)<=b1.heap.size:=HB9.out.lt
 refine Jr 2 rfl fun K hK=>?_
 go_simp
 refine (lset_calls (B9+1) 3 _ (sigE 1) _ (sig_FV 1 (B9+1) _) hmz).mono ?_
 rintro r b2 ⟨bc0,rfl,hlbc0,hobc0,hfbc0,hxs⟩
 replace HB1:=Jh (HB1.out.ext hxs)
 replace HBS:=Jh (HBS.out.ext hxs)
 replace HXW:=Jh (HXW.out.trans hxs)
 replace HBY:=Jh (HBY.out.ext hxs)
 replace HSY:=Jh (HSY.out.trans (Since.of_ext hxs))
 replace HSDa:=Jh (HSDa.out.trans (Since.of_ext hxs))
 replace HSo:=Jh (HSo.out.trans (Since.of_ext hxs))
 replace HSl:=Jh (HSl.out.trans (Since.of_ext hxs))
 replace HSr:=Jh (HSr.out.trans (Since.of_ext hxs))
 replace HB9:=Jh (HB9.out.ext hxs)
 have HFbc0:=Jh hfbc0
 refine hK.out _ _ (hH.ext hxs) (fun hH=>?_)
 clear hK K hxs hmz hfbc0
 try simp only [J]
 refine Jr 3 rfl fun K hK=>?_
 go_simp
 refine (sig_calls 2 _).mono ?_
 rintro r b3 ⟨rfl,hxs⟩
 replace HB1:=Jh (HB1.out.ext hxs)
 replace HBS:=Jh (HBS.out.ext hxs)
 replace HXW:=Jh (HXW.out.trans hxs)
 replace HBY:=Jh (HBY.out.ext hxs)
 replace HSY:=Jh (HSY.out.trans (Since.of_ext hxs))
 replace HSDa:=Jh (HSDa.out.trans (Since.of_ext hxs))
 replace HSo:=Jh (HSo.out.trans (Since.of_ext hxs))
 replace HSl:=Jh (HSl.out.trans (Since.of_ext hxs))
 replace HSr:=Jh (HSr.out.trans (Since.of_ext hxs))
 replace HB9:=Jh (HB9.out.ext hxs)
 replace HFbc0:=Jh (HFbc0.out.ext hxs)
 refine hK.out _ _ (hH.ext hxs) (fun hH=>?_)
 clear hK K hxs
 try simp only [J]
 have hmz:(B9+1)<=b3.heap.size:=HB9.out.lt
 refine Jr 4 rfl fun K hK=>?_
 go_simp
 refine (lset_calls (B9+1) 3 _ (sigE 2) _ (sig_FV 2 (B9+1) _) hmz).mono ?_
 rintro r b4 ⟨bc1,rfl,hlbc1,hobc1,hfbc1,hxs⟩
 replace HB1:=Jh (HB1.out.ext hxs)
 replace HBS:=Jh (HBS.out.ext hxs)
 replace HXW:=Jh (HXW.out.trans hxs)
 replace HBY:=Jh (HBY.out.ext hxs)
 replace HSY:=Jh (HSY.out.trans (Since.of_ext hxs))
 replace HSDa:=Jh (HSDa.out.trans (Since.of_ext hxs))
 replace HSo:=Jh (HSo.out.trans (Since.of_ext hxs))
 replace HSl:=Jh (HSl.out.trans (Since.of_ext hxs))
 replace HSr:=Jh (HSr.out.trans (Since.of_ext hxs))
 replace HB9:=Jh (HB9.out.ext hxs)
 replace HFbc0:=Jh (HFbc0.out.ext hxs)
 have HFbc1:=Jh hfbc1
 refine hK.out _ _ (hH.ext hxs) (fun hH=>?_)
 clear hK K hxs hmz hfbc1
 try simp only [J]
 have hlen:∀ cs∈[cy,bc0,bc1],cs.length=2:=by intro cs h;simp at h;rcases h with rfl | rfl | rfl<;>assumption
 refine Jr 5 rfl fun K hK=>?_
 refine step_bsN rfl _ 3 _ rfl appProc (vs:=[.agg cy.toArray,.agg bc0.toArray,.agg bc1.toArray]) rfl rfl (css:=[cy,bc0,bc1]) rfl hlen (by decide) (by decide) ?_
 have hPy:M<=b4.heap.size:=by have:=HSY.out.1;omega
 have hPyB:=HB9.out.lt
 have hxs:=ext_alloc b4 (.cells [cy,bc0,bc1].flatten.toArray 39)
 have hbp:=Blk.new b4 [cy,bc0,bc1].flatten.toArray 39
 replace HB1:=Jh (HB1.out.ext hxs)
 replace HBS:=Jh (HBS.out.ext hxs)
 replace HXW:=Jh (HXW.out.trans hxs)
 replace HBY:=Jh (HBY.out.ext hxs)
 replace HSY:=Jh (HSY.out.trans (Since.of_ext hxs))
 replace HSDa:=Jh (HSDa.out.trans (Since.of_ext hxs))
 replace HSo:=Jh (HSo.out.trans (Since.of_ext hxs))
 replace HSl:=Jh (HSl.out.trans (Since.of_ext hxs))
 replace HSr:=Jh (HSr.out.trans (Since.of_ext hxs))
 replace HB9:=Jh (HB9.out.ext hxs)
 replace HFbc0:=Jh (HFbc0.out.ext hxs)
 replace HFbc1:=Jh (HFbc1.out.ext hxs)
 obtain ⟨Pb,hP⟩:∃ P,b4.heap.size=P:=⟨_,rfl⟩
 have hPzb:M<=Pb/\B9<Pb:=by rw [<-hP];exact ⟨hPy,hPyB⟩
 rw [hP] at hbp ⊢
 clear hP hPy hPyB
 refine hK.out _ _ (hH.ext hxs) (fun hH=>?_)
 clear hK K
 generalize hG:b4.alloc _=b8 at *
 clear hG
 try simp only [J]
 (refine Jt 6 (.pointer (some ⟨B9,1,Option.none⟩)) rfl (yif_load1 rfl (by intro W3 hW;clear hW;go_simp)) hH ?_;try simp only [J])
 refine Jr 7 rfl fun K hK=>?_
 have x0:=HB9.out.has 1 _ rfl
 have y0:=HB9.out.frozen 1
 have hbs:=HB9.out.set 1 (.slice (some ⟨Pb,0,none⟩) 3 3)
 have hgs:=gb_set b8 B9 1 (.slice (some ⟨Pb,0,none⟩) 3 3)
 replace HB1:=Jh (HB1.out.grown hgs (by omega))
 replace HBS:=Jh (HBS.out.grown hgs (by omega))
 replace HXW:=Jh (Ext.grown HXW.out hgs (by have:=HNW.out;omega))
 replace HBY:=Jh (HBY.out.grown hgs (by omega))
 replace HSY:=Jh (HSY.out.more hgs (by omega))
 replace HSDa:=Jh (HSDa.out.more hgs (by omega))
 replace HSo:=Jh (HSo.out.more hgs (by omega))
 replace HSl:=Jh (HSl.out.more hgs (by omega))
 replace HSr:=Jh (HSr.out.more hgs (by omega))
 have HFbc0z:=HFbc0
 have HFbc1z:=HFbc1
 have HSP:=Jh ((Since.refl (B9+1) b8).more hgs (by omega))
 have hbp9:=hbp.grown hgs (by omega)
 go_simp
 refine hK.out _ _ (hH.grown hgs (by omega)) (fun hH=>?_)
 clear hK K x0 y0
 refine Jz ?_
 generalize b8.setCell _ _=b9 at *
 have HB9:=Jh (show Blk b9 B9 [.slice (some ⟨N,0,none⟩) 4 4,.slice (some ⟨Pb,0,none⟩) 3 3,.slice none 0 0].toArray 26 from hbs)
 have HDb:Hid (MadeD N b9 (.agg #[.slice (some ⟨N,0,none⟩) 4 4,.slice (some ⟨Pb,0,none⟩) 3 3,.slice none 0 0]) liveTwo):=Jh (madeD_of (l:=[liveY,setP 3 (sigE 1),setP 3 (sigE 2)]) HBS.out (Nat.le_refl _) hbp9 (by omega) rfl hlen (by decide) (fun i h h'=>by
  match i,h with
  | 0,_=>exact HFY.out.mono' HSY.out (by omega)
  | 1,_=>exact HFbc0.out.mono' HSP.out (by omega)
  | 2,_=>exact HFbc1.out.mono' HSP.out (by omega)
  | i+3,h=>exact absurd h (by simp)
  ))
 have HSDb:=Jh (Since.refl N b9)
 clear hbp hbp9 hgs hbs hlen hxs HSP hH
 have hxb:=ext_alloc b9 (.cells [Value.slice (some ⟨N,0,none⟩) 4 4,.slice (some ⟨Pa,0,none⟩) 2 2,.slice none 0 0].toArray 26)
 have hbb:=Blk.new b9 [Value.slice (some ⟨N,0,none⟩) 4 4,.slice (some ⟨Pa,0,none⟩) 2 2,.slice none 0 0].toArray 26
 have hsb:(b9.alloc (.cells [Value.slice (some ⟨N,0,none⟩) 4 4,.slice (some ⟨Pa,0,none⟩) 2 2,.slice none 0 0].toArray 26)).heap.size=b9.heap.size+1:=by simp
 go_upto_region 10 with (first | ((with_reducible show Jl 26);refine Jm 26 (HB1.out.has) agg_Flat rfl ?_) | ((with_reducible show Js 26);refine wpList_store_new rfl 26 _ _ rfl rfl (by first | rfl | simp) rfl agg_Flat (rfl) rfl (by simp [Value.oneCell']) ?_))
 have zHB1B10:B1<b9.heap.size:=HB1.out.lt
 have zHBSB10:N<b9.heap.size:=HBS.out.lt
 have zHBYB10:B2<b9.heap.size:=HBY.out.lt
 have zHSYB10:w7.heap.size<=b9.heap.size:=HSY.out.1
 have zHSDaB10:a9.heap.size<=b9.heap.size:=HSDa.out.1
 have zHSoB10:wo.heap.size<=b9.heap.size:=HSo.out.1
 have zHSlB10:wl.heap.size<=b9.heap.size:=HSl.out.1
 have zHSrB10:wr.heap.size<=b9.heap.size:=HSr.out.1
 have zHB9B10:B9<b9.heap.size:=HB9.out.lt
 have zHSDbB10:b9.heap.size<=b9.heap.size:=HSDb.out.1
 replace HB1:=Jh (HB1.out.ext hxb)
 replace HBS:=Jh (HBS.out.ext hxb)
 replace HXW:=Jh (HXW.out.trans hxb)
 replace HBY:=Jh (HBY.out.ext hxb)
 replace HSY:=Jh (HSY.out.trans (Since.of_ext hxb))
 replace HSDa:=Jh (HSDa.out.trans (Since.of_ext hxb))
 replace HSo:=Jh (HSo.out.trans (Since.of_ext hxb))
 replace HSl:=Jh (HSl.out.trans (Since.of_ext hxb))
 replace HSr:=Jh (HSr.out.trans (Since.of_ext hxb))
 replace HB9:=Jh (HB9.out.ext hxb)
 replace HSDb:=Jh (HSDb.out.trans (Since.of_ext hxb))
 generalize b9.alloc _=wc at *
 obtain ⟨B10,hB⟩:∃ B,b9.heap.size=B:=⟨_,rfl⟩
 replace zHB1B10:B1<B10:=by rw [<-hB];exact zHB1B10
 replace zHBSB10:N<B10:=by rw [<-hB];exact zHBSB10
 replace zHBYB10:B2<B10:=by rw [<-hB];exact zHBYB10
 replace zHSYB10:w7.heap.size<=B10:=by rw [<-hB];exact zHSYB10
 replace zHSDaB10:a9.heap.size<=B10:=by rw [<-hB];exact zHSDaB10
 replace zHSoB10:wo.heap.size<=B10:=by rw [<-hB];exact zHSoB10
 replace zHSlB10:wl.heap.size<=B10:=by rw [<-hB];exact zHSlB10
 replace zHSrB10:wr.heap.size<=B10:=by rw [<-hB];exact zHSrB10
 replace zHB9B10:B9<B10:=by rw [<-hB];exact zHB9B10
 replace zHSDbB10:b9.heap.size<=B10:=by rw [<-hB];exact zHSDbB10
 rw [hB] at hbb ⊢
 have hMBB10:M<=B10:=by have:=zHSYB10;have:=hmb;omega
 have HB10:=Jh hbb
 clear hB hbb hxb hsb
 refine wp_region_held_drew (S:=fun W3=>Blk W3 B2 cy.toArray 39) (by kernel_rfl) HBY.out.drew (fun hH=>?_)
 have hxd:Ext wc wc.drew:=Below.drew (Below.refl _ _)
 replace HB1:=Jh (HB1.out.ext hxd)
 replace HBS:=Jh (HBS.out.ext hxd)
 replace HXW:=Jh (HXW.out.trans hxd)
 replace HBY:=Jh (HBY.out.ext hxd)
 replace HSY:=Jh (HSY.out.trans (Since.of_ext hxd))
 replace HSDa:=Jh (HSDa.out.trans (Since.of_ext hxd))
 replace HSo:=Jh (HSo.out.trans (Since.of_ext hxd))
 replace HSl:=Jh (HSl.out.trans (Since.of_ext hxd))
 replace HSr:=Jh (HSr.out.trans (Since.of_ext hxd))
 replace HB9:=Jh (HB9.out.ext hxd)
 replace HSDb:=Jh (HSDb.out.trans (Since.of_ext hxd))
 replace HB10:=Jh (HB10.out.ext hxd)
 generalize wc.drew=c0 at *
 clear hxd
 try simp only [J]
 (refine Jt 0 (.agg cy.toArray) rfl (yif_load rfl 39 _ rfl rfl (fun _ h=>Blk.has h) agg_Proc hly) hH ?_;try simp only [J])
 refine Jr 1 rfl fun K hK=>?_
 go_simp
 refine (sig_calls 2 _).mono ?_
 rintro r c1 ⟨rfl,hxs⟩
 replace HB1:=Jh (HB1.out.ext hxs)
 replace HBS:=Jh (HBS.out.ext hxs)
 replace HXW:=Jh (HXW.out.trans hxs)
 replace HBY:=Jh (HBY.out.ext hxs)
 replace HSY:=Jh (HSY.out.trans (Since.of_ext hxs))
 replace HSDa:=Jh (HSDa.out.trans (Since.of_ext hxs))
 replace HSo:=Jh (HSo.out.trans (Since.of_ext hxs))
 replace HSl:=Jh (HSl.out.trans (Since.of_ext hxs))
 replace HSr:=Jh (HSr.out.trans (Since.of_ext hxs))
 replace HB9:=Jh (HB9.out.ext hxs)
 replace HSDb:=Jh (HSDb.out.trans (Since.of_ext hxs))
 replace HB10:=Jh (HB10.out.ext hxs)
 refine hK.out _ _ (hH.ext hxs) (fun hH=>?_)
 clear hK K hxs
 try simp only [J]
 have hmz:(B10+1)<=c1.heap.size:=HB10.out.lt
 refine Jr 2 rfl fun K hK=>?_
 go_simp
 refine (lset_calls (B10+1) 3 _ (sigE 2) _ (sig_FV 2 (B10+1) _) hmz).mono ?_
 rintro r c2 ⟨cc0,rfl,hlcc0,hocc0,hfcc0,hxs⟩
 replace HB1:=Jh (HB1.out.ext hxs)
 replace HBS:=Jh (HBS.out.ext hxs)
 replace HXW:=Jh (HXW.out.trans hxs)
 replace HBY:=Jh (HBY.out.ext hxs)
 replace HSY:=Jh (HSY.out.trans (Since.of_ext hxs))
 replace HSDa:=Jh (HSDa.out.trans (Since.of_ext hxs))
 replace HSo:=Jh (HSo.out.trans (Since.of_ext hxs))
 replace HSl:=Jh (HSl.out.trans (Since.of_ext hxs))
 replace HSr:=Jh (HSr.out.trans (Since.of_ext hxs))
 replace HB9:=Jh (HB9.out.ext hxs)
 replace HSDb:=Jh (HSDb.out.trans (Since.of_ext hxs))
 replace HB10:=Jh (HB10.out.ext hxs)
 have HFcc0:=Jh hfcc0
 refine hK.out _ _ (hH.ext hxs) (fun hH=>?_)
 clear hK K hxs hmz hfcc0
 try simp only [J]
 have hlen:∀ cs∈[cy,cc0],cs.length=2:=by intro cs h;simp at h;rcases h with rfl | rfl<;>assumption
 refine Jr 3 rfl fun K hK=>?_
 refine step_bsN rfl _ 2 _ rfl appProc (vs:=[.agg cy.toArray,.agg cc0.toArray]) rfl rfl (css:=[cy,cc0]) rfl hlen (by decide) (by decide) ?_
 have hPy:M<=c2.heap.size:=by have:=HSY.out.1;omega
 have hPyB:=HB10.out.lt
 have hxs:=ext_alloc c2 (.cells [cy,cc0].flatten.toArray 39)
 have hbp:=Blk.new c2 [cy,cc0].flatten.toArray 39
 replace HB1:=Jh (HB1.out.ext hxs)
 replace HBS:=Jh (HBS.out.ext hxs)
 replace HXW:=Jh (HXW.out.trans hxs)
 replace HBY:=Jh (HBY.out.ext hxs)
 replace HSY:=Jh (HSY.out.trans (Since.of_ext hxs))
 replace HSDa:=Jh (HSDa.out.trans (Since.of_ext hxs))
 replace HSo:=Jh (HSo.out.trans (Since.of_ext hxs))
 replace HSl:=Jh (HSl.out.trans (Since.of_ext hxs))
 replace HSr:=Jh (HSr.out.trans (Since.of_ext hxs))
 replace HB9:=Jh (HB9.out.ext hxs)
 replace HSDb:=Jh (HSDb.out.trans (Since.of_ext hxs))
 replace HB10:=Jh (HB10.out.ext hxs)
 replace HFcc0:=Jh (HFcc0.out.ext hxs)
 obtain ⟨Pc,hP⟩:∃ P,c2.heap.size=P:=⟨_,rfl⟩
 have hPzc:M<=Pc/\B10<Pc:=by rw [<-hP];exact ⟨hPy,hPyB⟩
 rw [hP] at hbp ⊢
 clear hP hPy hPyB
 refine hK.out _ _ (hH.ext hxs) (fun hH=>?_)
 clear hK K
 generalize hG:c2.alloc _=c8 at *
 clear hG
 try simp only [J]
 (refine Jt 4 (.pointer (some ⟨B10,1,Option.none⟩)) rfl (yif_load1 rfl (by intro W3 hW;clear hW;go_simp)) hH ?_;try simp only [J])
 refine Jr 5 rfl fun K hK=>?_
 have x0:=HB10.out.has 1 _ rfl
 have y0:=HB10.out.frozen 1
 have hbs:=HB10.out.set 1 (.slice (some ⟨Pc,0,none⟩) 2 2)
 have hgs:=gb_set c8 B10 1 (.slice (some ⟨Pc,0,none⟩) 2 2)
 replace HB1:=Jh (HB1.out.grown hgs (by omega))
 replace HBS:=Jh (HBS.out.grown hgs (by omega))
 replace HXW:=Jh (Ext.grown HXW.out hgs (by have:=HNW.out;omega))
 replace HBY:=Jh (HBY.out.grown hgs (by omega))
 replace HSY:=Jh (HSY.out.more hgs (by omega))
 replace HSDa:=Jh (HSDa.out.more hgs (by omega))
 replace HSo:=Jh (HSo.out.more hgs (by omega))
 replace HSl:=Jh (HSl.out.more hgs (by omega))
 replace HSr:=Jh (HSr.out.more hgs (by omega))
 replace HB9:=Jh (HB9.out.grown hgs (by omega))
 replace HSDb:=Jh (HSDb.out.more hgs (by omega))
 have HFcc0z:=HFcc0
 have HSP:=Jh ((Since.refl (B10+1) c8).more hgs (by omega))
 have hbp9:=hbp.grown hgs (by omega)
 go_simp
 refine hK.out _ _ (hH.grown hgs (by omega)) (fun hH=>?_)
 clear hK K x0 y0
 refine Jz ?_
 generalize c8.setCell _ _=c9 at *
 have HB10:=Jh (show Blk c9 B10 [.slice (some ⟨N,0,none⟩) 4 4,.slice (some ⟨Pc,0,none⟩) 2 2,.slice none 0 0].toArray 26 from hbs)
 have HDc:Hid (MadeD N c9 (.agg #[.slice (some ⟨N,0,none⟩) 4 4,.slice (some ⟨Pc,0,none⟩) 2 2,.slice none 0 0]) liveLoop):=Jh (madeD_of (l:=[liveY,setP 3 (sigE 2)]) HBS.out (Nat.le_refl _) hbp9 (by omega) rfl hlen (by decide) (fun i h h'=>by
  match i,h with
  | 0,_=>exact HFY.out.mono' HSY.out (by omega)
  | 1,_=>exact HFcc0.out.mono' HSP.out (by omega)
  | i+2,h=>exact absurd h (by simp)
  ))
 have HSDc:=Jh (Since.refl N c9)
 clear hbp hbp9 hgs hbs hlen hxs HSP hH
 have hxb:=ext_alloc c9 (.cells [Value.slice (some ⟨N,0,none⟩) 4 4,.slice (some ⟨Pa,0,none⟩) 2 2,.slice none 0 0].toArray 26)
 have hbb:=Blk.new c9 [Value.slice (some ⟨N,0,none⟩) 4 4,.slice (some ⟨Pa,0,none⟩) 2 2,.slice none 0 0].toArray 26
 have hsb:(c9.alloc (.cells [Value.slice (some ⟨N,0,none⟩) 4 4,.slice (some ⟨Pa,0,none⟩) 2 2,.slice none 0 0].toArray 26)).heap.size=c9.heap.size+1:=by simp
 go_upto_region 12 with (first | ((with_reducible show Jl 26);refine Jm 26 (HB1.out.has) agg_Flat rfl ?_) | ((with_reducible show Js 26);refine wpList_store_new rfl 26 _ _ rfl rfl (by first | rfl | simp) rfl agg_Flat (rfl) rfl (by simp [Value.oneCell']) ?_))
 have zHB1B11:B1<c9.heap.size:=HB1.out.lt
 have zHBSB11:N<c9.heap.size:=HBS.out.lt
 have zHBYB11:B2<c9.heap.size:=HBY.out.lt
 have zHSYB11:w7.heap.size<=c9.heap.size:=HSY.out.1
 have zHSDaB11:a9.heap.size<=c9.heap.size:=HSDa.out.1
 have zHSoB11:wo.heap.size<=c9.heap.size:=HSo.out.1
 have zHSlB11:wl.heap.size<=c9.heap.size:=HSl.out.1
 have zHSrB11:wr.heap.size<=c9.heap.size:=HSr.out.1
 have zHB9B11:B9<c9.heap.size:=HB9.out.lt
 have zHSDbB11:b9.heap.size<=c9.heap.size:=HSDb.out.1
 have zHB10B11:B10<c9.heap.size:=HB10.out.lt
 have zHSDcB11:c9.heap.size<=c9.heap.size:=HSDc.out.1
 replace HB1:=Jh (HB1.out.ext hxb)
 replace HBS:=Jh (HBS.out.ext hxb)
 replace HXW:=Jh (HXW.out.trans hxb)
 replace HBY:=Jh (HBY.out.ext hxb)
 replace HSY:=Jh (HSY.out.trans (Since.of_ext hxb))
 replace HSDa:=Jh (HSDa.out.trans (Since.of_ext hxb))
 replace HSo:=Jh (HSo.out.trans (Since.of_ext hxb))
 replace HSl:=Jh (HSl.out.trans (Since.of_ext hxb))
 replace HSr:=Jh (HSr.out.trans (Since.of_ext hxb))
 replace HB9:=Jh (HB9.out.ext hxb)
 replace HSDb:=Jh (HSDb.out.trans (Since.of_ext hxb))
 replace HB10:=Jh (HB10.out.ext hxb)
 replace HSDc:=Jh (HSDc.out.trans (Since.of_ext hxb))
 generalize c9.alloc _=wd at *
 obtain ⟨B11,hB⟩:∃ B,c9.heap.size=B:=⟨_,rfl⟩
 replace zHB1B11:B1<B11:=by rw [<-hB];exact zHB1B11
 replace zHBSB11:N<B11:=by rw [<-hB];exact zHBSB11
 replace zHBYB11:B2<B11:=by rw [<-hB];exact zHBYB11
 replace zHSYB11:w7.heap.size<=B11:=by rw [<-hB];exact zHSYB11
 replace zHSDaB11:a9.heap.size<=B11:=by rw [<-hB];exact zHSDaB11
 replace zHSoB11:wo.heap.size<=B11:=by rw [<-hB];exact zHSoB11
 replace zHSlB11:wl.heap.size<=B11:=by rw [<-hB];exact zHSlB11
 replace zHSrB11:wr.heap.size<=B11:=by rw [<-hB];exact zHSrB11
 replace zHB9B11:B9<B11:=by rw [<-hB];exact zHB9B11
 replace zHSDbB11:b9.heap.size<=B11:=by rw [<-hB];exact zHSDbB11
 replace zHB10B11:B10<B11:=by rw [<-hB];exact zHB10B11
 replace zHSDcB11:c9.heap.size<=B11:=by rw [<-hB];exact zHSDcB11
 rw [hB] at hbb ⊢
 have hMBB11:M<=B11:=by have:=zHSYB11;have:=hmb;omega
 have HB11:=Jh hbb
 clear hB hbb hxb hsb
 go_wp2_with (first | ((with_reducible show Jl 39);refine Jm 39 (HBY.out.has) agg_Proc hly ?_) | ((with_reducible show Jw (Op.buildSlice _ _ _));refine Hid.out ?_))
 refine Jh ?_
 have hlen:∀ cs∈[cy],cs.length=2:=by intro cs h;simp at h;rw [h];exact hly
 refine wpList_bsN rfl _ 1 _ rfl appProc (vs:=[.agg cy.toArray]) rfl rfl (css:=[cy]) rfl hlen (by decide) (by decide) ?_
 have hxs:=ext_alloc wd (.cells [cy].flatten.toArray 39)
 have hbp:=Blk.new wd [cy].flatten.toArray 39
 have hPy:M<=wd.heap.size:=by have:=HSY.out.1;omega
 have hPyB:=HB11.out.lt
 replace HB1:=Jh (HB1.out.ext hxs)
 replace HBS:=Jh (HBS.out.ext hxs)
 replace HXW:=Jh (HXW.out.trans hxs)
 replace HBY:=Jh (HBY.out.ext hxs)
 replace HSY:=Jh (HSY.out.trans (Since.of_ext hxs))
 replace HSDa:=Jh (HSDa.out.trans (Since.of_ext hxs))
 replace HSo:=Jh (HSo.out.trans (Since.of_ext hxs))
 replace HSl:=Jh (HSl.out.trans (Since.of_ext hxs))
 replace HSr:=Jh (HSr.out.trans (Since.of_ext hxs))
 replace HB9:=Jh (HB9.out.ext hxs)
 replace HSDb:=Jh (HSDb.out.trans (Since.of_ext hxs))
 replace HB10:=Jh (HB10.out.ext hxs)
 replace HSDc:=Jh (HSDc.out.trans (Since.of_ext hxs))
 replace HB11:=Jh (HB11.out.ext hxs)
 generalize wd.alloc _=d8 at *
 obtain ⟨Pd,hP⟩:∃ P,wd.heap.size=P:=⟨_,rfl⟩
 have hPzd:M<=Pd/\B11<Pd:=by rw [<-hP];exact ⟨hPy,hPyB⟩
 rw [hP] at hbp ⊢
 clear hP hPy hPyB
 have x0:=HB11.out.has 1 _ rfl
 have y0:=HB11.out.frozen 1
 have hbs:=HB11.out.set 1 (.slice (some ⟨Pd,0,none⟩) 1 1)
 have hgs:=gb_set d8 B11 1 (.slice (some ⟨Pd,0,none⟩) 1 1)
 replace HB1:=Jh (HB1.out.grown hgs (by omega))
 replace HBS:=Jh (HBS.out.grown hgs (by omega))
 replace HXW:=Jh (Ext.grown HXW.out hgs (by have:=HNW.out;omega))
 replace HBY:=Jh (HBY.out.grown hgs (by omega))
 replace HSY:=Jh (HSY.out.more hgs (by omega))
 replace HSDa:=Jh (HSDa.out.more hgs (by omega))
 replace HSo:=Jh (HSo.out.more hgs (by omega))
 replace HSl:=Jh (HSl.out.more hgs (by omega))
 replace HSr:=Jh (HSr.out.more hgs (by omega))
 replace HB9:=Jh (HB9.out.grown hgs (by omega))
 replace HSDb:=Jh (HSDb.out.more hgs (by omega))
 replace HB10:=Jh (HB10.out.grown hgs (by omega))
 replace HSDc:=Jh (HSDc.out.more hgs (by omega))
 have HSP:=Jh ((Since.refl (B11+1) d8).more hgs (by omega))
 have hbp9:=hbp.grown hgs (by omega)
 go_upto_region 13 with fail
 clear x0 y0
 have hH:=hbp9
 generalize d8.setCell _ _=d9 at *
 have HB11:=Jh (show Blk d9 B11 [.slice (some ⟨N,0,none⟩) 4 4,.slice (some ⟨Pd,0,none⟩) 1 1,.slice none 0 0].toArray 26 from hbs)
 have HDd:Hid (MadeD N d9 (.agg #[.slice (some ⟨N,0,none⟩) 4 4,.slice (some ⟨Pd,0,none⟩) 1 1,.slice none 0 0]) liveOne):=Jh (madeD_of (l:=[liveY]) HBS.out (Nat.le_refl _) hbp9 (by omega) rfl hlen (by decide) (fun i h h'=>by
  match i,h with
  | 0,_=>exact HFY.out.mono' HSY.out (by omega)
  | i+1,h=>exact absurd h (by simp)
  ))
 have HSDd:=Jh (Since.refl N d9)
 clear hbp hbp9 hgs hbs hlen hxs HSP hH
 have hqo:Has d9 go 0 [.int .i64 (1),.int .i64 (0)]:=has_since HHo.out hgNo HSo.out
 have yo0:=hqo 0 _ rfl
 rw [Nat.zero_add] at yo0
 have yo1:=hqo 1 _ rfl
 rw [Nat.zero_add] at yo1
 clear hqo
 have hql:Has d9 gl 0 [.int .i64 (1),.int .i64 (0)]:=has_since HHl.out hgNl HSl.out
 have yl0:=hql 0 _ rfl
 rw [Nat.zero_add] at yl0
 have yl1:=hql 1 _ rfl
 rw [Nat.zero_add] at yl1
 clear hql
 have hqr:Has d9 gr 0 [.int .i64 (-1),.int .i64 (-1),.int .i64 (0),.int .i64 (1)]:=has_since HHr.out hgNr HSr.out
 have yr0:=hqr 0 _ rfl
 rw [Nat.zero_add] at yr0
 have yr2:=hqr 2 _ rfl
 rw [Nat.zero_add] at yr2
 clear hqr
 have HX9:=Jh HXW.out
 clear zHB1B9 zHBSB9 zHBYB9 zHSYB9 zHSDaB9 zHSoB9 zHSlB9 zHSrB9 zHB1B10 zHBSB10 zHBYB10 zHSYB10 zHSDaB10 zHSoB10 zHSlB10 zHSrB10 zHB9B10 zHSDbB10 zHB1B11 zHBSB11 zHBYB11 zHSYB11 zHSDaB11 zHSoB11 zHSlB11 zHSrB11 zHB9B11 zHSDbB11 zHB10B11 zHSDcB11
 clear HSY HFY HBY HBS HXW HSo HSl HSr HHo HHl HHr hgNo hgNl hgNr hPza hPzb hPzc hPzd hMBB9 hMBB10 hMBB11 hmb hNB hBM HNW HN
 clear HFac0 HFac0z hlac0 hoac0 HFbc0 HFbc0z hlbc0 hobc0 HFbc1 HFbc1z hlbc1 hobc1 HFcc0 HFcc0z hlcc0 hocc0 hly hoy
 refine forget (fun f=>⟨#[.bool false,.pointer (some ⟨B1,0,Option.none⟩),f 2,.slice (some ⟨go,0,Option.none⟩) 2 co,.int .i64 0,.slice (some ⟨gl,0,Option.none⟩) 2 cl,.int .i64 0,.slice (some ⟨gr,0,Option.none⟩) 4 cr,.int .i64 0,.pointer (some ⟨B9,0,Option.none⟩),.pointer (some ⟨B10,0,Option.none⟩),.pointer (some ⟨B11,0,Option.none⟩),f 12,f 13,f 14,f 15,f 16,f 17,f 18,f 19,f 20,f 21,f 22,f 23,f 24,f 25,f 26,f 27,f 28,f 29,f 30,f 31,f 32,f 33,f 34,f 35,f 36,f 37,f 38,f 39,f 40,f 41,f 42,f 43,f 44,f 45,f 46,f 47,f 48,f 49,f 50,f 51,f 52,f 53,f 54,f 55,f 56,f 57,f 58,f 59,f 60,f 61,f 62,f 63,f 64,f 65,f 66,f 67,f 68,f 69,f 70,f 71,f 72,f 73,f 74,f 75,f 76,f 77,f 78,f 79,f 80,f 81,f 82,f 83,f 84,f 85,f 86,f 87,f 88,f 89,f 90,f 91,f 92,f 93,f 94,f 95,f 96,f 97,f 98,f 99,f 100,f 101,f 102,f 103,f 104,f 105,f 106,f 107,f 108,f 109,f 110,f 111,f 112,f 113,f 114,f 115,f 116,f 117,f 118,f 119,f 120,f 121,f 122,f 123,f 124,f 125,f 126,f 127,f 128,f 129,f 130,f 131,f 132,f 133,f 134,f 135,f 136,f 137,f 138,f 139],[]⟩) rfl (fun f=>?_)
 go_upto_region 15 with fail
 refine forget (fun f=>⟨#[.bool false,.pointer (some ⟨B1,0,Option.none⟩),f 2,.slice (some ⟨go,0,Option.none⟩) 2 co,.int .i64 0,.slice (some ⟨gl,0,Option.none⟩) 2 cl,.int .i64 0,.slice (some ⟨gr,0,Option.none⟩) 4 cr,.int .i64 0,.pointer (some ⟨B9,0,Option.none⟩),.pointer (some ⟨B10,0,Option.none⟩),.pointer (some ⟨B11,0,Option.none⟩),f 12,f 13,f 14,f 15,f 16,f 17,f 18,f 19,f 20,f 21,f 22,f 23,f 24,f 25,f 26,f 27,f 28,f 29,f 30,f 31,f 32,f 33,f 34,f 35,f 36,f 37,f 38,f 39,f 40,f 41,f 42,f 43,f 44,f 45,f 46,f 47,f 48,f 49,f 50,f 51,f 52,f 53,f 54,f 55,f 56,f 57,f 58,f 59,f 60,f 61,f 62,f 63,f 64,f 65,f 66,f 67,f 68,f 69,f 70,f 71,f 72,f 73,f 74,f 75,f 76,f 77,f 78,f 79,f 80,f 81,f 82,f 83,f 84,f 85,f 86,f 87,f 88,f 89,f 90,f 91,f 92,f 93,f 94,f 95,f 96,f 97,f 98,f 99,f 100,f 101,f 102,f 103,f 104,f 105,f 106,f 107,f 108,f 109,f 110,f 111,f 112,f 113,f 114,f 115,f 116,f 117,f 118,f 119,f 120,f 121,f 122,f 123,f 124,f 125,f 126,f 127,f 128,f 129,f 130,f 131,f 132,f 133,f 134,f 135,f 136,f 137,f 138,f 139],[]⟩) rfl (fun f=>?_)
 refine wp_region_lit ?_
 refine wl_pure (v:=.slice (some ⟨go,0,Option.none⟩) 2 co) rfl (by rfl) ?_
 try simp only [J]
 refine wl_pure (v:=.pointer (some ⟨go,0,Option.none⟩)) rfl (by go_simp) ?_
 try simp only [J]
 refine wl_pure (v:=.int .i64 1) rfl (by go_simp) ?_
 try simp only [J]
 refine wl_pure (v:=.bool true) rfl (by go_simp) ?_
 try simp only [J]
 refine wl_pure (v:=.bool true) rfl (by rfl) ?_
 try simp only [J]
 refine wl_pure (v:=.slice (some ⟨go,0,Option.none⟩) 2 co) rfl (by rfl) ?_
 try simp only [J]
 refine wl_pure (v:=.pointer (some ⟨go,1,Option.none⟩)) rfl (by go_simp) ?_
 try simp only [J]
 refine wl_pure (v:=.int .i64 0) rfl (by go_simp) ?_
 try simp only [J]
 refine wl_pure (v:=.bool true) rfl (by go_simp) ?_
 try simp only [J]
 refine wl_pure (v:=.bool true) rfl (by rfl) ?_
 try simp only [J]
 refine wl_pure (v:=.bool true) rfl (by rfl) ?_
 try simp only [J]
 refine wl_pure (v:=.slice (some ⟨gl,0,Option.none⟩) 2 cl) rfl (by rfl) ?_
 try simp only [J]
 refine wl_pure (v:=.pointer (some ⟨gl,0,Option.none⟩)) rfl (by go_simp) ?_
 try simp only [J]
 refine wl_pure (v:=.int .i64 1) rfl (by go_simp) ?_
 try simp only [J]
 refine wl_pure (v:=.bool true) rfl (by go_simp) ?_
 try simp only [J]
 refine wl_pure (v:=.bool true) rfl (by rfl) ?_
 try simp only [J]
 refine wl_pure (v:=.bool true) rfl (by rfl) ?_
 try simp only [J]
 refine wl_pure (v:=.slice (some ⟨gl,0,Option.none⟩) 2 cl) rfl (by rfl) ?_
 try simp only [J]
 refine wl_pure (v:=.pointer (some ⟨gl,1,Option.none⟩)) rfl (by go_simp) ?_
 try simp only [J]
 refine wl_pure (v:=.int .i64 0) rfl (by go_simp) ?_
 try simp only [J]
 refine wl_pure (v:=.bool true) rfl (by go_simp) ?_
 try simp only [J]
 refine wl_pure (v:=.bool true) rfl (by rfl) ?_
 try simp only [J]
 refine wl_pure (v:=.bool true) rfl (by rfl) ?_
 try simp only [J]
 refine wl_pure (v:=.slice (some ⟨gr,0,Option.none⟩) 4 cr) rfl (by rfl) ?_
 try simp only [J]
 refine wl_pure (v:=.pointer (some ⟨gr,2,Option.none⟩)) rfl (by go_simp) ?_
 try simp only [J]
 refine wl_pure (v:=.int .i64 0) rfl (by go_simp) ?_
 try simp only [J]
 refine wl_pure (v:=.bool true) rfl (by go_simp) ?_
 try simp only [J]
 refine wl_pure (v:=.bool true) rfl (by rfl) ?_
 try simp only [J]
 refine wl_pure (v:=.bool true) rfl (by rfl) ?_
 try simp only [J]
 refine wl_pure (v:=.slice (some ⟨gr,0,Option.none⟩) 4 cr) rfl (by rfl) ?_
 try simp only [J]
 refine wl_pure (v:=.pointer (some ⟨gr,0,Option.none⟩)) rfl (by go_simp) ?_
 try simp only [J]
 refine wl_pure (v:=.int .i64 (-1)) rfl (by go_simp) ?_
 try simp only [J]
 refine wl_pure (v:=.bool true) rfl (by go_simp) ?_
 try simp only [J]
 refine wl_pure (v:=.bool true) rfl (by rfl) ?_
 try simp only [J]
 refine wl_pure (v:=.bool true) rfl (by rfl) ?_
 try simp only [J]
 refine Jm 26 (HB1.out.has) agg_Flat rfl ?_
 try simp only [J]
 refine wpList_call_fn rfl 18 [_] _ rfl (leads_of Tryz.func18 (by kernel_rfl) rfl) rfl (live_c1 _ _ (HDa.out _ HSDa.out)) ?_
 intro e1 hxe
 try simp only [J]
 replace HB1:=Jh (HB1.out.ext hxe)
 replace HB9:=Jh (HB9.out.ext hxe)
 replace HB10:=Jh (HB10.out.ext hxe)
 replace HB11:=Jh (HB11.out.ext hxe)
 replace HSDa:=Jh (HSDa.out.trans (Since.of_ext hxe))
 replace HSDb:=Jh (HSDb.out.trans (Since.of_ext hxe))
 replace HSDc:=Jh (HSDc.out.trans (Since.of_ext hxe))
 replace HSDd:=Jh (HSDd.out.trans (Since.of_ext hxe))
 replace HX9:=Jh (HX9.out.trans hxe)
 clear hxe
 refine wl_pure (v:=.bool true) rfl (by go_simp) ?_
 try simp only [J]
 refine wl_pure (v:=.bool true) rfl (by rfl) ?_
 try simp only [J]
 refine wl_pure (v:=.bool true) rfl (by rfl) ?_
 try simp only [J]
 refine Jm 26 (HB9.out.has) agg_Flat rfl ?_
 try simp only [J]
 refine wpList_call_fn rfl 18 [_] _ rfl (leads_of Tryz.func18 (by kernel_rfl) rfl) rfl (live_c2 _ _ (HDb.out _ HSDb.out)) ?_
 intro e2 hxe
 try simp only [J]
 replace HB1:=Jh (HB1.out.ext hxe)
 replace HB9:=Jh (HB9.out.ext hxe)
 replace HB10:=Jh (HB10.out.ext hxe)
 replace HB11:=Jh (HB11.out.ext hxe)
 replace HSDa:=Jh (HSDa.out.trans (Since.of_ext hxe))
 replace HSDb:=Jh (HSDb.out.trans (Since.of_ext hxe))
 replace HSDc:=Jh (HSDc.out.trans (Since.of_ext hxe))
 replace HSDd:=Jh (HSDd.out.trans (Since.of_ext hxe))
 replace HX9:=Jh (HX9.out.trans hxe)
 clear hxe
 refine wl_pure (v:=.bool true) rfl (by go_simp) ?_
 try simp only [J]
 refine wl_pure (v:=.bool true) rfl (by rfl) ?_
 try simp only [J]
 refine wl_pure (v:=.bool true) rfl (by rfl) ?_
 try simp only [J]
 refine Jm 26 (HB10.out.has) agg_Flat rfl ?_
 try simp only [J]
 refine wpList_call_fn rfl 18 [_] _ rfl (leads_of Tryz.func18 (by kernel_rfl) rfl) rfl (live_c3 _ _ (HDc.out _ HSDc.out)) ?_
 intro e3 hxe
 try simp only [J]
 replace HB1:=Jh (HB1.out.ext hxe)
 replace HB9:=Jh (HB9.out.ext hxe)
 replace HB10:=Jh (HB10.out.ext hxe)
 replace HB11:=Jh (HB11.out.ext hxe)
 replace HSDa:=Jh (HSDa.out.trans (Since.of_ext hxe))
 replace HSDb:=Jh (HSDb.out.trans (Since.of_ext hxe))
 replace HSDc:=Jh (HSDc.out.trans (Since.of_ext hxe))
 replace HSDd:=Jh (HSDd.out.trans (Since.of_ext hxe))
 replace HX9:=Jh (HX9.out.trans hxe)
 clear hxe
 refine wl_pure (v:=.bool true) rfl (by go_simp) ?_
 try simp only [J]
 refine wl_pure (v:=.bool true) rfl (by rfl) ?_
 try simp only [J]
 refine wl_pure (v:=.bool true) rfl (by rfl) ?_
 try simp only [J]
 refine Jm 26 (HB11.out.has) agg_Flat rfl ?_
 try simp only [J]
 refine wpList_call_fn rfl 18 [_] _ rfl (leads_of Tryz.func18 (by kernel_rfl) rfl) rfl (live_c4 _ _ (HDd.out _ HSDd.out)) ?_
 intro e4 hxe
 try simp only [J]
 replace HB1:=Jh (HB1.out.ext hxe)
 replace HB9:=Jh (HB9.out.ext hxe)
 replace HB10:=Jh (HB10.out.ext hxe)
 replace HB11:=Jh (HB11.out.ext hxe)
 replace HSDa:=Jh (HSDa.out.trans (Since.of_ext hxe))
 replace HSDb:=Jh (HSDb.out.trans (Since.of_ext hxe))
 replace HSDc:=Jh (HSDc.out.trans (Since.of_ext hxe))
 replace HSDd:=Jh (HSDd.out.trans (Since.of_ext hxe))
 replace HX9:=Jh (HX9.out.trans hxe)
 clear hxe
 refine wl_pure (v:=.bool true) rfl (by go_simp) ?_
 try simp only [J]
 refine wl_pure (v:=.bool true) rfl (by rfl) ?_
 try simp only [J]
 refine wl_pure (v:=.bool true) rfl (by rfl) ?_
 try simp only [J]
 have HX10:=Jh HX9.out
 go_wp2_with fail
 go_ret
 exact ⟨rfl,HX10.out⟩
end Go.Proofs.YtpdpgmfnfajbfaaGreat
