/- Laws and walks that a claim of this seat leans on: SizeD. -/
import Derived.Test.YtpngepnfinbaoaaGreatC12
import Derived.Test.YtpngepnfinbaoaaGreatC00
set_option maxRecDepth 100000
set_option maxHeartbeats 8000000
set_option linter.all false
namespace Go.Proofs.YtpngepnfinbaoaaGreat
open Go.RowKit
theorem Size_calls (d:Flat) (v:Value) (w:World) (h:FlatV w v d) (hwf:d.wf) (hb:mNodes d<=1048576) (hl:d.signals.length<=1048576) (hl2:d.procs.length<=1048576) (hl3:d.checks.length<=1048576) :
  Calls Tryz.prog 20 #[v] w (SizeDPost w (sizeD d)):=by
 have HF0:=Jh h
 have HWF:=Jh hwf
 obtain ⟨sv,pv,cv,rfl,hS,hP,hC⟩:=h
 have HS:=Jh hS
 have HP:=Jh hP
 have HC:=Jh hC
 have HM:=Jh (show sizeD d=_ from by unfold sizeD;rfl)
 have hX:=(ext_alloc w (.cells [sv,pv,cv].toArray 26)).alloc (.cells zero3.toArray 26)
 have K0:=Jh ((Has.alloc w [sv,pv,cv] 26).ext (ext_alloc _ (.cells zero3.toArray 26)))
 have hb1:=Blk.new (w.alloc (.cells [sv,pv,cv].toArray 26)) zero3.toArray 26
 rw [World.size_alloc] at hb1
 have K1:=Jh hb1
 have HX:=Jh hX
 have hsz0:((w.alloc (.cells [sv,pv,cv].toArray 26)).alloc (.cells zero3.toArray 26)).heap.size=w.heap.size+1+1:=by simp
 have HFI:∀ W,Hid (Ext _ W->Calls Tryz.prog 39 #[.agg #[sv,pv,cv]] W fun r w'=>r=.returned (.bool (fitsM d))/\Ext W w'):=fun W=>Jh fun hx=>fits_calls d _ W (HF0.out.ext (hX.trans hx)) hb hl hwf.signals
 have HSH:∀ W,Hid (Ext _ W->Calls Tryz.prog 40 #[.agg #[sv,pv,cv]] W fun r w'=>r=.returned (.bool (shapedM d))/\Ext W w'):=fun W=>Jh fun hx=>shaped_calls d _ W (HF0.out.ext (hX.trans hx)) hwf hl
 have HCF:∀ W,Hid (Ext _ W->Calls Tryz.prog 41 #[sv,.func (.func 42) #[] #[]] W fun r w'=>r=.returned (.bool (d.signals.any fun s=>!holds s.w s.init))/\Ext W w'):=fun W=>Jh fun hx =>
  ContainsFunc_Signal 42 #[] (fun s=>!holds s.w s.init) d.signals sv W (HS.out.ext (hX.trans hx)) leads_Size1 (fun W' hx' j hj cs hcs=>by subst hcs;exact Size1_calls _ W' (HWF.out.signals _ (List.getElem_mem hj)))
 have HCL:∀ W,Hid (Ext _ W->Calls Tryz.prog 44 #[sv] W (ClonePost W d.signals)):=fun W=>Jh fun hx=>Clone_calls d.signals sv W (HS.out.ext (hX.trans hx)) hl
 obtain ⟨xs,bs,os,caps,e1,-,-,-,-⟩:=hS.open
 obtain ⟨ap,bp,op,capp,e2,hp1,hp2,hpa,hpr⟩:=hP.open
 obtain ⟨ac,bc,oc,capc,e3,hq1,hq2,hqa,hqr⟩:=hC.open
 subst e1;subst e2;subst e3
 have HPA:=Jh hpa
 have HPR:=Jh hpr
 have HQA:=Jh hqa
 have HQR:=Jh hqr
 clear hX hb1 hS hP hC hpa hpr hqa hqr hwf
 go_enter Tryz.func20,Tryz.ntmps20
 go_upto_region 1 with fail
 generalize (w.alloc _).alloc _=w0 at *
 obtain ⟨p1,h1⟩:∃ p,fitsM d=p:=⟨_,rfl⟩
 rw [h1] at HFI
 have H1:=Jh h1
 clear h1
 cases p1
 ·go_wp2_with (first | ((with_reducible show Jl 26);refine Jm 26 (K0.out) agg_Flat rfl ?_) | (go_at_call 39;refine ((HFI _).out (Below.refl _ _)).mono ?_;rintro r w1 ⟨rfl,hx1⟩) | ((with_reducible show Js 26);refine wpList_store_blk rfl 26 _ _ rfl (K1.out.ext hx1) rfl (cs:=zero3) rfl agg_Flat rfl rfl rfl ?_;intro w9 hb9 hg9))
  refine post_ret_blk2 rfl rfl rfl hb9.has agg_Flat rfl rfl (.inl ⟨2,by rw [HM.out,if_pos H1.out],by decide,rfl,(HX.out.trans hx1).grown hg9 (by omega)⟩)
 go_upto_region 3 with (first | ((with_reducible show Jl 26);refine Jm 26 (K0.out) agg_Flat rfl ?_) | (go_at_call 39;refine ((HFI _).out (Below.refl _ _)).mono ?_;rintro r w1 ⟨rfl,hx1⟩))
 obtain ⟨p2,h2⟩:∃ p,shapedM d=p:=⟨_,rfl⟩
 rw [h2] at HSH
 have H2:=Jh h2
 clear h2
 cases p2
 ·go_wp2_with (first | ((with_reducible show Jl 26);refine Jm 26 (K0.out.ext hx1) agg_Flat rfl ?_) | (go_at_call 40;refine ((HSH _).out hx1).mono ?_;rintro r w2 ⟨rfl,hx2⟩) | ((with_reducible show Js 26);refine wpList_store_blk rfl 26 _ _ rfl (K1.out.ext (hx1.trans hx2)) rfl (cs:=zero3) rfl agg_Flat rfl rfl rfl ?_;intro w9 hb9 hg9))
  refine post_ret_blk2 rfl rfl rfl hb9.has agg_Flat rfl rfl (.inl ⟨1,by rw [HM.out,if_neg (by rw [H1.out];simp),if_pos H2.out],by decide,rfl,(HX.out.trans (hx1.trans hx2)).grown hg9 (by omega)⟩)
 go_upto_region 5 with (first | ((with_reducible show Jl 26);refine Jm 26 (K0.out.ext hx1) agg_Flat rfl ?_) | (go_at_call 40;refine ((HSH _).out hx1).mono ?_;rintro r w2 ⟨rfl,hx2⟩))
 have hx12:=hx1.trans hx2
 clear hx1 hx2
 obtain ⟨p3,h3⟩:∃ p,(d.signals.any fun s=>!holds s.w s.init)=p:=⟨_,rfl⟩
 rw [h3] at HCF
 have H3:=Jh h3
 clear h3
 have g0:=(K0.out.ext hx12) 0 _ rfl
 cases p3
 rotate_left
 ·go_wp2_with (first | (go_at_call 41;refine ((HCF _).out hx12).mono ?_;rintro r w3 ⟨rfl,hx3⟩) | ((with_reducible show Js 26);refine wpList_store_blk rfl 26 _ _ rfl (K1.out.ext (hx12.trans hx3)) rfl (cs:=zero3) rfl agg_Flat rfl rfl rfl ?_;intro w9 hb9 hg9))
  refine post_ret_blk2 rfl rfl rfl hb9.has agg_Flat rfl rfl (.inl ⟨92,by rw [HM.out,if_neg (by rw [H1.out];simp),if_neg (by rw [H2.out];simp),if_pos H3.out],by decide,rfl,(HX.out.trans (hx12.trans hx3)).grown hg9 (by omega)⟩)
 go_upto_region 7 with (first | (go_at_call 41;refine ((HCF _).out hx12).mono ?_;rintro r w3 ⟨rfl,hx3⟩))
 have hx13:=hx12.trans hx3
 clear hx12 hx3 g0
 have hm:sizeD d=if (szCs (szPs d.signals 0 d.procs).2 d.checks).2≠0 then .error (szCs (szPs d.signals 0 d.procs).2 d.checks).2 else .ok ⟨d.signals,(szPs d.signals 0 d.procs).1,(szCs (szPs d.signals 0 d.procs).2 d.checks).1⟩:=by
  rw [HM.out,if_neg (by rw [H1.out];simp),if_neg (by rw [H2.out];simp),if_neg (by rw [H3.out];simp)]
 have HM2:=Jh hm
 have hok:=stOk_of_shaped d H2.out
 have HOKP:=Jh hok.1
 have HOKC:=Jh hok.2
 clear hm hok HM H1 H2 H3 HFI HSH HCF
 have g0:=(K0.out.ext hx13) 0 _ rfl
 go_upto_region 8 with fail
 have hxs:=ext_alloc w3 (.cells #[.slice xs d.signals.length caps,.int .i64 0] 95)
 have hbs:=Blk.new w3 #[.slice xs d.signals.length caps,.int .i64 0] 95
 have hxw:=hx13.trans hxs
 clear g0
 have g0:=(K0.out.ext hxw) 0 _ rfl
 have hs3:=hx13.size
 have hs4:(w3.alloc (.cells #[.slice xs d.signals.length caps,.int .i64 0] 95)).heap.size=w3.heap.size+1:=by simp
 generalize w3.heap.size=SB at *
 generalize w3.alloc _=w4 at *
 go_upto_region 9 with (first | (go_at_call 44;refine ((HCL _).out hxw).mono ?_;rintro r w5 ⟨acl,capcl,rfl,hx5,hcl⟩) | ((with_reducible show Js 26);refine wpList_store_new rfl 26 _ _ rfl rfl (by first | rfl | simp) rfl agg_Flat (rfl) rfl (by rfl) ?_))
 have HCLO:=Jh hcl
 have hxo:=ext_alloc w5 (.cells [.slice acl d.signals.length capcl,.slice Option.none 0 0,.slice Option.none 0 0].toArray 26)
 have hbo:=Blk.new w5 [.slice acl d.signals.length capcl,.slice Option.none 0 0,.slice Option.none 0 0].toArray 26
 have hxA:=(hxw.trans hx5).trans hxo
 have hbsA:=(hbs.ext hx5).ext hxo
 have hs5:=hx5.size
 have hs6:(w5.alloc (.cells [.slice acl d.signals.length capcl,.slice Option.none 0 0,.slice Option.none 0 0].toArray 26)).heap.size=w5.heap.size+1:=by simp
 have HSC:=Jh (Since.of_ext (N:=w4.heap.size) hxo)
 obtain ⟨OB,hOB⟩:∃ x,w5.heap.size=x:=⟨_,rfl⟩
 rw [hOB] at hbo hs6 hs5
 rw [hOB]
 generalize w5.alloc _=wA at *
 have KA0:=Jh (K0.out.ext hxA)
 have KA1:=Jh (K1.out.ext hxA)
 have KAO:=Jh hbo
 have KAS:=Jh hbsA
 have HXA:=Jh (HX.out.trans hxA)
 have hOB5:=Jh hOB
 clear hbo hbsA hcl hxo hx5 hxs hbs hxw hx13 g0 hxA HCL hOB
 have hNA:wA.heap.size=OB+1:=hs6
 have g1:=KA0.out 1 _ rfl
 go_wp2_with fail
 clear g1
 go_loopw [7,8,10,39] (fun _ _ _ i wr=>∃ (k:Nat) (vv:Value),k<=d.procs.length/\i=.int .i64 k/\RowIs VProc 36 2 (OB+1) vv (szPs d.signals 0 (d.procs.take k)).1 wr
  /\ Blk wr OB #[.slice acl d.signals.length capcl,vv,.slice Option.none 0 0] 26/\Blk wr SB #[.slice xs d.signals.length caps,.int .i64 (szPs d.signals 0 (d.procs.take k)).2] 95
  /\ Fr (fun b=>b=SB\/b=OB\/OB+1<=b) wA wr) (fun _ _ _ i _=>d.procs.length-(intOf i).toNat)
 case atStart=>exact ⟨0,_,Nat.zero_le _,rfl,RowIs.nil,KAO.out,KAS.out,Fr.refl _ _⟩
 case round =>
  obtain ⟨k,vv,hk,rfl,hrow,r0,r1,hF⟩:=hrel
  have HROW:=Jh hrow
  have R0:=Jh r0
  have R1:=Jh r1
  have HFR:=Jh hF
  have hsF:=hF.size
  have HXR:=Jh (hF.ext HXA.out (fun x hx=>by have:=HX.out.size;omega))
  clear hrow r0 r1 hF
  by_cases hlt:k<d.procs.length
  ·obtain ⟨s1,hp1',hp2'⟩:=Procs.get HPR.out hlt
   obtain rfl:=HPA.out (by omega)
   have hmem:d.procs[k]∈d.procs:=List.getElem_mem hlt
   have hat:=szPs_take d.signals 0 d.procs k hlt
   have HOKk:=Jh (HOKP.out _ hmem)
   have HWk:=Jh (HWF.out.procs _ hmem)
   have hnk:sumBy nodesT d.procs[k].l<=1048576:=by
    have h1:=le_sumBy (fun p:Proc=>sumBy nodesT p.l) d.procs _ hmem
    unfold mNodes at hb
    try simp only at h1
    omega
   generalize d.procs[k]=pk at *
   obtain ⟨rk,hrk⟩:∃ x,szPs d.signals 0 (d.procs.take k)=x:=⟨_,rfl⟩
   have hlr:(szPs d.signals 0 (d.procs.take k)).1.length=k:=by rw [szPs_length,List.length_take];omega
   rw [hrk] at HROW R1 hat hlr
   have HAT:=Jh hat
   have HLN:=Jh hlr
   clear hat hlr hrk
   obtain ⟨ax,bx,ox,capx,hsx,hx1,hx2,hx3,hxr⟩:=hp2'.open
   subst hsx
   have hlp:=length_le_sumBy nodesT pk.l (fun x _=>nodesT_pos x)
   have HX3:=Jh hx3
   have HXRR:=Jh hxr
   have HE1:=Jh (hp1'.ext HXR.out)
   clear hp1' hp2' hx3 hxr
   have hxP:=ext_alloc wr (.cells (pk.cells (.slice ax pk.l.length capx)).toArray 36)
   have hbP:=Has.alloc wr (pk.cells (.slice ax pk.l.length capx)) 36
   have hxX:=ext_alloc (wr.alloc (.cells (pk.cells (.slice ax pk.l.length capx)).toArray 36)) (.cells [Value.bool pk.clocked,.slice Option.none 0 0].toArray 36)
   have hbX:=Blk.new (wr.alloc (.cells (pk.cells (.slice ax pk.l.length capx)).toArray 36)) [Value.bool pk.clocked,.slice Option.none 0 0].toArray 36
   rw [World.size_alloc] at hbX
   have hs2:((wr.alloc (.cells (pk.cells (.slice ax pk.l.length capx)).toArray 36)).alloc (.cells [Value.bool pk.clocked,.slice Option.none 0 0].toArray 36)).heap.size=wr.heap.size+1+1:=by simp
   have g0:=hbP 0 _ rfl
   go_upto_region 13 with (first | ((with_reducible show Jl 36);refine Jm 36 (HE1.out) agg_Proc rfl ?_) | ((with_reducible show Js 36);refine wpList_store_new rfl 36 _ _ rfl rfl (by first | rfl | simp) rfl agg_Proc (rfl) rfl (by rfl) ?_))
   have HP2:=Jh (hbP.ext hxX)
   have HXP:=Jh (hxP.trans hxX)
   have HBX:=Jh hbX
   have hPX:wr.heap.size+1<wr.heap.size+1+1:=Nat.lt_succ_self _
   clear g0 hbP hxP hxX hbX
   obtain ⟨wO,rfl⟩:∃ x,x=wr:=⟨_,rfl⟩
   obtain ⟨PB,hPB⟩:∃ x,wO.heap.size=x:=⟨_,rfl⟩
   rw [hPB] at HBX HP2 hs2 hPX hsF ⊢
   have HPB:=Jh hPB
   clear hPB
   generalize (wO.alloc _).alloc _=w2 at *
   obtain ⟨XB,hXB⟩:∃ x,PB+1=x:=⟨_,rfl⟩
   rw [hXB] at HBX hPX ⊢
   obtain ⟨N2,hN2⟩:∃ x,PB+1+1=x:=⟨_,rfl⟩
   rw [hN2] at hs2
   have hXN:XB+1=N2:=by omega
   have hPX1:PB+1=XB:=hXB
   clear hXB hPX hN2
   have g1:=HP2.out 1 _ rfl
   go_wp2_with fail
   clear g1
   go_loopw [10,49] (fun _ i wr=>∃ (j:Nat) (vi:Value),j<=pk.l.length/\i=.int .i64 j/\RowIs VT 39 6 N2 vi (szTL d.signals pk.clocked 0 rk.2 (pk.l.take j)).1 wr/\Blk wr XB #[.bool pk.clocked,vi] 36
    /\ Blk wr SB #[.slice xs d.signals.length caps,.int .i64 (szTL d.signals pk.clocked 0 rk.2 (pk.l.take j)).2] 95/\Fr (fun b=>b=SB\/b=XB\/N2<=b) w2 wr) (fun _ i _=>pk.l.length-(intOf i).toNat)
   case atStart=>exact ⟨0,_,Nat.zero_le _,rfl,RowIs.nil,HBX.out,R1.out.ext HXP.out,Fr.refl _ _⟩
   case round =>
    obtain ⟨j,vi,hj,rfl,hrow,r1',r2',hFI⟩:=hrel
    have HRI:=Jh hrow
    have BXI:=Jh r1'
    have BSI:=Jh r2'
    have HFI2:=Jh hFI
    have hsI:=hFI.size
    clear hrow r1' r2' hFI
    have HXI:=Jh (HFI2.out.ext (HXR.out.trans HXP.out) (fun x hx=>by have:=HX.out.size;omega))
    by_cases hjt:j<pk.l.length
    ·obtain ⟨cs,hf1,hn6,hf2⟩:=VT.get HXRR.out hjt
     obtain rfl:=HX3.out (by omega)
     have hmem:pk.l[j]∈pk.l:=List.getElem_mem hjt
     have hle:=le_sumBy nodesT pk.l _ hmem
     have hat2:=szTL_take d.signals pk.clocked 0 rk.2 pk.l j hjt
     have HF1:=Jh (hf1.ext HXI.out)
     have HOK1:=Jh (HOKk.out _ hmem)
     have HW1:=Jh (HWk.out _ hmem)
     have HVT:=Jh hf2
     generalize pk.l[j]=tk at *
     obtain ⟨q,hq⟩:∃ q,szT d.signals pk.clocked tk 0 (szTL d.signals pk.clocked 0 rk.2 (pk.l.take j)).2=q:=⟨_,rfl⟩
     have hlen2:(szTL d.signals pk.clocked 0 rk.2 (pk.l.take j)).1.length=j:=by rw [szTL_length,List.length_take];omega
     have hcall:=fun W (hx:Ext w W) (hb:Blk W SB #[.slice xs d.signals.length caps,.int .i64 (szTL d.signals pk.clocked 0 rk.2 (pk.l.take j)).2] 95)=>statement_calls d.signals tk pk.clocked 0 SB _ _ cs W w hb hx (by have:=HX.out.size;omega) HS.out HVT.out HW1.out HOK1.out (by omega)
     rw [hq] at hat2 hcall
     have HCA:=Jh hcall
     obtain ⟨rj,hrj⟩:∃ x,(szTL d.signals pk.clocked 0 rk.2 (pk.l.take j)).1=x:=⟨_,rfl⟩
     rw [hrj] at HRI hat2 hlen2
     have HAT2:=Jh hat2
     have HLN2:=Jh hlen2
     clear hat2 hlen2 hrj hq hcall hf1 hf2
     have HXT:=ext_alloc wr (.cells cs.toArray 39)
     have HBT:=Has.alloc wr cs 39
     have hzb:(wr.alloc (.cells cs.toArray 39)).heap.size=wr.heap.size+1:=by simp
     go_upto_region 16 with (first | ((with_reducible show Jl 39);refine Jm 39 (HF1.out) agg_T hn6 ?_) | ((with_reducible show Js 39);refine wpList_store_new rfl 39 _ _ rfl rfl (by first | rfl | simp) rfl agg_T (hn6) rfl (HVT.out.one) ?_))
     have HBP:=(HFI2.out.has HP2.out (by omega)).ext HXT
     have HXT:=Jh HXT
     generalize wr.alloc (.cells cs.toArray 39)=wb at *
     have HCALL:=Jh (HCA.out wb.drew (HXI.out.trans HXT.out).drew (BSI.out.ext HXT.out).drew)
     simp only [Act.put]
     refine wp_region_held_drew (S:=fun W=>Has W wr.heap.size 0 cs/\Has W PB 0 (pk.cells (.slice (some ⟨bx,ox,Option.none⟩) pk.l.length capx))) (by kernel_rfl) ⟨HBT.drew,HBP.drew⟩ (fun hH=>?_)
     clear HBT HBP
     (refine Jt 0 (_) rfl (yif_load1 rfl fun _ _=>rfl) hH ?_;try simp only [J])
     (refine Jt 2 (_) rfl (yif_load1 rfl fun _ _=>rfl) hH ?_;try simp only [J])
     (refine Jt 3 (.agg cs.toArray) rfl (yif_load rfl 39 _ rfl rfl (fun _ h=>h.1) agg_T hn6) hH ?_;try simp only [J])
     (refine Jt 4 (_) rfl (yif_load1 rfl fun _ _=>rfl) hH ?_;try simp only [J])
     (refine Jt 5 (.bool pk.clocked) rfl (yif_load1 rfl (by intro W hW;have hw:=hW.2 0 _ rfl;clear hW;go_simp)) hH ?_;try simp only [J])
     refine wpAnyH_ready (rs:=[1,6]) (by kernel_rfl) (by simp) ?_
     refine AllReadyH.cons rfl (fun K hK=>?_) (AllReadyH.cons rfl (fun K hK=>?_) AllReadyH.nil)
     ·have x1:(wb.drew).cell? ⟨XB,1,Option.none⟩=some vi:=by rw [show (wb.drew).cell? ⟨XB,1,Option.none⟩=_ from ((BXI.out.ext HXT.out).drew).cell 1];rfl
      go_simp
      refine hK.out _ _ ⟨hH.1,hH.2⟩ (fun hH=>?_)
      clear hK K
      try simp only [J]
      clear x1
      refine Jr 6 rfl fun K hK=>?_
      go_simp
      refine HCALL.out.mono ?_
      rintro r w6 ⟨cs6,rfl,hb6,hg6,hfv6⟩
      have HFV6:=Jh hfv6
      have hs6:=hg6.size
      simp only [World.heap_drew] at hs6
      have hx6:=ext_alloc w6 (.cells cs6.toArray 39)
      have hz6:(w6.alloc (.cells cs6.toArray 39)).heap.size=w6.heap.size+1:=by simp
      clear hfv6
      refine hK.out _ _ ⟨hH.1.grown hg6 (by omega),hH.2.grown hg6 (by omega)⟩ (fun hH=>?_)
      clear hK K
      try simp only [J]
      refine Jr 7 rfl fun K hK=>?_
      refine step_bs1 rfl _ _ rfl appT rfl (cs:=cs6) rfl HFV6.out.len (by decide) ?_
      refine hK.out _ _ ⟨hH.1.ext hx6,hH.2.ext hx6⟩ (fun hH=>?_)
      clear hK K
      try simp only [J]
      refine Jr 8 rfl fun K hK=>?_
      have hc6:=Has.alloc w6 cs6 39
      refine step_app1 (V:=VT) rfl _ _ _ rfl appT rfl ((((HRI.out.since (Since.of_ext HXT.out)).since (Since.of_ext (Below.drew (Below.refl _ _)))).since (Since.of_grown hg6 (by omega))).since (Since.of_ext hx6)) rfl HFV6.out.len hc6 HFV6.out.one ((HFV6.out.ext hx6).st (N:=N2) (by have hzd:wb.drew.heap.size=wb.heap.size:=rfl;omega) (fun k hk=>by have:=(HRI.out.lt k hk).2;have hzd:wb.drew.heap.size=wb.heap.size:=rfl;omega)) (by rw [HLN2.out];omega) (by omega) ?_
      rw [HLN2.out]
      intro g7 cap7 w7 hrow7 hg7
      have HROW7:=Jh hrow7
      have hRI:∀ j,vi.ownBlock=some j->N2<=j/\j<wr.heap.size:=fun j hj=>HRI.out.lt j hj
      have hs7:=hg7.size
      have HRIX:=Jh hRI
      have hX7:Blk w7 XB #[.bool pk.clocked,vi] 36:=((((BXI.out.ext HXT.out).drew.grown hg6 (by omega)).ext hx6).grownO hg7 (fun j hj=>by have:=HRIX.out j hj;omega))
      have hS7:Blk w7 SB #[.slice xs d.signals.length caps,.int .i64 q.2] 95:=(hb6.ext hx6).grownO hg7 (fun j hj=>by have:=HRIX.out j hj;omega)
      have hF7:Fr (fun b=>b=SB\/b=XB\/N2<=b) w2 w7:=((((HFI2.out.trans (Fr.of_ext HXT.out)).drew.trans (Fr.of_gb hg6 (fun k hk=>by cases hk;exact .inl rfl))).trans (Fr.of_ext hx6)).trans (Fr.of_gb hg7 (fun k hk=>.inr (.inr (HRIX.out k hk).1))))
      clear hRI
      refine hK.out _ _ ⟨hH.1.grownR hg7 (by intro e;have:=HRIX.out _ e;omega),hH.2.grownR hg7 (by intro e;have:=HRIX.out _ e;omega)⟩ (fun hH=>?_)
      clear hK K
      try simp only [J]
      (refine Jt 9 (_) rfl (yif_load1 rfl fun _ _=>rfl) hH ?_;try simp only [J])
      refine Jr 10 rfl fun K hK=>?_
      have x1:=hX7.cell 1
      have y1:=hX7.frozen 1
      simp only [List.getElem?_toArray,List.getElem?_cons_zero,List.getElem?_cons_succ] at x1
      go_simp
      have hg8:=gb_set w7 XB 1 (.slice (some ⟨g7,0,Option.none⟩) (j+1) cap7)
      have hX8:=hX7.set 1 (.slice (some ⟨g7,0,Option.none⟩) (j+1) cap7)
      refine hK.out _ _ ⟨hH.1.grown hg8 (by omega),hH.2.grown hg8 (by omega)⟩ (fun hH=>?_)
      clear hK K
      try simp only [J]
      refine Jz ?_
      clear x1 y1
      go_wp2_with fail
      go_roundw
      case rel=>exact ⟨j+1,_,by omega,by go_num,by rw [HAT2.out];exact HROW7.out.since (Since.of_grown hg8 (by omega)),hX8,by rw [HAT2.out];exact hS7.grown hg8 (by omega),hF7.trans (Fr.of_gb hg8 (fun k hk=>by cases hk;exact .inr (.inl rfl)))⟩
      case measure=>simp [intOf];omega
     ·go_simp
      refine HCALL.out.mono ?_
      rintro r w6 ⟨cs6,rfl,hb6,hg6,hfv6⟩
      have HFV6:=Jh hfv6
      have hs6:=hg6.size
      simp only [World.heap_drew] at hs6
      have hx6:=ext_alloc w6 (.cells cs6.toArray 39)
      have hz6:(w6.alloc (.cells cs6.toArray 39)).heap.size=w6.heap.size+1:=by simp
      clear hfv6
      refine hK.out _ _ ⟨hH.1.grown hg6 (by omega),hH.2.grown hg6 (by omega)⟩ (fun hH=>?_)
      clear hK K
      try simp only [J]
      refine wpAnyH_ready (rs:=[1,7]) (by kernel_rfl) (by simp) ?_
      refine AllReadyH.cons rfl (fun K hK=>?_) (AllReadyH.cons rfl (fun K hK=>?_) AllReadyH.nil)
      ·have x1:(w6).cell? ⟨XB,1,Option.none⟩=some vi:=by rw [show (w6).cell? ⟨XB,1,Option.none⟩=_ from (((BXI.out.ext HXT.out).drew.grown hg6 (by omega))).cell 1];rfl
       go_simp
       refine hK.out _ _ ⟨hH.1,hH.2⟩ (fun hH=>?_)
       clear hK K
       try simp only [J]
       clear x1
       refine Jr 7 rfl fun K hK=>?_
       refine step_bs1 rfl _ _ rfl appT rfl (cs:=cs6) rfl HFV6.out.len (by decide) ?_
       refine hK.out _ _ ⟨hH.1.ext hx6,hH.2.ext hx6⟩ (fun hH=>?_)
       clear hK K
       try simp only [J]
       refine Jr 8 rfl fun K hK=>?_
       have hc6:=Has.alloc w6 cs6 39
       refine step_app1 (V:=VT) rfl _ _ _ rfl appT rfl ((((HRI.out.since (Since.of_ext HXT.out)).since (Since.of_ext (Below.drew (Below.refl _ _)))).since (Since.of_grown hg6 (by omega))).since (Since.of_ext hx6)) rfl HFV6.out.len hc6 HFV6.out.one ((HFV6.out.ext hx6).st (N:=N2) (by have hzd:wb.drew.heap.size=wb.heap.size:=rfl;omega) (fun k hk=>by have:=(HRI.out.lt k hk).2;have hzd:wb.drew.heap.size=wb.heap.size:=rfl;omega)) (by rw [HLN2.out];omega) (by omega) ?_
       rw [HLN2.out]
       intro g7 cap7 w7 hrow7 hg7
       have HROW7:=Jh hrow7
       have hRI:∀ j,vi.ownBlock=some j->N2<=j/\j<wr.heap.size:=fun j hj=>HRI.out.lt j hj
       have hs7:=hg7.size
       have HRIX:=Jh hRI
       have hX7:Blk w7 XB #[.bool pk.clocked,vi] 36:=((((BXI.out.ext HXT.out).drew.grown hg6 (by omega)).ext hx6).grownO hg7 (fun j hj=>by have:=HRIX.out j hj;omega))
       have hS7:Blk w7 SB #[.slice xs d.signals.length caps,.int .i64 q.2] 95:=(hb6.ext hx6).grownO hg7 (fun j hj=>by have:=HRIX.out j hj;omega)
       have hF7:Fr (fun b=>b=SB\/b=XB\/N2<=b) w2 w7:=((((HFI2.out.trans (Fr.of_ext HXT.out)).drew.trans (Fr.of_gb hg6 (fun k hk=>by cases hk;exact .inl rfl))).trans (Fr.of_ext hx6)).trans (Fr.of_gb hg7 (fun k hk=>.inr (.inr (HRIX.out k hk).1))))
       clear hRI
       refine hK.out _ _ ⟨hH.1.grownR hg7 (by intro e;have:=HRIX.out _ e;omega),hH.2.grownR hg7 (by intro e;have:=HRIX.out _ e;omega)⟩ (fun hH=>?_)
       clear hK K
       try simp only [J]
       (refine Jt 9 (_) rfl (yif_load1 rfl fun _ _=>rfl) hH ?_;try simp only [J])
       refine Jr 10 rfl fun K hK=>?_
       have x1:=hX7.cell 1
       have y1:=hX7.frozen 1
       simp only [List.getElem?_toArray,List.getElem?_cons_zero,List.getElem?_cons_succ] at x1
       go_simp
       have hg8:=gb_set w7 XB 1 (.slice (some ⟨g7,0,Option.none⟩) (j+1) cap7)
       have hX8:=hX7.set 1 (.slice (some ⟨g7,0,Option.none⟩) (j+1) cap7)
       refine hK.out _ _ ⟨hH.1.grown hg8 (by omega),hH.2.grown hg8 (by omega)⟩ (fun hH=>?_)
       clear hK K
       try simp only [J]
       refine Jz ?_
       clear x1 y1
       go_wp2_with fail
       go_roundw
       case rel=>exact ⟨j+1,_,by omega,by go_num,by rw [HAT2.out];exact HROW7.out.since (Since.of_grown hg8 (by omega)),hX8,by rw [HAT2.out];exact hS7.grown hg8 (by omega),hF7.trans (Fr.of_gb hg8 (fun k hk=>by cases hk;exact .inr (.inl rfl)))⟩
       case measure=>simp [intOf];omega
      ·refine step_bs1 rfl _ _ rfl appT rfl (cs:=cs6) rfl HFV6.out.len (by decide) ?_
       refine hK.out _ _ ⟨hH.1.ext hx6,hH.2.ext hx6⟩ (fun hH=>?_)
       clear hK K
       try simp only [J]
       refine Jr 1 rfl fun K hK=>?_
       have x1:(w6.alloc (.cells cs6.toArray 39)).cell? ⟨XB,1,Option.none⟩=some vi:=by rw [show (w6.alloc (.cells cs6.toArray 39)).cell? ⟨XB,1,Option.none⟩=_ from ((((BXI.out.ext HXT.out).drew.grown hg6 (by omega)).ext hx6)).cell 1];rfl
       go_simp
       refine hK.out _ _ ⟨hH.1,hH.2⟩ (fun hH=>?_)
       clear hK K
       try simp only [J]
       clear x1
       refine Jr 8 rfl fun K hK=>?_
       have hc6:=Has.alloc w6 cs6 39
       refine step_app1 (V:=VT) rfl _ _ _ rfl appT rfl ((((HRI.out.since (Since.of_ext HXT.out)).since (Since.of_ext (Below.drew (Below.refl _ _)))).since (Since.of_grown hg6 (by omega))).since (Since.of_ext hx6)) rfl HFV6.out.len hc6 HFV6.out.one ((HFV6.out.ext hx6).st (N:=N2) (by have hzd:wb.drew.heap.size=wb.heap.size:=rfl;omega) (fun k hk=>by have:=(HRI.out.lt k hk).2;have hzd:wb.drew.heap.size=wb.heap.size:=rfl;omega)) (by rw [HLN2.out];omega) (by omega) ?_
       rw [HLN2.out]
       intro g7 cap7 w7 hrow7 hg7
       have HROW7:=Jh hrow7
       have hRI:∀ j,vi.ownBlock=some j->N2<=j/\j<wr.heap.size:=fun j hj=>HRI.out.lt j hj
       have hs7:=hg7.size
       have HRIX:=Jh hRI
       have hX7:Blk w7 XB #[.bool pk.clocked,vi] 36:=((((BXI.out.ext HXT.out).drew.grown hg6 (by omega)).ext hx6).grownO hg7 (fun j hj=>by have:=HRIX.out j hj;omega))
       have hS7:Blk w7 SB #[.slice xs d.signals.length caps,.int .i64 q.2] 95:=(hb6.ext hx6).grownO hg7 (fun j hj=>by have:=HRIX.out j hj;omega)
       have hF7:Fr (fun b=>b=SB\/b=XB\/N2<=b) w2 w7:=((((HFI2.out.trans (Fr.of_ext HXT.out)).drew.trans (Fr.of_gb hg6 (fun k hk=>by cases hk;exact .inl rfl))).trans (Fr.of_ext hx6)).trans (Fr.of_gb hg7 (fun k hk=>.inr (.inr (HRIX.out k hk).1))))
       clear hRI
       refine hK.out _ _ ⟨hH.1.grownR hg7 (by intro e;have:=HRIX.out _ e;omega),hH.2.grownR hg7 (by intro e;have:=HRIX.out _ e;omega)⟩ (fun hH=>?_)
       clear hK K
       try simp only [J]
       (refine Jt 9 (_) rfl (yif_load1 rfl fun _ _=>rfl) hH ?_;try simp only [J])
       refine Jr 10 rfl fun K hK=>?_
       have x1:=hX7.cell 1
       have y1:=hX7.frozen 1
       simp only [List.getElem?_toArray,List.getElem?_cons_zero,List.getElem?_cons_succ] at x1
       go_simp
       have hg8:=gb_set w7 XB 1 (.slice (some ⟨g7,0,Option.none⟩) (j+1) cap7)
       have hX8:=hX7.set 1 (.slice (some ⟨g7,0,Option.none⟩) (j+1) cap7)
       refine hK.out _ _ ⟨hH.1.grown hg8 (by omega),hH.2.grown hg8 (by omega)⟩ (fun hH=>?_)
       clear hK K
       try simp only [J]
       refine Jz ?_
       clear x1 y1
       go_wp2_with fail
       go_roundw
       case rel=>exact ⟨j+1,_,by omega,by go_num,by rw [HAT2.out];exact HROW7.out.since (Since.of_grown hg8 (by omega)),hX8,by rw [HAT2.out];exact hS7.grown hg8 (by omega),hF7.trans (Fr.of_gb hg8 (fun k hk=>by cases hk;exact .inr (.inl rfl)))⟩
       case measure=>simp [intOf];omega
    ·obtain rfl:j=pk.l.length:=by omega
     have hrow:=HRI.out
     have rb:=BSI.out
     rw [List.take_length] at hrow rb
     obtain ⟨rq,hrq⟩:∃ x,szTL d.signals pk.clocked 0 rk.2 pk.l=x:=⟨_,rfl⟩
     rw [hrq] at hrow rb HAT
     have HRQ:=Jh hrow
     have RBQ:=Jh rb
     clear hrow rb hrq HRI BSI
     have hXh:Has wr XB 0 [.bool pk.clocked,vi]:=(show Blk wr XB [.bool pk.clocked,vi].toArray 36 from BXI.out).has
     have hO:Blk wr OB #[.slice acl d.signals.length capcl,vv,.slice Option.none 0 0] 26:=HFI2.out.blk (R0.out.ext HXP.out) (by omega)
     have hsw2:=HXP.out.size
     have hpb:=HPB.out
     have hSiO:Since (OB+1) wO wr:=⟨Nat.le_trans hsw2 hsI,fun b h1 h2=>(HFI2.out.block b (by omega) (by omega)).trans (HXP.out.block b h2)⟩
     have hx4:=ext_alloc wr (.cells [Value.bool pk.clocked,vi].toArray 36)
     have hz4:(wr.alloc (.cells [Value.bool pk.clocked,vi].toArray 36)).heap.size=wr.heap.size+1:=by simp
     have HROW4:=Jh ((HROW.out.since hSiO).since (Since.of_ext hx4))
     have hfv:FV VProc N2 wr [.bool pk.clocked,vi] ⟨pk.clocked,rq.1⟩:=fun W hW=>⟨vi,rfl,HRQ.out.sl (V:=VT) (At:=TAt) (fun _ _ _ _ _ h hv=>VT.at h hv) hW⟩
     have HST:=Jh ((hfv.ext hx4).st (N:=OB+1) (R:=vv.ownBlock) (by omega) (fun k hk=>by have:=(HROW.out.lt k hk).2;omega))
     have HONE:=Jh (show [Value.bool pk.clocked,vi].all (·.oneCell')=true by simp [HRQ.out.one,one_bool])
     have HVB:=Jh (show ∀ j,vv.ownBlock=some j->OB+1<=j from fun j hj=>(HROW.out.lt j hj).1)
     have HO:=Jh hO
     have z0:wr.cell? ⟨OB,1,Option.none⟩=some vv:=by rw [hO.cell];rfl
     have hcc:=Jh (Has.alloc wr [Value.bool pk.clocked,vi] 36)
     have HX4:=Jh hx4
     clear hO hfv hpb hsw2 hx4
     go_wp2_with (first | ((with_reducible show Jl 36);refine Jm 36 (hXh) agg_Proc rfl ?_) | ((with_reducible show Jw (Op.buildSlice _ _ _));refine wpList_bs1 rfl _ _ rfl appProc rfl (cs:=[Value.bool pk.clocked,vi]) rfl rfl (by decide) ?_) | ((with_reducible show Jw (Op.call { callee:=.builtin .append,args:=_,argTypes:=_ }));refine Hid.out ?_))
     refine Jh ?_
     refine wpList_app1 (V:=VProc) rfl _ _ _ rfl appProc rfl HROW4.out rfl rfl hcc.out HONE.out HST.out (by rw [HLN.out];omega) (by omega) ?_
     rw [HLN.out]
     intro g4 cap4 w4 hrow4 hg4
     clear z0
     have hO4:=(HO.out.ext HX4.out).grownO hg4 (fun j hj=>by have:=HVB.out j hj;omega)
     have z1:w4.cell? ⟨OB,1,Option.none⟩=some vv:=by (rw [hO4.cell];rfl)
     have z2:=hO4.frozen 1
     go_wp2_with fail
     have hg5:=gb_set w4 OB 1 (.slice (some ⟨g4,0,Option.none⟩) (k+1) cap4)
     go_roundw
     case rel =>
      refine ⟨k+1,_,by omega,by go_num,by rw [HAT.out];exact hrow4.since (Since.of_grown hg5 (by omega)),hO4.set 1 _,?_,?_⟩
      ·rw [HAT.out];exact (((RBQ.out.ext HX4.out).grownO hg4 (fun j hj=>by have:=HVB.out j hj;omega)).grown hg5 (by omega))
      ·exact ((((HFR.out.trans (Fr.of_ext HXP.out)).trans (HFI2.out.mono (fun b hb=>by omega))).trans (Fr.of_ext HX4.out)).trans (Fr.of_gb hg4 (fun j hj=>.inr (.inr (HVB.out j hj))))).trans (Fr.of_gb hg5 (fun k hk=>by cases hk;exact .inr (.inl rfl)))
     case measure=>simp [intOf];omega
  ·obtain rfl:k=d.procs.length:=by omega
   have hrow:=HROW.out
   have r1:=R1.out
   rw [List.take_length] at hrow r1
   obtain ⟨rp,hrp⟩:∃ x,szPs d.signals 0 d.procs=x:=⟨_,rfl⟩
   have hm:=HM2.out
   rw [hrp] at hrow r1 hm
   have HROWP:=Jh hrow
   have RSB:=Jh r1
   have HM3:=Jh hm
   clear hrow r1 hm hrp HROW R1 HM2
   have kd:Has wr w.heap.size 0 _:=HFR.out.has KA0.out (by omega)
   have g2:=kd 2 _ rfl
   clear kd
   go_wp2_with fail
   clear g2
   obtain ⟨wC,rfl⟩:∃ x,x=wr:=⟨_,rfl⟩
   go_loopw [12,74] (fun _ i wr=>∃ (k:Nat) (v3:Value),k<=d.checks.length/\i=.int .i64 k/\RowIs VCheck 99 9 wC.heap.size v3 (szCs rp.2 (d.checks.take k)).1 wr/\Blk wr OB #[.slice acl d.signals.length capcl,vv,v3] 26
    /\ Blk wr SB #[.slice xs d.signals.length caps,.int .i64 (szCs rp.2 (d.checks.take k)).2] 95/\Fr (fun b=>b=SB\/b=OB\/wC.heap.size<=b) wC wr) (fun _ i _=>d.checks.length-(intOf i).toNat)
   case atStart=>exact ⟨0,_,Nat.zero_le _,rfl,RowIs.nil,R0.out,RSB.out,Fr.refl _ _⟩
   case round =>
    obtain ⟨k,v3,hk,rfl,hrow,r0',r1',hFI⟩:=hrel
    have HRI:=Jh hrow
    have BOI:=Jh r0'
    have BSI:=Jh r1'
    have HFI2:=Jh hFI
    have hsI:=hFI.size
    have HXI:=Jh (hFI.ext HXR.out (fun x hx=>by have:=HX.out.size;omega))
    clear hrow r0' r1' hFI
    by_cases hlt:k<d.checks.length
    ·obtain ⟨s1,hf1,hf2⟩:=Chks.get HQR.out hlt
     obtain rfl:=HQA.out (by omega)
     have hmem:d.checks[k]∈d.checks:=List.getElem_mem hlt
     have hle:=le_sumBy (fun c:Chk=>nodes c.e) d.checks _ hmem
     have hnk:nodes d.checks[k].e<=1048576:=by
      unfold mNodes at hb
      try simp only at hle
      omega
     have hat2:=szCs_take rp.2 d.checks k hlt
     have HF1:=Jh (hf1.ext HXI.out)
     have HOK1:=Jh (HOKC.out _ hmem)
     have HW1:=Jh (HWF.out.checks _ hmem)
     have HES:=Jh hf2
     have HON:=Jh hf2.one
     clear hle
     generalize d.checks[k]=ck at *
     obtain ⟨q,hq⟩:∃ q,szE (szCs rp.2 (d.checks.take k)).2 ck.e (-1)=q:=⟨_,rfl⟩
     have hlen2:(szCs rp.2 (d.checks.take k)).1.length=k:=by rw [szCs_length,List.length_take];omega
     have hcall:=fun W (hx:Ext w W) (hb:Blk W SB #[.slice xs d.signals.length caps,.int .i64 (szCs rp.2 (d.checks.take k)).2] 95)=>expr_calls ck.e (-1) SB _ _ (ck.e.cells s1) W hb ⟨s1,rfl,HES.out.ext hx⟩ HW1.out HOK1.out hnk
     rw [hq] at hat2 hcall
     have HCA:=Jh hcall
     obtain ⟨rj,hrj⟩:∃ x,(szCs rp.2 (d.checks.take k)).1=x:=⟨_,rfl⟩
     rw [hrj] at HRI hat2 hlen2
     have HAT2:=Jh hat2
     have HLN2:=Jh hlen2
     clear hat2 hlen2 hrj hq hcall hf1 hf2
     have HXT:=ext_alloc wr (.cells (ck.cells s1).toArray 99)
     have HBT:=Has.alloc wr (ck.cells s1) 99
     have hzb:(wr.alloc (.cells (ck.cells s1).toArray 99)).heap.size=wr.heap.size+1:=by simp
     go_upto_region 23 with (first | ((with_reducible show Jl 99);refine Jm 99 (HF1.out) agg_Check rfl ?_) | ((with_reducible show Js 99);refine wpList_store_new rfl 99 _ _ rfl rfl (by first | rfl | simp) rfl agg_Check (rfl) rfl (by simp [HON.out,one_int,one_string]) ?_))
     have HXT:=Jh HXT
     generalize wr.alloc (.cells (ck.cells s1).toArray 99)=wb at *
     have HCALL:=Jh (HCA.out wb.drew (HXI.out.trans HXT.out).drew (BSI.out.ext HXT.out).drew)
     simp only [Act.put]
     refine wp_region_held_drew (S:=fun W=>Has W wr.heap.size 0 (ck.cells s1)) (by kernel_rfl) HBT.drew (fun hH=>?_)
     clear HBT
     (refine Jt 0 (_) rfl (yif_load1 rfl fun _ _=>rfl) hH ?_;try simp only [J])
     (refine Jt 2 (_) rfl (yif_load1 rfl fun _ _=>rfl) hH ?_;try simp only [J])
     (refine Jt 3 (.string ck.name) rfl (yif_load1 rfl (by intro W hW;have hw:=hW 0 _ rfl;clear hW;go_simp)) hH ?_;try simp only [J])
     (refine Jt 4 (_) rfl (yif_load1 rfl fun _ _=>rfl) hH ?_;try simp only [J])
     (refine Jt 5 (_) rfl (yif_load1 rfl fun _ _=>rfl) hH ?_;try simp only [J])
     (refine Jt 6 (.agg (ck.e.cells s1).toArray) rfl (yif_load rfl 31 _ rfl rfl (fun _ h=>h.tail) agg_E rfl) hH ?_;try simp only [J])
     refine wpAnyH_ready (rs:=[1,7]) (by kernel_rfl) (by simp) ?_
     refine AllReadyH.cons rfl (fun K hK=>?_) (AllReadyH.cons rfl (fun K hK=>?_) AllReadyH.nil)
     ·have x1:(wb.drew).cell? ⟨OB,2,Option.none⟩=some v3:=by rw [show (wb.drew).cell? ⟨OB,2,Option.none⟩=_ from ((BOI.out.ext HXT.out).drew).cell 2];rfl
      go_simp
      refine hK.out _ _ hH (fun hH=>?_)
      clear hK K
      try simp only [J]
      clear x1
      refine Jr 7 rfl fun K hK=>?_
      go_simp
      refine HCALL.out.mono ?_
      rintro r w6 ⟨cs6,rfl,hb6,hg6,hfv6⟩
      obtain ⟨s6,rfl,hs6e⟩:=hfv6.here
      have HS6:=Jh hs6e.one
      have HFV6:=Jh (show FV VCheck wb.drew.heap.size w6 (Chk.cells ⟨ck.name,q.1⟩ s6) ⟨ck.name,q.1⟩ from fun W hW=>by
       obtain ⟨s,hs,h⟩:=hfv6 W hW
       have:s6=s:=by simpa [E.cells] using hs
       exact ⟨s6,rfl,by rw [this];exact h⟩)
      have hs6:=hg6.size
      simp only [World.heap_drew] at hs6
      have hx6:=ext_alloc w6 (.cells (Chk.cells ⟨ck.name,q.1⟩ s6).toArray 99)
      have hz6:(w6.alloc (.cells (Chk.cells ⟨ck.name,q.1⟩ s6).toArray 99)).heap.size=w6.heap.size+1:=by simp
      clear hfv6 hs6e
      refine hK.out _ _ (hH.grown hg6 (by omega)) (fun hH=>?_)
      clear hK K
      try simp only [J]
      (refine Jt 8 (.agg (Chk.cells ⟨ck.name,q.1⟩ s6).toArray) rfl (yif_load1 rfl (by intro W hW;clear hW;go_simp)) hH ?_;try simp only [J])
      refine Jr 9 rfl fun K hK=>?_
      refine step_bs1 rfl _ _ rfl appCheck rfl (cs:=Chk.cells ⟨ck.name,q.1⟩ s6) rfl rfl (by decide) ?_
      refine hK.out _ _ (hH.ext hx6) (fun hH=>?_)
      clear hK K
      try simp only [J]
      refine Jr 10 rfl fun K hK=>?_
      have hc6:=Has.alloc w6 (Chk.cells ⟨ck.name,q.1⟩ s6) 99
      refine step_app1 (V:=VCheck) rfl _ _ _ rfl appCheck rfl ((((HRI.out.since (Since.of_ext HXT.out)).since (Since.of_ext (Below.drew (Below.refl _ _)))).since (Since.of_grown hg6 (by omega))).since (Since.of_ext hx6)) rfl rfl hc6 (by simp [HS6.out,one_int,one_string]) ((HFV6.out.ext hx6).st (N:=wC.heap.size) (by have hzd:wb.drew.heap.size=wb.heap.size:=rfl;omega) (fun k hk=>by have:=(HRI.out.lt k hk).2;have hzd:wb.drew.heap.size=wb.heap.size:=rfl;omega)) (by rw [HLN2.out];omega) (by omega) ?_
      rw [HLN2.out]
      intro g7 cap7 w7 hrow7 hg7
      have HROW7:=Jh hrow7
      have hs7:=hg7.size
      have HRIX:=Jh (show ∀ j,v3.ownBlock=some j->wC.heap.size<=j/\j<wr.heap.size from fun j hj=>HRI.out.lt j hj)
      have hX7:Blk w7 OB #[.slice acl d.signals.length capcl,vv,v3] 26:=((((BOI.out.ext HXT.out).drew.grown hg6 (by omega)).ext hx6).grownO hg7 (fun j hj=>by have:=HRIX.out j hj;omega))
      have hS7:Blk w7 SB #[.slice xs d.signals.length caps,.int .i64 q.2] 95:=(hb6.ext hx6).grownO hg7 (fun j hj=>by have:=HRIX.out j hj;omega)
      have hF7:Fr (fun b=>b=SB\/b=OB\/wC.heap.size<=b) wC w7:=((((HFI2.out.trans (Fr.of_ext HXT.out)).drew.trans (Fr.of_gb hg6 (fun k hk=>by cases hk;exact .inl rfl))).trans (Fr.of_ext hx6)).trans (Fr.of_gb hg7 (fun k hk=>.inr (.inr (HRIX.out k hk).1))))
      refine hK.out _ _ (hH.grownR hg7 (by intro e;have:=HRIX.out _ e;omega)) (fun hH=>?_)
      clear hK K
      try simp only [J]
      (refine Jt 11 (_) rfl (yif_load1 rfl fun _ _=>rfl) hH ?_;try simp only [J])
      refine Jr 12 rfl fun K hK=>?_
      have x1:w7.cell? ⟨OB,2,Option.none⟩=some v3:=by rw [hX7.cell];rfl
      have y1:=hX7.frozen 2
      go_simp
      have hg8:=gb_set w7 OB 2 (.slice (some ⟨g7,0,Option.none⟩) (k+1) cap7)
      have hX8:=hX7.set 2 (.slice (some ⟨g7,0,Option.none⟩) (k+1) cap7)
      refine hK.out _ _ (hH.grown hg8 (by omega)) (fun hH=>?_)
      clear hK K
      try simp only [J]
      refine Jz ?_
      clear x1 y1
      go_wp2_with fail
      go_roundw
      case rel=>exact ⟨k+1,_,by omega,by go_num,by rw [HAT2.out];exact HROW7.out.since (Since.of_grown hg8 (by omega)),hX8,by rw [HAT2.out];exact hS7.grown hg8 (by omega),hF7.trans (Fr.of_gb hg8 (fun k hk=>by cases hk;exact .inr (.inl rfl)))⟩
      case measure=>simp [intOf];omega
     ·go_simp
      refine HCALL.out.mono ?_
      rintro r w6 ⟨cs6,rfl,hb6,hg6,hfv6⟩
      obtain ⟨s6,rfl,hs6e⟩:=hfv6.here
      have HS6:=Jh hs6e.one
      have HFV6:=Jh (show FV VCheck wb.drew.heap.size w6 (Chk.cells ⟨ck.name,q.1⟩ s6) ⟨ck.name,q.1⟩ from fun W hW=>by
       obtain ⟨s,hs,h⟩:=hfv6 W hW
       have:s6=s:=by simpa [E.cells] using hs
       exact ⟨s6,rfl,by rw [this];exact h⟩)
      have hs6:=hg6.size
      simp only [World.heap_drew] at hs6
      have hx6:=ext_alloc w6 (.cells (Chk.cells ⟨ck.name,q.1⟩ s6).toArray 99)
      have hz6:(w6.alloc (.cells (Chk.cells ⟨ck.name,q.1⟩ s6).toArray 99)).heap.size=w6.heap.size+1:=by simp
      clear hfv6 hs6e
      refine hK.out _ _ (hH.grown hg6 (by omega)) (fun hH=>?_)
      clear hK K
      try simp only [J]
      (refine Jt 8 (.agg (Chk.cells ⟨ck.name,q.1⟩ s6).toArray) rfl (yif_load1 rfl (by intro W hW;clear hW;go_simp)) hH ?_;try simp only [J])
      refine wpAnyH_ready (rs:=[1,9]) (by kernel_rfl) (by simp) ?_
      refine AllReadyH.cons rfl (fun K hK=>?_) (AllReadyH.cons rfl (fun K hK=>?_) AllReadyH.nil)
      ·have x1:(w6).cell? ⟨OB,2,Option.none⟩=some v3:=by rw [show (w6).cell? ⟨OB,2,Option.none⟩=_ from (((BOI.out.ext HXT.out).drew.grown hg6 (by omega))).cell 2];rfl
       go_simp
       refine hK.out _ _ hH (fun hH=>?_)
       clear hK K
       try simp only [J]
       clear x1
       refine Jr 9 rfl fun K hK=>?_
       refine step_bs1 rfl _ _ rfl appCheck rfl (cs:=Chk.cells ⟨ck.name,q.1⟩ s6) rfl rfl (by decide) ?_
       refine hK.out _ _ (hH.ext hx6) (fun hH=>?_)
       clear hK K
       try simp only [J]
       refine Jr 10 rfl fun K hK=>?_
       have hc6:=Has.alloc w6 (Chk.cells ⟨ck.name,q.1⟩ s6) 99
       refine step_app1 (V:=VCheck) rfl _ _ _ rfl appCheck rfl ((((HRI.out.since (Since.of_ext HXT.out)).since (Since.of_ext (Below.drew (Below.refl _ _)))).since (Since.of_grown hg6 (by omega))).since (Since.of_ext hx6)) rfl rfl hc6 (by simp [HS6.out,one_int,one_string]) ((HFV6.out.ext hx6).st (N:=wC.heap.size) (by have hzd:wb.drew.heap.size=wb.heap.size:=rfl;omega) (fun k hk=>by have:=(HRI.out.lt k hk).2;have hzd:wb.drew.heap.size=wb.heap.size:=rfl;omega)) (by rw [HLN2.out];omega) (by omega) ?_
       rw [HLN2.out]
       intro g7 cap7 w7 hrow7 hg7
       have HROW7:=Jh hrow7
       have hs7:=hg7.size
       have HRIX:=Jh (show ∀ j,v3.ownBlock=some j->wC.heap.size<=j/\j<wr.heap.size from fun j hj=>HRI.out.lt j hj)
       have hX7:Blk w7 OB #[.slice acl d.signals.length capcl,vv,v3] 26:=((((BOI.out.ext HXT.out).drew.grown hg6 (by omega)).ext hx6).grownO hg7 (fun j hj=>by have:=HRIX.out j hj;omega))
       have hS7:Blk w7 SB #[.slice xs d.signals.length caps,.int .i64 q.2] 95:=(hb6.ext hx6).grownO hg7 (fun j hj=>by have:=HRIX.out j hj;omega)
       have hF7:Fr (fun b=>b=SB\/b=OB\/wC.heap.size<=b) wC w7:=((((HFI2.out.trans (Fr.of_ext HXT.out)).drew.trans (Fr.of_gb hg6 (fun k hk=>by cases hk;exact .inl rfl))).trans (Fr.of_ext hx6)).trans (Fr.of_gb hg7 (fun k hk=>.inr (.inr (HRIX.out k hk).1))))
       refine hK.out _ _ (hH.grownR hg7 (by intro e;have:=HRIX.out _ e;omega)) (fun hH=>?_)
       clear hK K
       try simp only [J]
       (refine Jt 11 (_) rfl (yif_load1 rfl fun _ _=>rfl) hH ?_;try simp only [J])
       refine Jr 12 rfl fun K hK=>?_
       have x1:w7.cell? ⟨OB,2,Option.none⟩=some v3:=by rw [hX7.cell];rfl
       have y1:=hX7.frozen 2
       go_simp
       have hg8:=gb_set w7 OB 2 (.slice (some ⟨g7,0,Option.none⟩) (k+1) cap7)
       have hX8:=hX7.set 2 (.slice (some ⟨g7,0,Option.none⟩) (k+1) cap7)
       refine hK.out _ _ (hH.grown hg8 (by omega)) (fun hH=>?_)
       clear hK K
       try simp only [J]
       refine Jz ?_
       clear x1 y1
       go_wp2_with fail
       go_roundw
       case rel=>exact ⟨k+1,_,by omega,by go_num,by rw [HAT2.out];exact HROW7.out.since (Since.of_grown hg8 (by omega)),hX8,by rw [HAT2.out];exact hS7.grown hg8 (by omega),hF7.trans (Fr.of_gb hg8 (fun k hk=>by cases hk;exact .inr (.inl rfl)))⟩
       case measure=>simp [intOf];omega
      ·refine step_bs1 rfl _ _ rfl appCheck rfl (cs:=Chk.cells ⟨ck.name,q.1⟩ s6) rfl rfl (by decide) ?_
       refine hK.out _ _ (hH.ext hx6) (fun hH=>?_)
       clear hK K
       try simp only [J]
       refine Jr 1 rfl fun K hK=>?_
       have x1:(w6.alloc (.cells (Chk.cells ⟨ck.name,q.1⟩ s6).toArray 99)).cell? ⟨OB,2,Option.none⟩=some v3:=by rw [show (w6.alloc (.cells (Chk.cells ⟨ck.name,q.1⟩ s6).toArray 99)).cell? ⟨OB,2,Option.none⟩=_ from ((((BOI.out.ext HXT.out).drew.grown hg6 (by omega)).ext hx6)).cell 2];rfl
       go_simp
       refine hK.out _ _ hH (fun hH=>?_)
       clear hK K
       try simp only [J]
       clear x1
       refine Jr 10 rfl fun K hK=>?_
       have hc6:=Has.alloc w6 (Chk.cells ⟨ck.name,q.1⟩ s6) 99
       refine step_app1 (V:=VCheck) rfl _ _ _ rfl appCheck rfl ((((HRI.out.since (Since.of_ext HXT.out)).since (Since.of_ext (Below.drew (Below.refl _ _)))).since (Since.of_grown hg6 (by omega))).since (Since.of_ext hx6)) rfl rfl hc6 (by simp [HS6.out,one_int,one_string]) ((HFV6.out.ext hx6).st (N:=wC.heap.size) (by have hzd:wb.drew.heap.size=wb.heap.size:=rfl;omega) (fun k hk=>by have:=(HRI.out.lt k hk).2;have hzd:wb.drew.heap.size=wb.heap.size:=rfl;omega)) (by rw [HLN2.out];omega) (by omega) ?_
       rw [HLN2.out]
       intro g7 cap7 w7 hrow7 hg7
       have HROW7:=Jh hrow7
       have hs7:=hg7.size
       have HRIX:=Jh (show ∀ j,v3.ownBlock=some j->wC.heap.size<=j/\j<wr.heap.size from fun j hj=>HRI.out.lt j hj)
       have hX7:Blk w7 OB #[.slice acl d.signals.length capcl,vv,v3] 26:=((((BOI.out.ext HXT.out).drew.grown hg6 (by omega)).ext hx6).grownO hg7 (fun j hj=>by have:=HRIX.out j hj;omega))
       have hS7:Blk w7 SB #[.slice xs d.signals.length caps,.int .i64 q.2] 95:=(hb6.ext hx6).grownO hg7 (fun j hj=>by have:=HRIX.out j hj;omega)
       have hF7:Fr (fun b=>b=SB\/b=OB\/wC.heap.size<=b) wC w7:=((((HFI2.out.trans (Fr.of_ext HXT.out)).drew.trans (Fr.of_gb hg6 (fun k hk=>by cases hk;exact .inl rfl))).trans (Fr.of_ext hx6)).trans (Fr.of_gb hg7 (fun k hk=>.inr (.inr (HRIX.out k hk).1))))
       refine hK.out _ _ (hH.grownR hg7 (by intro e;have:=HRIX.out _ e;omega)) (fun hH=>?_)
       clear hK K
       try simp only [J]
       (refine Jt 11 (_) rfl (yif_load1 rfl fun _ _=>rfl) hH ?_;try simp only [J])
       refine Jr 12 rfl fun K hK=>?_
       have x1:w7.cell? ⟨OB,2,Option.none⟩=some v3:=by rw [hX7.cell];rfl
       have y1:=hX7.frozen 2
       go_simp
       have hg8:=gb_set w7 OB 2 (.slice (some ⟨g7,0,Option.none⟩) (k+1) cap7)
       have hX8:=hX7.set 2 (.slice (some ⟨g7,0,Option.none⟩) (k+1) cap7)
       refine hK.out _ _ (hH.grown hg8 (by omega)) (fun hH=>?_)
       clear hK K
       try simp only [J]
       refine Jz ?_
       clear x1 y1
       go_wp2_with fail
       go_roundw
       case rel=>exact ⟨k+1,_,by omega,by go_num,by rw [HAT2.out];exact HROW7.out.since (Since.of_grown hg8 (by omega)),hX8,by rw [HAT2.out];exact hS7.grown hg8 (by omega),hF7.trans (Fr.of_gb hg8 (fun k hk=>by cases hk;exact .inr (.inl rfl)))⟩
       case measure=>simp [intOf];omega
    ·obtain rfl:k=d.checks.length:=by omega
     have hrow:=HRI.out
     have r1:=BSI.out
     rw [List.take_length] at hrow r1
     obtain ⟨rc,hrc⟩:∃ x,szCs rp.2 d.checks=x:=⟨_,rfl⟩
     have hm:=HM3.out
     rw [hrc] at hrow r1 hm
     have HROWC:=Jh hrow
     have RSC:=Jh r1
     have HM4:=Jh hm
     clear hrow r1 hm hrc HRI BSI HM3
     have hS2:=HX.out.size
     have z1:wr.cell? ⟨SB,1,Option.none⟩=some (.int .i64 rc.2):=by rw [RSC.out.cell];rfl
     have hD2:Blk wr (w.heap.size+1) zero3.toArray 26:=HFI2.out.blk (HFR.out.blk KA1.out (by omega)) (by omega)
     by_cases he:rc.2=0
     ·have b1:(rc.2 != 0)=false:=by rw [bne_eq_false_iff_eq];exact he
      have hm:=HM4.out
      rw [if_neg (by simp [he])] at hm
      have HM5:=Jh hm
      have hOh:Has wr OB 0 [.slice acl d.signals.length capcl,vv,v3]:=(show Blk wr OB [.slice acl d.signals.length capcl,vv,v3].toArray 26 from BOI.out).has
      have HE:=Jh he
      clear hm he HM4
      have HON:=Jh (show [Value.slice acl d.signals.length capcl,vv,v3].all (·.oneCell')=true by simp [HROWP.out.one,HROWC.out.one];rfl)
      go_wp2_with (first | ((with_reducible show Jl 26);refine Jm 26 (hOh) agg_Flat rfl ?_) | ((with_reducible show Js 26);refine wpList_store_blk rfl 26 _ _ rfl hD2 rfl (cs:=[.slice acl d.signals.length capcl,vv,v3]) rfl agg_Flat rfl rfl HON.out ?_;intro w9 hb9 hg9))
      have hs9:=hg9.size
      refine post_ret_blk2 rfl rfl rfl hb9.has agg_Flat rfl rfl (.inr ⟨_,_,_,_,HM5.out,rfl,⟨_,_,_,rfl,?_,?_,?_⟩,HXI.out.grown hg9 (by omega)⟩)
      ·refine HCLO.out _ ⟨?_,fun b h1 h2=>?_⟩
       ·have h1:=HSC.out.1
        omega
       ·have hb5:=hOB5.out
        exact (hg9.block b (by omega) (by intro e;injection e;omega)).trans ((HFI2.out.block b (by omega) (by omega)).trans ((HFR.out.block b (by omega) (by omega)).trans (HSC.out.2 b h1 h2)))
      ·refine HROWP.out.sl (V:=VProc) (At:=ProcAt) (fun _ _ _ _ _ h hv=>VProc.at h hv) ⟨by omega,fun b h1 h2=>?_⟩
       exact (hg9.block b (by omega) (by intro e;injection e;omega)).trans (HFI2.out.block b (by omega) (by omega))
      ·exact HROWC.out.sl (V:=VCheck) (At:=ChkAt) (fun _ _ _ _ _ h hv=>VCheck.at h hv) (Since.of_grown hg9 (by omega))
     ·have b1:(rc.2 != 0)=true:=by rw [bne_iff_ne];exact he
      have hm:=HM4.out
      rw [if_pos he] at hm
      have HM5:=Jh hm
      have HE:=Jh he
      clear hm he HM4
      go_upto_region 26 with fail
      refine wp_region_held_drew (S:=fun W=>W.cell? ⟨SB,1,Option.none⟩=some (.int .i64 rc.2)) (by kernel_rfl) z1 (fun hH=>?_)
      clear z1 b1
      (refine Jt 0 (.agg zero3.toArray) rfl (yif_load1 rfl (by intro W hW;clear hW;go_simp)) hH ?_;try simp only [J])
      (refine Jt 1 (_) rfl (yif_load1 rfl fun _ _=>rfl) hH ?_;try simp only [J])
      (refine Jt 2 (.pointer (some ⟨SB,0,Option.none⟩)) rfl (yif_load1 rfl (by intro W hW;clear hW;go_simp)) hH ?_;try simp only [J])
      (refine Jt 3 (_) rfl (yif_load1 rfl fun _ _=>rfl) hH ?_;try simp only [J])
      (refine Jt 4 (.int .i64 rc.2) rfl (yif_load1 rfl (by intro W hW;go_simp)) hH ?_;try simp only [J])
      refine Jr 5 rfl fun K hK=>?_
      refine step_store_blk rfl 26 _ _ rfl hD2.drew rfl (cs:=zero3) rfl agg_Flat rfl rfl rfl ?_
      intro w9 hb9 hg9
      have hS9:=RSC.out.drew.grown hg9 (by omega)
      refine hK.out _ _ (by rw [hS9.cell];rfl) (fun hH=>?_)
      clear hK K
      try simp only [J]
      (refine Jt 6 (_) rfl (yif_load1 rfl fun _ _=>rfl) hH ?_;try simp only [J])
      refine Jz ?_
      go_wp2_with fail
      refine post_ret_blk2 rfl rfl rfl hb9.has agg_Flat rfl rfl (.inl ⟨_,HM5.out,HE.out,rfl,HXI.out.drew.grown hg9 (by omega)⟩)
end Go.Proofs.YtpngepnfinbaoaaGreat
