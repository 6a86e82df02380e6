/- Laws and walks that a claim of this seat leans on: Ref15, Ref16. -/
import Derived.Test.YtaipaccpaljecaaGreatR29
import Derived.Test.YtaipaccpaljecaaGreatR27
import Derived.Test.YtaipaccpaljecaaGreatR00
set_option maxRecDepth 100000
set_option maxHeartbeats 8000000
set_option linter.all false
namespace Go.Proofs.YtaipaccpaljecaaGreat
open Go.RowKit
theorem shapedM_iff (d:Flat):shapedM d=((d.procs.all fun p=>p.l.all (shapeT d.signals))&&(d.checks.all fun c=>shape d.signals c.e)&&sigsOk [[]] d.signals):=by
 have e1:(d.procs.any fun p=>p.l.any fun t=>!shapeT d.signals t) = !(d.procs.all fun p=>p.l.all (shapeT d.signals)):=by
  rw [List.not_all_eq_any_not]
  congr 1;funext p
  rw [List.not_all_eq_any_not]
 have e2:(d.checks.any fun c=>!shape d.signals c.e) = !(d.checks.all fun c=>shape d.signals c.e):=by
  rw [List.not_all_eq_any_not]
 unfold shapedM
 first
  | (rw [e1,e2];cases (d.procs.all fun p=>p.l.all (shapeT d.signals))<;>cases (d.checks.all fun c=>shape d.signals c.e)<;>cases sigsOk [[]] d.signals<;>rfl)
  | (simp only [e1,e2];cases (d.procs.all fun p=>p.l.all (shapeT d.signals))<;>cases (d.checks.all fun c=>shape d.signals c.e)<;>cases sigsOk [[]] d.signals<;>rfl)
theorem shaped_callsR (d:Flat) (v:Value) (w:World) (h:FlatV w v d) (hwf:d.wf) (hl:d.signals.length<=1048576) :
  Calls Tryz.prog 147 #[v] w fun r w'=>r=.returned (.bool (shapedM d))/\Ext w w':=by
 obtain ⟨sv,pv,cv,rfl,hS,hP,hC⟩:=h
 have HST:=Jh (fun (p:Proc) (hp:p∈d.procs) (s:Value) W (hx:Ext w W) (ht:Ts W s p.l)=>statements_callsR d.signals p.l (fun t _=>statement_callsR d.signals t) (hwf.procs p hp) sv s W (hS.ext hx) ht)
 have HSHE:=Jh (fun (c:Chk) (hc:c∈d.checks) (s:Value) W (hx:Ext w W) (he:Es W s c.e.l)=>Shape_callsR d.signals c.e sv _ W (hS.ext hx) ⟨s,rfl,he⟩ (hwf.checks c hc))
 have HSG:=Jh (fun W (hx:Ext w W)=>Signals_callsR d.signals sv W (hS.ext hx) hl)
 have HM:=Jh (shapedM_iff d)
 have HSV:=Jh hS
 obtain ⟨xs,bs,os,caps,e1,-,-,-,-⟩:=hS.open
 obtain ⟨ap,bp,op,capp,e2,hp1,hp2,hp3,hpr⟩:=hP.open
 obtain ⟨ac,bc,oc,capc,e3,hq1,hq2,hq3,hqr⟩:=hC.open
 subst e1;subst e2;subst e3
 have HPR:=Jh hpr
 have HP3:=Jh hp3
 have HQR:=Jh hqr
 have HQ3:=Jh hq3
 have hx:=ext_alloc w (.cells [.slice xs d.signals.length caps,.slice ap d.procs.length capp,.slice ac d.checks.length capc].toArray 26)
 have hbx:=Has.alloc w [.slice xs d.signals.length caps,.slice ap d.procs.length capp,.slice ac d.checks.length capc] 26
 clear hS hP hC hpr hp3 hqr hq3 hwf
 go_enter Tryz.func147,Tryz.ntmps147
 go_upto_region 1 with fail
 generalize w.alloc _=w0 at *
 have HX:=Jh hx
 have HB:=Jh hbx
 clear hx hbx
 go_wp2_with fail
 go_loopw [3] (fun i wr=>∃ k:Nat,k<=d.procs.length/\i=.int .i64 k/\((d.procs.take k).all fun p=>p.l.all (shapeT d.signals))=true/\Ext w0 wr) (fun i _=>d.procs.length-(intOf i).toNat)
 case atStart=>exact ⟨0,Nat.zero_le _,rfl,rfl,Below.refl _ _⟩
 case round =>
  obtain ⟨k,hk,rfl,hall,hB⟩:=hrel
  have HALL:=Jh hall
  have HBX:=Jh hB
  have y1:=(HB.out.ext hB) 1 _ rfl
  clear hall hB
  by_cases hlt:k<d.procs.length
  ·obtain ⟨sp,q1,q2⟩:=Procs.get (HPR.out.mono fun x _ b o h=>ProcAt.ext' (HX.out.trans HBX.out) h) hlt
   obtain rfl:=HP3.out (by omega)
   have hmem:=List.getElem_mem hlt
   have HC:=Jh (fun W (hx:Ext wr W)=>HST.out _ hmem sp W (HX.out.trans (HBX.out.trans hx)) (q2.ext hx))
   have HTK:=Jh (take_snoc d.procs k hlt)
   obtain ⟨p,hp⟩:∃ p,d.procs[k]=p:=⟨_,rfl⟩
   rw [hp] at HC HTK q1 hmem
   have HQ1:=Jh q1
   obtain ⟨c,hc⟩:∃ c,p.l.all (shapeT d.signals)=c:=⟨_,rfl⟩
   rw [hc] at HC
   have HCC:=Jh hc
   clear hp hc q1 q2
   go_upto_region 4 with fail
   clear y1
   refine Jg wr fun hH=>?_
   try simp only [J]
   (refine Jt 0 (_) rfl (yif_load1 rfl (by intro W hW;clear hW;go_simp;rfl)) hH ?_;try simp only [J])
   (refine Jt 1 (.slice xs d.signals.length caps) rfl (yif_load1 rfl (by intro W hW;have y7:=(HB.out.ext (HBX.out.trans hW)) 0 _ rfl;rw [Nat.add_zero] at y7;clear hW;go_simp)) hH ?_;try simp only [J])
   (refine Jt 2 (_) rfl (yif_load1 rfl (by intro W hW;clear hW;go_simp;rfl)) hH ?_;try simp only [J])
   (refine Jt 3 (.slice (some ⟨bp,op,Option.none⟩) d.procs.length capp) rfl (yif_load1 rfl (by intro W hW;have y7:=(HB.out.ext (HBX.out.trans hW)) 1 _ rfl;clear hW;go_simp)) hH ?_;try simp only [J])
   (refine Jt 4 (_) rfl (yif_load1 rfl fun _ _=>rfl) hH ?_;try simp only [J])
   (refine Jt 5 (.pointer (some ⟨bp,op+k*2,Option.none⟩)) rfl (yif_load1 rfl (by intro W hW;clear hW;go_simp;try (intro h;omega))) hH ?_;try simp only [J])
   (refine Jt 6 (_) rfl (yif_load1 rfl (by intro W hW;clear hW;go_simp;rfl)) hH ?_;try simp only [J])
   (refine Jt 7 (sp) rfl (yif_load1 rfl (by intro W hW;have y0:W.cell? ⟨bp,op+k*2+1,none⟩=some sp:=(HQ1.out.ext hW) 1 _ rfl;clear hW;go_simp)) hH ?_;try simp only [J])
   refine Jr 8 rfl fun K hK=>?_
   go_simp
   refine (HC.out _ hH).mono ?_
   rintro r w1 ⟨rfl,hx1⟩
   refine hK.out _ _ (hH.trans hx1) (fun hH=>?_)
   clear hK K
   try simp only [J]
   (refine Jt 9 (.bool (!c)) rfl (yif_load1 rfl (by intro W hW;clear hW;go_simp)) hH ?_;try simp only [J])
   refine Jz ?_
   cases c
   ·have HF:=Jh (show shapedM d=false by
     rw [HM.out]
     have:(d.procs.all fun p=>p.l.all (shapeT d.signals))=false:=by rw [List.all_eq_false];exact ⟨p,hmem,by rw [HCC.out];decide⟩
     rw [this];rfl)
    go_wp2_with fail
    go_ret
    exact ⟨ret_bool HF.out.symm,HX.out.trans (HBX.out.trans hH)⟩
   ·go_wp2_with fail
    go_roundw
    case rel=>exact ⟨k+1,by omega,by go_num,by rw [HTK.out,List.all_append,HALL.out];simp [HCC.out],HBX.out.trans hH⟩
    case measure=>simp [intOf];omega
  ·obtain rfl:k=d.procs.length:=by omega
   have hall:=HALL.out
   rw [List.take_length] at hall
   have HALP:=Jh hall
   have HBW:=Jh (HB.out.ext HBX.out)
   have HXW:=Jh (HX.out.trans HBX.out)
   clear hall
   obtain ⟨wo,rfl⟩:∃ x,x=wr:=⟨_,rfl⟩
   go_wp2_with fail
   clear y1
   go_loopw [4] (fun i wr=>∃ k:Nat,k<=d.checks.length/\i=.int .i64 k/\((d.checks.take k).all fun c=>shape d.signals c.e)=true/\Ext wo wr) (fun i _=>d.checks.length-(intOf i).toNat)
   case atStart=>exact ⟨0,Nat.zero_le _,rfl,rfl,Below.refl _ _⟩
   case round =>
    obtain ⟨k,hk,rfl,hall,hB⟩:=hrel
    have HALL2:=Jh hall
    have HBX2:=Jh hB
    have y2:=(HBW.out.ext hB) 2 _ rfl
    clear hall hB
    by_cases hlt:k<d.checks.length
    ·obtain ⟨sp,q1,q2⟩:=Chks.get (HQR.out.mono fun x _ b o h=>ChkAt.ext' (HXW.out.trans HBX2.out) h) hlt
     obtain rfl:=HQ3.out (by omega)
     have hmem:=List.getElem_mem hlt
     have HC:=Jh (fun W (hx:Ext wr W)=>HSHE.out _ hmem sp W (HXW.out.trans (HBX2.out.trans hx)) (q2.ext hx))
     have HTK:=Jh (take_snoc d.checks k hlt)
     obtain ⟨p,hp⟩:∃ p,d.checks[k]=p:=⟨_,rfl⟩
     rw [hp] at HC HTK q1 hmem
     have HQ1:=Jh q1.tail
     obtain ⟨c,hc⟩:∃ c,shape d.signals p.e=c:=⟨_,rfl⟩
     rw [hc] at HC
     have HCC:=Jh hc
     clear hp hc q1 q2
     go_upto_region 9 with fail
     clear y2
     refine Jg wr fun hH=>?_
     try simp only [J]
     (refine Jt 0 (_) rfl (yif_load1 rfl (by intro W hW;clear hW;go_simp;rfl)) hH ?_;try simp only [J])
     (refine Jt 1 (.slice xs d.signals.length caps) rfl (yif_load1 rfl (by intro W hW;have y7:=(HBW.out.ext (HBX2.out.trans hW)) 0 _ rfl;rw [Nat.add_zero] at y7;clear hW;go_simp)) hH ?_;try simp only [J])
     (refine Jt 2 (_) rfl (yif_load1 rfl (by intro W hW;clear hW;go_simp;rfl)) hH ?_;try simp only [J])
     (refine Jt 3 (.slice (some ⟨bc,oc,Option.none⟩) d.checks.length capc) rfl (yif_load1 rfl (by intro W hW;have y7:=(HBW.out.ext (HBX2.out.trans hW)) 2 _ rfl;clear hW;go_simp)) hH ?_;try simp only [J])
     (refine Jt 4 (_) rfl (yif_load1 rfl fun _ _=>rfl) hH ?_;try simp only [J])
     (refine Jt 5 (.pointer (some ⟨bc,oc+k*9,Option.none⟩)) rfl (yif_load1 rfl (by intro W hW;clear hW;go_simp;try (intro h;omega))) hH ?_;try simp only [J])
     (refine Jt 6 (.pointer (some ⟨bc,oc+k*9+1,Option.none⟩)) rfl (yif_load1 rfl (by intro W hW;clear hW;go_simp)) hH ?_;try simp only [J])
     (refine Jt 7 (.agg (p.e.cells sp).toArray) rfl (yif_load rfl 64 _ rfl rfl (fun W hW=>HQ1.out.ext hW) agg_E rfl) hH ?_;try simp only [J])
     refine Jr 8 rfl fun K hK=>?_
     go_simp
     refine (HC.out _ hH).mono ?_
     rintro r w1 ⟨rfl,hx1⟩
     refine hK.out _ _ (hH.trans hx1) (fun hH=>?_)
     clear hK K
     try simp only [J]
     (refine Jt 9 (.bool (!c)) rfl (yif_load1 rfl (by intro W hW;clear hW;go_simp)) hH ?_;try simp only [J])
     refine Jz ?_
     cases c
     ·have HF:=Jh (show shapedM d=false by
       rw [HM.out]
       have:(d.checks.all fun c=>shape d.signals c.e)=false:=by rw [List.all_eq_false];exact ⟨p,hmem,by rw [HCC.out];decide⟩
       rw [this,Bool.and_false];rfl)
      go_wp2_with fail
      go_ret
      exact ⟨ret_bool HF.out.symm,HXW.out.trans (HBX2.out.trans hH)⟩
     ·go_wp2_with fail
      go_roundw
      case rel=>exact ⟨k+1,by omega,by go_num,by rw [HTK.out,List.all_append,HALL2.out];simp [HCC.out],HBX2.out.trans hH⟩
      case measure=>simp [intOf];omega
    ·obtain rfl:k=d.checks.length:=by omega
     have hall:=HALL2.out
     rw [List.take_length] at hall
     have HF:=Jh (show shapedM d=sigsOk [[]] d.signals by rw [HM.out,HALP.out,hall];simp)
     have y0:=(HBW.out.ext HBX2.out) 0 _ rfl
     rw [Nat.add_zero] at y0
     clear hall
     go_wp2_with (first | (go_at_call 193;refine (HSG.out _ (HXW.out.trans HBX2.out)).mono ?_;rintro r w1 ⟨rfl,hx1⟩))
     go_ret
     exact ⟨ret_bool HF.out.symm,HXW.out.trans (HBX2.out.trans hx1)⟩
theorem RowIs.slice {α:Type} {V:World->List Value->α->Prop} {e:TypeId} {size N:Nat} {v:Value} {r:List α} {w:World} (h:RowIs V e size N v r w):∃ a n c,v=.slice a n c:=by
 obtain ⟨a,c,h,-⟩:=h.open;exact ⟨a,_,c,h⟩
theorem Size_callsR (d:Flat) (v:Value) (w:World) (h:FlatV w v d) (hwf:d.wf) (hb:mNodes d<=1048576) (hl:d.signals.length<=1048576) (hlp:d.procs.length<=1048576) (hlc:d.checks.length<=1048576) :
  Calls Tryz.prog 100 #[v] w (SizeDPost w (sizeD d)):=by
 have HF:=Jh h
 have HBO:=Jh (fun W (hx:Ext w W)=>bound_callsR d v W (h.ext hx) hb hl)
 have HSHD:=Jh (fun W (hx:Ext w W)=>shaped_callsR d v W (h.ext hx) hwf hl)
 have HWF:=Jh hwf
 have HNB:=Jh hb
 have HSZD:=Jh (show sizeD d=_ from by unfold sizeD;rfl)
 obtain ⟨sv,pv,cv,rfl,hS,hP,hC⟩:=h
 have HSV:=Jh hS
 obtain ⟨xs,bs,os,caps,e1,-,-,-,-⟩:=hS.open
 obtain ⟨ap,bp,op,capp,e2,hp1,hp2,hp3,hpr⟩:=hP.open
 obtain ⟨ac,bc,oc,capc,e3,hq1,hq2,hq3,hqr⟩:=hC.open
 subst e1;subst e2;subst e3
 have HPR:=Jh hpr
 have HP3:=Jh hp3
 have HQR:=Jh hqr
 have HQ3:=Jh hq3
 have HLP:=Jh hlp
 have HLC:=Jh hlc
 clear hS hP hC hpr hp3 hqr hq3 hwf hb hl hlp hlc
 have hx:=(ext_alloc w (.cells [.slice xs d.signals.length caps,.slice ap d.procs.length capp,.slice ac d.checks.length capc].toArray 26)).alloc (.cells zero3.toArray 26)
 have hb1:=(Blk.new w [.slice xs d.signals.length caps,.slice ap d.procs.length capp,.slice ac d.checks.length capc].toArray 26).alloc (.cells zero3.toArray 26)
 have hb2:=Blk.new (w.alloc (.cells [.slice xs d.signals.length caps,.slice ap d.procs.length capp,.slice ac d.checks.length capc].toArray 26)) zero3.toArray 26
 simp only [World.size_alloc] at hb2
 go_enter Tryz.func100,Tryz.ntmps100
 go_upto_region 1 with fail
 generalize (w.alloc _).alloc _=w0 at *
 have hlt0:w.heap.size+1<w0.heap.size:=hb2.lt
 have hx4:=ext_alloc w0 (.cells zero3.toArray 26)
 have hb4:=Blk.new w0 zero3.toArray 26
 have hs4:w0.heap.size<(w0.alloc (.cells zero3.toArray 26)).heap.size:=by simp
 go_upto_region 2 with (first | ((with_reducible show Js 26);refine wpList_store_new rfl 26 _ _ rfl rfl (by first | rfl | simp) rfl agg_Flat (rfl) rfl (by rfl) ?_))
 generalize w0.alloc _=w1 at *
 have K1:=Jh (hb1.ext hx4)
 have K2:=Jh (hb2.ext hx4)
 have K4:=Jh hb4
 have HX1:=Jh (hx.trans hx4)
 clear hx hb1 hb2 hx4 hb4
 obtain ⟨f1,hf1⟩:∃ f,fitsM d=f:=⟨_,rfl⟩
 obtain ⟨f2,hf2⟩:∃ f,shapedM d=f:=⟨_,rfl⟩
 obtain ⟨f3,hf3⟩:∃ f,(d.signals.any fun s=>!holds s.w s.init)=f:=⟨_,rfl⟩
 rw [hf1] at HBO
 rw [hf2] at HSHD
 have HF1:=Jh hf1
 have HF2:=Jh hf2
 have HF3:=Jh hf3
 clear hf1 hf2 hf3
 cases f1
 ·have HE:=Jh (show sizeD d=.error 2 by rw [HSZD.out,if_pos HF1.out])
  go_wp2_with (first | ((with_reducible show Jl 26);refine Jm 26 (K1.out.has) agg_Flat rfl ?_) | (go_at_call 146;refine (HBO.out _ HX1.out).mono ?_;rintro r w2 ⟨rfl,hx2⟩;have KK:=K4.out.ext hx2;refine Hid.out ?_))
  refine Jh ?_
  go_wp2_with (first | ((with_reducible show Jl 26);refine Jm 26 (KK.has) agg_Flat rfl ?_) | ((with_reducible show Js 26);have hk2:=K2.out.ext hx2;refine wpList_store_blk rfl 26 _ _ rfl hk2 rfl (cs:=zero3) rfl agg_Flat rfl rfl rfl ?_;intro w9 hb9 hg9) | ((with_reducible show bodyPost _ _ _ _ _ _);refine Hid.out ?_))
  refine Jh ?_
  refine post_ret_blk2 rfl rfl rfl hb9.has agg_Flat rfl rfl (.inl ⟨2,HE.out,by decide,rfl,(HX1.out.trans hx2).grown hg9 (by omega)⟩)
 cases f2
 ·have HE:=Jh (show sizeD d=.error 1 by rw [HSZD.out,if_neg (by rw [HF1.out];decide),if_pos HF2.out])
  go_upto_region 4 with (first | ((with_reducible show Jl 26);refine Jm 26 (K1.out.has) agg_Flat rfl ?_) | (go_at_call 146;refine (HBO.out _ HX1.out).mono ?_;rintro r w2 ⟨rfl,hx2⟩))
  have KK1:=Jh (K1.out.ext hx2)
  go_upto_region 5 with (first | ((with_reducible show Jl 26);refine Jm 26 (KK1.out.has) agg_Flat rfl ?_) | (go_at_call 147;refine (HSHD.out _ (HX1.out.trans hx2)).mono ?_;rintro r w3 ⟨rfl,hx3⟩))
  have KK:=K4.out.ext (hx2.trans hx3)
  go_wp2_with (first | ((with_reducible show Jl 26);refine Jm 26 (KK.has) agg_Flat rfl ?_) | ((with_reducible show Js 26);have hk2:=K2.out.ext (hx2.trans hx3);refine wpList_store_blk rfl 26 _ _ rfl hk2 rfl (cs:=zero3) rfl agg_Flat rfl rfl rfl ?_;intro w9 hb9 hg9) | ((with_reducible show bodyPost _ _ _ _ _ _);refine Hid.out ?_))
  refine Jh ?_
  refine post_ret_blk2 rfl rfl rfl hb9.has agg_Flat rfl rfl (.inl ⟨1,HE.out,by decide,rfl,(HX1.out.trans (hx2.trans hx3)).grown hg9 (by omega)⟩)
 have hsig:sigsOk [[]] d.signals=true:=by
  have:=HF2.out
  rw [shapedM_iff] at this
  simp only [Bool.and_eq_true] at this
  exact this.2
 have hw64:=sigs_w _ _ hsig
 have hw1:∀ x∈d.signals,0<=x.w:=by
  intro x hx
  obtain ⟨k,hk,rfl⟩:=List.getElem_of_mem hx
  have:=((sigsOk_iff d.signals [[]]).1 hsig k hk).2.1
  unfold sigNum at this
  simp only [Bool.and_eq_true,decide_eq_true_eq] at this
  omega
 have HFI:=Jh (fun W (hx:Ext w W)=>fills_callsR d.signals HWF.out.signals hw1 _ W (HSV.out.ext hx))
 rw [HF3.out] at HFI
 have HW64:=Jh hw64
 clear hsig hw64 hw1
 go_upto_region 4 with (first | ((with_reducible show Jl 26);refine Jm 26 (K1.out.has) agg_Flat rfl ?_) | (go_at_call 146;refine (HBO.out _ HX1.out).mono ?_;rintro r w2 ⟨rfl,hx2⟩))
 have K12:=Jh (K1.out.ext hx2)
 go_upto_region 6 with (first | ((with_reducible show Jl 26);refine Jm 26 (K12.out.has) agg_Flat rfl ?_) | (go_at_call 147;refine (HSHD.out _ (HX1.out.trans hx2)).mono ?_;rintro r w3 ⟨rfl,hx3⟩))
 have K13:=Jh (K12.out.ext hx3)
 have HX3:=Jh (HX1.out.trans (hx2.trans hx3))
 have K23:=Jh (K2.out.ext (hx2.trans hx3))
 have K43:=Jh (K4.out.ext (hx2.trans hx3))
 have hs3:=(hx2.trans hx3).size
 have y0:=K13.out.has 0 _ rfl
 rw [Nat.add_zero] at y0
 clear hx2 hx3 K12 HBO HSHD K1 K2 K4 HX1
 cases f3
 rotate_left
 ·have HE:=Jh (show sizeD d=.error 92 by rw [HSZD.out,if_neg (by rw [HF1.out];decide),if_neg (by rw [HF2.out];decide),if_pos HF3.out])
  go_upto_region 7 with (first | (go_at_call 148;refine (HFI.out _ HX3.out).mono ?_;rintro r w4 ⟨rfl,hx4⟩))
  have KK:=K43.out.ext hx4
  go_wp2_with (first | ((with_reducible show Jl 26);refine Jm 26 (KK.has) agg_Flat rfl ?_) | ((with_reducible show Js 26);have hk2:=K23.out.ext hx4;refine wpList_store_blk rfl 26 _ _ rfl hk2 rfl (cs:=zero3) rfl agg_Flat rfl rfl rfl ?_;intro w9 hb9 hg9) | ((with_reducible show bodyPost _ _ _ _ _ _);refine Hid.out ?_))
  refine Jh ?_
  refine post_ret_blk2 rfl rfl rfl hb9.has agg_Flat rfl rfl (.inl ⟨92,HE.out,by decide,rfl,(HX3.out.trans hx4).grown hg9 (by omega)⟩)
 go_upto_region 8 with (first | (go_at_call 148;refine (HFI.out _ HX3.out).mono ?_;rintro r w4 ⟨rfl,hx4⟩))
 have K14:=Jh (K13.out.ext hx4)
 have K24:=Jh (K23.out.ext hx4)
 have K44:=Jh (K43.out.ext hx4)
 have HX4:=Jh (HX3.out.trans hx4)
 have hs4':=hx4.size
 have y1:=K14.out.has 0 _ rfl
 rw [Nat.add_zero] at y1
 clear hx4 y0 HFI HX3 K13 K23 K43
 have hxA:=ext_alloc w4 (.cells [.slice xs d.signals.length caps,.slice Option.none 0 0,.slice Option.none 0 0].toArray 26)
 have hbA:=Blk.new w4 [.slice xs d.signals.length caps,.slice Option.none 0 0,.slice Option.none 0 0].toArray 26
 have hsA:w4.heap.size<(w4.alloc (.cells [.slice xs d.signals.length caps,.slice Option.none 0 0,.slice Option.none 0 0].toArray 26)).heap.size:=by simp
 go_upto_region 9 with (first | ((with_reducible show Js 26);refine wpList_store_new rfl 26 _ _ rfl rfl (by first | rfl | simp) rfl agg_Flat (rfl) rfl (by rfl) ?_))
 obtain ⟨B5,hB5⟩:∃ B,w4.heap.size=B:=⟨_,rfl⟩
 rw [hB5] at hbA ⊢
 have hB51:w0.heap.size<B5:=by omega
 have hB52:B5<(w4.alloc (.cells [.slice xs d.signals.length caps,.slice Option.none 0 0,.slice Option.none 0 0].toArray 26)).heap.size:=by omega
 generalize w4.alloc _=wA at *
 have KA1:=Jh (K14.out.ext hxA)
 have KA2:=Jh (K24.out.ext hxA)
 have KA4:=Jh (K44.out.ext hxA)
 have KA5:=Jh hbA
 have HXA:=Jh (HX4.out.trans hxA)
 clear hxA hbA y1 K14 K24 K44 HX4
 have HSD:=Jh (show sizeD d=(if (szCs (szPs d.signals 0 d.procs).2 d.checks).2≠0 then .error (szCs (szPs d.signals 0 d.procs).2 d.checks).2 else .ok ⟨d.signals,(szPs d.signals 0 d.procs).1,(szCs (szPs d.signals 0 d.procs).2 d.checks).1⟩) by
  rw [HSZD.out,if_neg (by rw [HF1.out];decide),if_neg (by rw [HF2.out];decide),if_neg (by rw [HF3.out];decide)])
 have hsh2:=HF2.out
 rw [shapedM_iff] at hsh2
 simp only [Bool.and_eq_true] at hsh2
 have HSHP:=Jh (List.all_eq_true.1 hsh2.1.1)
 have HSHC:=Jh (List.all_eq_true.1 hsh2.1.2)
 have HFRA:=Jh (Fr.refl (fun b=>b=B5\/wA.heap.size<=b) wA)
 clear hsh2 HSZD HF1 HF2 HF3
 go_wp2_with fail
 go_loopw [6,7,8] (fun i _ _ wr=>∃ (k:Nat) (vv:Value),k<=d.procs.length/\i=.int .i64 k/\(szPs d.signals 0 (d.procs.take k)).2=0/\RowIs VProc 39 2 wA.heap.size vv (szPs d.signals 0 (d.procs.take k)).1 wr/\Blk wr B5 [.slice xs d.signals.length caps,vv,.slice Option.none 0 0].toArray 26/\Fr (fun b=>b=B5\/wA.heap.size<=b) wA wr) (fun i _ _ _=>d.procs.length-(intOf i).toNat)
 case atStart=>exact ⟨0,_,Nat.zero_le _,rfl,rfl,RowIs.nil,KA5.out,HFRA.out⟩
 case round =>
  obtain ⟨k,vv,hk,rfl,hz,hrow,hb5,hfr⟩:=hrel
  have HFR:=Jh hfr
  have KR1:=Jh (hfr.blk KA1.out (by rintro (h | h)<;>omega))
  have KR2:=Jh (hfr.blk KA2.out (by rintro (h | h)<;>omega))
  have KR4:=Jh (hfr.blk KA4.out (by rintro (h | h)<;>omega))
  have KR5:=Jh hb5
  have HXR:=Jh (hfr.ext HXA.out (by rintro x (h | h)<;>omega))
  have hszr:=hfr.size
  have HZ:=Jh hz
  have HROW:=Jh hrow
  have y1:=KR1.out.has 1 _ rfl
  clear hfr hb5
  by_cases hlt:k<d.procs.length
  ·obtain ⟨sp,q1,q2⟩:=Procs.get (HPR.out.mono fun x _ b o h=>ProcAt.ext' HXR.out h) hlt
   obtain rfl:=HP3.out (by omega)
   have hq1w:∃ s,Has w bp (op+k*2) (d.procs[k].cells s)/\Has wr bp (op+k*2) (d.procs[k].cells s)/\s=sp:=by
    obtain ⟨s,g1,-⟩:=Procs.get HPR.out hlt
    have g2:=g1.ext HXR.out
    have e:some s=some sp:=(g2 1 _ rfl).symm.trans (q1 1 _ rfl)
    injection e with e
    exact ⟨s,g1,g2,e⟩
   obtain ⟨sp',hq1w,-,hspe⟩:=hq1w
   rw [hspe] at hq1w
   clear hspe
   have hmem:=List.getElem_mem hlt
   have hsome:=fun ck=>some_callsR d.signals HW64.out ck d.procs[k].l (HSHP.out _ hmem) (HWF.out.procs _ hmem) (by
    have h1:=le_sumBy (fun p:Proc=>sumBy nodesT p.l) d.procs _ hmem
    have h2:=HNB.out
    unfold mNodes at h2
    try simp only at h1
    omega)
   have htk:=szPs_take d.signals 0 d.procs k hlt
   have hstop:=szPs_stop d.signals 0 d.procs (k+1)
   rw [hz] at htk
   rw [htk] at hstop
   have hlen:(szPs d.signals 0 (d.procs.take k)).1.length=k:=by rw [szPs_length,List.length_take];omega
   obtain ⟨rr,hrr⟩:∃ rr,(szPs d.signals 0 (d.procs.take k)).1=rr:=⟨_,rfl⟩
   rw [hrr] at hrow htk hlen
   replace HROW:=Jh hrow
   obtain ⟨p,hp⟩:∃ p,d.procs[k]=p:=⟨_,rfl⟩
   rw [hp] at hsome htk hstop q1 q2 hq1w
   obtain ⟨ck,pl⟩:=p
   simp only at hsome htk hstop q2
   obtain ⟨q,hq⟩:∃ q,szTL d.signals ck 0 0 pl=q:=⟨_,rfl⟩
   rw [hq] at htk hstop
   have HC:=Jh (fun W (hx:Ext wr W)=>(by have h:=hsome ck (.slice xs d.signals.length caps) sp W (HSV.out.ext (HXR.out.trans hx)) (q2.ext hx);rw [hq] at h;exact h:Calls Tryz.prog 149 #[.slice xs d.signals.length caps,sp,.bool ck] W (SomePost W q)))
   have HTK:=Jh htk
   have HSTOP:=Jh hstop
   have HLN:=Jh hlen
   have HQ1:=Jh q1
   have HQ1w:=Jh hq1w
   clear hq1w hz hrow htk hstop hlen hrr hp hq hsome q1 q2 hmem
   go_upto_region 12 with fail
   clear y1
   refine Jg wr fun hH=>?_
   try simp only [J]
   (refine Jt 0 (_) rfl (yif_load1 rfl (by intro W hW;clear hW;go_simp;rfl)) hH ?_;try simp only [J])
   (refine Jt 1 (.slice xs d.signals.length caps) rfl (yif_load1 rfl (by intro W hW;have y7:=(KR1.out.ext hW).has 0 _ rfl;rw [Nat.add_zero] at y7;clear hW;go_simp)) hH ?_;try simp only [J])
   (refine Jt 2 (_) rfl (yif_load1 rfl (by intro W hW;clear hW;go_simp;rfl)) hH ?_;try simp only [J])
   (refine Jt 3 (.slice (some ⟨bp,op,Option.none⟩) d.procs.length capp) rfl (yif_load1 rfl (by intro W hW;have y7:=(KR1.out.ext hW).has 1 _ rfl;clear hW;go_simp)) hH ?_;try simp only [J])
   (refine Jt 4 (_) rfl (yif_load1 rfl fun _ _=>rfl) hH ?_;try simp only [J])
   (refine Jt 5 (.pointer (some ⟨bp,op+k*2,Option.none⟩)) rfl (yif_load1 rfl (by intro W hW;clear hW;go_simp;try (intro h;omega))) hH ?_;try simp only [J])
   (refine Jt 6 (_) rfl (yif_load1 rfl (by intro W hW;clear hW;go_simp;rfl)) hH ?_;try simp only [J])
   (refine Jt 7 (sp) rfl (yif_load1 rfl (by intro W hW;have y0:W.cell? ⟨bp,op+k*2+1,none⟩=some sp:=(HQ1.out.ext hW) 1 _ rfl;clear hW;go_simp)) hH ?_;try simp only [J])
   (refine Jt 8 (_) rfl (yif_load1 rfl (by intro W hW;clear hW;go_simp;rfl)) hH ?_;try simp only [J])
   (refine Jt 9 (.slice (some ⟨bp,op,Option.none⟩) d.procs.length capp) rfl (yif_load1 rfl (by intro W hW;have y7:=(KR1.out.ext hW).has 1 _ rfl;clear hW;go_simp)) hH ?_;try simp only [J])
   (refine Jt 10 (_) rfl (yif_load1 rfl fun _ _=>rfl) hH ?_;try simp only [J])
   (refine Jt 11 (.pointer (some ⟨bp,op+k*2,Option.none⟩)) rfl (yif_load1 rfl (by intro W hW;clear hW;go_simp;try (intro h;omega))) hH ?_;try simp only [J])
   (refine Jt 12 (_) rfl (yif_load1 rfl (by intro W hW;clear hW;go_simp;rfl)) hH ?_;try simp only [J])
   (refine Jt 13 (.bool ck) rfl (yif_load1 rfl (by intro W hW;have y0:W.cell? ⟨bp,op+k*2,none⟩=some (.bool ck):=(HQ1.out.ext hW) 0 _ rfl;clear hW;go_simp)) hH ?_;try simp only [J])
   refine Jr 14 rfl fun K hK=>?_
   go_simp
   refine (HC.out _ hH).mono ?_
   intro r w3 hp3
   obtain ⟨m,g,rfl,hg,hx3,hrow3,hnil⟩:=hp3
   replace hg:=Jh hg
   refine hK.out _ _ (hH.trans hx3) (fun hH=>?_)
   clear hK K
   try simp only [J]
   (refine Jt 15 (_) rfl (yif_load1 rfl fun _ _=>rfl) hH ?_;try simp only [J])
   (refine Jt 16 (m) rfl (yif_load1 rfl (by intro W hW;clear hW;go_simp)) hH ?_;try simp only [J])
   (refine Jt 17 (.int .i64 g) rfl (yif_load1 rfl (by intro W hW;clear hW;go_simp)) hH ?_;try simp only [J])
   (refine Jt 18 (_) rfl (yif_load1 rfl fun _ _=>rfl) hH ?_;try simp only [J])
   (refine Jt 19 (_) rfl (yif_load1 rfl fun _ _=>rfl) hH ?_;try simp only [J])
   refine Jz ?_
   have hs3:=hH.size
   by_cases hg0:g=0
   rotate_left
   ·have g1:(g != 0)=true:=by rw [bne_iff_ne];exact hg0
    have HE:=Jh (show sizeD d=.error g by
     have h1:=HSTOP.out (show q.2≠0 by rw [<-hg.out];exact hg0)
     rw [HSD.out,h1]
     have h2:(szCs q.2 d.checks).2=q.2:=szCs_err _ _ (by rw [<-hg.out];exact hg0)
     rw [h2,<-hg.out,if_pos hg0])
    have HG0:=Jh hg0
    have KK:=KR4.out.ext hH
    clear hrow3 hnil hg hg0
    go_wp2_with (first | ((with_reducible show Jl 26);refine Jm 26 (KK.has) agg_Flat rfl ?_) | ((with_reducible show Js 26);have hk2:=KR2.out.ext hH;refine wpList_store_blk rfl 26 _ _ rfl hk2 rfl (cs:=zero3) rfl agg_Flat rfl rfl rfl ?_;intro w9 hb9 hg9) | ((with_reducible show bodyPost _ _ _ _ _ _);refine Hid.out ?_))
    refine Jh ?_
    refine post_ret_blk2 rfl rfl rfl hb9.has agg_Flat rfl rfl (.inl ⟨g,HE.out,HG0.out,rfl,(HXR.out.trans hH).grown hg9 (by omega)⟩)
   ·have HG:=Jh (hg.out.symm.trans hg0)
    obtain ⟨am,nm,cm,hm⟩:=(hrow3 hg0).slice
    subst hm
    have HROW3:=Jh (hrow3 hg0)
    subst hg0
    have HFV:=Jh (show FV VProc wr.heap.size w3 [.bool ck,.slice am nm cm] ⟨ck,q.1⟩ from fun W hW=>⟨_,rfl,HROW3.out.sl (V:=VT) (At:=TAt) (fun _ _ _ _ _ h hv=>VT.at h hv) hW⟩)
    have KS5:=Jh (KR5.out.ext hH)
    have KS1:=Jh (KR1.out.ext hH)
    have HQ3':=Jh (HQ1.out.ext hH)
    have HROWS:=Jh (HROW.out.since (Since.of_ext hH))
    have HFRS:=Jh (HFR.out.trans (Fr.of_ext hH))
    have HRLT:=Jh (fun j (hj:vv.ownBlock=some j)=>HROW.out.lt j hj)
    clear hrow3 hnil hg
    go_upto_region 15 with fail
    refine wp_region_held_drew (S:=fun W=>Blk W w.heap.size [.slice xs d.signals.length caps,.slice (some ⟨bp,op,Option.none⟩) d.procs.length capp,.slice ac d.checks.length capc].toArray 26/\Has W bp (op+k*2) (Proc.cells ⟨ck,pl⟩ sp)) (by kernel_rfl) ⟨KS1.out.drew,HQ3'.out.drew⟩ (fun hH=>?_)
    have hsd:w3.drew.heap.size=w3.heap.size:=rfl
    have KSd:=Jh (show Blk w3.drew B5 [.slice xs d.signals.length caps,vv,.slice Option.none 0 0].toArray 26 from KS5.out)
    have HROWd:=Jh (HROWS.out.since (Since.of_ext (Below.drew (Below.refl _ _):Ext w3 w3.drew)))
    have HFRd:=Jh (HFRS.out.trans (Fr.of_ext (Below.drew (Below.refl _ _):Ext w3 w3.drew)))
    have HFVd:=Jh (HFV.out.ext (Below.drew (Below.refl _ _):Ext w3 w3.drew))
    generalize w3.drew=wd at *
    try simp only [J]
    (refine Jt 0 (_) rfl (yif_load1 rfl fun _ _=>rfl) hH ?_;try simp only [J])
    (refine Jt 2 (_) rfl (yif_load1 rfl fun _ _=>rfl) hH ?_;try simp only [J])
    (refine Jt 3 (.slice (some ⟨bp,op,Option.none⟩) d.procs.length capp) rfl (yif_load1 rfl (by intro W hW;have y7:=hW.1.has 1 _ rfl;rw [Nat.zero_add] at y7;clear hW;go_simp)) hH ?_;try simp only [J])
    (refine Jt 4 (_) rfl (yif_load1 rfl fun _ _=>rfl) hH ?_;try simp only [J])
    (refine Jt 5 (.pointer (some ⟨bp,op+k*2,Option.none⟩)) rfl (yif_load1 rfl (by intro W hW;clear hW;go_simp;try (intro h;omega))) hH ?_;try simp only [J])
    (refine Jt 6 (.pointer (some ⟨bp,op+k*2,Option.none⟩)) rfl (yif_load1 rfl (by intro W hW;clear hW;go_simp)) hH ?_;try simp only [J])
    (refine Jt 7 (.bool ck) rfl (yif_load1 rfl (by intro W hW;have y7:W.cell? ⟨bp,op+k*2,Option.none⟩=some (.bool ck):=hW.2 0 _ rfl;clear hW;go_simp)) hH ?_;try simp only [J])
    (refine Jt 8 (_) rfl (yif_load1 rfl fun _ _=>rfl) hH ?_;try simp only [J])
    (refine Jt 9 (.agg [.bool ck,.slice am nm cm].toArray) rfl (yif_load1 rfl (by intro W hW;clear hW;go_simp)) hH ?_;try simp only [J])
    refine wpAnyH_ready (rs:=[1,10]) (by kernel_rfl) (by simp) ?_
    refine AllReadyH.cons rfl (fun K hK=>?_) (AllReadyH.cons rfl (fun K hK=>?_) AllReadyH.nil)
    ·have zd:wd.cell? ⟨B5,1,Option.none⟩=some vv:=by have:=KSd.out.has 1 _ rfl;simpa using this
     go_simp
     refine hK.out _ _ hH (fun hH=>?_)
     clear hK K zd
     try simp only [J]
     refine Jr 10 rfl fun K hK=>?_
     refine step_bs1 rfl _ _ rfl appProc rfl (cs:=[.bool ck,.slice am nm cm]) rfl rfl (by decide) ?_
     refine hK.out _ _ ⟨hH.1.ext (ext_alloc _ _),hH.2.ext (ext_alloc _ _)⟩ (fun hH=>?_)
     clear hK K
     try simp only [J]
     refine Jr 11 rfl fun K hK=>?_
     have hxe:=ext_alloc wd (.cells [.bool ck,.slice am nm cm].toArray 39)
     have hce:=Has.alloc wd [.bool ck,.slice am nm cm] 39
     have hse:wd.heap.size<(wd.alloc (.cells [.bool ck,.slice am nm cm].toArray 39)).heap.size:=by simp
     have hlen1:rr.length+1<=16777216:=by rw [HLN.out];have:=HLP.out;omega
     have hbase1:wA.heap.size<=(wd.alloc (.cells [.bool ck,.slice am nm cm].toArray 39)).heap.size:=by omega
     have hrowe:RowIs VProc 39 2 wA.heap.size vv rr (wd.alloc (.cells [.bool ck,.slice am nm cm].toArray 39)):=HROWd.out.since (Since.of_ext hxe)
     have hste:StV VProc wA.heap.size vv.ownBlock (wd.alloc (.cells [.bool ck,.slice am nm cm].toArray 39)) [.bool ck,.slice am nm cm] ⟨ck,q.1⟩:=(HFVd.out.ext hxe).st (N:=wA.heap.size) (by omega) (fun k hk=>by have:=(HRLT.out k hk).2;omega)
     refine step_app1 (V:=VProc) rfl _ _ _ rfl appProc (v:=vv) rfl hrowe (by first | rfl | (rw [<-hsd];rfl)) rfl hce rfl hste hlen1 hbase1 ?_
     intro g7 cap7 w7 hrow7 hg7
     have hR:∀ j,vv.ownBlock=some j->wA.heap.size<=j:=fun j hj=>(HRLT.out j hj).1
     have hb7:=(KSd.out.ext hxe).grownO hg7 (fun j hj=>by have:=hR j hj;omega)
     have hfr7:=(HFRd.out.trans (Fr.of_ext hxe)).trans (Fr.of_gb hg7 (fun j hj=>.inr (hR j hj)))
     refine hK.out _ _ ⟨(hH.1).grownO hg7 (fun j hj=>by have:=hR j hj;omega),HQ1w.out.ext (hfr7.ext HXA.out (by rintro x (h | h)<;>omega))⟩ (fun hH=>?_)
     clear hK K
     try simp only [J]
     (refine Jt 12 (_) rfl (yif_load1 rfl fun _ _=>rfl) hH ?_;try simp only [J])
     refine Jr 13 rfl fun K hK=>?_
     have x1:w7.cell? ⟨B5,1,Option.none⟩=some vv:=by have:=hb7.has 1 _ rfl;simpa using this
     have x2:=hb7.frozen 1
     go_simp
     have hg8:=gb_set w7 B5 1 (.slice (some ⟨g7,0,Option.none⟩) (rr.length+1) cap7)
     have hb8:=hb7.set 1 (.slice (some ⟨g7,0,Option.none⟩) (rr.length+1) cap7)
     have hfr8:=hfr7.trans (Fr.of_gb hg8 (fun j hj=>by cases hj;exact .inl rfl))
     refine hK.out _ _ ⟨hH.1.grown hg8 (by omega),HQ1w.out.ext (hfr8.ext HXA.out (by rintro x (h | h)<;>omega))⟩ (fun hH=>?_)
     clear hK K
     try simp only [J]
     refine Jz ?_
     have HR':=Jh (hrow7.since (Since.of_grown hg8 (by omega)))
     have HB':=Jh hb8
     have HF':=Jh hfr8
     clear x1 x2 hrow7 hb7 hfr7 hb8 hfr8 hg8 hg7 hce hxe hrowe hste hH
     go_wp2_with fail
     go_roundw
     case rel=>exact ⟨k+1,_,by omega,by go_num,by rw [HTK.out];exact HG.out,by rw [HTK.out];exact HR'.out,HB'.out,HF'.out⟩
     case measure=>simp [intOf];omega
    ·refine step_bs1 rfl _ _ rfl appProc rfl (cs:=[.bool ck,.slice am nm cm]) rfl rfl (by decide) ?_
     refine hK.out _ _ ⟨hH.1.ext (ext_alloc _ _),hH.2.ext (ext_alloc _ _)⟩ (fun hH=>?_)
     clear hK K
     try simp only [J]
     have zd:(wd.alloc (.cells [.bool ck,.slice am nm cm].toArray 39)).cell? ⟨B5,1,Option.none⟩=some vv:=by have:=(KSd.out.ext (ext_alloc wd (.cells [.bool ck,.slice am nm cm].toArray 39))).has 1 _ rfl;simpa using this
     refine Jr 1 rfl fun K hK=>?_
     go_simp
     refine hK.out _ _ hH (fun hH=>?_)
     clear hK K zd
     try simp only [J]
     refine Jr 11 rfl fun K hK=>?_
     have hxe:=ext_alloc wd (.cells [.bool ck,.slice am nm cm].toArray 39)
     have hce:=Has.alloc wd [.bool ck,.slice am nm cm] 39
     have hse:wd.heap.size<(wd.alloc (.cells [.bool ck,.slice am nm cm].toArray 39)).heap.size:=by simp
     have hlen1:rr.length+1<=16777216:=by rw [HLN.out];have:=HLP.out;omega
     have hbase1:wA.heap.size<=(wd.alloc (.cells [.bool ck,.slice am nm cm].toArray 39)).heap.size:=by omega
     have hrowe:RowIs VProc 39 2 wA.heap.size vv rr (wd.alloc (.cells [.bool ck,.slice am nm cm].toArray 39)):=HROWd.out.since (Since.of_ext hxe)
     have hste:StV VProc wA.heap.size vv.ownBlock (wd.alloc (.cells [.bool ck,.slice am nm cm].toArray 39)) [.bool ck,.slice am nm cm] ⟨ck,q.1⟩:=(HFVd.out.ext hxe).st (N:=wA.heap.size) (by omega) (fun k hk=>by have:=(HRLT.out k hk).2;omega)
     refine step_app1 (V:=VProc) rfl _ _ _ rfl appProc (v:=vv) rfl hrowe (by first | rfl | (rw [<-hsd];rfl)) rfl hce rfl hste hlen1 hbase1 ?_
     intro g7 cap7 w7 hrow7 hg7
     have hR:∀ j,vv.ownBlock=some j->wA.heap.size<=j:=fun j hj=>(HRLT.out j hj).1
     have hb7:=(KSd.out.ext hxe).grownO hg7 (fun j hj=>by have:=hR j hj;omega)
     have hfr7:=(HFRd.out.trans (Fr.of_ext hxe)).trans (Fr.of_gb hg7 (fun j hj=>.inr (hR j hj)))
     refine hK.out _ _ ⟨(hH.1).grownO hg7 (fun j hj=>by have:=hR j hj;omega),HQ1w.out.ext (hfr7.ext HXA.out (by rintro x (h | h)<;>omega))⟩ (fun hH=>?_)
     clear hK K
     try simp only [J]
     (refine Jt 12 (_) rfl (yif_load1 rfl fun _ _=>rfl) hH ?_;try simp only [J])
     refine Jr 13 rfl fun K hK=>?_
     have x1:w7.cell? ⟨B5,1,Option.none⟩=some vv:=by have:=hb7.has 1 _ rfl;simpa using this
     have x2:=hb7.frozen 1
     go_simp
     have hg8:=gb_set w7 B5 1 (.slice (some ⟨g7,0,Option.none⟩) (rr.length+1) cap7)
     have hb8:=hb7.set 1 (.slice (some ⟨g7,0,Option.none⟩) (rr.length+1) cap7)
     have hfr8:=hfr7.trans (Fr.of_gb hg8 (fun j hj=>by cases hj;exact .inl rfl))
     refine hK.out _ _ ⟨hH.1.grown hg8 (by omega),HQ1w.out.ext (hfr8.ext HXA.out (by rintro x (h | h)<;>omega))⟩ (fun hH=>?_)
     clear hK K
     try simp only [J]
     refine Jz ?_
     have HR':=Jh (hrow7.since (Since.of_grown hg8 (by omega)))
     have HB':=Jh hb8
     have HF':=Jh hfr8
     clear x1 x2 hrow7 hb7 hfr7 hb8 hfr8 hg8 hg7 hce hxe hrowe hste hH
     go_wp2_with fail
     go_roundw
     case rel=>exact ⟨k+1,_,by omega,by go_num,by rw [HTK.out];exact HG.out,by rw [HTK.out];exact HR'.out,HB'.out,HF'.out⟩
     case measure=>simp [intOf];omega
  ·obtain rfl:k=d.procs.length:=by omega
   rw [List.take_length] at hrow hz
   have HZP:=Jh hz
   have HRP:=Jh hrow
   obtain ⟨wo,rfl⟩:∃ x,x=wr:=⟨_,rfl⟩
   have HSD2:=Jh (show sizeD d=(if (szCs 0 d.checks).2≠0 then .error (szCs 0 d.checks).2 else .ok ⟨d.signals,(szPs d.signals 0 d.procs).1,(szCs 0 d.checks).1⟩) by
    have:=HSD.out;rwa [hz] at this)
   have HFRW:=Jh (Fr.refl (fun b=>b=B5\/wo.heap.size<=b) wo)
   have HXW:=HXR
   clear hz hrow HSD HROW HZ
   go_wp2_with fail
   clear y1
   go_loopw [9,10,11] (fun i _ _ wr=>∃ (k:Nat) (vc:Value),k<=d.checks.length/\i=.int .i64 k/\(szCs 0 (d.checks.take k)).2=0/\RowIs VCheck 141 9 wo.heap.size vc (szCs 0 (d.checks.take k)).1 wr/\Blk wr B5 [.slice xs d.signals.length caps,vv,vc].toArray 26/\Fr (fun b=>b=B5\/wo.heap.size<=b) wo wr) (fun i _ _ _=>d.checks.length-(intOf i).toNat)
   case atStart=>exact ⟨0,_,Nat.zero_le _,rfl,rfl,RowIs.nil,KR5.out,HFRW.out⟩
   case round =>
    obtain ⟨k,vc,hk,rfl,hz,hrow,hb5,hfr⟩:=hrel
    have HFR2:=Jh hfr
    have KQ1:=Jh (hfr.blk KR1.out (by rintro (h | h)<;>omega))
    have KQ2:=Jh (hfr.blk KR2.out (by rintro (h | h)<;>omega))
    have KQ4:=Jh (hfr.blk KR4.out (by rintro (h | h)<;>omega))
    have KQ5:=Jh hb5
    have HXQ:=Jh (hfr.ext HXW.out (by rintro x (h | h)<;>omega))
    have hszq:=hfr.size
    have HZ:=Jh hz
    have y2:=KQ1.out.has 2 _ rfl
    clear hfr hb5
    by_cases hlt:k<d.checks.length
    ·obtain ⟨sp,q1,q2⟩:=Chks.get (HQR.out.mono fun x _ b o h=>ChkAt.ext' HXQ.out h) hlt
     obtain rfl:=HQ3.out (by omega)
     obtain ⟨sp',hq1w,-⟩:=Chks.get HQR.out hlt
     have hspe:sp'=sp:=by
      have e:some sp'=some sp:=((hq1w.ext HXQ.out) 8 _ rfl).symm.trans (q1 8 _ rfl)
      injection e
     rw [hspe] at hq1w
     have hmem:=List.getElem_mem hlt
     have hbit:=bit_callsR HW64.out d.checks[k].e (HSHC.out _ hmem) (HWF.out.checks _ hmem) (by
      have h1:=le_sumBy (fun c:Chk=>nodes c.e) d.checks _ hmem
      have h2:=HNB.out
      unfold mNodes at h2
      try simp only at h1
      omega)
     have htk:=szCs_take 0 d.checks k hlt
     have hstop:=szCs_stop 0 d.checks (k+1)
     rw [hz] at htk
     rw [htk] at hstop
     have hlen:(szCs 0 (d.checks.take k)).1.length=k:=by rw [szCs_length,List.length_take];omega
     obtain ⟨rr,hrr⟩:∃ rr,(szCs 0 (d.checks.take k)).1=rr:=⟨_,rfl⟩
     rw [hrr] at hrow htk hlen
     obtain ⟨c,hc⟩:∃ c,d.checks[k]=c:=⟨_,rfl⟩
     rw [hc] at hbit htk hstop q1 q2 hq1w
     obtain ⟨nm,ce⟩:=c
     simp only at hbit htk hstop q2
     have HC:=Jh (hbit _ wr ⟨sp,rfl,q2⟩)
     have HTK:=Jh htk
     have HSTOP:=Jh hstop
     have HLN:=Jh hlen
     have HQ1:=Jh q1
     have HQ1w:=Jh hq1w
     have HQT:=Jh q1.tail
     have HROW:=Jh hrow
     have HSZE:=Jh (show szE 0 ce (-1)=_ from by unfold szE;rw [if_neg (by decide)])
     clear hz hrow htk hstop hlen hrr hc hbit q1 q2 hq1w hspe hmem
     go_wp2_with (first | ((with_reducible show Jl 64);refine Jm 64 (HQT.out) agg_E rfl ?_) | (go_at_call 150;refine HC.out.mono ?_;intro r w3 hp3;obtain ⟨cs2,g,rfl,h8,hone,hx3,ho⟩:=hp3.open;clear hp3;refine Hid.out ?_))
     refine Jh ?_
     have hx4:=ext_alloc w3 (.cells cs2.toArray 64)
     have hbb:=Has.alloc w3 cs2 64
     have hs34:w3.heap.size<(w3.alloc (.cells cs2.toArray 64)).heap.size:=by simp
     have hs3':=hx3.size
     go_upto_region 20 with (first | ((with_reducible show Js 64);refine wpList_store_new rfl 64 _ _ rfl rfl (by first | rfl | simp) rfl agg_E (h8) rfl (hone) ?_))
     obtain ⟨Bx,hBx⟩:∃ B,w3.heap.size=B:=⟨_,rfl⟩
     rw [hBx] at hbb ⊢
     generalize w3.alloc _=w4 at *
     have HX34:=Jh (hx3.trans hx4)
     have hbbx:=Jh hbb
     have HX4b:=Jh hx4
     clear hx4 hbb y2
     rcases ho with ⟨rfl,y,hy,hfe⟩ | ⟨hg,hy⟩
     ·have HSY:=Jh (show szE 0 ce (-1)=(y,0) by rw [HSZE.out,hy])
      obtain ⟨s3,hcs,hs3e⟩:=hfe.ve
      subst hcs
      have HONEC:=Jh (show (Chk.cells ⟨nm,y⟩ s3).all (·.oneCell')=true by simp [hs3e.one,one_int,one_string])
      have HFV:=Jh (show FV VCheck wr.heap.size w4 (Chk.cells ⟨nm,y⟩ s3) ⟨nm,y⟩ from fun W hW=>by
       obtain ⟨s9,h9,h10⟩:=(hfe.ext HX4b.out) W hW
       have:s3=s9:=by simpa [E.cells] using h9
       exact ⟨s3,rfl,by rw [this];exact h10⟩)
      have KS5:=Jh (KQ5.out.ext HX34.out)
      have KS1:=Jh (KQ1.out.ext HX34.out)
      have HQ3':=Jh (HQ1.out.ext HX34.out)
      have HROWS:=Jh (HROW.out.since (Since.of_ext HX34.out))
      have HFRS:=Jh (HFR2.out.trans (Fr.of_ext HX34.out))
      have HRLT:=Jh (fun j (hj:vc.ownBlock=some j)=>HROW.out.lt j hj)
      clear hfe hy hs3e
      go_upto_region 22 with fail
      refine wp_region_held_drew (S:=fun W=>Blk W w.heap.size [.slice xs d.signals.length caps,.slice ap d.procs.length capp,.slice (some ⟨bc,oc,Option.none⟩) d.checks.length capc].toArray 26/\Has W bc (oc+k*9) (Chk.cells ⟨nm,ce⟩ sp)/\Has W Bx 0 (y.cells s3)) (by kernel_rfl) ⟨KS1.out.drew,HQ3'.out.drew,hbbx.out.drew⟩ (fun hH=>?_)
      have hsd:w4.drew.heap.size=w4.heap.size:=rfl
      have KSd:=Jh (show Blk w4.drew B5 [.slice xs d.signals.length caps,vv,vc].toArray 26 from KS5.out)
      have HROWd:=Jh (HROWS.out.since (Since.of_ext (Below.drew (Below.refl _ _):Ext w4 w4.drew)))
      have HFRd:=Jh (HFRS.out.trans (Fr.of_ext (Below.drew (Below.refl _ _):Ext w4 w4.drew)))
      have HFVd:=Jh (HFV.out.ext (Below.drew (Below.refl _ _):Ext w4 w4.drew))
      generalize w4.drew=wd at *
      try simp only [J]
      (refine Jt 0 (_) rfl (yif_load1 rfl fun _ _=>rfl) hH ?_;try simp only [J])
      (refine Jt 2 (_) rfl (yif_load1 rfl fun _ _=>rfl) hH ?_;try simp only [J])
      (refine Jt 3 (.slice (some ⟨bc,oc,Option.none⟩) d.checks.length capc) rfl (yif_load1 rfl (by intro W hW;have y7:=hW.1.has 2 _ rfl;rw [Nat.zero_add] at y7;clear hW;go_simp)) hH ?_;try simp only [J])
      (refine Jt 4 (_) rfl (yif_load1 rfl fun _ _=>rfl) hH ?_;try simp only [J])
      (refine Jt 5 (.pointer (some ⟨bc,oc+k*9,Option.none⟩)) rfl (yif_load1 rfl (by intro W hW;clear hW;go_simp;try (intro h;omega))) hH ?_;try simp only [J])
      (refine Jt 6 (.pointer (some ⟨bc,oc+k*9,Option.none⟩)) rfl (yif_load1 rfl (by intro W hW;clear hW;go_simp)) hH ?_;try simp only [J])
      (refine Jt 7 (.string nm) rfl (yif_load1 rfl (by intro W hW;have y7:W.cell? ⟨bc,oc+k*9,Option.none⟩=some (.string nm):=hW.2.1 0 _ rfl;clear hW;go_simp)) hH ?_;try simp only [J])
      (refine Jt 8 (.agg (y.cells s3).toArray) rfl (yif_load rfl 64 _ rfl rfl (fun _ h=>h.2.2) agg_E rfl) hH ?_;try simp only [J])
      (refine Jt 9 (.agg (Chk.cells ⟨nm,y⟩ s3).toArray) rfl (yif_load1 rfl (by intro W hW;clear hW;go_simp)) hH ?_;try simp only [J])
      refine wpAnyH_ready (rs:=[1,10]) (by kernel_rfl) (by simp) ?_
      refine AllReadyH.cons rfl (fun K hK=>?_) (AllReadyH.cons rfl (fun K hK=>?_) AllReadyH.nil)
      ·have zd:wd.cell? ⟨B5,2,Option.none⟩=some vc:=by have:=KSd.out.has 2 _ rfl;simpa using this
       go_simp
       refine hK.out _ _ hH (fun hH=>?_)
       clear hK K zd
       try simp only [J]
       refine Jr 10 rfl fun K hK=>?_
       refine step_bs1 rfl _ _ rfl appCheck rfl (cs:=(Chk.cells ⟨nm,y⟩ s3)) rfl rfl (by decide) ?_
       refine hK.out _ _ ⟨hH.1.ext (ext_alloc _ _),hH.2.1.ext (ext_alloc _ _),hH.2.2.ext (ext_alloc _ _)⟩ (fun hH=>?_)
       clear hK K
       try simp only [J]
       refine Jr 11 rfl fun K hK=>?_
       have hxe:=ext_alloc wd (.cells (Chk.cells ⟨nm,y⟩ s3).toArray 141)
       have hce:=Has.alloc wd (Chk.cells ⟨nm,y⟩ s3) 141
       have hse:wd.heap.size<(wd.alloc (.cells (Chk.cells ⟨nm,y⟩ s3).toArray 141)).heap.size:=by simp
       have hlen1:rr.length+1<=16777216:=by rw [HLN.out];have:=HLC.out;omega
       have hbase1:wo.heap.size<=(wd.alloc (.cells (Chk.cells ⟨nm,y⟩ s3).toArray 141)).heap.size:=by omega
       have hrowe:RowIs VCheck 141 9 wo.heap.size vc rr (wd.alloc (.cells (Chk.cells ⟨nm,y⟩ s3).toArray 141)):=HROWd.out.since (Since.of_ext hxe)
       have hste:StV VCheck wo.heap.size vc.ownBlock (wd.alloc (.cells (Chk.cells ⟨nm,y⟩ s3).toArray 141)) (Chk.cells ⟨nm,y⟩ s3) ⟨nm,y⟩:=(HFVd.out.ext hxe).st (N:=wo.heap.size) (by omega) (fun k hk=>by have:=(HRLT.out k hk).2;omega)
       refine step_app1 (V:=VCheck) rfl _ _ _ rfl appCheck (v:=vc) rfl hrowe (by first | rfl | (rw [<-hsd];rfl)) rfl hce HONEC.out hste hlen1 hbase1 ?_
       intro g7 cap7 w7 hrow7 hg7
       have hR:∀ j,vc.ownBlock=some j->wo.heap.size<=j/\j<wr.heap.size:=fun j hj=>HRLT.out j hj
       have hb7:=(KSd.out.ext hxe).grownO hg7 (fun j hj=>by have:=hR j hj;omega)
       have hfr7:=(HFRd.out.trans (Fr.of_ext hxe)).trans (Fr.of_gb hg7 (fun j hj=>.inr (hR j hj).1))
       have hbx7:=(hH.2.2).grownR hg7 (by intro e;have:=hR _ e;omega)
       refine hK.out _ _ ⟨(hH.1).grownO hg7 (fun j hj=>by have:=hR j hj;omega),HQ1w.out.ext (hfr7.ext HXW.out (by rintro x (h | h)<;>omega)),hbx7⟩ (fun hH=>?_)
       clear hK K
       try simp only [J]
       (refine Jt 12 (_) rfl (yif_load1 rfl fun _ _=>rfl) hH ?_;try simp only [J])
       refine Jr 13 rfl fun K hK=>?_
       have x1:w7.cell? ⟨B5,2,Option.none⟩=some vc:=by have:=hb7.has 2 _ rfl;simpa using this
       have x2:=hb7.frozen 2
       go_simp
       have hg8:=gb_set w7 B5 2 (.slice (some ⟨g7,0,Option.none⟩) (rr.length+1) cap7)
       have hb8:=hb7.set 2 (.slice (some ⟨g7,0,Option.none⟩) (rr.length+1) cap7)
       have hfr8:=hfr7.trans (Fr.of_gb hg8 (fun j hj=>by cases hj;exact .inl rfl))
       refine hK.out _ _ ⟨hH.1.grown hg8 (by omega),HQ1w.out.ext (hfr8.ext HXW.out (by rintro x (h | h)<;>omega)),hH.2.2.grown hg8 (by omega)⟩ (fun hH=>?_)
       clear hK K
       try simp only [J]
       refine Jz ?_
       have HR':=Jh (hrow7.since (Since.of_grown hg8 (by omega)))
       have HB':=Jh hb8
       have HF':=Jh hfr8
       clear x1 x2 hrow7 hb7 hfr7 hb8 hfr8 hg8 hg7 hce hxe hrowe hste hH hbx7
       go_wp2_with fail
       go_roundw
       case rel=>exact ⟨k+1,_,by omega,by go_num,by rw [HTK.out,HSY.out],by rw [HTK.out,HSY.out];exact HR'.out,HB'.out,HF'.out⟩
       case measure=>simp [intOf];omega
      ·refine step_bs1 rfl _ _ rfl appCheck rfl (cs:=(Chk.cells ⟨nm,y⟩ s3)) rfl rfl (by decide) ?_
       refine hK.out _ _ ⟨hH.1.ext (ext_alloc _ _),hH.2.1.ext (ext_alloc _ _),hH.2.2.ext (ext_alloc _ _)⟩ (fun hH=>?_)
       clear hK K
       try simp only [J]
       have zd:(wd.alloc (.cells (Chk.cells ⟨nm,y⟩ s3).toArray 141)).cell? ⟨B5,2,Option.none⟩=some vc:=by have:=(KSd.out.ext (ext_alloc wd (.cells (Chk.cells ⟨nm,y⟩ s3).toArray 141))).has 2 _ rfl;simpa using this
       refine Jr 1 rfl fun K hK=>?_
       go_simp
       refine hK.out _ _ hH (fun hH=>?_)
       clear hK K zd
       try simp only [J]
       refine Jr 11 rfl fun K hK=>?_
       have hxe:=ext_alloc wd (.cells (Chk.cells ⟨nm,y⟩ s3).toArray 141)
       have hce:=Has.alloc wd (Chk.cells ⟨nm,y⟩ s3) 141
       have hse:wd.heap.size<(wd.alloc (.cells (Chk.cells ⟨nm,y⟩ s3).toArray 141)).heap.size:=by simp
       have hlen1:rr.length+1<=16777216:=by rw [HLN.out];have:=HLC.out;omega
       have hbase1:wo.heap.size<=(wd.alloc (.cells (Chk.cells ⟨nm,y⟩ s3).toArray 141)).heap.size:=by omega
       have hrowe:RowIs VCheck 141 9 wo.heap.size vc rr (wd.alloc (.cells (Chk.cells ⟨nm,y⟩ s3).toArray 141)):=HROWd.out.since (Since.of_ext hxe)
       have hste:StV VCheck wo.heap.size vc.ownBlock (wd.alloc (.cells (Chk.cells ⟨nm,y⟩ s3).toArray 141)) (Chk.cells ⟨nm,y⟩ s3) ⟨nm,y⟩:=(HFVd.out.ext hxe).st (N:=wo.heap.size) (by omega) (fun k hk=>by have:=(HRLT.out k hk).2;omega)
       refine step_app1 (V:=VCheck) rfl _ _ _ rfl appCheck (v:=vc) rfl hrowe (by first | rfl | (rw [<-hsd];rfl)) rfl hce HONEC.out hste hlen1 hbase1 ?_
       intro g7 cap7 w7 hrow7 hg7
       have hR:∀ j,vc.ownBlock=some j->wo.heap.size<=j/\j<wr.heap.size:=fun j hj=>HRLT.out j hj
       have hb7:=(KSd.out.ext hxe).grownO hg7 (fun j hj=>by have:=hR j hj;omega)
       have hfr7:=(HFRd.out.trans (Fr.of_ext hxe)).trans (Fr.of_gb hg7 (fun j hj=>.inr (hR j hj).1))
       have hbx7:=(hH.2.2).grownR hg7 (by intro e;have:=hR _ e;omega)
       refine hK.out _ _ ⟨(hH.1).grownO hg7 (fun j hj=>by have:=hR j hj;omega),HQ1w.out.ext (hfr7.ext HXW.out (by rintro x (h | h)<;>omega)),hbx7⟩ (fun hH=>?_)
       clear hK K
       try simp only [J]
       (refine Jt 12 (_) rfl (yif_load1 rfl fun _ _=>rfl) hH ?_;try simp only [J])
       refine Jr 13 rfl fun K hK=>?_
       have x1:w7.cell? ⟨B5,2,Option.none⟩=some vc:=by have:=hb7.has 2 _ rfl;simpa using this
       have x2:=hb7.frozen 2
       go_simp
       have hg8:=gb_set w7 B5 2 (.slice (some ⟨g7,0,Option.none⟩) (rr.length+1) cap7)
       have hb8:=hb7.set 2 (.slice (some ⟨g7,0,Option.none⟩) (rr.length+1) cap7)
       have hfr8:=hfr7.trans (Fr.of_gb hg8 (fun j hj=>by cases hj;exact .inl rfl))
       refine hK.out _ _ ⟨hH.1.grown hg8 (by omega),HQ1w.out.ext (hfr8.ext HXW.out (by rintro x (h | h)<;>omega)),hH.2.2.grown hg8 (by omega)⟩ (fun hH=>?_)
       clear hK K
       try simp only [J]
       refine Jz ?_
       have HR':=Jh (hrow7.since (Since.of_grown hg8 (by omega)))
       have HB':=Jh hb8
       have HF':=Jh hfr8
       clear x1 x2 hrow7 hb7 hfr7 hb8 hfr8 hg8 hg7 hce hxe hrowe hste hH hbx7
       go_wp2_with fail
       go_roundw
       case rel=>exact ⟨k+1,_,by omega,by go_num,by rw [HTK.out,HSY.out],by rw [HTK.out,HSY.out];exact HR'.out,HB'.out,HF'.out⟩
       case measure=>simp [intOf];omega
     ·have g1:(g != 0)=true:=by rw [bne_iff_ne];omega
      have HE:=Jh (show sizeD d=.error g by
       have hsy:szE 0 ce (-1)=(zE,g):=by rw [HSZE.out,hy]
       have h1:=HSTOP.out (by rw [hsy];show g≠0;omega)
       rw [hsy] at h1
       have h2:(szCs 0 d.checks).2=g:=h1
       rw [HSD2.out,h2,if_pos (by omega)])
      have KK:=Blk.ext KQ4.out HX34.out
      clear hy
      go_wp2_with (first | ((with_reducible show Jl 26);refine Jm 26 (KK.has) agg_Flat rfl ?_) | ((with_reducible show Js 26);have hk2:=Blk.ext KQ2.out HX34.out;refine wpList_store_blk rfl 26 _ _ rfl hk2 rfl (cs:=zero3) rfl agg_Flat rfl rfl rfl ?_;intro w9 hb9 hg9) | ((with_reducible show bodyPost _ _ _ _ _ _);refine Hid.out ?_))
      refine Jh ?_
      refine post_ret_blk2 rfl rfl rfl hb9.has agg_Flat rfl rfl (.inl ⟨g,HE.out,by omega,rfl,(HXQ.out.trans HX34.out).grown hg9 (by omega)⟩)
    ·obtain rfl:k=d.checks.length:=by omega
     rw [List.take_length] at hrow hz
     have HE:=Jh (show sizeD d=.ok ⟨d.signals,(szPs d.signals 0 d.procs).1,(szCs 0 d.checks).1⟩ by rw [HSD2.out,hz,if_neg (by simp)])
     have HROW:=Jh hrow
     have HONE9:=Jh (show [.slice xs d.signals.length caps,vv,vc].all (·.oneCell')=true by simp [HRP.out.one,hrow.one];rfl)
     have HSW:=Jh (HFR2.out.since (N:=wA.heap.size) (by rintro x h1 h2 (h | h)<;>omega))
     clear hz hrow
     go_wp2_with (first | ((with_reducible show Jl 26);refine Jm 26 (KQ5.out.has) agg_Flat rfl ?_) | ((with_reducible show Js 26);have hk2:=KQ2.out;refine wpList_store_blk rfl 26 _ _ rfl hk2 rfl (cs:=[.slice xs d.signals.length caps,vv,vc]) rfl agg_Flat rfl rfl HONE9.out ?_;intro w9 hb9 hg9) | ((with_reducible show bodyPost _ _ _ _ _ _);refine Hid.out ?_))
     refine Jh ?_
     have hxf:=HXQ.out.grown hg9 (by omega)
     refine post_ret_blk2 rfl rfl rfl hb9.has agg_Flat rfl rfl (.inr ⟨_,_,_,_,HE.out,rfl,⟨_,_,_,rfl,HSV.out.ext hxf,?_,?_⟩,hxf⟩)
     ·exact HRP.out.sl (V:=VProc) (At:=ProcAt) (fun _ _ _ _ _ h hv=>VProc.at h hv) (HSW.out.trans (Since.of_grown hg9 (by omega)))
     ·exact HROW.out.sl (V:=VCheck) (At:=ChkAt) (fun _ _ _ _ _ h hv=>VCheck.at h hv) (Since.of_grown hg9 (by omega))
end Go.Proofs.YtaipaccpaljecaaGreat
