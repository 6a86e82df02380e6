/- Laws and walks that a claim of this seat leans on: LintRest, Lift, LiftE. -/
import Derived.Test.YtpdpgmfnfajbfaaGreatL26
import Derived.Test.YtpdpgmfnfajbfaaGreatLLive3
import Derived.Test.YtpdpgmfnfajbfaaGreatRows
import Derived.Test.YtpdpgmfnfajbfaaGreatL13
import Derived.WalkKit
import Derived.ProofKit
import Derived.OpenShut
import Derived.JoinedCond
import Derived.Test.YtpdpgmfnfajbfaaGreatL21
import Derived.Test.YtpdpgmfnfajbfaaGreatL00
set_option maxRecDepth 100000
set_option maxHeartbeats 8000000
set_option linter.all false
namespace Go.Proofs.YtpdpgmfnfajbfaaGreat
open Go.RowKit
theorem look_err {d:Flat} (h:(lookM d).1≠0):(lookM d).2.2=[]:=by
 unfold lookM at h ⊢
 split
 ·rfl
 ·split
  ·rfl
  ·split
   ·rfl
   ·split
    ·rfl
    ·exfalso;rename_i h1 h2 h3 h4;simp [h1,h2,h3,h4] at h
theorem look_i64 {d:Flat} (hok:d.ok):∀ p∈(lookM d).2.2,i64r p:=by
 intro p hp
 by_cases h:(lookM d).1=0
 ·obtain ⟨-,by',-,H,-⟩:=ord_of hok h
  obtain ⟨i,hi,rfl⟩:=List.getElem_of_mem hp
  have h1:=(H.inr i _ (List.getElem?_eq_getElem hi)).1
  have h2:=hok.procs
  have:=h1.1
  have:=h1.2
  unfold i64r
  omega
 ·rw [look_err h] at hp;cases hp
theorem LintRest_calls (d:Flat) (v:Value) (vs:List Nat) (s:Value) (w:World) (hF:FlatV w v d) (hok:d.ok) (hs:Us w s vs) (h64s:us64 vs) (hls:vs.length+1<=1048576) :
  Calls Tryz.prog 5 #[v,s] w fun r w'=>r=.returned (.bool true)/\Ext w w':=by
 have HF:=Jh (fun W (h:Ext w W)=>hF.ext h)
 have HFW:=Jh (fun W (h:Ext w W)=>few12_calls d v W (hF.ext h) hok.nodes)
 have HOC:=Jh (fun W (h:Ext w W)=>Order_calls d v W (hF.ext h) hok)
 have HBC:=Jh (fun W (h:Ext w W)=>Bits_calls d v W (hF.ext h) hok)
 have HUS:=Jh (fun W (h:Ext w W)=>hs.ext h)
 have HDC:=Jh (fun W (h:Ext w W) ov (ho:Ints W ov (lookM d).2.2)=>done12_calls d v vs s _ ov W (hF.ext h) hok (HUS.out W h) h64s ho (look_i64 hok))
 have HOK:=Jh hok
 have H64:=Jh h64s
 have HLI:=Jh (look_i64 hok)
 have HCZ:=Jh (fun h=>(ord_of hok (d:=d) h).1)
 have HLR:=Jh (fun (h:(lookM d).1=0) (h':(doneM d (lookM d).2.2 vs).2=true)=>lint_rest hok h h')
 obtain ⟨sv,pv,cv,rfl,hS,hP,hC⟩:=hF
 obtain ⟨ss,sb,so,sc,rfl,hp1,hp2,hsa,hsr⟩:=hS.open
 have HSA:=Jh hsa
 have HSR:=Jh hsr
 obtain ⟨av,bv,ov,capv,rfl,-,-,hva,hvr⟩:=hs.open
 have HVA:=Jh hva
 have HVR:=Jh hvr
 have x1:=ext_alloc w (.cells [.slice ss d.signals.length sc,pv,cv].toArray 26)
 have hD:=Blk.new w [.slice ss d.signals.length sc,pv,cv].toArray 26
 clear hS hP hC hok hs h64s hsa hsr hva hvr
 go_enter Tryz.func5,Tryz.ntmps5
 go_upto_region 1 with fail
 generalize w.alloc _=w0 at *
 have HX0:=Jh x1
 have HD0:=Jh hD
 clear x1 hD
 go_upto_region 2 with (go_at_call 16;refine (live_calls _).mono ?_;rintro r w1 ⟨rfl,hx1⟩)
 have HD:=Jh (HD0.out.ext hx1)
 have HX:=Jh (HX0.out.trans hx1)
 clear hx1 HD0 HX0
 have d1:=HD.out.has
 obtain ⟨fw,hfw⟩:∃ fw,few12 d=fw:=⟨_,rfl⟩
 rw [hfw] at HFW
 clear hfw
 cases fw
 ·go_wp2_with (first | ((with_reducible show Jl 26);refine Jm 26 (d1) agg_Flat rfl ?_) | (go_at_call 17;refine (HFW.out w1 HX.out).mono ?_;rintro r w2 ⟨rfl,hx2⟩))
  go_ret
  exact ⟨rfl,HX.out.trans hx2⟩
 by_cases hl:(50:Int)<(vs.length:Int)
 ·have bl:decide ((50:Int)<(vs.length:Int))=true:=decide_eq_true hl
  clear hl
  go_wp2_with (first | ((with_reducible show Jl 26);refine Jm 26 (d1) agg_Flat rfl ?_) | (go_at_call 17;refine (HFW.out w1 HX.out).mono ?_;rintro r w2 ⟨rfl,hx2⟩))
  go_ret
  exact ⟨rfl,HX.out.trans hx2⟩
 have bl:decide ((50:Int)<(vs.length:Int))=false:=decide_eq_false hl
 go_upto_region 4 with (first | ((with_reducible show Jl 26);refine Jm 26 (d1) agg_Flat rfl ?_) | (go_at_call 17;refine (HFW.out w1 HX.out).mono ?_;rintro r w2 ⟨rfl,hx2⟩))
 have HD2:=Jh (HD.out.ext hx2)
 have HX2:=Jh (HX.out.trans hx2)
 clear hx2 d1 HD HX HFW
 have d2:=HD2.out.has
 obtain ⟨eO,heO⟩:∃ e,(lookM d).1=e:=⟨_,rfl⟩
 obtain ⟨oO,hoO⟩:∃ e,(lookM d).2.2=e:=⟨_,rfl⟩
 rw [heO] at HOC HLR HCZ
 rw [hoO] at HOC HDC HLR HLI
 obtain ⟨eB,heB⟩:∃ e:Int,(if checkM d=0 then 0 else 1)=e:=⟨_,rfl⟩
 rw [heB] at HBC
 have HEB:=Jh heB
 obtain ⟨oB,hoB⟩:∃ e:List Int,(if checkM d=0 then offsM d.signals d.signals.length else [])=e:=⟨_,rfl⟩
 rw [hoB] at HBC
 obtain ⟨xs,hxs⟩:∃ e,(doneM d oO vs).1=e:=⟨_,rfl⟩
 obtain ⟨ok,hok⟩:∃ e,(doneM d oO vs).2=e:=⟨_,rfl⟩
 rw [hxs,hok] at HDC HLR
 clear heO hoO heB hoB hxs hok
 go_upto_region 5 with (first | ((with_reducible show Jl 26);refine Jm 26 (d2) agg_Flat rfl ?_) | (go_at_call 30;refine (HOC.out w2 HX2.out).mono ?_;rintro r w3 ⟨uo,rfl,hr3,hx3⟩))
 obtain ⟨oa,ob,oo,oc,rfl,hoc1,hoc2,hoa,hor⟩:=hr3.cells.open
 have HO3:=Jh hr3.cells
 have HOA:=Jh hoa
 have HOR:=Jh hor
 have HX3:=Jh (HX2.out.trans hx3)
 have HD3:=Jh (HD2.out.ext hx3)
 have d3:=HD3.out.has
 clear hr3 hx3 d2 HOC HD2
 go_upto_region 6 with (first | ((with_reducible show Jl 26);refine Jm 26 (d3) agg_Flat rfl ?_) | (go_at_call 20;refine (HBC.out w3 HX3.out).mono ?_;rintro r w4 ⟨ub,rfl,hr4,hx4⟩))
 have HO4:=Jh (Ints.ext HO3.out hx4)
 have HX4:=Jh (HX3.out.trans hx4)
 have HD4:=Jh (HD3.out.ext hx4)
 have d4:=HD4.out.has
 have h4o:=hr4.cells.one
 have HX34:=Jh hx4
 clear hr4 hx4 d3 HBC HD3 HO3
 go_upto_region 7 with (first | ((with_reducible show Jl 26);refine Jm 26 (d4) agg_Flat rfl ?_) | (go_at_call 31;refine (HDC.out w4 HX4.out _ HO4.out).mono ?_;rintro r w5 ⟨ux,rfl,hr5,hx5⟩))
 obtain ⟨xa,xb,xo,xc,rfl,hxc1,hxc2,hxa,hxr⟩:=hr5.open
 have HU5:=Jh hr5
 have HO5:=Jh (Ints.ext HO4.out hx5)
 have HX5:=Jh (HX4.out.trans hx5)
 have HD5:=Jh (HD4.out.ext hx5)
 have HX35:=Jh (HX34.out.trans hx5)
 have HXA:=Jh hxa
 have HXR5:=Jh hxr
 clear hr5 hx5 d4 HDC HD4 HO4 hoa hor hxa hxr HX34
 by_cases hzo:eO=0
 case neg =>
  have b0:(eO != 0)=true:=by rw [bne_iff_ne];exact hzo
  clear hzo
  go_wp2_with fail
  go_ret
  exact ⟨rfl,HX5.out⟩
 subst hzo
 obtain rfl:eB=0:=by have:=HEB.out;rw [if_pos (HCZ.out rfl)] at this;exact this.symm
 cases ok
 ·go_wp2_with fail
  go_ret
  exact ⟨rfl,HX5.out⟩
 obtain ⟨hr1,hr2⟩:=HLR.out rfl rfl
 have HR1:=Jh hr1
 have HR2:=Jh hr2
 clear hr1 hr2 HLR HEB HCZ
 go_wp2_with fail
 go_loopw [12] (fun i wr=>∃ k:Nat,k<=oO.length/\i=.int .i64 k/\Ext w5 wr) (fun i _=>oO.length-(intOf i).toNat)
 case atStart=>exact ⟨0,Nat.zero_le _,rfl,Below.refl _ _⟩
 case round =>
  obtain ⟨k,hk,rfl,hxr⟩:=hrel
  have HXR:=Jh hxr
  by_cases hlt:k<oO.length
  ·obtain rfl:=HOA.out (by omega)
   have HCO:=Jh (fun W (h:Ext w3 W)=>Ints.cell (k:=k) (HOR.out.mono fun x _ b o hh=>Has.ext hh h) hlt)
   have hr:=HR1.out _ (List.getElem_mem hlt)
   obtain ⟨m1,-,-,hv⟩:=runM_ok HOK.out (show (runM d xs oO[k]).2=0 by rw [hr])
   rw [hr] at hv
   have h6:=val2_us64 (fun x hx=>(checkM_w (valsOk_ck m1).2.1 x hx).2) hv
   have hxl:xs.length<=1099511627776:=by
    have h1:xs.length=d.signals.length:=hv.1
    have h2:=HOK.out.signals
    omega
   have HRN:=Jh (fun W (h:Ext w W) (hx:Ext w5 W)=>Run_calls d _ xs _ oO[k] W (HF.out W h) HOK.out (HU5.out.ext hx) h6 (HLI.out _ (List.getElem_mem hlt)))
   rw [hr] at HRN
   clear m1 hv hr h6
   generalize oO[k]=x at *
   go_upto_region 12 with fail
   refine Jg wr fun hH=>?_
   try simp only [J]
   (refine Jt 0 (.agg [.slice ss d.signals.length sc,pv,cv].toArray) rfl (yif_load rfl 26 _ rfl rfl (fun W hW=>(HD5.out.ext (HXR.out.trans hW)).has) agg_Flat rfl) hH ?_;try simp only [J])
   (refine Jt 1 (.slice xa xs.length xc) rfl (yif_load1 rfl fun _ _=>rfl) hH ?_;try simp only [J])
   (refine Jt 2 (.slice (some ⟨ob,oo,none⟩) oO.length oc) rfl (yif_load1 rfl fun _ _=>rfl) hH ?_;try simp only [J])
   (refine Jt 3 (.int .i64 (k:Int)) rfl (yif_load1 rfl fun _ _=>rfl) hH ?_;try simp only [J])
   (refine Jt 4 (.pointer (some ⟨ob,oo+k,none⟩)) rfl (yif_load1 rfl (by intro W hW;clear hW;go_simp;try (intro h;omega))) hH ?_;try simp only [J])
   (refine Jt 5 (.int .i64 x) rfl (yif_load1 rfl (by intro W hW;have y:=HCO.out W (HX35.out.trans (HXR.out.trans hW));clear hW;go_simp)) hH ?_;try simp only [J])
   (refine Jr 6 rfl fun K hK=>?_)
   go_simp
   refine (HRN.out _ (HX5.out.trans (HXR.out.trans hH)) (HXR.out.trans hH)).mono ?_
   rintro r w6 ⟨u6,rfl,hr6,hx6⟩
   obtain ⟨ua,uc,rfl,-⟩:=hr6.open
   have HU6:=Jh hr6.cells
   refine hK.out _ _ (hH.trans hx6) (fun hH=>?_)
   clear hK K hx6 hr6
   try simp only [J]
   (refine Jt 7 (.tuple #[.slice ua xs.length uc,.int .i64 0]) rfl (yif_load1 rfl fun _ _=>rfl) hH ?_;try simp only [J])
   (refine Jt 8 (.slice ua xs.length uc) rfl (yif_load1 rfl (by intro W hW;clear hW;go_simp)) hH ?_;try simp only [J])
   (refine Jt 9 (.int .i64 0) rfl (yif_load1 rfl (by intro W hW;clear hW;go_simp)) hH ?_;try simp only [J])
   (refine Jt 10 (.slice ua xs.length uc) rfl (yif_load1 rfl fun _ _=>rfl) hH ?_;try simp only [J])
   (refine Jt 11 (.int .i64 0) rfl (yif_load1 rfl fun _ _=>rfl) hH ?_;try simp only [J])
   refine Jz ?_
   have HXN:=Jh (HXR.out.trans hH)
   have HWC:=Jh (Words_calls12 xs xs _ _ _ HU6.out (HU5.out.ext HXN.out) hxl)
   rw [decide_eq_true (rfl:xs=xs)] at HWC
   clear hH
   go_wp2_with (go_at_call 32;refine HWC.out.mono ?_;rintro r w7 ⟨rfl,hx7⟩)
   go_roundw
   case rel=>exact ⟨k+1,hlt,by go_num,HXN.out.trans hx7⟩
   case measure=>simp [intOf];omega
  ·obtain rfl:k=oO.length:=by omega
   by_cases hz:oO.length=0
   ·have bz:decide ((0:Int)<(oO.length:Int))=false:=decide_eq_false (by omega)
    go_wp2_with fail
    generalize wr=wm at *
    go_loopw [15] (fun i wq=>i=.int .i64 0/\Ext wm wq) (fun _ _=>0)
    case atStart=>exact ⟨rfl,Below.refl _ _⟩
    case round =>
     obtain ⟨rfl,hxq⟩:=hrel
     have HXQ:=Jh hxq
     have e0:=(HD5.out.ext (HXR.out.trans hxq)).has 0 _ rfl
     clear hxq
     by_cases hs0:(0:Int)<(d.signals.length:Int)
     ·have bs:decide ((0:Int)<(d.signals.length:Int))=true:=decide_eq_true hs0
      clear hs0
      go_wp2_with fail
      all_goals (go_ret;exact ⟨rfl,HX5.out.trans (HXR.out.trans HXQ.out)⟩)
     ·have bs:decide ((0:Int)<(d.signals.length:Int))=false:=decide_eq_false hs0
      clear hs0
      go_wp2_with fail
      all_goals (go_ret;exact ⟨rfl,HX5.out.trans (HXR.out.trans HXQ.out)⟩)
   ·have bz:decide ((0:Int)<(oO.length:Int))=true:=decide_eq_true (by omega)
    obtain ⟨l1,l2,l3⟩:=HR2.out (by intro h;rw [h] at hz;exact hz rfl)
    have HL1:=Jh l1
    have HL2:=Jh l2
    have HL3:=Jh l3
    have b1:((xs.length:Int) != (d.signals.length:Int))=false:=by rw [bne_eq_false_iff_eq,l1]
    have b2:((vs.length:Int) != (d.signals.length:Int))=false:=by rw [bne_eq_false_iff_eq,l2]
    have e5:=(HD5.out.ext HXR.out).has 0 _ rfl
    clear l1 l2 l3
    go_wp2_with fail
    clear b1 b2 e5 hz
    generalize wr=wm at *
    go_loopw [15] (fun i wq=>∃ k:Nat,k<=d.signals.length/\i=.int .i64 k/\Ext wm wq) (fun i _=>d.signals.length-(intOf i).toNat)
    case atStart=>exact ⟨0,Nat.zero_le _,rfl,Below.refl _ _⟩
    case round =>
     obtain ⟨k,hk2,rfl,hxq⟩:=hrel
     have HXQ:=Jh hxq
     have e0:=(HD5.out.ext (HXR.out.trans hxq)).has 0 _ rfl
     clear hxq
     by_cases hlt2:k<d.signals.length
     ·obtain rfl:=HSA.out (by omega)
      have y:=(Sigs.get (HSR.out.mono fun x _ b o h=>Has.ext h (HX5.out.trans (HXR.out.trans HXQ.out))) hlt2) 2 _ rfl
      have hkd:kindOf d.signals (k:Int)=d.signals[k].kind:=by unfold kindOf;rw [Int.toNat_natCast,List.getElem?_eq_getElem hlt2]
      have HKK:=Jh (HL3.out k hlt2)
      rw [hkd] at HKK
      generalize d.signals[k].kind=kd at *
      clear hkd
      by_cases h1:kd=1
      ·subst h1
       have hkk:=HKK.out (.inl rfl)
       have hk3:k<xs.length:=by rw [HL1.out];exact hlt2
       have hk4:k<vs.length:=by rw [HL2.out];exact hlt2
       obtain rfl:=HXA.out (by omega)
       obtain rfl:=HVA.out (by omega)
       have HZ:=Jh (fun W (hx:Ext wr W)=>Us.get (k:=k) (HXR5.out.mono fun x _ b o h=>Has.ext h (HXR.out.trans (HXQ.out.trans hx))) (by omega))
       have HZ2:=Jh (fun W (hx:Ext wr W)=>Us.get (k:=k) (HVR.out.mono fun x _ b o h=>Has.ext h (HX5.out.trans (HXR.out.trans (HXQ.out.trans hx)))) (by omega))
       have hxv:xs[k]'(by omega)=vs[k]'(by omega):=by
        have:=hkk
        rw [List.getD_eq_getElem?_getD,List.getD_eq_getElem?_getD,List.getElem?_eq_getElem (by omega),List.getElem?_eq_getElem (by omega)] at this
        exact this
       rw [hxv] at HZ
       generalize vs[k]'_=x at *
       clear hxv hkk
       go_upto_region 21 with fail
       refine Jg wr fun hH=>?_
       try simp only [J]
       (refine Jt 0 (.int .i64 1) rfl (yif_load1 rfl fun _ _=>rfl) hH ?_;try simp only [J])
       (refine Jt 1 (.bool true) rfl (yif_load1 rfl (by intro W hW;clear hW;go_simp)) hH ?_;try simp only [J])
       (refine Jt 2 (.bool true) rfl (yif_load1 rfl fun _ _=>rfl) hH ?_;try simp only [J])
       (refine Jt 3 (undef) rfl (Or.inr ⟨rfl,rfl⟩) hH ?_;try simp only [J])
       (refine Jt 4 (undef) rfl (Or.inr ⟨rfl,rfl⟩) hH ?_;try simp only [J])
       (refine Jt 5 (.bool true) rfl (yif_load1 rfl (by intro W hW;clear hW;go_simp)) hH ?_;try simp only [J])
       (refine Jt 6 (.bool true) rfl (yif_load1 rfl fun _ _=>rfl) hH ?_;try simp only [J])
       (refine Jt 7 (.slice (some ⟨xb,xo,none⟩) xs.length xc) rfl (yif_load1 rfl fun _ _=>rfl) hH ?_;try simp only [J])
       (refine Jt 8 (.int .i64 (k:Int)) rfl (yif_load1 rfl fun _ _=>rfl) hH ?_;try simp only [J])
       (refine Jt 9 (.pointer (some ⟨xb,xo+k,none⟩)) rfl (yif_load1 rfl (by intro W hW;clear hW;go_simp;try (intro h;omega))) hH ?_;try simp only [J])
       (refine Jt 10 (W64 x) rfl (yif_load1 rfl (by intro W hW;have y:=HZ.out W hW;clear hW;go_simp)) hH ?_;try simp only [J])
       (refine Jt 11 (.slice (some ⟨bv,ov,none⟩) vs.length capv) rfl (yif_load1 rfl fun _ _=>rfl) hH ?_;try simp only [J])
       (refine Jt 12 (.int .i64 (k:Int)) rfl (yif_load1 rfl fun _ _=>rfl) hH ?_;try simp only [J])
       (refine Jt 13 (.pointer (some ⟨bv,ov+k,none⟩)) rfl (yif_load1 rfl (by intro W hW;clear hW;go_simp;try (intro h;omega))) hH ?_;try simp only [J])
       (refine Jt 14 (W64 x) rfl (yif_load1 rfl (by intro W hW;have y:=HZ2.out W hW;clear hW;go_simp)) hH ?_;try simp only [J])
       (refine Jt 15 (.bool false) rfl (yif_load1 rfl (by intro W hW;clear hW;go_simp)) hH ?_;try simp only [J])
       (refine Jt 16 (.bool false) rfl (yif_load1 rfl (by intro W hW;clear hW;go_simp)) hH ?_;try simp only [J])
       refine Jz ?_
       have HXN:=Jh (HXQ.out.trans hH)
       clear hH
       go_wp2_with fail
       go_roundw
       case rel=>exact ⟨k+1,hlt2,by go_num,HXN.out⟩
       case measure=>simp [intOf];omega
      by_cases h4:kd=4
      ·subst h4
       have hkk:=HKK.out (.inr rfl)
       have hk3:k<xs.length:=by rw [HL1.out];exact hlt2
       have hk4:k<vs.length:=by rw [HL2.out];exact hlt2
       obtain rfl:=HXA.out (by omega)
       obtain rfl:=HVA.out (by omega)
       have HZ:=Jh (fun W (hx:Ext wr W)=>Us.get (k:=k) (HXR5.out.mono fun x _ b o h=>Has.ext h (HXR.out.trans (HXQ.out.trans hx))) (by omega))
       have HZ2:=Jh (fun W (hx:Ext wr W)=>Us.get (k:=k) (HVR.out.mono fun x _ b o h=>Has.ext h (HX5.out.trans (HXR.out.trans (HXQ.out.trans hx)))) (by omega))
       have hxv:xs[k]'(by omega)=vs[k]'(by omega):=by
        have:=hkk
        rw [List.getD_eq_getElem?_getD,List.getD_eq_getElem?_getD,List.getElem?_eq_getElem (by omega),List.getElem?_eq_getElem (by omega)] at this
        exact this
       rw [hxv] at HZ
       generalize vs[k]'_=x at *
       clear hxv hkk
       go_upto_region 21 with fail
       refine Jg wr fun hH=>?_
       try simp only [J]
       (refine Jt 0 (.int .i64 4) rfl (yif_load1 rfl fun _ _=>rfl) hH ?_;try simp only [J])
       (refine Jt 1 (.bool false) rfl (yif_load1 rfl (by intro W hW;clear hW;go_simp)) hH ?_;try simp only [J])
       (refine Jt 2 (.bool false) rfl (yif_load1 rfl fun _ _=>rfl) hH ?_;try simp only [J])
       (refine Jt 3 (.int .i64 4) rfl (yif_load1 rfl fun _ _=>rfl) hH ?_;try simp only [J])
       (refine Jt 4 (.bool true) rfl (yif_load1 rfl (by intro W hW;clear hW;go_simp)) hH ?_;try simp only [J])
       (refine Jt 5 (.bool true) rfl (yif_load1 rfl (by intro W hW;clear hW;go_simp)) hH ?_;try simp only [J])
       (refine Jt 6 (.bool true) rfl (yif_load1 rfl fun _ _=>rfl) hH ?_;try simp only [J])
       (refine Jt 7 (.slice (some ⟨xb,xo,none⟩) xs.length xc) rfl (yif_load1 rfl fun _ _=>rfl) hH ?_;try simp only [J])
       (refine Jt 8 (.int .i64 (k:Int)) rfl (yif_load1 rfl fun _ _=>rfl) hH ?_;try simp only [J])
       (refine Jt 9 (.pointer (some ⟨xb,xo+k,none⟩)) rfl (yif_load1 rfl (by intro W hW;clear hW;go_simp;try (intro h;omega))) hH ?_;try simp only [J])
       (refine Jt 10 (W64 x) rfl (yif_load1 rfl (by intro W hW;have y:=HZ.out W hW;clear hW;go_simp)) hH ?_;try simp only [J])
       (refine Jt 11 (.slice (some ⟨bv,ov,none⟩) vs.length capv) rfl (yif_load1 rfl fun _ _=>rfl) hH ?_;try simp only [J])
       (refine Jt 12 (.int .i64 (k:Int)) rfl (yif_load1 rfl fun _ _=>rfl) hH ?_;try simp only [J])
       (refine Jt 13 (.pointer (some ⟨bv,ov+k,none⟩)) rfl (yif_load1 rfl (by intro W hW;clear hW;go_simp;try (intro h;omega))) hH ?_;try simp only [J])
       (refine Jt 14 (W64 x) rfl (yif_load1 rfl (by intro W hW;have y:=HZ2.out W hW;clear hW;go_simp)) hH ?_;try simp only [J])
       (refine Jt 15 (.bool false) rfl (yif_load1 rfl (by intro W hW;clear hW;go_simp)) hH ?_;try simp only [J])
       (refine Jt 16 (.bool false) rfl (yif_load1 rfl (by intro W hW;clear hW;go_simp)) hH ?_;try simp only [J])
       refine Jz ?_
       have HXN:=Jh (HXQ.out.trans hH)
       clear hH
       go_wp2_with fail
       go_roundw
       case rel=>exact ⟨k+1,hlt2,by go_num,HXN.out⟩
       case measure=>simp [intOf];omega
      have HN1:=Jh h1
      have HN4:=Jh h4
      clear h1 h4
      go_upto_region 21 with fail
      refine Jg wr fun hH=>?_
      try simp only [J]
      (refine Jt 0 (.int .i64 kd) rfl (yif_load1 rfl fun _ _=>rfl) hH ?_;try simp only [J])
      (refine Jt 1 (.bool false) rfl (yif_load1 rfl (by intro W hW;clear hW;go_simp;try (first | exact HN1.out | exact HN4.out))) hH ?_;try simp only [J])
      (refine Jt 2 (.bool false) rfl (yif_load1 rfl fun _ _=>rfl) hH ?_;try simp only [J])
      (refine Jt 3 (.int .i64 kd) rfl (yif_load1 rfl fun _ _=>rfl) hH ?_;try simp only [J])
      (refine Jt 4 (.bool false) rfl (yif_load1 rfl (by intro W hW;clear hW;go_simp;try (first | exact HN1.out | exact HN4.out))) hH ?_;try simp only [J])
      (refine Jt 5 (.bool false) rfl (yif_load1 rfl (by intro W hW;clear hW;go_simp;try (first | exact HN1.out | exact HN4.out))) hH ?_;try simp only [J])
      (refine Jt 6 (.bool false) rfl (yif_load1 rfl fun _ _=>rfl) hH ?_;try simp only [J])
      (refine Jt 7 (undef) rfl (Or.inr ⟨rfl,rfl⟩) hH ?_;try simp only [J])
      (refine Jt 8 (undef) rfl (Or.inr ⟨rfl,rfl⟩) hH ?_;try simp only [J])
      (refine Jt 9 (undef) rfl (Or.inr ⟨rfl,rfl⟩) hH ?_;try simp only [J])
      (refine Jt 10 (undef) rfl (Or.inr ⟨rfl,rfl⟩) hH ?_;try simp only [J])
      (refine Jt 11 (undef) rfl (Or.inr ⟨rfl,rfl⟩) hH ?_;try simp only [J])
      (refine Jt 12 (undef) rfl (Or.inr ⟨rfl,rfl⟩) hH ?_;try simp only [J])
      (refine Jt 13 (undef) rfl (Or.inr ⟨rfl,rfl⟩) hH ?_;try simp only [J])
      (refine Jt 14 (undef) rfl (Or.inr ⟨rfl,rfl⟩) hH ?_;try simp only [J])
      (refine Jt 15 (undef) rfl (Or.inr ⟨rfl,rfl⟩) hH ?_;try simp only [J])
      (refine Jt 16 (.bool false) rfl (yif_load1 rfl (by intro W hW;clear hW;go_simp;try (first | exact HN1.out | exact HN4.out))) hH ?_;try simp only [J])
      refine Jz ?_
      have HXN:=Jh (HXQ.out.trans hH)
      clear hH
      go_wp2_with fail
      go_roundw
      case rel=>exact ⟨k+1,hlt2,by go_num,HXN.out⟩
      case measure=>simp [intOf];omega
     ·obtain rfl:k=d.signals.length:=by omega
      go_wp2_with fail
      go_ret
      exact ⟨rfl,HX5.out.trans (HXR.out.trans HXQ.out)⟩
/-! ### from what is read to a design -/
section
variable {H:Type} {enc:TypeId × Value->H} {w:World}
theorem bulk_part {d:DataW H} {l:List (DataW H)} (h:d∈l):Rows.uptoBulk d<=Rows.uptoBulkAll l:=by
 induction l with
 | nil=>cases h
 | cons x r ih =>
  simp only [Rows.uptoBulkAll]
  rcases List.mem_cons.1 h with e | e
  ·subst e;omega
  ·have:=ih e;omega
theorem bulk_one (d:DataW H):1<=Rows.uptoBulk d:=by
 cases d with
 | lit l=>cases l<;>simp [Rows.uptoBulk]
 | nil=>simp [Rows.uptoBulk]
 | ptr d=>simp [Rows.uptoBulk]
 | slice elems spare=>simp [Rows.uptoBulk]
 | agg parts=>simp [Rows.uptoBulk]
 | iface t d=>simp [Rows.uptoBulk]
 | map entries=>simp [Rows.uptoBulk]
 | held h=>simp [Rows.uptoBulk]
theorem has_of_cells {a:Addr} {n:Nat} {cs:List Value} (h:w.cells? 0 a n=some cs) (hn:0<n):∃ b o,a=⟨b,o,none⟩/\cs.length=n/\Has w b o cs:=by
 obtain ⟨-,hl,hc⟩:=World.cells?_some h
 obtain ⟨b,o,spot⟩:=a
 obtain ⟨v,hv⟩:∃ v,cs[0]? = some v:=⟨_,List.getElem?_eq_getElem (by omega)⟩
 have h0:=hc 0 hn
 rw [hv] at h0
 have hspot:spot=none:=by simpa [Addr.add] using World.cell?_spot h0
 subst hspot
 refine ⟨b,o,rfl,hl,fun j u hj=>?_⟩
 have hlt:=(List.getElem?_eq_some_iff.1 hj).1
 rw [<-hj,<-hc j (by omega),Go.WideShapes.add_plain]
theorem lift_rows {α:Type} {size n:Nat} {e:TypeId} {At:α->Nat->Nat->Prop} {ok:α->Prop} {ms:α->Nat} {b:Nat}
  (hE:∀ cs x o,Has w b o cs->DataW.trod enc Tryz.prog w 0 (fun _=>true) true n e cs=some x->∃ y,At y b o/\ok y/\ms y<=Rows.uptoBulk x.1) (elems:List (DataW H × List MemPlace)) :
  ∀ o,(∀ i (hi:i<elems.length),∃ cs,Has w b (o+i*size) cs/\DataW.trod enc Tryz.prog w 0 (fun _=>true) true n e cs=some elems[i])->∃ l:List α,l.length=elems.length/\Rows size At l b o/\(∀ y∈l,ok y)/\sumBy ms l<=Rows.uptoBulkAll (elems.map (·.1)):=by
 induction elems with
 | nil=>intro o _;exact ⟨[],rfl,trivial,by simp,by simp [sumBy]⟩
 | cons x elems ih =>
  intro o h
  obtain ⟨cs,h1,h2⟩:=h 0 (by simp)
  simp only [Nat.zero_mul,Nat.add_zero,Jb] at h1 h2
  obtain ⟨y,q1,q2,q3⟩:=hE cs x o h1 h2
  obtain ⟨l,r1,r2,r3,r4⟩:=ih (o+size) fun i hi=>by
   obtain ⟨cs',h3,h4⟩:=h (i+1) (by simpa using hi)
   refine ⟨cs',?_,by simpa using h4⟩
   rw [show o+size+i*size=o+(i+1)*size by rw [Nat.add_mul];omega]
   exact h3
  refine ⟨y::l,by simp [r1],⟨q1,r2⟩,?_,?_⟩
  ·intro z hz
   rcases List.mem_cons.1 hz with e | hz
   ·rw [e];exact q2
   ·exact r3 z hz
  ·simp only [sumBy,List.map_cons,Rows.uptoBulkAll];omega
theorem lift_slice {α:Type} {size:Nat} {t e:TypeId} (ht:Tryz.prog.underlying t=some (.slice e)) (hc:Tryz.prog.cellsOf e=size) (hs:0<size) {At:α->Nat->Nat->Prop} {ok:α->Prop} {ms:α->Nat} {m:Nat} {cs:List Value} {x:DataW H × List MemPlace} (h:DataW.trod enc Tryz.prog w 0 (fun _=>true) true m t cs=some x)
  (hE:∀ n,n<m->∀ cs x b o,Has w b o cs->DataW.trod enc Tryz.prog w 0 (fun _=>true) true n e cs=some x->∃ y,At y b o/\ok y/\ms y<=Rows.uptoBulk x.1) :
  ∃ s l,cs=[s]/\Sl size At s l/\(∀ y∈l,ok y)/\sumBy ms l+1<=Rows.uptoBulk x.1/\l.length+1<=Rows.uptoBulk x.1:=by
 rcases DataW.trod_slice ht h with ⟨rfl,rfl⟩ | ⟨a,len,cap,elems,rest,n,rfl,rfl,rfl,-,hlc,hcm,hel,hes,-⟩
 ·exact ⟨_,[],rfl,Sl.nil _ _,by simp,by simp [sumBy,Rows.uptoBulk],by simp [Rows.uptoBulk]⟩
 ·rw [hc] at hes
  by_cases h0:0<len
  ·obtain ⟨b,o,ha⟩:∃ b o,a=⟨b,o,none⟩:=by
    have:=hes 0 h0
    rw [List.getElem?_eq_getElem (by omega)] at this
    obtain ⟨cs,q1,-⟩:=Option.bind_eq_some_iff.1 this
    obtain ⟨b,o,q2,-⟩:=has_of_cells q1 hs
    refine ⟨b,o,?_⟩
    rw [Nat.zero_mul] at q2
    obtain ⟨ab,ao,as'⟩:=a
    unfold Addr.add at q2
    split at q2<;>simp_all
   subst ha
   obtain ⟨l,r1,r2,r3,r4⟩:=lift_rows (size:=size) (fun cs x o=>hE n (by omega) cs x b o) elems o fun i hi=>by
    have:=hes i (by omega)
    rw [List.getElem?_eq_getElem hi] at this
    obtain ⟨cs,q1,q2⟩:=Option.bind_eq_some_iff.1 this
    rw [Go.WideShapes.add_plain] at q1
    obtain ⟨b',o',q3,-,q4⟩:=has_of_cells q1 hs
    injection q3 with e1 e2
    subst e1;subst e2
    exact ⟨cs,q4,q2⟩
   refine ⟨_,l,rfl,⟨b,o,⟨_,cap,by rw [r1,hel],by omega,by simpa using hcm,fun _=>rfl⟩,r2⟩,r3,?_,?_⟩
   ·simp only [Rows.uptoBulk];omega
   ·simp only [Rows.uptoBulk]
    have:∀ l:List (DataW H),l.length<=Rows.uptoBulkAll l:=by
     intro l
     induction l with
     | nil=>simp [Rows.uptoBulkAll]
     | cons x r ih=>have:=bulk_one x;simp only [Rows.uptoBulkAll,List.length_cons];omega
    have h2:=this (elems.map (·.1))
    simp only [List.length_map] at h2
    omega
  ·obtain rfl:len=0:=by omega
   exact ⟨_,[],rfl,⟨0,0,⟨_,cap,rfl,Nat.zero_le _,by simpa using hcm,fun h=>by simp at h⟩,trivial⟩,by simp,by simp [sumBy,Rows.uptoBulk],by simp [Rows.uptoBulk]⟩
theorem lift_int {m:Nat} {cs:List Value} {x:DataW H × List MemPlace} (h:DataW.trod enc Tryz.prog w 0 (fun _=>true) true m 3 cs=some x):∃ n,cs=[.int .i64 n]/\i64r n:=by
 obtain ⟨n,rfl,-,hw⟩:=DataW.trod_int Tryz.underlying3 h
 exact ⟨n,rfl,bounds_i64 hw⟩
theorem lift_u64 {m:Nat} {cs:List Value} {x:DataW H × List MemPlace} (h:DataW.trod enc Tryz.prog w 0 (fun _=>true) true m 34 cs=some x):∃ n,cs=[.int .u64 n]/\u64r n:=by
 obtain ⟨n,rfl,-,hw⟩:=DataW.trod_int Tryz.underlying34 h
 exact ⟨n,rfl,bounds_u64 hw⟩
theorem lift_str {m:Nat} {cs:List Value} {x:DataW H × List MemPlace} (h:DataW.trod enc Tryz.prog w 0 (fun _=>true) true m 9 cs=some x):∃ n,cs=[.string n]/\n.size<=9223372036854775807:=by
 obtain ⟨n,rfl,-,hw⟩:=DataW.trod_string Tryz.underlying9 h
 exact ⟨n,rfl,by simpa [maxLen] using hw⟩
theorem cells_int:Tryz.prog.cellsOf 3=1:=by kernel_rfl
theorem cells_u64:Tryz.prog.cellsOf 34=1:=by kernel_rfl
theorem cells_str:Tryz.prog.cellsOf 9=1:=by kernel_rfl
theorem cells_bool:Tryz.prog.cellsOf 4=1:=by kernel_rfl
theorem cells_E:Tryz.prog.cellsOf 44=8:=by kernel_rfl
theorem cells_T:Tryz.prog.cellsOf 47=6:=by kernel_rfl
theorem cells_Sig:Tryz.prog.cellsOf 36=4:=by kernel_rfl
theorem cells_Proc:Tryz.prog.cellsOf 39=2:=by kernel_rfl
theorem cells_Chk:Tryz.prog.cellsOf 150=9:=by kernel_rfl
theorem cells_Flat:Tryz.prog.cellsOf 26=3:=by kernel_rfl
theorem cells_sE:Tryz.prog.cellsOf 42=1:=by kernel_rfl
theorem cells_sT:Tryz.prog.cellsOf 37=1:=by kernel_rfl
theorem cells_sSig:Tryz.prog.cellsOf 22=1:=by kernel_rfl
theorem cells_sProc:Tryz.prog.cellsOf 23=1:=by kernel_rfl
theorem cells_sChk:Tryz.prog.cellsOf 24=1:=by kernel_rfl
theorem lift_E (m:Nat):∀ cs x,DataW.trod enc Tryz.prog w 0 (fun _=>true) true m 44 cs=some x->∃ (e:E) (s:Value),cs=e.cells s/\Es w s e.l/\e.wf/\nodes e<=Rows.uptoBulk x.1:=by
 induction m using Nat.strongRecOn with
 | ind m ih =>
  intro cs x h
  obtain ⟨xs,n,rfl,rfl,hl,hxl,hf⟩:=DataW.trod_struct Tryz.underlying44 h
  rw [cells_E] at hl
  obtain ⟨c0,c1,c2,c3,c4,c5,c6,c7,rfl⟩:∃ c0 c1 c2 c3 c4 c5 c6 c7,cs=[c0,c1,c2,c3,c4,c5,c6,c7]:=by
   match cs,hl with
   | [c0,c1,c2,c3,c4,c5,c6,c7],_=>exact ⟨_,_,_,_,_,_,_,_,rfl⟩
  obtain ⟨x0,x1,x2,x3,x4,x5,x6,x7,rfl⟩:∃ x0 x1 x2 x3 x4 x5 x6 x7,xs=[x0,x1,x2,x3,x4,x5,x6,x7]:=by
   match xs,hxl with
   | [x0,x1,x2,x3,x4,x5,x6,x7],_=>exact ⟨_,_,_,_,_,_,_,_,rfl⟩
  have f0:=hf 0 _ rfl
  have f1:=hf 1 _ rfl
  have f2:=hf 2 _ rfl
  have f3:=hf 3 _ rfl
  have f4:=hf 4 _ rfl
  have f5:=hf 5 _ rfl
  have f6:=hf 6 _ rfl
  have f7:=hf 7 _ rfl
  simp only [cells_int,cells_u64,cells_sE,List.drop_zero,List.drop_succ_cons,List.take_succ_cons,List.take_zero,List.getElem?_cons_zero,List.getElem?_cons_succ] at f0 f1 f2 f3 f4 f5 f6 f7
  obtain ⟨n0,e0,w0⟩:=lift_int f0
  obtain ⟨n1,e1,w1⟩:=lift_int f1
  obtain ⟨n2,e2,w2⟩:=lift_u64 f2
  obtain ⟨n3,e3,w3⟩:=lift_int f3
  obtain ⟨n4,e4,w4⟩:=lift_int f4
  obtain ⟨n5,e5,w5⟩:=lift_int f5
  obtain ⟨n6,e6,w6⟩:=lift_int f6
  obtain ⟨s,l,e7,hsl,hok,hsum,-⟩:=lift_slice (At:=EAt w) (ok:=E.wf) (ms:=nodes) Tryz.underlying42 cells_E (by decide) f7 (fun k hk cs x b o hh hx=>by
   obtain ⟨e,s,rfl,q1,q2,q3⟩:=ih k (by omega) cs x hx
   exact ⟨e,EAt_iff.2 ⟨s,hh,q1⟩,q2,q3⟩)
  injection e0 with e0;injection e1 with e1;injection e2 with e2;injection e3 with e3;injection e4 with e4;injection e5 with e5;injection e6 with e6;injection e7 with e7
  subst e0;subst e1;subst e2;subst e3;subst e4;subst e5;subst e6;subst e7
  refine ⟨⟨n0,n1,n2,n3,n4,n5,n6,l⟩,_,rfl,hsl,(E.wf_iff _).2 ⟨w0,w1,w2,w3,w4,w5,w6,hok⟩,?_⟩
  rw [nodes_eq]
  simp only [Rows.uptoBulk,Rows.uptoBulkAll,List.map_cons,List.map_nil]
  omega
theorem lift_T (m:Nat):∀ cs x,DataW.trod enc Tryz.prog w 0 (fun _=>true) true m 47 cs=some x->∃ (t:T) (s s':Value),cs=t.cells s s'/\Es w s t.e/\Ts w s' t.l/\t.wf/\nodesT t<=Rows.uptoBulk x.1:=by
 induction m using Nat.strongRecOn with
 | ind m ih =>
  intro cs x h
  obtain ⟨xs,n,rfl,rfl,hl,hxl,hf⟩:=DataW.trod_struct Tryz.underlying47 h
  rw [cells_T] at hl
  obtain ⟨c0,c1,c2,c3,c4,c5,rfl⟩:∃ c0 c1 c2 c3 c4 c5,cs=[c0,c1,c2,c3,c4,c5]:=by
   match cs,hl with
   | [c0,c1,c2,c3,c4,c5],_=>exact ⟨_,_,_,_,_,_,rfl⟩
  obtain ⟨x0,x1,x2,x3,x4,x5,rfl⟩:∃ x0 x1 x2 x3 x4 x5,xs=[x0,x1,x2,x3,x4,x5]:=by
   match xs,hxl with
   | [x0,x1,x2,x3,x4,x5],_=>exact ⟨_,_,_,_,_,_,rfl⟩
  have f0:=hf 0 _ rfl
  have f1:=hf 1 _ rfl
  have f2:=hf 2 _ rfl
  have f3:=hf 3 _ rfl
  have f4:=hf 4 _ rfl
  have f5:=hf 5 _ rfl
  simp only [cells_int,cells_sE,cells_sT,List.drop_zero,List.drop_succ_cons,List.take_succ_cons,List.take_zero,List.getElem?_cons_zero,List.getElem?_cons_succ] at f0 f1 f2 f3 f4 f5
  obtain ⟨n0,e0,w0⟩:=lift_int f0
  obtain ⟨n1,e1,w1⟩:=lift_int f1
  obtain ⟨n2,e2,w2⟩:=lift_int f2
  obtain ⟨n3,e3,w3⟩:=lift_int f3
  obtain ⟨s4,l4,e4,hs4,hok4,hsum4,-⟩:=lift_slice (At:=EAt w) (ok:=E.wf) (ms:=nodes) Tryz.underlying42 cells_E (by decide) f4 (fun k hk cs x b o hh hx=>by
   obtain ⟨e,s,rfl,q1,q2,q3⟩:=lift_E k cs x hx
   exact ⟨e,EAt_iff.2 ⟨s,hh,q1⟩,q2,q3⟩)
  obtain ⟨s5,l5,e5,hs5,hok5,hsum5,-⟩:=lift_slice (At:=TAt w) (ok:=T.wf) (ms:=nodesT) Tryz.underlying37 cells_T (by decide) f5 (fun k hk cs x b o hh hx=>by
   obtain ⟨t,s,s',rfl,q1,q2,q3,q4⟩:=ih k (by omega) cs x hx
   exact ⟨t,TAt_iff.2 ⟨s,s',hh,q1,q2⟩,q3,q4⟩)
  injection e0 with e0;injection e1 with e1;injection e2 with e2;injection e3 with e3;injection e4 with e4;injection e5 with e5
  subst e0;subst e1;subst e2;subst e3;subst e4;subst e5
  refine ⟨⟨n0,n1,n2,n3,l4,l5⟩,_,_,rfl,hs4,hs5,(T.wf_iff _).2 ⟨w0,w1,w2,w3,hok4,hok5⟩,?_⟩
  rw [nodesT_eq]
  simp only [Rows.uptoBulk,Rows.uptoBulkAll,List.map_cons,List.map_nil]
  omega
theorem lift_Sig (m:Nat):∀ cs x,DataW.trod enc Tryz.prog w 0 (fun _=>true) true m 36 cs=some x->∃ y:Signal,cs=y.cells/\y.wf:=by
 intro cs x h
 obtain ⟨xs,n,rfl,rfl,hl,hxl,hf⟩:=DataW.trod_struct Tryz.underlying36 h
 rw [cells_Sig] at hl
 obtain ⟨c0,c1,c2,c3,rfl⟩:∃ c0 c1 c2 c3,cs=[c0,c1,c2,c3]:=by
  match cs,hl with
  | [c0,c1,c2,c3],_=>exact ⟨_,_,_,_,rfl⟩
 obtain ⟨x0,x1,x2,x3,rfl⟩:∃ x0 x1 x2 x3,xs=[x0,x1,x2,x3]:=by
  match xs,hxl with
  | [x0,x1,x2,x3],_=>exact ⟨_,_,_,_,rfl⟩
 have f0:=hf 0 _ rfl
 have f1:=hf 1 _ rfl
 have f2:=hf 2 _ rfl
 have f3:=hf 3 _ rfl
 simp only [cells_int,cells_u64,cells_str,List.drop_zero,List.drop_succ_cons,List.take_succ_cons,List.take_zero,List.getElem?_cons_zero,List.getElem?_cons_succ] at f0 f1 f2 f3
 obtain ⟨n0,e0,w0⟩:=lift_str f0
 obtain ⟨n1,e1,w1⟩:=lift_int f1
 obtain ⟨n2,e2,w2⟩:=lift_int f2
 obtain ⟨n3,e3,w3⟩:=lift_u64 f3
 injection e0 with e0;injection e1 with e1;injection e2 with e2;injection e3 with e3
 subst e0;subst e1;subst e2;subst e3
 exact ⟨⟨n0,n1,n2,n3⟩,rfl,w1,w2,w3,w0⟩
theorem lift_Proc (m:Nat):∀ cs x,DataW.trod enc Tryz.prog w 0 (fun _=>true) true m 39 cs=some x->∃ (y:Proc) (s:Value),cs=y.cells s/\Ts w s y.l/\(∀ t∈y.l,t.wf)/\sumBy nodesT y.l<=Rows.uptoBulk x.1:=by
 intro cs x h
 obtain ⟨xs,n,rfl,rfl,hl,hxl,hf⟩:=DataW.trod_struct Tryz.underlying39 h
 rw [cells_Proc] at hl
 obtain ⟨c0,c1,rfl⟩:∃ c0 c1,cs=[c0,c1]:=by
  match cs,hl with
  | [c0,c1],_=>exact ⟨_,_,rfl⟩
 obtain ⟨x0,x1,rfl⟩:∃ x0 x1,xs=[x0,x1]:=by
  match xs,hxl with
  | [x0,x1],_=>exact ⟨_,_,rfl⟩
 have f0:=hf 0 _ rfl
 have f1:=hf 1 _ rfl
 simp only [cells_bool,cells_sT,List.drop_zero,List.drop_succ_cons,List.take_succ_cons,List.take_zero,List.getElem?_cons_zero,List.getElem?_cons_succ] at f0 f1
 obtain ⟨b0,e0,-⟩:=DataW.trod_bool Tryz.underlying4 f0
 obtain ⟨s1,l1,e1,hs1,hok1,hsum1,-⟩:=lift_slice (At:=TAt w) (ok:=T.wf) (ms:=nodesT) Tryz.underlying37 cells_T (by decide) f1 (fun k hk cs x b o hh hx=>by
  obtain ⟨t,s,s',rfl,q1,q2,q3,q4⟩:=lift_T k cs x hx
  exact ⟨t,TAt_iff.2 ⟨s,s',hh,q1,q2⟩,q3,q4⟩)
 injection e0 with e0;injection e1 with e1
 subst e0;subst e1
 refine ⟨⟨b0,l1⟩,_,rfl,hs1,hok1,?_⟩
 simp only [Rows.uptoBulk,Rows.uptoBulkAll,List.map_cons,List.map_nil]
 omega
theorem lift_Chk (m:Nat):∀ cs x,DataW.trod enc Tryz.prog w 0 (fun _=>true) true m 150 cs=some x->∃ (y:Chk) (s:Value),cs=y.cells s/\Es w s y.e.l/\y.e.wf/\nodes y.e<=Rows.uptoBulk x.1:=by
 intro cs x h
 obtain ⟨xs,n,rfl,rfl,hl,hxl,hf⟩:=DataW.trod_struct Tryz.underlying150 h
 rw [cells_Chk] at hl
 obtain ⟨c0,r,rfl⟩:∃ c0 r,cs=c0::r:=by
  match cs,hl with
  | c0::r,_=>exact ⟨_,_,rfl⟩
 obtain ⟨x0,x1,rfl⟩:∃ x0 x1,xs=[x0,x1]:=by
  match xs,hxl with
  | [x0,x1],_=>exact ⟨_,_,rfl⟩
 have f0:=hf 0 _ rfl
 have f1:DataW.trod enc Tryz.prog w 0 (fun _=>true) true n 44 ((List.drop 1 (c0::r)).take (Tryz.prog.cellsOf 44))=some x1:=hf 1 _ rfl
 simp only [cells_str,List.drop_zero,List.take_succ_cons,List.take_zero,List.getElem?_cons_zero] at f0
 rw [cells_E,List.drop_succ_cons,List.drop_zero,List.take_of_length_le (by simp only [List.length_cons] at hl;omega)] at f1
 obtain ⟨n0,e0,w0⟩:=lift_str f0
 obtain ⟨e,s,rfl,q1,q2,q3⟩:=lift_E _ _ _ f1
 injection e0 with e0
 subst e0
 refine ⟨⟨n0,e⟩,s,rfl,q1,q2,?_⟩
 simp only [Rows.uptoBulk,Rows.uptoBulkAll,List.map_cons,List.map_nil]
 omega
theorem lift_Flat (m:Nat):∀ cs x,DataW.trod enc Tryz.prog w 0 (fun _=>true) true m 26 cs=some x->Rows.uptoBulk x.1<=1048576->∃ d:Flat,FlatV w (.agg cs.toArray) d/\d.ok:=by
 intro cs x h hk
 obtain ⟨xs,n,rfl,rfl,hl,hxl,hf⟩:=DataW.trod_struct Tryz.underlying26 h
 rw [cells_Flat] at hl
 obtain ⟨c0,c1,c2,rfl⟩:∃ c0 c1 c2,cs=[c0,c1,c2]:=by
  match cs,hl with
  | [c0,c1,c2],_=>exact ⟨_,_,_,rfl⟩
 obtain ⟨x0,x1,x2,rfl⟩:∃ x0 x1 x2,xs=[x0,x1,x2]:=by
  match xs,hxl with
  | [x0,x1,x2],_=>exact ⟨_,_,_,rfl⟩
 have f0:=hf 0 _ rfl
 have f1:=hf 1 _ rfl
 have f2:=hf 2 _ rfl
 simp only [cells_sSig,cells_sProc,cells_sChk,List.drop_zero,List.drop_succ_cons,List.take_succ_cons,List.take_zero,List.getElem?_cons_zero,List.getElem?_cons_succ] at f0 f1 f2
 obtain ⟨s0,l0,e0,hs0,hok0,-,hln0⟩:=lift_slice (At:=SigAt w) (ok:=Signal.wf) (ms:=fun _=>0) Tryz.underlying22 cells_Sig (by decide) f0 (fun k hk cs x b o hh hx=>by
  obtain ⟨y,rfl,q1⟩:=lift_Sig k cs x hx
  exact ⟨y,hh,q1,Nat.zero_le _⟩)
 obtain ⟨s1,l1,e1,hs1,hok1,hsum1,hln1⟩:=lift_slice (At:=ProcAt w) (ok:=fun y:Proc=>∀ t∈y.l,t.wf) (ms:=fun y=>sumBy nodesT y.l) Tryz.underlying23 cells_Proc (by decide) f1 (fun k hk cs x b o hh hx=>by
  obtain ⟨y,s,rfl,q1,q2,q3⟩:=lift_Proc k cs x hx
  exact ⟨y,⟨s,hh,q1⟩,q2,q3⟩)
 obtain ⟨s2,l2,e2,hs2,hok2,hsum2,hln2⟩:=lift_slice (At:=ChkAt w) (ok:=fun y:Chk=>y.e.wf) (ms:=fun y=>nodes y.e) Tryz.underlying24 cells_Chk (by decide) f2 (fun k hk cs x b o hh hx=>by
  obtain ⟨y,s,rfl,q1,q2,q3⟩:=lift_Chk k cs x hx
  exact ⟨y,⟨s,hh,q1⟩,q2,q3⟩)
 injection e0 with e0;injection e1 with e1;injection e2 with e2
 subst e0;subst e1;subst e2
 simp only [Rows.uptoBulk,Rows.uptoBulkAll,List.map_cons,List.map_nil] at hk
 refine ⟨⟨l0,l1,l2⟩,⟨_,_,_,rfl,hs0,hs1,hs2⟩,⟨⟨hok0,hok1,hok2⟩,?_,?_,?_,?_⟩⟩
 ·rw [mNodes_eq];omega
 all_goals (simp only;omega)
end
section
variable {H:Type} {enc:TypeId × Value->H} {w:World}
theorem cells_sU:Tryz.prog.cellsOf 41=1:=by kernel_rfl
theorem lift_U64s (m:Nat):∀ cs x,DataW.trod enc Tryz.prog w 0 (fun _=>true) true m 41 cs=some x->∃ (s:Value) (vs:List Nat),cs=[s]/\Us w s vs/\us64 vs/\vs.length+1<=Rows.uptoBulk x.1:=by
 intro cs x h
 obtain ⟨s,l,e,hs,hok,-,hln⟩:=lift_slice (At:=UAt w) (ok:=fun n:Nat=>n<18446744073709551616) (ms:=fun _=>0) Tryz.underlying41 cells_u64 (by decide) h (fun k hk cs x b o hh hx=>by
  obtain ⟨n,rfl,h1,h2⟩:=lift_u64 hx
  obtain ⟨j,rfl⟩:=Int.eq_ofNat_of_zero_le h1
  exact ⟨j,hh,by omega,Nat.zero_le _⟩)
 exact ⟨s,l,e,hs,hok,hln⟩
theorem lift_u8 {m:Nat} {cs:List Value} {x:DataW H × List MemPlace} (h:DataW.trod enc Tryz.prog w 0 (fun _=>true) true m 5 cs=some x):∃ n:Nat,cs=[.int .u8 n]/\n<256:=by
 obtain ⟨n,rfl,-,hw⟩:=DataW.trod_int Tryz.underlying5 h
 have h1:0<=n/\n<=255:=by
  simp [Lit.wf,IntKind.min,IntKind.max,IntKind.signed,IntKind.bits] at hw
  omega
 obtain ⟨j,rfl⟩:=Int.eq_ofNat_of_zero_le h1.1
 exact ⟨j,rfl,by omega⟩
end
end Go.Proofs.YtpdpgmfnfajbfaaGreat
