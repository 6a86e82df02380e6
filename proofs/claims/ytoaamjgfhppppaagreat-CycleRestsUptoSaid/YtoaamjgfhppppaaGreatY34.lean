/- Laws and walks that a claim of this seat leans on: Rests13, RestsK, Kept13. -/
import Derived.Test.YtoaamjgfhppppaaGreatY28
import Derived.Test.YtoaamjgfhppppaaGreatY26
import Derived.Test.YtoaamjgfhppppaaGreatY25
import Derived.Test.YtoaamjgfhppppaaGreatY27
import Derived.Test.YtoaamjgfhppppaaGreatY00
set_option maxRecDepth 100000
set_option maxHeartbeats 8000000
set_option linter.all false
namespace Go.Proofs.YtoaamjgfhppppaaGreat
open Go.RowKit
def restP (d:Flat) (vs:List Nat) (p:Nat):Bool:=clkD d (p:Int)||(decide ((runM d vs (p:Int)).2=0)&&decide (vs=(runM d vs (p:Int)).1))
def restsB (d:Flat) (vs:List Nat):Bool:=(List.range d.procs.length).all (restP d vs)
theorem restsB_of {d:Flat} {vs:List Nat} (h:∀ p,p<d.procs.length->restP d vs p=true):restsB d vs=true:=List.all_eq_true.2 fun p hp=>h p (List.mem_range.1 hp)
theorem restsB_no {d:Flat} {vs:List Nat} {p:Nat} (hp:p<d.procs.length) (h:restP d vs p=false):restsB d vs=false:=List.all_eq_false.2 ⟨p,List.mem_range.2 hp,by rw [h];decide⟩
theorem rests_calls (d:Flat) (v:Value) (vs:List Nat) (s:Value) (w:World) (hF:FlatV w v d) (hok:d.ok) (hs:Us w s vs) (h64s:us64 vs) (hls:vs.length<=1048576) :
  Calls Tryz.prog 23 #[v,s] w fun r w'=>r=.returned (.bool (restsB d vs))/\Ext w w':=by
 have HF:=Jh (fun W (h:Ext w W)=>hF.ext h)
 have HOK:=Jh hok
 have HUS:=Jh (fun W (h:Ext w W)=>hs.ext h)
 have H64:=Jh h64s
 obtain ⟨sv,pv,cv,rfl,hS,hP,hC⟩:=hF
 obtain ⟨ap,bp,op,cp,rfl,hp1,hp2,hpa,hpr⟩:=hP.open
 have HPA:=Jh hpa
 have HPR:=Jh hpr
 obtain ⟨av,bv,ov',capv,rfl,-,-,-,-⟩:=hs.open
 have x1:=ext_alloc w (.cells [sv,.slice ap d.procs.length cp,cv].toArray 26)
 have hD:=Blk.new w [sv,.slice ap d.procs.length cp,cv].toArray 26
 have hpl:=hok.procs
 clear hS hP hC hok hs h64s hpa hpr
 go_enter Tryz.func23,Tryz.ntmps23
 go_upto_region 1 with fail
 generalize w.alloc _=w0 at *
 have HX:=Jh x1
 have HD:=Jh hD
 clear x1 hD
 go_wp2_with fail
 go_loopw [5] (fun i wr=>∃ k:Nat,k<=d.procs.length/\i=.int .i64 k/\(∀ j,j<k->restP d vs j=true)/\Ext w0 wr) (fun i _=>d.procs.length-(intOf i).toNat)
 case atStart=>exact ⟨0,Nat.zero_le _,rfl,fun j hj=>absurd hj (by omega),Below.refl _ _⟩
 case round =>
  obtain ⟨k,hk,rfl,hall,hxr⟩:=hrel
  have HALL:=Jh hall
  have HXR:=Jh hxr
  have e1:=(HD.out.ext hxr).has 1 _ rfl
  clear hall hxr
  by_cases hlt:k<d.procs.length
  ·obtain rfl:=HPA.out (by omega)
   obtain ⟨sp,hph,-⟩:=Procs.get (HPR.out.mono fun x _ b o hh=>ProcAt.ext' (HX.out.trans HXR.out) hh) hlt
   have ycl:=hph 0 _ rfl
   rw [Nat.add_zero] at ycl
   have hkc:=clkD_nat hlt
   have HRN:=Jh (Run_calls d _ vs _ (k:Int) wr (HF.out wr (HX.out.trans HXR.out)) HOK.out (HUS.out wr (HX.out.trans HXR.out)) H64.out (by unfold i64r;omega))
   have hst:restP d vs k=(clkD d (k:Int)||(decide ((runM d vs (k:Int)).2=0)&&decide (vs=(runM d vs (k:Int)).1))):=rfl
   rw [hkc] at hst
   generalize d.procs[k].clocked=c at *
   generalize runM d vs (k:Int)=rr at *
   obtain ⟨ws,e⟩:=rr
   simp only at HRN hst
   have HST:=Jh hst
   clear hkc hph hst
   cases c
   case true =>
    go_wp2_with fail
    go_roundw
    case rel=>exact ⟨k+1,hlt,by go_num,fun j hj=>by
     by_cases hjk:j=k
     ·subst hjk;rw [HST.out];rfl
     ·exact HALL.out j (by omega),HXR.out⟩
    case measure=>simp [intOf];omega
   case false =>
    go_upto_region 6 with (first | ((with_reducible show Jl 26);refine Jm 26 ((HD.out.ext HXR.out).has) agg_Flat rfl ?_) | (go_at_call 15;refine HRN.out.mono ?_;rintro r w6 ⟨u6,rfl,hr6,hx6⟩;obtain ⟨ua,uc,rfl,-⟩:=hr6.open))
    have HX6:=Jh (HXR.out.trans hx6)
    have HW:=Jh (Words_calls11 vs ws _ _ w6 (HUS.out w6 (HX.out.trans HX6.out)) hr6.cells (by omega))
    obtain ⟨t,ht⟩:∃ t,decide (vs=ws)=t:=⟨_,rfl⟩
    rw [ht] at HW HST
    clear ht hr6 hx6 e1 ycl
    by_cases he:e=0
    ·subst he
     cases t
     ·go_wp2_with (first | (go_at_call 24;refine HW.out.mono ?_;rintro r w8 ⟨rfl,hx8⟩))
      go_ret
      rw [restsB_no hlt (by rw [HST.out];rfl)]
      exact ⟨rfl,HX.out.trans (HX6.out.trans hx8)⟩
     ·go_wp2_with (first | (go_at_call 24;refine HW.out.mono ?_;rintro r w8 ⟨rfl,hx8⟩))
      go_roundw
      case rel=>exact ⟨k+1,hlt,by go_num,fun j hj=>by
       by_cases hjk:j=k
       ·subst hjk;rw [HST.out];rfl
       ·exact HALL.out j (by omega),HX6.out.trans hx8⟩
      case measure=>simp [intOf];omega
    ·have be:(e != 0)=true:=by rw [bne_iff_ne];exact he
     have HE:=Jh he
     clear he
     go_wp2_with fail
     go_ret
     rw [restsB_no hlt (by rw [HST.out,decide_eq_false HE.out];rfl)]
     exact ⟨rfl,HX.out.trans HX6.out⟩
  ·obtain rfl:k=d.procs.length:=by omega
   go_wp2_with fail
   go_ret
   rw [restsB_of HALL.out]
   exact ⟨rfl,HX.out.trans HXR.out⟩
theorem sigs_kind (seen:List (List UInt8)) (l:List Signal) (h:sigsOk seen l=true):∀ x∈l,1<=x.kind/\x.kind<=4:=by
 induction l generalizing seen with
 | nil=>intro x hx;cases hx
 | cons y l ih =>
  rw [sigsOk,Bool.and_eq_true] at h
  intro x hx
  cases hx with
  | head =>
   have:=h.1
   unfold sigOk at this
   simp only [Bool.and_eq_true,decide_eq_true_eq] at this
   omega
  | tail _ hx=>exact ih _ h.2 x hx
theorem kindOf_nat {ls:List Signal} {k:Nat} (h:k<ls.length):kindOf ls (k:Int)=ls[k].kind:=by unfold kindOf;rw [Int.toNat_natCast,List.getElem?_eq_getElem h]
theorem restsB_iff {d:Flat} (hc:checkM d=0) {x:List Nat} (hx:Val2 d.signals x):restsB d x=true↔∀ p,Pin d p->clkD d p=false->runL d p x=x:=by
 have one:∀ k:Nat,k<d.procs.length->(restP d x k=true↔(clkD d (k:Int)=false->runL d (k:Int) x=x)):=fun k hk=>by
  unfold restP
  rw [runM_of hc hx (by omega) (by omega)]
  cases clkD d (k:Int)
  ·simp;exact ⟨fun h=>h.symm,fun h=>h.symm⟩
  ·simp
 refine ⟨fun h p hp hcl=>?_,fun h=>restsB_of fun k hk=>(one k hk).2 (h (k:Int) ⟨by omega,by omega⟩)⟩
 obtain ⟨k,rfl⟩:=Int.eq_ofNat_of_zero_le hp.1
 have hk:k<d.procs.length:=by have:=hp.2;omega
 exact (one k hk).1 (List.all_eq_true.1 h k (List.mem_range.2 hk)) hcl
theorem settle_kept3 {d:Flat} (hok:d.ok) (hl:(lookM d).1=0) {v:List Nat} (hv:Val2 d.signals v):∀ k (h:k<d.signals.length),d.signals[k].kind≠3->d.signals[k].kind≠2->v.getD k 0=(settleM d v).getD k 0:=fun k h h3 h2=>by
 have hk:=sigs_kind _ _ (checkM_sigs (look_in hok hl).1) _ (List.getElem_mem h)
 exact (settle_kept hok hl hv k h (by rw [kindOf_nat h];omega)).symm
theorem settle_why (d:Flat) (vs:List Nat):((lookM d).1=0/\valsOk d vs=true/\settleR d vs=(settleM d vs,0))\/(∃ e,e≠0/\settleR d vs=([],e)/\((lookM d).1=e\/((lookM d).1=0/\e=1/\valsOk d vs=false))):=by
 unfold settleR
 by_cases h:playE d vs=0
 ·rw [if_pos h];exact .inl ⟨(playE_zero.1 h).1,(playE_zero.1 h).2,rfl⟩
 ·rw [if_neg h]
  refine .inr ⟨_,h,rfl,?_⟩
  unfold playE at h ⊢
  by_cases hl:(lookM d).1=0
  ·rw [if_pos hl] at h ⊢
   cases hv:valsOk d vs
   ·exact .inr ⟨hl,by simp,rfl⟩
   ·rw [hv] at h;simp at h
  ·rw [if_neg hl];exact .inl rfl
theorem kept_calls (d:Flat) (v:Value) (vs ws:List Nat) (s t:Value) (w:World) (hF:FlatV w v d) (hok:d.ok) (hs:Us w s vs) (ht:Us w t ws) (hl1:vs.length=d.signals.length) (hl2:ws.length=vs.length)
  (hkp:∀ k (h:k<d.signals.length),d.signals[k].kind≠3->d.signals[k].kind≠2->vs.getD k 0=ws.getD k 0) :
  Calls Tryz.prog 22 #[v,s,t] w fun r w'=>r=.returned (.bool true)/\Ext w w':=by
 have HKP:=Jh hkp
 have HL1:=Jh hl1
 have HL2:=Jh hl2
 obtain ⟨sv,pv,cv,rfl,hS,hP,hC⟩:=hF
 obtain ⟨ss,sb,so,sc,rfl,hp1,hp2,hsa,hsr⟩:=hS.open
 have HSA:=Jh hsa
 have HSR:=Jh hsr
 obtain ⟨av,bv,ov,capv,rfl,-,-,hva,hvr⟩:=hs.open
 have HVA:=Jh hva
 have HVR:=Jh hvr
 obtain ⟨aw,bw,ow,capw,rfl,-,-,hwa,hwr⟩:=ht.open
 have HWA:=Jh hwa
 have HWR:=Jh hwr
 have x1:=ext_alloc w (.cells [.slice ss d.signals.length sc,pv,cv].toArray 26)
 have hD:=Blk.new w [.slice ss d.signals.length sc,pv,cv].toArray 26
 have hsl:=hok.signals
 have b1:((vs.length:Int) != (d.signals.length:Int))=false:=by rw [bne_eq_false_iff_eq,hl1]
 have b2:((ws.length:Int) != (vs.length:Int))=false:=by rw [bne_eq_false_iff_eq,hl2]
 clear hS hP hC hok hs hsa hsr hva hvr ht hwa hwr hkp hl1 hl2
 go_enter Tryz.func22,Tryz.ntmps22
 go_upto_region 1 with fail
 generalize w.alloc _=w0 at *
 have HX:=Jh x1
 have HD:=Jh hD
 have e0:=hD.has 0 _ rfl
 rw [Nat.zero_add] at e0
 clear x1 hD
 go_wp2_with fail
 clear b1 b2 e0
 go_loopw [7] (fun i wr=>∃ k:Nat,k<=d.signals.length/\i=.int .i64 k/\Ext w0 wr) (fun i _=>d.signals.length-(intOf i).toNat)
 case atStart=>exact ⟨0,Nat.zero_le _,rfl,Below.refl _ _⟩
 case round =>
  obtain ⟨k,hk,rfl,hxr⟩:=hrel
  have HXR:=Jh hxr
  have e0:=(HD.out.ext hxr).has 0 _ rfl
  rw [Nat.zero_add] at e0
  clear hxr
  by_cases hlt:k<d.signals.length
  ·obtain rfl:=HSA.out (by omega)
   have y:=(Sigs.get (HSR.out.mono fun x _ b o h=>Has.ext h (HX.out.trans HXR.out)) hlt) 2 _ rfl
   have hk1:k<vs.length:=by rw [HL1.out];exact hlt
   have hk2:k<ws.length:=by rw [HL2.out];exact hk1
   obtain rfl:=HVA.out (by omega)
   obtain rfl:=HWA.out (by omega)
   have HYV:=Jh (fun W (h:Ext wr W)=>Us.get (k:=k) (HVR.out.mono fun x _ b o hh=>Has.ext hh (HX.out.trans (HXR.out.trans h))) hk1)
   have HYW:=Jh (fun W (h:Ext wr W)=>Us.get (k:=k) (HWR.out.mono fun x _ b o hh=>Has.ext hh (HX.out.trans (HXR.out.trans h))) hk2)
   have hkk:=HKP.out k hlt
   rw [show vs.getD k 0=vs[k] by rw [List.getD_eq_getElem?_getD,List.getElem?_eq_getElem hk1];rfl,show ws.getD k 0=ws[k] by rw [List.getD_eq_getElem?_getD,List.getElem?_eq_getElem hk2];rfl] at hkk
   have HKK:=Jh hkk
   generalize d.signals[k].kind=kd at *
   generalize vs[k]=xv at *
   generalize ws[k]=xw at *
   clear hkk
   by_cases h3:kd=3\/kd=2
   case pos =>
    rcases h3 with rfl | rfl
    all_goals (
     go_upto_region 7 with fail
     refine Jg wr fun hH=>?_
     try simp only [J]
     (refine Jt 0 (.bool true) rfl (yif_load1 rfl fun _ _=>rfl) hH ?_;try simp only [J])
     (refine Jt 1 (.bool false) rfl (yif_load1 rfl (by intro W hW;clear hW;go_simp)) hH ?_;try simp only [J])
     (refine Jt 2 (.bool false) rfl (yif_load1 rfl fun _ _=>rfl) hH ?_;try simp only [J])
     (refine Jt 3 (undef) rfl (Or.inr ⟨rfl,rfl⟩) hH ?_;try simp only [J])
     (refine Jt 4 (undef) rfl (Or.inr ⟨rfl,rfl⟩) hH ?_;try simp only [J])
     (refine Jt 5 (undef) rfl (Or.inr ⟨rfl,rfl⟩) hH ?_;try simp only [J])
     (refine Jt 6 (undef) rfl (Or.inr ⟨rfl,rfl⟩) hH ?_;try simp only [J])
     (refine Jt 7 (undef) rfl (Or.inr ⟨rfl,rfl⟩) hH ?_;try simp only [J])
     (refine Jt 8 (undef) rfl (Or.inr ⟨rfl,rfl⟩) hH ?_;try simp only [J])
     (refine Jt 9 (undef) rfl (Or.inr ⟨rfl,rfl⟩) hH ?_;try simp only [J])
     (refine Jt 10 (undef) rfl (Or.inr ⟨rfl,rfl⟩) hH ?_;try simp only [J])
     (refine Jt 11 (undef) rfl (Or.inr ⟨rfl,rfl⟩) hH ?_;try simp only [J])
     (refine Jt 12 (.bool false) rfl (yif_load1 rfl (by intro W hW;clear hW;go_simp)) hH ?_;try simp only [J])
     refine Jz ?_
     have HXN:=Jh (HXR.out.trans hH)
     clear hH
     go_wp2_with fail
     go_roundw
     case rel=>exact ⟨k+1,hlt,by go_num,HXN.out⟩
     case measure=>simp [intOf];omega)
   have n3:(kd==3)=false:=by rw [beq_eq_false_iff_ne];intro h;exact h3 (.inl h)
   have n2:(kd==2)=false:=by rw [beq_eq_false_iff_ne];intro h;exact h3 (.inr h)
   obtain rfl:xv=xw:=HKK.out (fun h=>h3 (.inl h)) (fun h=>h3 (.inr h))
   clear h3 HKK
   go_upto_region 7 with fail
   refine Jg wr fun hH=>?_
   try simp only [J]
   (refine Jt 0 (.bool false) rfl (yif_load1 rfl fun _ _=>rfl) hH ?_;try simp only [J])
   (refine Jt 1 (.bool true) rfl (yif_load1 rfl (by intro W hW;clear hW;go_simp)) hH ?_;try simp only [J])
   (refine Jt 2 (.bool true) rfl (yif_load1 rfl fun _ _=>rfl) hH ?_;try simp only [J])
   (refine Jt 3 (.slice (some ⟨bv,ov,none⟩) vs.length capv) rfl (yif_load1 rfl fun _ _=>rfl) hH ?_;try simp only [J])
   (refine Jt 4 (.int .i64 (k:Int)) rfl (yif_load1 rfl fun _ _=>rfl) hH ?_;try simp only [J])
   (refine Jt 5 (.pointer (some ⟨bv,ov+k,none⟩)) rfl (yif_load1 rfl (by intro W hW;clear hW;go_simp;try (intro h;omega))) hH ?_;try simp only [J])
   (refine Jt 6 (W64 xv) rfl (yif_load1 rfl (by intro W hW;have y:=HYV.out W hW;clear hW;go_simp)) hH ?_;try simp only [J])
   (refine Jt 7 (.slice (some ⟨bw,ow,none⟩) ws.length capw) rfl (yif_load1 rfl fun _ _=>rfl) hH ?_;try simp only [J])
   (refine Jt 8 (.int .i64 (k:Int)) rfl (yif_load1 rfl fun _ _=>rfl) hH ?_;try simp only [J])
   (refine Jt 9 (.pointer (some ⟨bw,ow+k,none⟩)) rfl (yif_load1 rfl (by intro W hW;clear hW;go_simp;try (intro h;omega))) hH ?_;try simp only [J])
   (refine Jt 10 (W64 xv) rfl (yif_load1 rfl (by intro W hW;have y:=HYW.out W hW;clear hW;go_simp)) hH ?_;try simp only [J])
   (refine Jt 11 (.bool false) rfl (yif_load1 rfl (by intro W hW;clear hW;go_simp)) hH ?_;try simp only [J])
   (refine Jt 12 (.bool false) rfl (yif_load1 rfl (by intro W hW;clear hW;go_simp)) hH ?_;try simp only [J])
   refine Jz ?_
   have HXN:=Jh (HXR.out.trans hH)
   clear hH
   go_wp2_with fail
   go_roundw
   case rel=>exact ⟨k+1,hlt,by go_num,HXN.out⟩
   case measure=>simp [intOf];omega
  ·obtain rfl:k=d.signals.length:=by omega
   have b5:¬ d.signals.length<vs.length:=by rw [HL1.out];exact Nat.lt_irrefl _
   go_wp2_with fail
   go_ret
   exact ⟨rfl,HX.out.trans HXR.out⟩
end Go.Proofs.YtoaamjgfhppppaaGreat
