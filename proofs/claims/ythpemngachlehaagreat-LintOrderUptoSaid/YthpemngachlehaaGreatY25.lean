/- Laws and walks that a claim of this seat leans on: Mark9, Mark10, Mark11. -/
import Derived.Test.YthpemngachlehaaGreatY24
import Derived.Test.YthpemngachlehaaGreatY00
set_option linter.all false
namespace Go.Proofs.YthpemngachlehaaGreat
open Go.RowKit
/-! ### filigreeref12.Drivers -/
set_option maxHeartbeats 4000000 in
theorem Drivers_calls12 (d:Flat) (v:Value) (w:World) (h:FlatV w v d) (hok:d.ok) :
  Calls Tryz.prog 12 #[v] w fun r w'=>∃ u,r=.returned (.tuple #[u,.int .i64 (drvD d).1])∧IntRow w.heap.size u (drvD d).2 w'∧Ext w w':=by
 have HF:=Lib.hid h
 obtain ⟨sv,pv,cv,rfl,hS,hP,hC⟩:=h
 have hone : [sv,pv,cv].all (·.oneCell')=true:=by simp [hS.one,hP.one,hC.one]
 have HX:=Lib.hid (ext_alloc w (.cells [sv,pv,cv].toArray 26))
 have HB:=Lib.hid (Blk.new w [sv,pv,cv].toArray 26)
 have HCK:=Lib.hid (Check_callsR d _ _ (HF.out.ext HX.out) hok)
 clear hS hP hC
 by_cases hck:checkM d=0
 ·have HDV:=Lib.hid (fun W (hx:Ext w W)=>drivers_calls12 d _ W (HF.out.ext hx) hok hck)
  have HDD:=Lib.hid (rD_drvD hck)
  rw [hck] at HCK
  clear hck hok
  obtain ⟨o,ho⟩ : ∃ o,(rD d).1=o:=⟨_,rfl⟩
  obtain ⟨t,ht⟩ : ∃ t,(rD d).2=t:=⟨_,rfl⟩
  rw [ho,ht] at HDV HDD
  rw [HDD.out]
  clear ho ht HDD
  cases t
  ·rw [if_neg (by decide)]
   go_enter Tryz.func12,Tryz.ntmps12
   go_upto_region 1 with fail
   generalize w.alloc _=w1 at *
   go_wp2_with (first | ((with_reducible show wpList _ _ _ (⟨_,Op.load 26 _,_,_,_,_⟩ :: _) _ _);refine wpList_load_has rfl 26 _ rfl rfl (HB.out.has) agg_Flat rfl ?_) | (go_at_call 23;refine HCK.out.mono ?_;rintro r w2 ⟨rfl,hx2⟩;have HB2:=Lib.hid (HB.out.ext hx2)) | ((with_reducible show wpList _ _ _ (⟨_,Op.load 26 _,_,_,_,_⟩ :: _) _ _);refine wpList_load_has rfl 26 _ rfl rfl (HB2.out.has) agg_Flat rfl ?_) | (go_at_call 30;refine (HDV.out _ (HX.out.trans hx2)).mono ?_;rintro r w3 ⟨u,rfl,hr3,hx3⟩))
   refine bodyPost_ret (v:=.tuple #[u,.int .i64 0]) (by simp [results,Tryz.results12,go_sem]) rfl ⟨u,rfl,hr3.less (HX.out.trans hx2).size,(HX.out.trans hx2).trans hx3⟩
  ·rw [if_pos rfl]
   go_enter Tryz.func12,Tryz.ntmps12
   go_upto_region 1 with fail
   generalize w.alloc _=w1 at *
   go_wp2_with (first | ((with_reducible show wpList _ _ _ (⟨_,Op.load 26 _,_,_,_,_⟩ :: _) _ _);refine wpList_load_has rfl 26 _ rfl rfl (HB.out.has) agg_Flat rfl ?_) | (go_at_call 23;refine HCK.out.mono ?_;rintro r w2 ⟨rfl,hx2⟩;have HB2:=Lib.hid (HB.out.ext hx2)) | ((with_reducible show wpList _ _ _ (⟨_,Op.load 26 _,_,_,_,_⟩ :: _) _ _);refine wpList_load_has rfl 26 _ rfl rfl (HB2.out.has) agg_Flat rfl ?_) | (go_at_call 30;refine (HDV.out _ (HX.out.trans hx2)).mono ?_;rintro r w3 ⟨u,rfl,hr3,hx3⟩))
   refine bodyPost_ret (v:=.tuple #[.slice Option.none 0 0,.int .i64 120]) (by simp [results,Tryz.results12,go_sem]) rfl ⟨_,rfl,IntRow.nil _ _,(HX.out.trans hx2).trans hx3⟩
 ·obtain ⟨q,hq⟩ : ∃ q,checkM d=q:=⟨_,rfl⟩
  rw [show drvD d=(1,[]) by unfold drvD;rw [if_neg hck]]
  rw [hq] at HCK hck
  have bq:(q != 0)=true:=by rw [bne_iff_ne];exact hck
  clear hck hq hok
  go_enter Tryz.func12,Tryz.ntmps12
  go_upto_region 1 with fail
  generalize w.alloc _=w1 at *
  go_wp2_with (first | ((with_reducible show wpList _ _ _ (⟨_,Op.load 26 _,_,_,_,_⟩ :: _) _ _);refine wpList_load_has rfl 26 _ rfl rfl (HB.out.has) agg_Flat rfl ?_) | (go_at_call 23;refine HCK.out.mono ?_;rintro r w2 ⟨rfl,hx2⟩))
  refine bodyPost_ret (v:=.tuple #[.slice Option.none 0 0,.int .i64 1]) (by simp [results,Tryz.results12,go_sem]) rfl ⟨_,rfl,IntRow.nil _ _,HX.out.trans hx2⟩
theorem mem_subR {ls:List Signal} {o:List Int} {s:Nat} (h0:0 ≤ sumW ls s) (h1:sumW ls s ≤ sumW ls (s + 1)) (x:Int):x ∈ subM ls o s ↔ ∃ i:Nat,sumW ls s ≤ i∧(i:Int) < sumW ls (s + 1)∧o[i]? = some x:=by
 unfold subM
 rw [List.mem_iff_getElem?]
 constructor
 ·rintro ⟨i,hi⟩
  rw [List.getElem?_take] at hi
  split at hi
  ·rw [List.getElem?_drop] at hi
   exact ⟨_,by omega,by omega,hi⟩
  ·cases hi
 ·rintro ⟨i,h2,h3,h4⟩
  refine ⟨i - (sumW ls s).toNat,?_⟩
  rw [List.getElem?_take,if_pos (by omega),List.getElem?_drop,show (sumW ls s).toNat + (i - (sumW ls s).toNat)=i by omega]
  exact h4
/-! ### filigreeref12.none -/
set_option maxRecDepth 100000 in
set_option maxHeartbeats 8000000 in
theorem none_calls12 (d:Flat) (v lv:Value) (w:World) (h:FlatV w v d) (hok:d.ok) (hck:checkM d=0) (o:List Int) (hl:Ints w lv o) (hol:(o.length:Int)=nBits d) (hob:∀ x ∈ o,-1 ≤ x) :
  Calls Tryz.prog 32 #[v,lv] w fun r w'=>r=.returned (.bool (noneF d.signals o 0 d.signals))∧Ext w w':=by
 have HF:=Lib.hid h
 have hls:=hok.signals
 have hnb:=nBits_le hok hck
 have hw:=checkM_w hck
 have HSU:=Lib.hid (fun (s:Nat) (hs:s < d.signals.length)=>(show 0 ≤ sumW d.signals s∧sumW d.signals s ≤ sumW d.signals (s + 1)∧sumW d.signals (s + 1) ≤ nBits d from
  ⟨(sumW_le d.signals hw s (by omega)).1,sumW_mono d.signals hw s (s + 1) (by omega) (by omega),sumW_mono d.signals hw (s + 1) d.signals.length (by omega) (Nat.le_refl _)⟩))
 have HOL:=Lib.hid hol
 have HOB:=Lib.hid hob
 obtain ⟨sv,pv,cv,rfl,hS,hP,hC⟩:=h
 have hone : [sv,pv,cv].all (·.oneCell')=true:=by simp [hS.one,hP.one,hC.one]
 have HX:=Lib.hid (ext_alloc w (.cells [sv,pv,cv].toArray 26))
 have HB:=Lib.hid (Blk.new w [sv,pv,cv].toArray 26)
 obtain ⟨a0,b0,o0,c0,rfl,hc1,hc2,ha,hr⟩:=hS.open
 have HA:=Lib.hid ha
 have HR:=Lib.hid hr
 obtain ⟨al,bl,ol,cl,rfl,hl1,hl2,hal,hlr⟩:=hl.open
 have HAL:=Lib.hid hal
 have HLR:=Lib.hid hlr
 have HBT:=Lib.hid (fun W (hx:Ext w W)=>Bits_okR d _ W (HF.out.ext hx) hok hck)
 have HDL:=Lib.hid (offsM_length d.signals d.signals.length)
 obtain ⟨res,hres⟩ : ∃ res,noneF d.signals o 0 d.signals=res:=⟨_,rfl⟩
 have HRS:=Lib.hid (show noneF d.signals o 0 (d.signals.drop 0)=res from hres)
 rw [hres]
 clear hS hP hC ha hr hl hal hlr hok hck hw hol hob hres
 go_enter Tryz.func32,Tryz.ntmps32
 go_upto_region 1 with fail
 generalize w.alloc _=w1 at *
 go_upto_region 2 with (first | ((with_reducible show wpList _ _ _ (⟨_,Op.load 26 _,_,_,_,_⟩ :: _) _ _);refine wpList_load_has rfl 26 _ rfl rfl (HB.out.has) agg_Flat rfl ?_) | (go_at_call 52;refine (HBT.out _ HX.out).mono ?_;rintro r w2 ⟨u,rfl,hr2,hx2⟩))
 obtain ⟨gb,cb,hu,hgb,hgc⟩:=hr2.open1 (by rw [show (offsD d).length=_ from HDL.out];omega)
 rw [show (offsD d).length=_ from HDL.out] at hu
 subst hu
 have HGC:=Lib.hid (fun (s:Nat) (hs:s ≤ d.signals.length) W (hx:Ext w2 W)=>Has.one1 (hgc s (sumW d.signals s) (by
  have:(offsD d)[s]? = some (sumW d.signals s):=by unfold offsD offsM;rw [List.getElem?_map,List.getElem?_range (by omega)];rfl
  exact this)) hx)
 have HX2:=Lib.hid hx2
 clear hgb hgc hr2 hx2
 go_wp2_with fail
 go_loopw [7] (fun i wr=>∃ s:Nat,s ≤ d.signals.length∧i=.int .i64 s∧Hid (noneF d.signals o s (d.signals.drop s)=res)∧Ext w2 wr) (fun i _=>d.signals.length - (intOf i).toNat)
 case atStart=>exact ⟨0,Nat.zero_le _,rfl,HRS,Below.refl _ _⟩
 case round =>
  clear HRS
  obtain ⟨s,hs,rfl,HEN,hx⟩:=hrel
  obtain ⟨wo,rfl⟩ : ∃ wo,wo=wr:=⟨_,rfl⟩
  have HXR:=Lib.hid hx
  have y0:=(HB.out.ext (HX2.out.trans hx)).has 0 _ rfl
  rw [Nat.zero_add] at y0
  clear hx
  by_cases hlt:s < d.signals.length
  ·obtain rfl:=HA.out (by omega)
   obtain ⟨q1,q2,q3⟩:=HSU.out s hlt
   have hhas:Has wo b0 (o0 + s * 4) d.signals[s].cells:=Sigs.get (HR.out.mono fun x _ b o h=>SigAt.ext' (HX.out.trans (HX2.out.trans HXR.out)) h) hlt
   have y2:=hhas 2 _ rfl
   have z0:=HGC.out s hs wo HXR.out
   have HZ1:=Lib.hid (fun W (hx:Ext w2 W)=>HGC.out (s + 1) hlt W hx)
   have hen:=HEN.out
   rw [noneF_go hlt] at hen
   have HSB:=Lib.hid (mem_subR (ls:=d.signals) (o:=o) (s:=s) q1 q2 (-1))
   generalize d.signals[s]=x at *
   generalize hk:x.kind=kk at *
   obtain ⟨s0,hs0⟩ : ∃ s0:Nat,sumW d.signals s=s0:=⟨(sumW d.signals s).toNat,by omega⟩
   obtain ⟨s1,hs1⟩ : ∃ s1:Nat,sumW d.signals (s + 1)=s1:=⟨(sumW d.signals (s + 1)).toNat,by omega⟩
   rw [hs0] at q1 q2 z0 HSB
   rw [hs1] at q2 q3 HZ1 HSB
   have HEN2:=Lib.hid hen
   obtain ⟨nl,hnl⟩ : ∃ nl,o.length=nl:=⟨_,rfl⟩
   have HNL:=Lib.hid hnl
   have hnl2:s1 ≤ nl:=by have:=HOL.out;omega
   rw [hnl] at hl1 HAL
   rw [hnl]
   obtain ⟨kb,hkb⟩ : ∃ kb,(decide (kk=2) || decide (kk=3))=kb:=⟨_,rfl⟩
   have HKB:=Lib.hid hkb
   have HKK:=Lib.hid hk
   clear hen HEN hhas hs0 hs1 q1 hnl hkb hk
   go_wp2_with fail
   go_loopw [9] (fun i wr=>∃ j:Nat,s0 ≤ j∧j ≤ s1∧i=.int .i64 j∧(∀ j':Nat,s0 ≤ j'→j' < j→kb=true→o[j']? ≠ some (-1))∧Ext wo wr) (fun i _=>s1 - (intOf i).toNat)
   case atStart=>exact ⟨s0,Nat.le_refl _,by omega,rfl,fun j' h1 h2=>absurd h2 (by omega),Below.refl _ _⟩
   case round =>
    obtain ⟨j,hj0,hj1,rfl,hno,hxi⟩:=hrel
    have HNO:=Lib.hid hno
    have HXI:=Lib.hid hxi
    have z1:=HZ1.out wr (HXR.out.trans hxi)
    clear hno hxi
    by_cases hjl:j < s1
    ·obtain rfl:=HAL.out (by omega)
     have hjo:j < o.length:=by rw [HNL.out];omega
     have hy:=Ints.cell (k:=j) (HLR.out.mono fun x _ b o h=>Has.ext h (HX.out.trans (HX2.out.trans (HXR.out.trans HXI.out)))) hjo
     have HOJ:=Lib.hid (List.getElem?_eq_getElem hjo)
     have hyb:=HOB.out _ (List.getElem_mem hjo)
     generalize o[j]=y at *
     by_cases hkt:kb=true
     ·by_cases hyn:y < 0
      ·obtain rfl:res=true:=by
        have h:=HEN2.out
        have hy1:y = -1:=by omega
        rw [if_pos (by rw [HKB.out,hkt,Bool.true_and,List.contains_iff_mem];exact HSB.out.2 ⟨j,by omega,by omega,by rw [HOJ.out,hy1]⟩)] at h
        exact h.symm
       have hk23:kk=2 ∨ kk=3:=by have:=HKB.out;rw [hkt] at this;simpa using this
       have hb:decide (y < 0)=true:=decide_eq_true hyn
       clear hkt hyb hyn hjo
       rcases hk23 with rfl | rfl
       all_goals (
        go_wp2_with fail
        go_ret
        exact ⟨rfl,HX.out.trans (HX2.out.trans (HXR.out.trans HXI.out))⟩)
      ·have hk23:kk=2 ∨ kk=3:=by have:=HKB.out;rw [hkt] at this;simpa using this
       have hb:decide (y < 0)=false:=decide_eq_false hyn
       have HYN:=Lib.hid hyn
       clear hkt hyb hyn hjo
       rcases hk23 with rfl | rfl
       all_goals (
        go_wp2_with fail
        go_roundw
        case rel=>exact ⟨j + 1,by omega,hjl,by go_num,fun j' h1 h2 h3=>by
         by_cases e:j'=j
         ·subst e;rw [HOJ.out];intro e;injection e with e;exact HYN.out (by omega)
         ·exact HNO.out j' h1 (by omega) h3,HXI.out⟩
        case measure=>simp [intOf];omega)
     ·have hkf : ¬ (kk=2 ∨ kk=3):=fun h=>hkt (by rw [← HKB.out];simpa using h)
      have b2:(kk == 2)=false:=by rw [beq_eq_false_iff_ne];omega
      have b3:(kk == 3)=false:=by rw [beq_eq_false_iff_ne];omega
      have HKT:=Lib.hid hkt
      clear hkf hyb hjo hkt
      go_wp2_with fail
      go_roundw
      case rel=>exact ⟨j + 1,by omega,hjl,by go_num,fun j' h1 h2 h3=>absurd h3 HKT.out,HXI.out⟩
      case measure=>simp [intOf];omega
    ·obtain rfl:j=s1:=by omega
     have HEN3:=Lib.hid (show noneF d.signals o (s + 1) (d.signals.drop (s + 1))=res by
      have h:=HEN2.out
      rw [if_neg] at h
      ·exact h
      ·rw [HKB.out,Bool.and_eq_true,List.contains_iff_mem]
       rintro ⟨h1,h2⟩
       obtain ⟨i,i1,i2,i3⟩:=HSB.out.1 h2
       exact HNO.out i (by omega) (by omega) h1 i3)
     clear y2 z0
     go_wp2_with fail
     go_roundw
     case rel=>exact ⟨s + 1,hlt,by go_num,HEN3,HXR.out.trans HXI.out⟩
     case measure=>simp [intOf];omega
  ·obtain rfl:s=d.signals.length:=by omega
   have hen:=HEN.out
   rw [List.drop_of_length_le (Nat.le_refl _),noneF] at hen
   subst hen
   clear HEN
   go_wp2_with fail
   go_ret
   exact ⟨rfl,HX.out.trans (HX2.out.trans HXR.out)⟩
/-! ### filigreeref12.latch -/
set_option maxRecDepth 100000 in
set_option maxHeartbeats 8000000 in
theorem latch_calls12 (d:Flat) (v:Value) (w:World) (h:FlatV w v d) (hok:d.ok) (hck:checkM d=0) :
  Calls Tryz.prog 33 #[v] w fun r w'=>r=.returned (.bool (latF d 0 d.procs))∧Ext w w':=by
 have HF:=Lib.hid h
 have hlp:=hok.procs
 obtain ⟨sv,pv,cv,rfl,hS,hP,hC⟩:=h
 have hone : [sv,pv,cv].all (·.oneCell')=true:=by simp [hS.one,hP.one,hC.one]
 have HX:=Lib.hid (ext_alloc w (.cells [sv,pv,cv].toArray 26))
 have HB:=Lib.hid (Blk.new w [sv,pv,cv].toArray 26)
 obtain ⟨a0,b0,o0,c0,rfl,hc1,hc2,ha,hr⟩:=hP.open
 have HA:=Lib.hid ha
 have HR:=Lib.hid hr
 have HWR:=Lib.hid (fun W (hx:Ext w W) (k:Nat) (hk:k < d.procs.length)=>Writes_okR d _ W (HF.out.ext hx) hok hck hk)
 have HAW:=Lib.hid (fun W (hx:Ext w W) (k:Nat) (hk:k < d.procs.length)=>Always_okR d _ W (HF.out.ext hx) hok hck hk)
 obtain ⟨res,hres⟩ : ∃ res,latF d 0 d.procs=res:=⟨_,rfl⟩
 have HRS:=Lib.hid (show latF d 0 (d.procs.drop 0)=res from hres)
 rw [hres]
 clear hS hP hC ha hr hok hck hres
 go_enter Tryz.func33,Tryz.ntmps33
 go_upto_region 1 with fail
 generalize w.alloc _=w1 at *
 go_wp2_with fail
 go_loopw [3] (fun i wr=>∃ s:Nat,s ≤ d.procs.length∧i=.int .i64 s∧Hid (latF d s (d.procs.drop s)=res)∧Ext w1 wr) (fun i _=>d.procs.length - (intOf i).toNat)
 case atStart=>exact ⟨0,Nat.zero_le _,rfl,HRS,Below.refl _ _⟩
 case round =>
  clear HRS
  obtain ⟨s,hs,rfl,HEN,hx⟩:=hrel
  have HXR:=Lib.hid hx
  have y1:=(HB.out.ext hx).has 1 _ rfl
  rw [Nat.zero_add] at y1
  clear hx
  by_cases hlt:s < d.procs.length
  ·obtain rfl:=HA.out (by omega)
   have hen:=HEN.out
   rw [latF_go hlt] at hen
   have HW1:=Lib.hid (fun W (hx:Ext wr W)=>HWR.out W (HX.out.trans (HXR.out.trans hx)) s hlt)
   have HA1:=Lib.hid (fun W (hx:Ext wr W)=>HAW.out W (HX.out.trans (HXR.out.trans hx)) s hlt)
   obtain ⟨sk,hhas,-⟩:=Procs.get HR.out hlt
   generalize d.procs[s]=pk at *
   generalize hwl:writesM d (s:Int)=wl at *
   generalize hal:alwaysM d (s:Int)=al at *
   have HH:=Lib.hid hhas
   have HEN2:=Lib.hid hen
   have HB0:=Lib.hid (HB.out.ext HXR.out)
   clear hen HEN hhas hwl hal
   go_upto_region 5 with (first | ((with_reducible show wpList _ _ _ (⟨_,Op.load 26 _,_,_,_,_⟩ :: _) _ _);refine wpList_load_has rfl 26 _ rfl rfl (HB0.out.has) agg_Flat rfl ?_) | (go_at_call 53;refine (HW1.out _ (Below.refl _ _)).mono ?_;rintro r w2 ⟨u2,rfl,hr2,hx2⟩))
   obtain ⟨a2,c2,hu2,-⟩:=hr2.open
   subst hu2
   have HB2:=Lib.hid (HB0.out.ext hx2)
   clear y1
   go_upto_region 6 with (first | ((with_reducible show wpList _ _ _ (⟨_,Op.load 26 _,_,_,_,_⟩ :: _) _ _);refine wpList_load_has rfl 26 _ rfl rfl (HB2.out.has) agg_Flat rfl ?_) | (go_at_call 57;refine (HA1.out _ hx2).mono ?_;rintro r w3 ⟨u3,rfl,hr3,hx3⟩))
   obtain ⟨a3,c3,hu3,-⟩:=hr3.open
   subst hu3
   have HX3:=Lib.hid (HXR.out.trans (hx2.trans hx3))
   have y1:=(HB2.out.ext hx3).has 1 _ rfl
   rw [Nat.zero_add] at y1
   have yc:=HH.out.ext (HX.out.trans HX3.out) 0 _ rfl
   rw [Nat.add_zero] at yc
   obtain ⟨cb,hcb⟩ : ∃ cb,pk.clocked=cb:=⟨_,rfl⟩
   rw [hcb] at yc HEN2
   clear hcb hr2 hr3 hx2 hx3
   cases cb
   ·by_cases hll:wl.length=al.length
    ·have hb:((wl.length:Int) != (al.length:Int))=false:=by rw [bne_eq_false_iff_eq];omega
     have HEN3:=Lib.hid (show latF d (s + 1) (d.procs.drop (s + 1))=res by
      have h:=HEN2.out
      rw [if_neg (by simp [hll])] at h
      exact h)
     clear hll
     go_wp2_with fail
     go_roundw
     case rel=>exact ⟨s + 1,hlt,by go_num,HEN3,HX3.out⟩
     case measure=>simp [intOf];omega
    ·have hb:((wl.length:Int) != (al.length:Int))=true:=by rw [bne_iff_ne];omega
     obtain rfl:res=true:=by
      have h:=HEN2.out
      rw [if_pos (by simp [hll])] at h
      exact h.symm
     clear hll
     go_wp2_with fail
     go_ret
     exact ⟨rfl,HX.out.trans HX3.out⟩
   ·have HEN3:=Lib.hid (show latF d (s + 1) (d.procs.drop (s + 1))=res by
     have h:=HEN2.out
     rw [if_neg (by simp)] at h
     exact h)
    go_wp2_with fail
    go_roundw
    case rel=>exact ⟨s + 1,hlt,by go_num,HEN3,HX3.out⟩
    case measure=>simp [intOf];omega
  ·obtain rfl:s=d.procs.length:=by omega
   have hen:=HEN.out
   rw [List.drop_of_length_le (Nat.le_refl _),latF] at hen
   subst hen
   clear HEN
   go_wp2_with fail
   go_ret
   exact ⟨rfl,HX.out.trans HXR.out⟩
open Go.RowKit
/-! ### rows of rows of marks -/
def VBools (w:World) (cs:List Value) (x:List Bool):Prop:=∃ u,cs=[u]∧Bools w u x
abbrev BoolsL (w:World) (v:Value) (ll:List (List Bool)):Prop:=Sl 1 (fun (x:List Bool) b o=>∃ u,Has w b o [u]∧Bools w u x) v ll
theorem BoolRow.fv {M:Nat} {v:Value} {l:List Bool} {w:World} (h:BoolRow M v l w):FV VBools M w [v] l:=fun W hW =>
 ⟨v,rfl,(h.keep fun k hk o ho=>(hW.2 k (h.at hk).1 (Array.getElem?_eq_some_iff.1 ho).1).trans ho).cells⟩
theorem RowIs.boolsL {N:Nat} {v:Value} {r:List (List Bool)} {w:World} (h:RowIs VBools 35 1 N v r w):BoolsL w v r :=
 RowIs.sl (At:=fun w (x:List Bool) b o=>∃ u,Has w b o [u]∧Bools w u x) (fun W cs x b o hb ⟨u,h1,h2⟩=>⟨u,by rw [← h1];exact hb,h2⟩) h (Since.refl _ _)
theorem appBools:AppT Tryz.prog 59 35 1 24:=⟨Tryz.underlying59,by kernel_rfl,by decide,by decide⟩
/-! ### whom a process hangs on, bit by bit -/
def hK (o:List Int) (clk:List Bool) (r:List Int) (j:Nat):List Int:=((r.take j).map fun b=>o.getD b.toNat 0).filter fun q=>decide (0 ≤ q) && !clk.getD q.toNat false
theorem hK_succ (o:List Int) (clk:List Bool) (r:List Int) {j:Nat} (h:j < r.length):hK o clk r (j + 1)=hK o clk r j ++ if (decide (0 ≤ o.getD r[j].toNat 0) && !clk.getD (o.getD r[j].toNat 0).toNat false)=true then [o.getD r[j].toNat 0] else []:=by
 unfold hK
 rw [take_snoc _ _ h,List.map_append,List.filter_append]
 congr 1
 simp only [List.map_cons,List.map_nil]
 split <;> rename_i hh
 ·rw [List.filter_cons,if_pos hh];rfl
 ·rw [List.filter_cons,if_neg hh];rfl
theorem hK_full (n:Nat) (o:List Int) (clk:List Bool) (r:List Int):setB n (hK o clk r r.length)=setB n (hang1 o clk r []):=by
 refine setB_ext fun x=>?_
 rw [mem_hang]
 unfold hK
 rw [List.take_length,List.mem_filter,List.mem_map]
 simp only [Bool.and_eq_true,decide_eq_true_eq,Bool.not_eq_true']
 constructor
 ·rintro ⟨⟨b,h1,h2⟩,h3,h4⟩;exact ⟨h3,h4,b,h1,h2⟩
 ·rintro ⟨h3,h4,b,h1,h2⟩;exact ⟨⟨b,h1,h2⟩,h3,h4⟩
def onK (d:Flat) (o:List Int) (k:Nat):List (List Bool):=(List.range k).map fun (p:Nat)=>setB d.procs.length (hang1 o (clks d) (readsM d (p:Int)) [])
theorem onK_succ (d:Flat) (o:List Int) (k:Nat):onK d o (k + 1)=onK d o k ++ [setB d.procs.length (hang1 o (clks d) (readsM d (k:Int)) [])]:=by unfold onK;rw [List.range_succ,List.map_append];rfl
theorem onK_length (d:Flat) (o:List Int) (k:Nat):(onK d o k).length=k:=by simp [onK]
theorem clks_at (d:Flat) {m:Nat} (h:m < d.procs.length):(clks d).getD m false=d.procs[m].clocked:=by
 unfold clks;rw [List.getD_eq_getElem?_getD,List.getElem?_map,List.getElem?_eq_getElem h];rfl
/-! ### filigreeref12.Hangs -/
set_option maxRecDepth 100000 in
set_option maxHeartbeats 8000000 in
theorem Hangs_calls12 (d:Flat) (v lv:Value) (w:World) (h:FlatV w v d) (hok:d.ok) (hck:checkM d=0) (o:List Int) (hl:Ints w lv o) (hol:(o.length:Int)=nBits d) (hob:∀ x ∈ o,-1 ≤ x∧x < d.procs.length) :
  Calls Tryz.prog 35 #[v,lv] w fun r w'=>∃ u,r=.returned u∧BoolsL w' u (onK d o d.procs.length)∧Ext w w':=by
 have HF:=Lib.hid h
 have HOK:=Lib.hid hok
 have HCK:=Lib.hid hck
 have hlp:=hok.procs
 have hnb:=nBits_le hok hck
 have HOL:=Lib.hid hol
 have HOB:=Lib.hid hob
 obtain ⟨sv,pv,cv,rfl,hS,hP,hC⟩:=h
 have hone : [sv,pv,cv].all (·.oneCell')=true:=by simp [hS.one,hP.one,hC.one]
 have HX:=Lib.hid (ext_alloc w (.cells [sv,pv,cv].toArray 26))
 have HB:=Lib.hid (Blk.new w [sv,pv,cv].toArray 26)
 obtain ⟨a0,b0,o0,c0,rfl,hc1,hc2,ha,hr⟩:=hP.open
 have HA:=Lib.hid ha
 have HR:=Lib.hid hr
 obtain ⟨al,bl,ol,cl,rfl,hl1,hl2,hal,hlr⟩:=hl.open
 have HAL:=Lib.hid hal
 have HLR:=Lib.hid hlr
 have HRE:=Lib.hid (fun W (hx:Ext w W) (k:Nat) (hk:k < d.procs.length)=>Reads_okR d _ W (HF.out.ext hx) hok hck hk)
 clear hS hP hC ha hr hl hal hlr hok hck hol hob
 go_enter Tryz.func35,Tryz.ntmps35
 go_upto_region 1 with fail
 generalize w.alloc _=w1 at *
 go_wp2_with fail
 go_loopw [5,6] (fun u i wr=>∃ (k:Nat) (a:Option Addr) (cap:Nat),k ≤ d.procs.length∧i=.int .i64 k∧u=.slice a k cap∧RowIs VBools 35 1 w1.heap.size (.slice a k cap) (onK d o k) wr∧Ext w1 wr) (fun _ i _=>d.procs.length - (intOf i).toNat)
 case atStart=>exact ⟨0,Option.none,0,Nat.zero_le _,rfl,rfl,RowIs.nil,Below.refl _ _⟩
 case round =>
  obtain ⟨k,a,cap,hk,rfl,rfl,hrow,hx⟩:=hrel
  obtain ⟨wo,rfl⟩ : ∃ wo,wo=wr:=⟨_,rfl⟩
  have HROW:=Lib.hid hrow
  have HXR:=Lib.hid hx
  have hszo:=hx.size
  have y1:=(HB.out.ext hx).has 1 _ rfl
  rw [Nat.zero_add] at y1
  have hlt7:∀ q,Value.ownBlock (.slice a k cap)=some q→q < wo.heap.size:=fun q hq=>(hrow.lt q hq).2
  have HLT7:=Lib.hid hlt7
  clear hrow hx hlt7
  by_cases hlt:k < d.procs.length
  ·obtain rfl:=HA.out (by omega)
   go_wp2_with ((with_reducible show wpList _ _ _ (⟨_,Op.makeSlice _ _ _,_,_,_,_⟩ :: _) _ _);refine Hid.out ?_)
   refine Lib.hid ?_
   refine wpList_mk rfl _ _ _ rfl (n:=d.procs.length) rfl rfl Tryz.underlying35 info_bool (by omega) (by omega) ?_
   rw [made_bools]
   have hrm:=made_row wo d.procs.length (by omega)
   have hx3:=ext_alloc wo (.cells (List.replicate d.procs.length (Value.bool false)).toArray 4)
   have hs3:wo.heap.size < (wo.alloc (.cells (List.replicate d.procs.length (Value.bool false)).toArray 4)).heap.size:=by simp
   generalize wo.alloc _=w3 at *
   obtain ⟨g,hg⟩ : ∃ g,wo.heap.size=g:=⟨_,rfl⟩
   rw [hg] at hrm hs3 hszo HLT7 ⊢
   have HG:=Lib.hid hg
   have HX3:=Lib.hid hx3
   have HB3:=Lib.hid (HB.out.ext (HXR.out.trans hx3))
   have HRM:=Lib.hid hrm
   have HRK:=Lib.hid (HRE.out w3 (HX.out.trans (HXR.out.trans hx3)) k hlt)
   have hrange:=readsM_range HOK.out HCK.out (p:=(k:Int)) (by simpa using hlt)
   have hlw:=lt_length _ _ (numbersM_lt _ _:(readsM d (k:Int)).Pairwise (· < ·)) hrange
   have HON:=Lib.hid (onK_succ d o k)
   have HFULL:=Lib.hid (hK_full d.procs.length o (clks d) (readsM d (k:Int)))
   generalize readsM d (k:Int)=l at *
   have HRG:=Lib.hid hrange
   clear hrm hx3 hg y1 hrange
   go_upto_region 7 with (first | ((with_reducible show wpList _ _ _ (⟨_,Op.load 26 _,_,_,_,_⟩ :: _) _ _);refine wpList_load_has rfl 26 _ rfl rfl (HB3.out.has) agg_Flat rfl ?_) | (go_at_call 59;refine HRK.out.mono ?_;rintro r w6 ⟨u6,rfl,hr6,hx6⟩))
   obtain ⟨a6,b6,o6,c6,rfl,hq1,hq2,ha6,hrr6⟩:=hr6.cells.open
   have HA6:=Lib.hid ha6
   have HR6:=Lib.hid hrr6
   have HX6:=Lib.hid (HX3.out.trans hx6)
   have HRM6:=Lib.hid (HRM.out.ext hx6)
   have hne6:0 < l.length→b6 ≠ g:=by
    intro h0
    obtain ⟨g',c',he,hge,-⟩:=hr6.open1 h0
    obtain rfl:=ha6 h0
    injection he with e1
    injection e1 with e1
    injection e1 with e1
    omega
   have HNE6:=Lib.hid hne6
   have HS6:=Lib.hid hx6.size
   clear hr6 hx6 ha6 hrr6 HRK HRM hne6
   go_wp2_with fail
   go_loopw [10] (fun i wr=>∃ j:Nat,j ≤ l.length∧i=.int .i64 j∧BoolRow g (.slice (some ⟨g,0,Option.none⟩) d.procs.length d.procs.length) (setB d.procs.length (hK o (clks d) l j)) wr∧w6.grownBy wr (some g)) (fun i _=>l.length - (intOf i).toNat)
   case atStart=>exact ⟨0,Nat.zero_le _,rfl,by simpa [hK] using HRM6.out,gb_refl _ _⟩
   case round =>
    obtain ⟨j,hj,rfl,hrow,hg1⟩:=hrel
    have HROWI:=Lib.hid hrow
    have HGI:=Lib.hid hg1
    have HXI:=Lib.hid (show Ext wo wr from Ext.grown HX6.out hg1 (by rw [HG.out];exact Nat.le_refl _))
    clear hrow hg1
    by_cases hjl:j < l.length
    ·obtain rfl:=HA6.out (by omega)
     have hbq:=HRG.out _ (List.getElem_mem hjl)
     have hq:=HR6.out.get (List.getElem?_eq_getElem hjl)
     have yq:=(Has.grown hq HGI.out (HNE6.out (by omega))) 0 _ rfl
     simp only [Nat.mul_one,Nat.add_zero] at yq
     have hks:=hK_succ o (clks d) l hjl
     generalize l[j]=b at *
     obtain ⟨b',rfl⟩ : ∃ b':Nat,b=b':=⟨b.toNat,by omega⟩
     have hbo:b' < o.length:=by have:=HOL.out;omega
     obtain rfl:=HAL.out (by omega)
     have yo:=Ints.cell (k:=b') (HLR.out.mono fun x _ b o h=>Has.ext h (HX.out.trans (HXR.out.trans HXI.out))) hbo
     have hrg:=HOB.out _ (List.getElem_mem hbo)
     rw [Int.toNat_natCast,List.getD_eq_getElem?_getD,List.getElem?_eq_getElem hbo,Option.getD_some] at hks
     generalize o[b']=q at *
     by_cases hq0:0 ≤ q
     ·obtain ⟨m,rfl⟩ : ∃ m:Nat,q=m:=⟨q.toNat,by omega⟩
      have hmn:m < d.procs.length:=by omega
      have hb0:decide ((0:Int) ≤ (m:Int))=true:=decide_eq_true hq0
      obtain ⟨t2,hhas,-⟩:=Procs.get HR.out hmn
      have yd:=(hhas.ext (HX.out.trans (HXR.out.trans HXI.out))) 0 _ rfl
      rw [Nat.add_zero] at yd
      rw [Int.toNat_natCast,clks_at d hmn,hb0,Bool.true_and] at hks
      have y1:=(HB.out.ext (HXR.out.trans HXI.out)).has 1 _ rfl
      rw [Nat.zero_add] at y1
      generalize d.procs[m].clocked=cb at *
      cases cb
      ·simp only [Bool.not_false,if_true] at hks
       have hml:m < (setB d.procs.length (hK o (clks d) l j)).length:=by rw [setB_length];exact hmn
       obtain ⟨c1,c2⟩:=HROWI.out.cellf hml
       have hset:=HROWI.out.set m hml true
       have hsb:=setB_set d.procs.length (hK o (clks d) l j) (m:Int) (by omega)
       rw [Int.toNat_natCast,← hks] at hsb
       rw [hsb] at hset
       have HSET:=Lib.hid hset
       have HG9:=Lib.hid (gb_trans HGI.out (gb_set wr g m (.bool true)))
       generalize (setB d.procs.length (hK o (clks d) l j))[m]'_=bx at *
       clear hset hsb hks hbq hq hhas hml hrg
       go_wp2_with fail
       go_roundw
       case rel=>exact ⟨j + 1,hjl,by go_num,HSET.out,HG9.out⟩
       case measure=>simp [intOf];omega
      ·simp only [Bool.not_true,Bool.false_eq_true,if_false,List.append_nil] at hks
       have HKS:=Lib.hid hks
       clear hks hbq hq hhas hrg
       go_wp2_with fail
       go_roundw
       case rel=>exact ⟨j + 1,hjl,by go_num,by rw [HKS.out];exact HROWI.out,HGI.out⟩
       case measure=>simp [intOf];omega
     ·have hb0:decide (0 ≤ q)=false:=decide_eq_false hq0
      rw [hb0,Bool.false_and,if_neg (by decide),List.append_nil] at hks
      have HKS:=Lib.hid hks
      clear hks hbq hq hrg hq0
      go_wp2_with fail
      go_roundw
      case rel=>exact ⟨j + 1,hjl,by go_num,by rw [HKS.out];exact HROWI.out,HGI.out⟩
      case measure=>simp [intOf];omega
    ·obtain rfl:j=l.length:=by omega
     rw [HFULL.out] at HROWI
     go_wp2_with ((with_reducible show wpList _ _ _ (⟨_,Op.buildSlice _ _ _,_,_,_,_⟩ :: _) _ _);refine Hid.out ?_)
     refine Lib.hid ?_
     refine wpList_bs1 (v:=.slice (some ⟨g,0,Option.none⟩) d.procs.length d.procs.length) rfl _ _ rfl appBools rfl (cs:=[.slice (some ⟨g,0,Option.none⟩) d.procs.length d.procs.length]) rfl rfl (by decide) ?_
     have hx7:=ext_alloc wr (.cells [Value.slice (some ⟨g,0,Option.none⟩) d.procs.length d.procs.length].toArray 35)
     have hb7:=Blk.new wr [Value.slice (some ⟨g,0,Option.none⟩) d.procs.length d.procs.length].toArray 35
     have hX7:=HXI.out.trans hx7
     have hW7:=HROW.out.since (Since.of_ext hX7)
     have hF7:=(HROWI.out.ext hx7).fv
     have hS7:=hF7.st (N:=w1.heap.size) (R:=Value.ownBlock (.slice a k cap)) (by omega) HLT7.out
     have hz7:=hX7.size
     generalize wr.alloc _=w7 at *
     refine wpList_app1 rfl _ _ _ rfl appBools rfl hW7 rfl (cs:=[.slice (some ⟨g,0,Option.none⟩) d.procs.length d.procs.length]) rfl hb7.has rfl hS7 (by rw [onK_length];omega) (by have:=HG.out;omega) ?_
     intro g8 cap8 w8 hway8 hg8
     rw [onK_length] at hway8 ⊢
     rw [← HON.out] at hway8
     have hx8:Ext w1 w8:=Ext.grownO (HXR.out.trans hX7) hg8 (fun q hq=>(hW7.lt q hq).1)
     have HW8:=Lib.hid hway8
     clear hway8 hg8 hS7 hF7 hW7 hb7 hx7 hX7
     go_wp2_with fail
     go_roundw
     case rel=>exact ⟨k + 1,_,cap8,hlt,by go_num,rfl,HW8.out,hx8⟩
     case measure=>simp [intOf];omega
  ·obtain rfl:k=d.procs.length:=by omega
   go_wp2_with fail
   go_ret
   exact ⟨_,rfl,HROW.out.boolsL,HX.out.trans HXR.out⟩
open Go.RowKit
/-! ### plain: in which order -/
theorem nextM_found {g:List (List Int)} {clk come:List Bool} {p:Nat} (hj:∀ j,j < p→ready g clk come j=false) (hp:p < g.length) (hr:ready g clk come p=true):nextM g clk come=p:=by
 rcases nextFrom_spec g clk come g.length 0 with ⟨h1,h2⟩ | ⟨k,h1,h2,h3,h4,h5⟩
 ·rw [h2 p (by omega) (by omega)] at hr;cases hr
 ·have:k=p:=by
   rcases Nat.lt_trichotomy k p with h | h | h
   ·rw [hj k h] at h4;cases h4
   ·exact h
   ·rw [h5 p (by omega) h] at hr;cases hr
  rw [← this];exact h1
theorem nextM_none {g:List (List Int)} {clk come:List Bool} (hj:∀ j,j < g.length→ready g clk come j=false):nextM g clk come = -1:=by
 rcases nextM_spec g clk come with ⟨h1,h2⟩ | ⟨k,h1,h2,h3⟩
 ·exact h1
 ·rw [hj k h2] at h3;cases h3
theorem orderM_stop {g:List (List Int)} {clk come:List Bool} {out:List Int} (m:Nat) (hj:∀ j,j < g.length→ready g clk come j=false):orderM g clk m come out=out:=by
 cases m with
 | zero=>rfl
 | succ m=>rw [orderM];(try simp only);rw [nextM_none hj,if_neg (by decide)]
theorem ord_fullR {g:List (List Int)} {clk come:List Bool} {out:List Int} (ho:Ord g clk come out) (hcl:clk.length=g.length) (hw:wiresM clk ≤ out.length) :
  ∀ k:Nat,k < g.length→clk.getD k false=false→(k:Int) ∈ out:=by
 have hwl:=wires_list clk
 intro k hk hc
 refine nodup_full out (((List.range clk.length).filter fun p=>!clk.getD p false).map fun (k:Nat)=>(k:Int)) ho.nodup ?_ (by rw [List.length_map,hwl];exact hw) (k:Int) ?_
 ·intro x hx
  obtain ⟨h1,h2,h3⟩:=ho.inr x hx
  refine List.mem_map.2 ⟨x.toNat,List.mem_filter.2 ⟨List.mem_range.2 (by omega),?_⟩,by omega⟩
  rw [h3];rfl
 ·exact List.mem_map.2 ⟨k,List.mem_filter.2 ⟨List.mem_range.2 (by omega),by rw [hc];rfl⟩,rfl⟩
theorem ord_end {g:List (List Int)} {clk come:List Bool} {out:List Int} (m:Nat) (ho:Ord g clk come out) (hcl:clk.length=g.length) (hw:wiresM clk ≤ out.length):orderM g clk m come out=out:=by
 refine orderM_stop m fun j hj=>?_
 unfold ready
 cases hc:clk.getD j false with
 | true=>simp
 | false =>
  rw [(ho.came j).2 (ord_fullR ho hcl hw j hj hc)];simp
theorem readyB_set {n:Nat} {S:List Int} {come:List Bool} (h:∀ q ∈ S,0 ≤ q∧q < n):readyB (setB n S) come n=S.all fun q=>come.getD q.toNat false:=by
 rw [Bool.eq_iff_iff]
 unfold readyB
 rw [List.all_eq_true,List.all_eq_true]
 constructor
 ·intro hh q hq
  have hr:=h q hq
  have:=hh q.toNat (List.mem_range.2 (by omega))
  rw [List.getD_eq_getElem?_getD,setB_get _ (by omega)] at this
  simp only [Option.getD_some] at this
  rw [show ((q.toNat:Nat):Int)=q by omega,decide_eq_true hq] at this
  simpa using this
 ·intro hh q hq
  have hqn:=List.mem_range.1 hq
  rw [List.getD_eq_getElem?_getD,setB_get _ hqn]
  simp only [Option.getD_some]
  by_cases hm:(q:Int) ∈ S
  ·have:=hh _ hm
   rw [Int.toNat_natCast] at this
   rw [this];simp
  ·simp [hm]
theorem ready_parts {g:List (List Int)} {clk come:List Bool} {p n:Nat} {S:List Int} (hg:g[p]? = some S) (hS:∀ q ∈ S,0 ≤ q∧q < n):ready g clk come p=(!come.getD p false && !clk.getD p false && readyB (setB n S) come n):=by
 unfold ready
 rw [readyB_set hS,List.getD_eq_getElem?_getD (l:=g),hg];rfl
theorem wires_take (clk:List Bool) {k:Nat} (h:k < clk.length):wiresM (clk.take (k + 1))=wiresM (clk.take k) + if clk[k]=true then 0 else 1:=by
 unfold wiresM
 rw [take_snoc _ _ h,List.countP_append,List.countP_cons,List.countP_nil]
 cases clk[k] <;> rfl
theorem wires_le (clk:List Bool):wiresM clk ≤ clk.length:=List.countP_le_length
theorem Ord.olen {g:List (List Int)} {clk come:List Bool} {out:List Int} (ho:Ord g clk come out):out.length ≤ g.length:=by
 have:=nodup_le out ((List.range g.length).map fun (k:Nat)=>(k:Int)) ho.nodup fun x hx=>by
  obtain ⟨h1,h2,-⟩:=ho.inr x hx
  exact List.mem_map.2 ⟨x.toNat,List.mem_range.2 (by omega),by omega⟩
 simpa using this
/-! ### filigreeref12.order -/
set_option maxRecDepth 100000 in
set_option maxHeartbeats 8000000 in
theorem order_calls12 (d:Flat) (v lv:Value) (w:World) (h:FlatV w v d) (hok:d.ok) (hck:checkM d=0) (o:List Int) (hl:Ints w lv o) (hol:(o.length:Int)=nBits d) (hob:∀ x ∈ o,-1 ≤ x∧x < d.procs.length) :
  Calls Tryz.prog 34 #[v,lv] w fun r w'=>∃ u,r=.returned (.tuple #[u,.bool (decide (wiresM (clks d) ≤ (ordM (graphM d o) (clks d)).length))])∧IntRow w.heap.size u (ordM (graphM d o) (clks d)) w'∧Ext w w':=by
 have HF:=Lib.hid h
 have hlp:=hok.procs
 have HGR:=Lib.hid (fun (p:Nat) (hp:p < d.procs.length)=>(show ∀ q ∈ hang1 o (clks d) (readsM d (p:Int)) [],0 ≤ q∧q < (d.procs.length:Nat) from fun q hq=>by
  have:=((graphM_range hok hck hol hob) _ (List.mem_of_getElem? (graphM_get d o hp))).2 q hq
  rw [graphM_length] at this
  omega))
 have HGG:=Lib.hid (fun (p:Nat) (hp:p < d.procs.length)=>graphM_get d o hp)
 have HGL:=Lib.hid (graphM_length d o)
 have HCL:=Lib.hid (show (clks d).length=d.procs.length by simp [clks])
 have HCA:=Lib.hid (fun (p:Nat) (hp:p < d.procs.length)=>clks_at d hp)
 have HCE:=Lib.hid (fun (p:Nat) (hp:p < d.procs.length)=>(show (clks d)[p]? = some d.procs[p].clocked by unfold clks;rw [List.getElem?_map,List.getElem?_eq_getElem hp];rfl))
 obtain ⟨res,hres⟩ : ∃ res,ordM (graphM d o) (clks d)=res:=⟨_,rfl⟩
 have HRS:=Lib.hid (show orderM (graphM d o) (clks d) (d.procs.length + 1) (List.replicate d.procs.length false) []=res by rw [← hres];unfold ordM;rw [graphM_length])
 have HORD:=Lib.hid (show Ord (graphM d o) (clks d) (List.replicate d.procs.length false) [] by have:=Ord.nil (graphM d o) (clks d);rwa [graphM_length] at this)
 obtain ⟨W,hW⟩ : ∃ W,wiresM (clks d)=W:=⟨_,rfl⟩
 have hWn:W ≤ d.procs.length:=by have:=wires_le (clks d);rw [hW,HCL.out] at this;exact this
 have HW:=Lib.hid hW
 rw [hres,hW]
 have HHG:=Lib.hid (fun W (hx:Ext w W)=>Hangs_calls12 d v lv W (h.ext hx) hok hck o (hl.ext hx) hol hob)
 have hone1:=hl.one
 obtain ⟨sv,pv,cv,rfl,hS,hP,hC⟩:=h
 have hone : [sv,pv,cv].all (·.oneCell')=true:=by simp [hS.one,hP.one,hC.one]
 have HX:=Lib.hid (ext_alloc w (.cells [sv,pv,cv].toArray 26))
 have HB:=Lib.hid (Blk.new w [sv,pv,cv].toArray 26)
 obtain ⟨a0,b0,o0,c0,rfl,hc1,hc2,ha,hr⟩:=hP.open
 have HA:=Lib.hid ha
 have HR:=Lib.hid hr
 clear hS hP hC ha hr hl hok hck hol hob hres hW
 go_enter Tryz.func34,Tryz.ntmps34
 go_upto_region 1 with fail
 generalize w.alloc _=w1 at *
 go_upto_region 2 with (first | ((with_reducible show wpList _ _ _ (⟨_,Op.load 26 _,_,_,_,_⟩ :: _) _ _);refine wpList_load_has rfl 26 _ rfl rfl (HB.out.has) agg_Flat rfl ?_) | (go_at_call 35;refine (HHG.out _ HX.out).mono ?_;rintro r w2 ⟨u,rfl,hu2,hx2⟩))
 obtain ⟨ag,bg,og,cg,rfl,hg1,hg2,hag,hgr⟩:=hu2.open
 rw [onK_length] at hg1 hag ⊢
 have HAG:=Lib.hid hag
 have HGRW:=Lib.hid hgr
 have HB2:=Lib.hid (HB.out.ext hx2)
 have y1:=(HB.out.ext hx2).has 1 _ rfl
 rw [Nat.zero_add] at y1
 clear hu2 hag hgr
 go_wp2_with ((with_reducible show wpList _ _ _ (⟨_,Op.makeSlice _ _ _,_,_,_,_⟩ :: _) _ _);refine Hid.out ?_)
 refine Lib.hid ?_
 refine wpList_mk rfl _ _ _ rfl (n:=d.procs.length) rfl rfl Tryz.underlying35 info_bool (by omega) (by omega) ?_
 rw [made_bools]
 have hrm:=made_row w2 d.procs.length (by omega)
 rw [setB_nil] at hrm
 have hx3:=ext_alloc w2 (.cells (List.replicate d.procs.length (Value.bool false)).toArray 4)
 have hs3:w2.heap.size < (w2.alloc (.cells (List.replicate d.procs.length (Value.bool false)).toArray 4)).heap.size:=by simp
 generalize w2.alloc _=w3 at *
 obtain ⟨g,hg⟩ : ∃ g,w2.heap.size=g:=⟨_,rfl⟩
 rw [hg] at hrm hs3 ⊢
 have HRM:=Lib.hid hrm
 have HX3:=Lib.hid (hx2.trans hx3)
 have HX23:=Lib.hid hx3
 have hg1':w1.heap.size ≤ g:=by rw [← hg];exact hx2.size
 have HG:=Lib.hid hg
 clear hrm hx3 hx2 hg y1
 go_wp2_with fail
 go_loopw [9,10] (fun m i wr=>∃ k:Nat,k ≤ d.procs.length∧i=.int .i64 k∧m=.int .i64 (wiresM ((clks d).take k):Nat)∧Ext w3 wr) (fun _ i _=>d.procs.length - (intOf i).toNat)
 case atStart=>exact ⟨0,Nat.zero_le _,rfl,rfl,Below.refl _ _⟩
 case round =>
  obtain ⟨k,hk,rfl,rfl,hx⟩:=hrel
  have HXR:=Lib.hid hx
  have y1:=(HB.out.ext (HX3.out.trans hx)).has 1 _ rfl
  rw [Nat.zero_add] at y1
  clear hx
  by_cases hlt:k < d.procs.length
  ·obtain rfl:=HA.out (by omega)
   obtain ⟨t2,hhas,-⟩:=Procs.get HR.out hlt
   have yd:=(hhas.ext (HX.out.trans (HX3.out.trans HXR.out))) 0 _ rfl
   rw [Nat.add_zero] at yd
   have hkc:k < (clks d).length:=by rw [HCL.out];exact hlt
   have hwt:=wires_take (clks d) hkc
   have hce:(clks d)[k]=d.procs[k].clocked:=by have:=HCE.out k hlt;rw [List.getElem?_eq_getElem hkc] at this;injection this
   rw [hce] at hwt
   have hwl:wiresM ((clks d).take k) ≤ k:=by have:=wires_le ((clks d).take k);rw [List.length_take] at this;omega
   generalize d.procs[k].clocked=cb at *
   generalize wiresM ((clks d).take k)=m at *
   have HWT:=Lib.hid hwt
   clear hwt hce hkc hhas
   cases cb
   ·have HW2:=Lib.hid (show wiresM ((clks d).take (k + 1))=m + 1 by rw [HWT.out];rfl)
    go_wp2_with fail
    go_roundw
    case rel=>exact ⟨k + 1,hlt,by go_num,by rw [HW2.out];go_num,HXR.out⟩
    case measure=>simp [intOf];omega
   ·have HW2:=Lib.hid (show wiresM ((clks d).take (k + 1))=m by rw [HWT.out];rfl)
    go_wp2_with fail
    go_roundw
    case rel=>exact ⟨k + 1,hlt,by go_num,by rw [HW2.out],HXR.out⟩
    case measure=>simp [intOf];omega
  ·obtain rfl:k=d.procs.length:=by omega
   rw [List.take_of_length_le (by rw [HCL.out];exact Nat.le_refl _),HW.out]
   go_wp2_with fail
   have HRMR:=Lib.hid (HRM.out.ext HXR.out)
   have HXX:=Lib.hid (HX3.out.trans HXR.out)
   clear HRM y1
   go_loopw [8] (fun u wr=>∃ (come:List Bool) (out:List Int) (m:Nat) (a:Option Addr) (cap:Nat),u=.slice a out.length cap∧Ord (graphM d o) (clks d) come out∧Hid (orderM (graphM d o) (clks d) m come out=res)∧IntRow w2.heap.size (.slice a out.length cap) out wr∧BoolRow g (.slice (some ⟨g,0,Option.none⟩) d.procs.length d.procs.length) come wr∧falses come < m∧Ext w2 wr∧Ext w1 wr) (fun u _=>W - lenV u)
   case atStart=>exact ⟨_,[],d.procs.length + 1,Option.none,0,rfl,HORD.out,HRS,IntRow.nil _ _,HRMR.out,by have:=falses_le (List.replicate d.procs.length false);simp at this;omega,HX23.out.trans HXR.out,HXX.out⟩
   case round =>
    clear HRMR HXX HXR HRS HORD
    obtain ⟨come,out,m,a,cap,rfl,hord,HEN,hrow,hcrow,hfal,hx2r,hxr⟩:=hrel
    obtain ⟨wo,rfl⟩ : ∃ wo,wo=wr:=⟨_,rfl⟩
    have HOR:=Lib.hid hord
    have HROW:=Lib.hid hrow
    have HCROW:=Lib.hid hcrow
    have HX2R:=Lib.hid hx2r
    have HXR:=Lib.hid hxr
    have hcl:come.length=d.procs.length:=by rw [hord.len];exact HGL.out
    have HCML:=Lib.hid hcl
    clear hord hrow hcrow hx2r hxr hcl
    by_cases hlt:out.length < W
    ·go_wp2_with fail
     go_loopw [11] (fun i wr=>∃ p:Nat,p ≤ d.procs.length∧i=.int .i64 p∧(∀ j,j < p→ready (graphM d o) (clks d) come j=false)∧Ext wo wr) (fun i _=>d.procs.length - (intOf i).toNat)
     case atStart=>exact ⟨0,Nat.zero_le _,rfl,fun j hj=>absurd hj (by omega),Below.refl _ _⟩
     case round =>
      obtain ⟨p,hp,rfl,hno,hxi⟩:=hrel
      have HNO:=Lib.hid hno
      have HXI:=Lib.hid hxi
      have y1:=(HB.out.ext (HXR.out.trans hxi)).has 1 _ rfl
      rw [Nat.zero_add] at y1
      clear hno hxi
      by_cases hpl:p < d.procs.length
      ·obtain rfl:=HA.out (by omega)
       obtain rfl:=HAG.out (by omega)
       obtain ⟨t2,hhas,-⟩:=Procs.get HR.out hpl
       have yd:=(hhas.ext (HX.out.trans (HXR.out.trans HXI.out))) 0 _ rfl
       rw [Nat.add_zero] at yd
       have hpc:p < come.length:=by rw [HCML.out];exact hpl
       have yc:=((HCROW.out.ext HXI.out).cellf hpc).1
       have hcd:come.getD p false=come[p]:=by rw [List.getD_eq_getElem?_getD,List.getElem?_eq_getElem hpc];rfl
       have hpp:=ready_parts (clk:=clks d) (come:=come) (HGG.out p hpl) (HGR.out p hpl)
       rw [hcd,HCA.out p hpl] at hpp
       have hpo:p < (onK d o d.procs.length).length:=by rw [onK_length];exact hpl
       obtain ⟨uu,hu1,hu2⟩:=HGRW.out.get (List.getElem?_eq_getElem hpo)
       rw [show (onK d o d.procs.length)[p]=setB d.procs.length (hang1 o (clks d) (readsM d (p:Int)) []) by simp [onK]] at hu2
       have yu:=hu1.ext (HX2R.out.trans HXI.out) 0 _ rfl
       rw [Nat.mul_one,Nat.add_zero] at yu
       have HRC:=Lib.hid (ready_calls12 _ come uu _ wr (hu2.mono fun x _ b o h=>Has.ext h (HX2R.out.trans HXI.out)) (HCROW.out.ext HXI.out).cells (by rw [setB_length,HCML.out]) (by rw [setB_length];omega))
       rw [setB_length] at HRC
       have huo:=hu2.one
       have HCF:=Lib.hid (fun W (hx:Ext wo W)=>(HCROW.out.ext hx).cellf hpc)
       have HPC:=Lib.hid hpc
       have HCD:=Lib.hid hcd
       generalize d.procs[p].clocked=cb at *
       generalize come[p]=mb at *
       generalize readyB (setB d.procs.length (hang1 o (clks d) (readsM d (p:Int)) [])) come d.procs.length=rb at *
       have HPP:=Lib.hid hpp
       clear hpp hcd hhas hu1 hu2 hpc hpo
       have key:ready (graphM d o) (clks d) come p=false→∀ j,j < p + 1→ready (graphM d o) (clks d) come j=false:=fun h j hj=>by
        by_cases e:j=p
        ·rw [e];exact h
        ·exact HNO.out j (by omega)
       have KEY:=Lib.hid key
       clear key
       cases cb
       ·cases mb
        ·cases rb
         ·have HF:=Lib.hid (KEY.out HPP.out)
          go_wp2_with (first | (go_at_call 58;refine HRC.out.mono ?_;rintro r w6 ⟨rfl,hx6⟩))
          go_roundw
          case rel=>exact ⟨p + 1,hpl,by go_num,HF.out,HXI.out.trans hx6⟩
          case measure=>simp [intOf];omega
         ·have HF:=Lib.hid (nextM_found HNO.out (by rw [HGL.out];exact hpl) HPP.out)
          have hpb:((p:Int) == (d.procs.length:Int))=false:=by rw [beq_eq_false_iff_ne];omega
          have HCD0:=HCD.out
          have HRD:=HPP.out
          simp only [Bool.not_false,Bool.and_true] at HRD
          have HRD2:=Lib.hid HRD
          obtain ⟨m',hm'⟩ : ∃ m',m=m' + 1:=⟨m - 1,by omega⟩
          have hen:=HEN.out
          rw [hm',orderM] at hen
          try simp only at hen
          rw [HF.out,if_pos (by omega),Int.toNat_natCast] at hen
          have HEN2:=Lib.hid hen
          have HFP:=Lib.hid (falses_pos come p HPC.out HCD0)
          have HOR2:=Lib.hid (HOR.out.snoc (k:=p) (by rw [HGL.out];exact hpl) HRD)
          have HM':=Lib.hid hm'
          clear hen hm' HRD HCD0
          go_wp2_with (first | (go_at_call 58;refine HRC.out.mono ?_;rintro r w6 ⟨rfl,hx6⟩;obtain ⟨yc6,yf6⟩:=HCF.out _ (HXI.out.trans hx6);have y16:=(HB.out.ext (HXR.out.trans (HXI.out.trans hx6))).has 1 _ rfl;rw [Nat.zero_add] at y16) | ((with_reducible show wpList _ _ _ (⟨_,Op.buildSlice _ _ _,_,_,_,_⟩ :: _) _ _);refine Hid.out ?_))
          refine Lib.hid ?_
          have hXo:=HXI.out.trans hx6
          have hc7:=(HCROW.out.ext hXo).set p HPC.out true
          have hgb7:=gb_set w6 g p (.bool true)
          have hr7:IntRow w2.heap.size (.slice a out.length cap) out (w6.setCell ⟨g,p,none⟩ (.bool true)):=(HROW.out.ext hXo).grown hgb7 fun q hq e=>by
           obtain ⟨-,cur,hcur⟩:=(HCROW.out.ext hXo).at rfl
           exact (HROW.out.ext hXo).ne (B:=g) hcur (by decide) hq (by injection e)
          have hx7:Ext w1 (w6.setCell ⟨g,p,none⟩ (.bool true)):=(HXR.out.trans hXo).grown hgb7 hg1'
          have hx72:Ext w2 (w6.setCell ⟨g,p,none⟩ (.bool true)):=(HX2R.out.trans hXo).grown hgb7 (by rw [HG.out];exact Nat.le_refl _)
          generalize w6.setCell _ _=w7 at *
          refine wpList_bs1 rfl _ _ rfl appInt rfl (cs:=[.int .i64 (p:Int)]) rfl rfl (by decide) ?_
          have hx8:=ext_alloc w7 (.cells [Value.int .i64 (p:Int)].toArray 3)
          have hb8:=Blk.new w7 [Value.int .i64 (p:Int)].toArray 3
          have hz8:=(hx72.trans hx8).size
          refine wpList_appI rfl _ _ rfl rfl (hr7.ext hx8) rfl (fun _=>Nat.lt_of_lt_of_le Nat.zero_lt_one (Nat.le_refl 1)) (news:=[(p:Int)]) rfl (news_has hb8.has) (by omega) hz8 ?_
          intro g9 cap9 w9 hrow9 hg9
          have hX9:Ext w1 w9:=Ext.grownO (hx7.trans hx8) hg9 (fun j hj=>by have:=(hr7.at hj).1;have:=HG.out;omega)
          have hc9:BoolRow g (.slice (some ⟨g,0,Option.none⟩) d.procs.length d.procs.length) (come.set p true) w9:=(hc7.ext hx8).grown hg9 fun q hq e=>by
           obtain ⟨-,cur,hcur⟩:=(hc7.ext hx8).at hq
           have hq':q=g:=by injection hq with hq;exact hq.symm
           exact (hr7.ext hx8).ne (B:=q) hcur (by decide) e.symm rfl
          have hx92:Ext w2 w9:=Ext.grownO (hx72.trans hx8) hg9 (fun j hj=>(hr7.at hj).1)
          have HR9:=Lib.hid hrow9
          have HC9:=Lib.hid hc9
          clear hrow9 hc9 hg9 hr7 hc7 hgb7 hb8 hx8 hz8 hx7 hx72
          go_wp2_with fail
          go_roundw
          case rel=>exact ⟨come.set p true,out ++ [(p:Int)],m',some ⟨g9,0,Option.none⟩,cap9,by rw [List.length_append];rfl,HOR2.out,HEN2,by rw [List.length_append];exact HR9.out,HC9.out,by have:=HFP.out;have:=HM'.out;omega,hx92,hX9⟩
          case measure=>simp [lenV];omega
        ·have HF:=Lib.hid (KEY.out HPP.out)
         go_wp2_with fail
         go_roundw
         case rel=>exact ⟨p + 1,hpl,by go_num,HF.out,HXI.out⟩
         case measure=>simp [intOf];omega
       ·have HF:=Lib.hid (KEY.out (by rw [HPP.out];cases mb <;> rfl))
        go_wp2_with fail
        go_roundw
        case rel=>exact ⟨p + 1,hpl,by go_num,HF.out,HXI.out⟩
        case measure=>simp [intOf];omega
      ·obtain rfl:p=d.procs.length:=by omega
       have hend:=orderM_stop (g:=graphM d o) (clk:=clks d) (come:=come) (out:=out) m (fun j hj=>HNO.out j (by rw [HGL.out] at hj;exact hj))
       rw [HEN.out] at hend
       subst hend
       have HD:=Lib.hid (show decide (W ≤ res.length)=false from decide_eq_false (by omega))
       go_wp2_with fail
       refine bodyPost_ret (v:=.tuple #[.slice a res.length cap,.bool false]) (by simp [results,Tryz.results34,go_sem]) rfl ⟨_,by rw [HD.out],(HROW.out.ext HXI.out).less (by have:=HG.out;have:=HX.out.size;omega),HX.out.trans (HXR.out.trans HXI.out)⟩
    ·have hend:=ord_end m HOR.out (by rw [HCL.out,HGL.out]) (by rw [HW.out];omega)
     rw [HEN.out] at hend
     subst hend
     have HD:=Lib.hid (show decide (W ≤ res.length)=true from decide_eq_true (by omega))
     go_wp2_with fail
     refine bodyPost_ret (v:=.tuple #[.slice a res.length cap,.bool true]) (by simp [results,Tryz.results34,go_sem]) rfl ⟨_,by rw [HD.out],HROW.out.less (by have:=HG.out;have:=HX.out.size;omega),HX.out.trans HXR.out⟩
end Go.Proofs.YthpemngachlehaaGreat
