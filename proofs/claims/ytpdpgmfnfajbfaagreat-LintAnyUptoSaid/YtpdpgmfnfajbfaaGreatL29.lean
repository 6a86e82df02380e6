/- Laws and walks that a claim of this seat leans on: WordC, LintAny. -/
import Derived.Test.YtpdpgmfnfajbfaaGreatL24
import Derived.Test.YtpdpgmfnfajbfaaGreatL28
import Derived.Test.YtpdpgmfnfajbfaaGreatL00
set_option maxRecDepth 100000
set_option maxHeartbeats 8000000
set_option linter.all false
namespace Go.Proofs.YtpdpgmfnfajbfaaGreat
open Go.RowKit
theorem WordRow.cellf {N g cap n:Nat} {l:List Nat} {w:World} (h:WordRow N (.slice (some ⟨g,0,none⟩) n cap) l w) {j:Nat} (hj:j<l.length):w.cell? ⟨g,j,none⟩=some (W64 l[j])/\w.frozen? ⟨g,j,none⟩=false:=by
 obtain ⟨g',cap',e,-,hc⟩:=h.open1 (by omega)
 injection e with e
 injection e with e
 injection e with e
 subst e
 obtain ⟨-,cur,hcur⟩:=h.at rfl
 exact ⟨hc j _ (List.getElem?_eq_getElem hj),Blk.frozen (cs:=cur) (T:=34) hcur j⟩
theorem LintAny_calls (d:Flat) (v:Value) (vs:List Nat) (s:Value) (ws:List Nat) (t:Value) (w:World) (hF:FlatV w v d) (hok:d.ok) (hs:Us w s vs) (h64s:us64 vs) (hls:vs.length+1<=1048576) (ht:Us w t ws) (h64t:us64 ws) (hlt:ws.length+1<=1048576) :
  Calls Tryz.prog 6 #[v,s,t] w fun r w'=>r=.returned (.bool true)/\Ext w w':=by
 have HF:=Jh (fun W (h:Ext w W)=>hF.ext h)
 have HFW:=Jh (fun W (h:Ext w W)=>few12_calls d v W (hF.ext h) hok.nodes)
 have HOC:=Jh (fun W (h:Ext w W)=>Order_calls d v W (hF.ext h) hok)
 have HUS:=Jh (fun W (h:Ext w W)=>hs.ext h)
 have HTS:=Jh (fun W (h:Ext w W)=>ht.ext h)
 have HOK:=Jh hok
 have H64:=Jh h64s
 have H64T:=Jh h64t
 have HLI:=Jh (look_i64 hok)
 have HLA:=Jh (fun (ys:List Nat) (h:(lookM d).1=0) (h0:(lookM d).2.2≠[]) (h1:(doneM d (lookM d).2.2 vs).2=true) (h2:(doneM d (lookM d).2.2 ys).2=true)=>lint_any hok h h0 h1 h2)
 have HXL:=Jh (fun (h:(lookM d).1=0) (h0:(lookM d).2.2≠[]) (h1:(doneM d (lookM d).2.2 vs).2=true)=>(lint_rest hok h h1).2 h0 |>.1)
 obtain ⟨sv,pv,cv,rfl,hS,hP,hC⟩:=hF
 obtain ⟨ss,sb,so,sc,rfl,hp1,hp2,hsa,hsr⟩:=hS.open
 have HSA:=Jh hsa
 have HSR:=Jh hsr
 obtain ⟨av,bv,ov,capv,rfl,-,-,hva,hvr⟩:=hs.open
 have HVA:=Jh hva
 have HVR:=Jh hvr
 obtain ⟨at',bt,ot,capt,rfl,-,-,-,-⟩:=ht.open
 have x1:=ext_alloc w (.cells [.slice ss d.signals.length sc,pv,cv].toArray 26)
 have hD:=Blk.new w [.slice ss d.signals.length sc,pv,cv].toArray 26
 have hsl:=hok.signals
 clear hS hP hC hok hs h64s hsa hsr hva hvr ht h64t
 go_enter Tryz.func6,Tryz.ntmps6
 go_upto_region 1 with fail
 generalize w.alloc _=w0 at *
 have HX0:=Jh x1
 have HD0:=Jh hD
 clear x1 hD
 go_upto_region 2 with (go_at_call 16;refine (live_calls _).mono ?_;rintro r w1 ⟨rfl,hx1⟩)
 have HD:=Jh (HD0.out.ext hx1)
 have HX:=Jh (HX0.out.trans hx1)
 clear hx1 HD0 HX0
 have d1:=HD.out.has
 obtain ⟨fw,hfw⟩:∃ fw,few12 d=fw:=⟨_,rfl⟩
 rw [hfw] at HFW
 clear hfw
 cases fw
 ·go_wp2_with (first | ((with_reducible show Jl 26);refine Jm 26 (d1) agg_Flat rfl ?_) | (go_at_call 17;refine (HFW.out w1 HX.out).mono ?_;rintro r w2 ⟨rfl,hx2⟩))
  go_ret
  exact ⟨rfl,HX.out.trans hx2⟩
 by_cases hl1:(vs.length:Int)=(d.signals.length:Int)
 case neg =>
  have b1:((vs.length:Int) != (d.signals.length:Int))=true:=by rw [bne_iff_ne];exact hl1
  clear hl1
  go_wp2_with (first | ((with_reducible show Jl 26);refine Jm 26 (d1) agg_Flat rfl ?_) | (go_at_call 17;refine (HFW.out w1 HX.out).mono ?_;rintro r w2 ⟨rfl,hx2⟩;have e2:=(HD.out.ext hx2).has 0 _ rfl;rw [Nat.zero_add] at e2))
  go_ret
  exact ⟨rfl,HX.out.trans hx2⟩
 have b1:((vs.length:Int) != (d.signals.length:Int))=false:=by rw [bne_eq_false_iff_eq];exact hl1
 have HL1:=Jh (show vs.length=d.signals.length by omega)
 clear hl1
 by_cases hl2:(ws.length:Int)=(vs.length:Int)
 case neg =>
  have b2:((ws.length:Int) != (vs.length:Int))=true:=by rw [bne_iff_ne];exact hl2
  clear hl2
  go_wp2_with (first | ((with_reducible show Jl 26);refine Jm 26 (d1) agg_Flat rfl ?_) | (go_at_call 17;refine (HFW.out w1 HX.out).mono ?_;rintro r w2 ⟨rfl,hx2⟩;have e2:=(HD.out.ext hx2).has 0 _ rfl;rw [Nat.zero_add] at e2))
  go_ret
  exact ⟨rfl,HX.out.trans hx2⟩
 have b2:((ws.length:Int) != (vs.length:Int))=false:=by rw [bne_eq_false_iff_eq];exact hl2
 have HL2:=Jh (show ws.length=d.signals.length by have:=HL1.out;omega)
 clear hl2
 go_upto_region 4 with (first | ((with_reducible show Jl 26);refine Jm 26 (d1) agg_Flat rfl ?_) | (go_at_call 17;refine (HFW.out w1 HX.out).mono ?_;rintro r w2 ⟨rfl,hx2⟩;have e2:=(HD.out.ext hx2).has 0 _ rfl;rw [Nat.zero_add] at e2))
 have HD2:=Jh (HD.out.ext hx2)
 have HX2:=Jh (HX.out.trans hx2)
 clear hx2 d1 HD HX HFW b1 b2 e2
 have HXA:=Jh (ext_alloc w2 (.cells #[] 34))
 have HROW:=Jh (WordRow.bs0 w2 (N:=w2.heap.size) (Nat.le_refl _))
 have HNW:=Jh (HTS.out _ (HX2.out.trans HXA.out))
 go_wp2_with (first | ((with_reducible show Jw (Op.buildSlice _ _ _));refine wpList_bs0 rfl _ rfl appWord ?_) | ((with_reducible show Jw (Op.call { callee:=.builtin .append,args:=_,argTypes:=_ }));refine wpList_appW rfl _ _ rfl rfl HROW.out rfl HNW.out (by simp;omega) (by simp) ?_;intro v4 w4 hrow4 hg4))
 rw [List.nil_append] at hrow4
 obtain ⟨a4,c4,rfl,-⟩:=hrow4.open
 have HR4:=Jh hrow4
 have HX24:=Jh (Below.grown HXA.out hg4 HXA.out.size (fun k hk=>by cases hk;exact Nat.le_refl _):Ext w2 w4)
 obtain ⟨N2,hN2⟩:∃ N,w2.heap.size=N:=⟨_,rfl⟩
 rw [hN2] at HR4
 have HN2:=Jh hN2
 clear hrow4 hg4 HXA HROW HNW hN2
 go_loopw [9] (fun i wr=>∃ (k:Nat) (cur:List Nat),k<=d.signals.length/\i=.int .i64 k/\WordRow N2 (.slice a4 ws.length c4) cur wr/\cur.length=ws.length/\us64 cur/\(∀ j:Nat,j<k->kindOf d.signals (j:Int)=1\/kindOf d.signals (j:Int)=4->vs.getD j 0=cur.getD j 0)/\Ext w2 wr) (fun i _=>d.signals.length-(intOf i).toNat)
 case atStart=>exact ⟨0,ws,Nat.zero_le _,rfl,HR4.out,rfl,H64T.out,fun j hj=>absurd hj (by omega),HX24.out⟩
 case round =>
  obtain ⟨k,cur,hk,rfl,hrow,hcl,h6,hag,hxr⟩:=hrel
  have HXR:=Jh hxr
  have HROW:=Jh hrow
  have HCL:=Jh hcl
  have H6:=Jh h6
  have HAG:=Jh hag
  have e0:=(HD2.out.ext hxr).has 0 _ rfl
  rw [Nat.zero_add] at e0
  clear hrow hcl h6 hag
  by_cases hlt:k<d.signals.length
  ·obtain rfl:=HSA.out (by omega)
   have y:=(Sigs.get (HSR.out.mono fun x _ b o h=>Has.ext h (HX2.out.trans hxr)) hlt) 2 _ rfl
   have hkd:kindOf d.signals (k:Int)=d.signals[k].kind:=by unfold kindOf;rw [Int.toNat_natCast,List.getElem?_eq_getElem hlt]
   have HKD:=Jh hkd
   obtain ⟨kd,hke⟩:∃ kd,d.signals[k].kind=kd:=⟨_,rfl⟩
   have y2:wr.cell? ⟨sb,so+k*4+2,none⟩=some (.int .i64 kd):=by rw [<-hke];exact y
   rw [hke] at HKD
   clear hke hkd y hxr
   by_cases h14:kd=1\/kd=4
   ·have hk3:k<cur.length:=by rw [HCL.out,HL2.out];exact hlt
    have hk4:k<vs.length:=by rw [HL1.out];exact hlt
    have hk5:k<ws.length:=by rw [HL2.out];exact hlt
    obtain rfl:=HVA.out (by omega)
    obtain ⟨g,cap,hsl2,hgN,-⟩:=HROW.out.open1 (by omega)
    injection hsl2 with hsl2 zq1 zq2
    clear zq1 zq2
    subst hsl2
    obtain ⟨yc,yf⟩:=HROW.out.cellf hk3
    have yv:=Us.get (k:=k) (HVR.out.mono fun x _ b o h=>Has.ext h (HX2.out.trans HXR.out)) hk4
    have hx64:vs[k]<18446744073709551616:=H64.out _ (List.getElem_mem hk4)
    have HGV:=Jh (show vs.getD k 0=vs[k] by rw [List.getD_eq_getElem?_getD,List.getElem?_eq_getElem hk4];rfl)
    have hset:=HROW.out.set k hk3 vs[k]
    have hgs:=gb_set wr g k (W64 vs[k])
    have hX9:Ext w2 (wr.setCell ⟨g,k,none⟩ (W64 vs[k])):=HXR.out.grown hgs (by rw [HN2.out];exact hgN)
    have HSET:=Jh hset
    have HX9:=Jh hX9
    have HLT:=Jh hx64
    generalize vs[k]=x at *
    generalize cur[k]=x0 at *
    clear hset hgs hX9 hx64 hgN
    rcases h14 with rfl | rfl
    ·go_wp2_with fail
     go_roundw
     case rel=>exact ⟨k+1,cur.set k x,hlt,by go_num,HSET.out,by rw [List.length_set];exact HCL.out,fun z hz=>(List.mem_or_eq_of_mem_set hz).elim (H6.out z) (fun e=>e ▸ HLT.out),fun j hj hq=>by
      by_cases e:j=k
      ·subst e;rw [HGV.out,List.getD_eq_getElem?_getD,List.getElem?_set_self hk3];rfl
      ·rw [HAG.out j (by omega) hq,List.getD_eq_getElem?_getD,List.getD_eq_getElem?_getD,List.getElem?_set_ne (fun h=>e h.symm)],HX9.out⟩
     case measure=>simp [intOf];omega
    ·go_wp2_with fail
     go_roundw
     case rel=>exact ⟨k+1,cur.set k x,hlt,by go_num,HSET.out,by rw [List.length_set];exact HCL.out,fun z hz=>(List.mem_or_eq_of_mem_set hz).elim (H6.out z) (fun e=>e ▸ HLT.out),fun j hj hq=>by
      by_cases e:j=k
      ·subst e;rw [HGV.out,List.getD_eq_getElem?_getD,List.getElem?_set_self hk3];rfl
      ·rw [HAG.out j (by omega) hq,List.getD_eq_getElem?_getD,List.getD_eq_getElem?_getD,List.getElem?_set_ne (fun h=>e h.symm)],HX9.out⟩
     case measure=>simp [intOf];omega
   ·have HNK:=Jh h14
    have n1:(kd==1)=false:=by rw [beq_eq_false_iff_ne];intro e;exact h14 (.inl e)
    have n4:(kd==4)=false:=by rw [beq_eq_false_iff_ne];intro e;exact h14 (.inr e)
    clear h14
    go_wp2_with fail
    go_roundw
    case rel=>exact ⟨k+1,cur,hlt,by go_num,HROW.out,HCL.out,H6.out,fun j hj hq=>by
      by_cases e:j=k
      ·subst e;rw [HKD.out] at hq;exact absurd hq HNK.out
      ·exact HAG.out j (by omega) hq,HXR.out⟩
    case measure=>simp [intOf];omega
  ·obtain rfl:k=d.signals.length:=by omega
   generalize wr=w5 at *
   clear hxr
   have HX5:=Jh (HX2.out.trans HXR.out)
   have HD5:=Jh (HD2.out.ext HXR.out)
   have d5:=HD5.out.has
   have HCU:=Jh HROW.out.cells
   clear hlt
   go_upto_region 10 with fail
   clear e0
   go_upto_region 11 with (first | ((with_reducible show Jl 26);refine Jm 26 (d5) agg_Flat rfl ?_) | (go_at_call 30;refine (HOC.out w5 HX5.out).mono ?_;rintro r w6 ⟨uo,rfl,hr6,hx6⟩))
   obtain ⟨oa,ob,oo,oc,rfl,-,-,-,-⟩:=hr6.cells.open
   have HO6:=Jh hr6.cells
   have HX56:=Jh hx6
   have HX6:=Jh (HX5.out.trans hx6)
   have HD6:=Jh (HD5.out.ext hx6)
   clear hr6 hx6 d5 HOC
   have HDC:=Jh (fun W (h:Ext w W) (h6:Ext w6 W)=>done12_calls d _ vs _ _ _ W (HF.out W h) HOK.out (HUS.out W h) H64.out (Ints.ext HO6.out h6) HLI.out)
   have HDC2:=Jh (fun W (h:Ext w W) (h6:Ext w6 W)=>done12_calls d _ cur _ _ _ W (HF.out W h) HOK.out (HCU.out.ext (HX56.out.trans h6)) H6.out (Ints.ext HO6.out h6) HLI.out)
   have HLC:=Jh (fun h h0 h1 h2=>HLA.out cur h h0 h1 h2 fun j hj hq=>HAG.out j hj hq)
   have hol:(lookM d).2.2.length≠0->(lookM d).2.2≠[]:=fun h e=>h (by rw [e];rfl)
   have HNE:=Jh hol
   clear hol HLA HAG
   obtain ⟨eO,heO⟩:∃ e,(lookM d).1=e:=⟨_,rfl⟩
   obtain ⟨oO,hoO⟩:∃ e,(lookM d).2.2=e:=⟨_,rfl⟩
   rw [heO,hoO] at HLC HXL
   rw [hoO] at HDC HDC2 HNE
   rw [heO,hoO]
   obtain ⟨xs,hxs⟩:∃ e,(doneM d oO vs).1=e:=⟨_,rfl⟩
   obtain ⟨k1,hk1⟩:∃ e,(doneM d oO vs).2=e:=⟨_,rfl⟩
   obtain ⟨ys,hys⟩:∃ e,(doneM d oO cur).1=e:=⟨_,rfl⟩
   obtain ⟨k2,hk2⟩:∃ e,(doneM d oO cur).2=e:=⟨_,rfl⟩
   rw [hxs,hk1] at HDC HLC HXL
   rw [hys,hk2] at HDC2 HLC
   clear heO hoO hxs hk1 hys hk2
   by_cases hzo:eO=0
   case neg =>
    have b0:(eO != 0)=true:=by rw [bne_iff_ne];exact hzo
    clear hzo
    go_wp2_with fail
    go_ret
    exact ⟨rfl,HX6.out⟩
   subst hzo
   by_cases hz:(oO.length:Int)=0
   ·have b0:((oO.length:Int)==0)=true:=by rw [beq_iff_eq];exact hz
    clear hz
    go_wp2_with fail
    go_ret
    exact ⟨rfl,HX6.out⟩
   have b0:((oO.length:Int)==0)=false:=by rw [beq_eq_false_iff_ne];exact hz
   have HNE2:=Jh (HNE.out (by omega))
   clear hz
   have d6:=HD6.out.has
   go_upto_region 14 with (first | ((with_reducible show Jl 26);refine Jm 26 (d6) agg_Flat rfl ?_) | (go_at_call 31;refine (HDC.out w6 HX6.out (Below.refl _ _)).mono ?_;rintro r w7 ⟨ux,rfl,hr7,hx7⟩))
   clear d6
   have HU7:=Jh hr7
   have HX67:=Jh hx7
   have d7:=(HD6.out.ext hx7).has
   clear hr7 hx7 b0
   go_upto_region 15 with (first | ((with_reducible show Jl 26);refine Jm 26 (d7) agg_Flat rfl ?_) | (go_at_call 31;refine (HDC2.out w7 (HX6.out.trans HX67.out) HX67.out).mono ?_;rintro r w8 ⟨uy,rfl,hr8,hx8⟩))
   clear d7
   have HU8:=Jh hr8
   have HX8:=Jh (HX6.out.trans (HX67.out.trans hx8))
   have HX78:=Jh hx8
   clear hr8 hx8
   cases k1
   ·go_wp2_with fail
    go_ret
    exact ⟨rfl,HX8.out⟩
   cases k2
   ·go_wp2_with fail
    go_ret
    exact ⟨rfl,HX8.out⟩
   obtain rfl:xs=ys:=HLC.out (by first | rfl | trivial) HNE2.out (by first | rfl | trivial) (by first | rfl | trivial)
   have hxl:xs.length<=1099511627776:=by rw [HXL.out (by first | rfl | trivial) HNE2.out (by first | rfl | trivial)];omega
   have HWC:=Jh (Words_calls12 xs xs _ _ _ (HU7.out.ext HX78.out) HU8.out hxl)
   rw [decide_eq_true (rfl:xs=xs)] at HWC
   go_wp2_with (go_at_call 32;refine HWC.out.mono ?_;rintro r w9 ⟨rfl,hx9⟩)
   go_ret
   exact ⟨rfl,HX8.out.trans hx9⟩
end Go.Proofs.YtpdpgmfnfajbfaaGreat
