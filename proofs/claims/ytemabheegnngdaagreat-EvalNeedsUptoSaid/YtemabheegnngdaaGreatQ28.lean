/- Laws and walks that a claim of this seat leans on: EvalNeeds. -/
import Derived.Test.YtemabheegnngdaaGreatQ23
import Derived.Test.YtemabheegnngdaaGreatQ24
import Derived.Test.YtemabheegnngdaaGreatQR10a
import Derived.Test.YtemabheegnngdaaGreatQ00
set_option linter.all false
namespace Go.Proofs.YtemabheegnngdaaGreat
open Go.RowKit
set_option maxRecDepth 100000 in
set_option maxHeartbeats 4000000 in
theorem EvalNeeds_calls (d:Flat) (v:Value) (e:E) (cs:List Value) (kk:Nat) (w:World) (hF:FlatV w v d) (hok:d.ok) (hV:VE w cs e) (hwf:e.wf) (hn:nodes e ≤ 1048576) (hkk:kk < 256) :
  Calls Tryz.prog 10 #[v,.agg cs.toArray,.int .u8 (kk:Int)] w fun r w'=>r=.returned (.bool true)∧Ext w w':=by
 have HFW:=Lib.hid (fun W (h:Ext w W)=>few_calls d v e cs W (hF.ext h) hok (hV.ext h) hn (Nat.le_trans (deep_le_nodes e) hn))
 have HNE:=Lib.hid (fun x cx W (h:Ext w W) (hx:VE W cx x) (h1:x.wf) (h2:nodes x ≤ 1048576)=>Needs_calls d v x cx W (hF.ext h) hok hx h1 h2)
 have HFI:=Lib.hid (fun W (h:Ext w W) hw=>First_calls d v W (hF.ext h) hok.signals hw)
 have HLAW:=Lib.hid (needs_law (d:=d) (e:=e))
 have HVE:=Lib.hid (fun W (h:Ext w W)=>hV.ext h)
 have HWF:=Lib.hid hwf
 have HN:=Lib.hid hn
 have HLS:=Lib.hid hok.signals
 obtain ⟨s0,rfl,hs0⟩:=hV
 have HES:=Lib.hid (fun W (h:Ext w W)=>hs0.ext h)
 obtain ⟨ae,be,oe,ce,rfl,he1,he2,hea,her⟩:=hs0.open
 have HER:=Lib.hid (fun W (h:Ext w W)=>(her.mono fun x _ b o hh=>EAt.ext h x b o hh:Rows 8 (EAt W) e.l be oe))
 generalize hne:e.l.length=ne at *
 have HNE0:=Lib.hid hne
 clear hne her
 have HEA:=Lib.hid hea
 obtain ⟨sv,pv,cv,rfl,hS,hP,hC⟩:=hF
 obtain ⟨a0,b0,o0,c0,rfl,-,-,-,-⟩:=hS.open
 have x1:=ext_alloc w (.cells [.slice a0 d.signals.length c0,pv,cv].toArray 26)
 have x2:=ext_alloc (w.alloc (.cells [.slice a0 d.signals.length c0,pv,cv].toArray 26)) (.cells (e.cells (.slice ae ne ce)).toArray 44)
 have hD:=(Blk.new w [.slice a0 d.signals.length c0,pv,cv].toArray 26).ext x2
 have hE:=Blk.new (w.alloc (.cells [.slice a0 d.signals.length c0,pv,cv].toArray 26)) (e.cells (.slice ae ne ce)).toArray 44
 have hX:=x1.trans x2
 simp only [World.size_alloc] at hE
 clear x1 x2 hS hP hC hok hwf hn hs0 hea
 go_enter Tryz.func10,Tryz.ntmps10
 go_upto_region 1 with fail
 generalize (w.alloc _).alloc _=w0 at *
 have HD0:=Lib.hid hD
 have HE0:=Lib.hid hE
 have HX0:=Lib.hid hX
 clear hD hE hX
 go_upto_region 2 with (first | (go_at_call 17;refine (live10_calls _).mono ?_;rintro r w1 ⟨rfl,hx1⟩))
 have HD:=Lib.hid (HD0.out.ext hx1)
 have HE:=Lib.hid (HE0.out.ext hx1)
 have HX:=Lib.hid (HX0.out.trans hx1)
 clear hx1 HD0 HE0 HX0
 have d1:=HD.out.has
 have e1:=HE.out.has
 obtain ⟨q,hq⟩ : ∃ q,fewM d e=q:=⟨_,rfl⟩
 rw [hq] at HFW
 clear hq
 cases q
 ·go_wp2_with (first | ((with_reducible show wpList _ _ _ (⟨_,Op.load 26 _,_,_,_,_⟩ :: _) _ _);refine wpList_load_has rfl 26 _ rfl rfl (d1) agg_Flat rfl ?_) | ((with_reducible show wpList _ _ _ (⟨_,Op.load 44 _,_,_,_,_⟩ :: _) _ _);refine wpList_load_has rfl 44 _ rfl rfl (e1) agg_E rfl ?_) | (go_at_call 18;refine (HFW.out w1 HX.out).mono ?_;rintro r w2 ⟨rfl,hx2⟩))
  go_ret
  exact ⟨rfl,HX.out.trans hx2⟩
 go_upto_region 4 with (first | ((with_reducible show wpList _ _ _ (⟨_,Op.load 26 _,_,_,_,_⟩ :: _) _ _);refine wpList_load_has rfl 26 _ rfl rfl (d1) agg_Flat rfl ?_) | ((with_reducible show wpList _ _ _ (⟨_,Op.load 44 _,_,_,_,_⟩ :: _) _ _);refine wpList_load_has rfl 44 _ rfl rfl (e1) agg_E rfl ?_) | (go_at_call 18;refine (HFW.out w1 HX.out).mono ?_;rintro r w2 ⟨rfl,hx2⟩))
 have HD2:=Lib.hid (HD.out.ext hx2)
 have HE2:=Lib.hid (HE.out.ext hx2)
 have HX2:=Lib.hid (HX.out.trans hx2)
 clear hx2 d1 e1 HD HE HX HFW
 have d2:=HD2.out.has
 have e2:=HE2.out.has
 have HNE1:=Lib.hid (HNE.out e _ w2 HX2.out (HVE.out w2 HX2.out) HWF.out HN.out)
 obtain ⟨l,hl⟩ : ∃ l,(needsM d e).1=l:=⟨_,rfl⟩
 obtain ⟨f,hf⟩ : ∃ f,(needsM d e).2=f:=⟨_,rfl⟩
 rw [hl,hf] at HNE1
 have HL:=Lib.hid hl
 have HFF:=Lib.hid hf
 clear hl hf
 go_upto_region 5 with (first | ((with_reducible show wpList _ _ _ (⟨_,Op.load 26 _,_,_,_,_⟩ :: _) _ _);refine wpList_load_has rfl 26 _ rfl rfl (d2) agg_Flat rfl ?_) | ((with_reducible show wpList _ _ _ (⟨_,Op.load 44 _,_,_,_,_⟩ :: _) _ _);refine wpList_load_has rfl 44 _ rfl rfl (e2) agg_E rfl ?_) | (go_at_call 25;refine HNE1.out.mono ?_;rintro r w3 ⟨u3,rfl,hr3,hx3⟩))
 have HD3:=Lib.hid (HD2.out.ext hx3)
 have HE3:=Lib.hid (HE2.out.ext hx3)
 have HX3:=Lib.hid (HX2.out.trans hx3)
 clear hx3 d2 e2 HD2 HE2 HX2 HNE1
 obtain ⟨au,cu,rfl,-⟩:=hr3.open
 have hlm:l.length ≤ 9223372036854775807:=by
  obtain ⟨_,_,_,cp,-,q1,q2,-,-⟩:=hr3.cells.open
  omega
 have HR3:=Lib.hid hr3
 clear hr3
 have d3:=HD3.out.has
 by_cases hf0:f=0
 case neg =>
  have bf:(f != 0)=true:=by rw [bne_iff_ne];exact hf0
  clear hf0
  go_wp2_with fail
  go_ret
  exact ⟨rfl,HX3.out⟩
 subst hf0
 obtain ⟨l1,l2,l3,l4⟩:=HLAW.out HFF.out
 rw [HL.out] at l1 l2 l3
 have RISE:=Lib.hid l1
 have RANGE:=Lib.hid l2
 have PARTS:=Lib.hid l3
 have HFI3:=Lib.hid (HFI.out w3 HX3.out l4)
 have hsw0:=(sumW_le d.signals l4 d.signals.length (Nat.le_refl _))
 clear l1 l2 l3 l4 HLAW
 obtain ⟨n,hnn⟩ : ∃ n,sumW d.signals d.signals.length=n:=⟨_,rfl⟩
 have HNN:=Lib.hid (offsM_last d.signals d.signals.length)
 rw [hnn] at HNN RANGE
 clear hnn hsw0
 go_upto_region 8 with (first | ((with_reducible show wpList _ _ _ (⟨_,Op.load 26 _,_,_,_,_⟩ :: _) _ _);refine wpList_load_has rfl 26 _ rfl rfl (d3) agg_Flat rfl ?_) | (go_at_call 38;refine HFI3.out.mono ?_;rintro r w4 ⟨u4,rfl,hr4,hx4⟩))
 have hln4:=offsM_length d.signals d.signals.length
 obtain ⟨g4,c4,rfl,-,hc4⟩:=hr4.open1 (by omega)
 rw [hln4]
 have y4:=hc4 _ _ HNN.out
 have HX4:=Lib.hid (HX3.out.trans hx4)
 have HR4:=Lib.hid (HR3.out.ext hx4)
 have HD4:=Lib.hid (HD3.out.ext hx4)
 have HE4:=Lib.hid (HE3.out.ext hx4)
 have z4:=HD4.out.has 0 _ rfl
 have hls:=HLS.out
 clear hx4 hc4 hr4 hln4 d3 HD3 HE3 HX3 HR3 HFI3 HFI HNN
 go_upto_region 9 with fail
 clear y4 z4 hls
 go_wp2_with fail
 have H44:=Lib.hid (Below.refl w4.heap.size w4)
 go_loopw [12] (fun i wr=>∃ k:Nat,k ≤ l.length∧i=.int .i64 k∧Ext w4 wr) (fun i _=>l.length - (intOf i).toNat)
 case atStart=>exact ⟨0,Nat.zero_le _,rfl,H44.out⟩
 case round =>
  obtain ⟨k,hk,rfl,hx⟩:=hrel
  have HXR:=Lib.hid hx
  clear hx
  by_cases hlt:k < l.length
  ·have hrow:=HR4.out.ext HXR.out
   obtain ⟨g,cap,he,-,hc⟩:=hrow.open1 (by omega)
   injection he with he1 _ he2
   subst he1
   have y0:=hc k _ (List.getElem?_eq_getElem hlt)
   obtain ⟨r1,r2⟩:=RANGE.out _ (List.getElem_mem hlt)
   have hpw:=List.pairwise_iff_getElem.1 RISE.out
   have b1:decide (l[k] < 0)=false:=decide_eq_false (by omega)
   have b2:decide (n ≤ l[k])=false:=decide_eq_false (by omega)
   rcases Nat.eq_zero_or_pos k with rfl | hk0
   ·generalize l[0]=a at *
    clear hpw r1 r2 hrow hc
    go_upto_region 12 with fail
    go_quiet (fail)
    have hX5:=HXR.out.drewNB nq
    generalize wr.drewN nq=w5 at *
    clear y0 b1 b2
    go_wp2_with fail
    go_roundw
    case rel=>exact ⟨1,by omega,by go_num,hX5⟩
    case measure=>simp [intOf];omega
   ·obtain ⟨j,hjk⟩ : ∃ j:Nat,(k:Int) - 1=(j:Int):=⟨k - 1,by omega⟩
    have hj:j < l.length:=by omega
    have hjw:IntKind.i64.wrap (j:Int)=(j:Int):=by rw [IntKind.wrap_i64];omega
    have y1:=hc j _ (List.getElem?_eq_getElem hj)
    have h2:=hpw j k hj hlt (by omega)
    generalize l[k]=a at *
    generalize l[j]=b at *
    have b3:decide (a ≤ b)=false:=decide_eq_false (by omega)
    have b4:decide (0 < k)=true:=decide_eq_true hk0
    clear hpw r1 r2 hrow hc h2 hk0
    go_upto_region 12 with fail
    go_quiet (fail)
    have hX5:=HXR.out.drewNB nq
    generalize wr.drewN nq=w5 at *
    clear y0 y1 b1 b2 b3 b4 hjk
    go_wp2_with fail
    go_roundw
    case rel=>exact ⟨k + 1,by omega,by go_num,hX5⟩
    case measure=>simp [intOf];omega
  ·obtain rfl:k=l.length:=by omega
   have HE5:=Lib.hid (HE4.out.ext HXR.out)
   have HD5:=Lib.hid (HD4.out.ext HXR.out)
   have HX5:=Lib.hid (HX4.out.trans HXR.out)
   have HR5:=Lib.hid (HR4.out.ext HXR.out)
   have z7:=HE5.out.has 7 _ rfl
   clear HE4 HD4 HX4 HR4 HXR H44
   obtain ⟨wo,rfl⟩ : ∃ wo,wo=wr:=⟨_,rfl⟩
   by_cases h0:ne=0
   ·subst h0
    go_wp2_with fail
    go_ret
    exact ⟨rfl,HX5.out⟩
   have b0:((ne:Int) == 0)=false:=by rw [beq_eq_false_iff_ne];omega
   obtain ⟨m,hm⟩ : ∃ m,kk % ne=m:=⟨_,rfl⟩
   have hml:m < ne:=by rw [← hm];exact Nat.mod_lt _ (by omega)
   obtain rfl:=HEA.out (by omega)
   have hmE:m < e.l.length:=by rw [HNE0.out];exact hml
   obtain ⟨sx,hx1,hx2⟩:=Es.get (HER.out wo HX5.out) hmE
   obtain ⟨q1,q2,q3⟩:=PARTS.out _ (List.getElem_mem hmE)
   have hxwf:e.l[m].wf:=((E.wf_iff e).1 HWF.out).2.2.2.2.2.2.2 _ (List.getElem_mem hmE)
   have hxn:nodes e.l[m] ≤ 1048576:=by have:=HN.out;have:=nodes_eq e;have:=le_sumBy nodes e.l _ (List.getElem_mem hmE);omega
   have hvx:VE wo (e.l[m].cells sx) e.l[m]:=⟨sx,rfl,hx2⟩
   generalize e.l[m]=x at *
   have HNX:=Lib.hid (fun W (h:Ext wo W)=>HNE.out x (x.cells sx) W (HX5.out.trans h) (hvx.ext h) hxwf hxn)
   obtain ⟨l2,hl2⟩ : ∃ l2,(needsM d x).1=l2:=⟨_,rfl⟩
   rw [q1,hl2] at HNX
   rw [hl2] at q2 q3
   have RISE2:=Lib.hid q2
   have SUB:=Lib.hid q3
   have HXC:=Lib.hid hx1
   have hmi:Int.tmod (kk:Int) (ne:Int)=(m:Int):=by rw [← hm];rfl
   have HMI:=Lib.hid hmi
   have HMM:=Lib.hid hm
   clear q1 q2 q3 hx1 hx2 hl2 hvx hxwf hxn hmE HNE PARTS HER HLS hmi hm
   go_upto_region 16 with fail
   refine wp_region_held_drew (S:=fun W=>Ext wo W) (by kernel_rfl) (Below.drew (Below.refl _ _)) (fun hHeld=>?_)
   try simp only [J]
   (refine Jt 0 (.agg [.slice a0 d.signals.length c0,pv,cv].toArray) rfl (yif_load rfl 26 _ rfl rfl (fun W hW=>(HD5.out.ext hW).has) agg_Flat rfl) hHeld ?_;try simp only [J])
   (refine Jt 1 (.pointer (some ⟨w.heap.size + 1,7,none⟩)) rfl (yif_load1 rfl (by intro W hW;clear hW;go_simp)) hHeld ?_;try simp only [J])
   (refine Jt 2 (.slice (some ⟨be,oe,none⟩) ne ce) rfl (yif_load1 rfl (by intro W hW;have y:=(HE5.out.ext hW).has 7 _ rfl;clear hW;go_simp)) hHeld ?_;try simp only [J])
   (refine Jt 3 (.int .u8 (kk:Int)) rfl (yif_load1 rfl fun _ _=>rfl) hHeld ?_;try simp only [J])
   (refine Jt 4 (.int .i64 (kk:Int)) rfl (yif_load1 rfl (by intro W hW;clear hW;go_simp;rw [IntKind.wrap_i64];omega)) hHeld ?_;try simp only [J])
   (refine Jt 5 (.pointer (some ⟨w.heap.size + 1,7,none⟩)) rfl (yif_load1 rfl (by intro W hW;clear hW;go_simp)) hHeld ?_;try simp only [J])
   (refine Jt 6 (.slice (some ⟨be,oe,none⟩) ne ce) rfl (yif_load1 rfl (by intro W hW;have y:=(HE5.out.ext hW).has 7 _ rfl;clear hW;go_simp)) hHeld ?_;try simp only [J])
   (refine Jt 7 (.int .i64 (ne:Int)) rfl (yif_load1 rfl (by intro W hW;clear hW;go_simp)) hHeld ?_;try simp only [J])
   (refine Jt 8 (.int .i64 (m:Int)) rfl (yif_load1 rfl (by intro W hW;clear hW;go_simp;exact HMI.out)) hHeld ?_;try simp only [J])
   (refine Jt 9 (.pointer (some ⟨be,oe + m * 8,none⟩)) rfl (yif_load1 rfl (by intro W hW;clear hW;go_simp)) hHeld ?_;try simp only [J])
   (refine Jt 10 (.agg (x.cells sx).toArray) rfl (yif_load rfl 44 _ rfl rfl (fun W hW=>HXC.out.ext hW) agg_E rfl) hHeld ?_;try simp only [J])
   (refine wpAnyH_ready (rs:=[11]) (by kernel_rfl) (by simp) ?_;refine AllReadyH.cons rfl (fun K hK=>?_) AllReadyH.nil)
   rw [if_pos (by kernel_rfl)]
   go_simp
   refine (HNX.out _ hHeld).mono ?_
   rintro r w6 ⟨u6,rfl,hr6,hx6⟩
   refine hK.out _ _ (hHeld.trans hx6) (fun hHeld=>?_)
   clear hK K
   try simp only [J]
   obtain ⟨a6,c6,rfl,-⟩:=hr6.open
   (refine Jt 12 (.tuple #[.slice a6 l2.length c6,.int .i64 0]) rfl (yif_load1 rfl fun _ _=>rfl) hHeld ?_;try simp only [J])
   (refine Jt 13 (.slice a6 l2.length c6) rfl (yif_load1 rfl (by intro W hW;clear hW;go_simp)) hHeld ?_;try simp only [J])
   (refine Jt 14 (.int .i64 0) rfl (yif_load1 rfl (by intro W hW;clear hW;go_simp)) hHeld ?_;try simp only [J])
   (refine Jt 15 (.slice a6 l2.length c6) rfl (yif_load1 rfl fun _ _=>rfl) hHeld ?_;try simp only [J])
   (refine Jt 16 (.int .i64 0) rfl (yif_load1 rfl fun _ _=>rfl) hHeld ?_;try simp only [J])
   refine wpAnyH_done (by kernel_rfl) ?_ _
   have HX6:=Lib.hid (HX5.out.trans hHeld)
   have HR6:=Lib.hid (HR5.out.ext hHeld)
   have HRB:=Lib.hid hr6
   have hlm2:l2.length ≤ 9223372036854775807:=by
    obtain ⟨_,_,_,cp,-,q1,q2,-,-⟩:=hr6.cells.open
    omega
   clear hHeld hr6 hx6 z7 b0 hml HD5 HE5 HX5 HR5 HNX
   go_wp2_with fail
   have H66:=Lib.hid (Below.refl w6.heap.size w6)
   go_loopw [15,16] (fun j i wx=>∃ a c:Nat,a ≤ l.length∧c ≤ l2.length∧j=.int .i64 a∧i=.int .i64 c∧(∀ t,t < a→∀ y,l[t]? = some y→∀ x,l2[c]? = some x→y < x)∧Ext w6 wx) (fun _ i _=>l2.length - (intOf i).toNat)
   case atStart=>exact ⟨0,0,Nat.zero_le _,Nat.zero_le _,rfl,rfl,fun t h=>absurd h (by omega),H66.out⟩
   case round =>
    obtain ⟨a,c,ha,hc,rfl,rfl,hall,hx⟩:=hrel
    obtain ⟨wq,rfl⟩ : ∃ wq,wq=wr:=⟨_,rfl⟩
    have HXR:=Lib.hid hx
    have HALL:=Lib.hid hall
    clear hx hall
    by_cases hlt:c < l2.length
    ·obtain ⟨x2,hx2⟩ : ∃ x2,l2[c]? = some x2:=⟨_,List.getElem?_eq_getElem hlt⟩
     have HX2C:=Lib.hid hx2
     have HAX:=Lib.hid (fun t (ht:t < a) y (hy:l[t]? = some y)=>HALL.out t ht y hy x2 hx2)
     clear hx2
     go_wp2_with fail
     go_loopw [15] (fun j wx=>∃ a:Nat,a ≤ l.length∧j=.int .i64 a∧(∀ t,t < a→∀ y,l[t]? = some y→y < x2)∧Ext w6 wx) (fun j _=>l.length - (intOf j).toNat)
     case atStart=>exact ⟨a,ha,rfl,HAX.out,HXR.out⟩
     case round =>
      obtain ⟨a',ha',rfl,hall',hx⟩:=hrel
      have HXI:=Lib.hid hx
      have HALI:=Lib.hid hall'
      clear hx hall'
      have hmem:x2 ∈ l:=SUB.out x2 (List.mem_of_getElem? HX2C.out)
      have hlt2:a' < l.length:=by
       rcases Nat.lt_or_ge a' l.length with h | h
       ·exact h
       ·exfalso
        have:=needs_step RISE.out hmem HALI.out (fun y hy=>by rw [List.getElem?_eq_none h] at hy;cases hy)
        rw [List.getElem?_eq_none h] at this
        cases this
      obtain ⟨g,cap,he,-,hcl⟩:=(HR6.out.ext HXI.out).open1 (by omega)
      injection he with e1 _ e2
      subst e1
      obtain ⟨g2,cap2,he,-,hcl2⟩:=(HRB.out.ext HXI.out).open1 (by omega)
      injection he with e1 _ e2
      subst e1
      have y0:=hcl a' _ (List.getElem?_eq_getElem hlt2)
      have y1:=hcl2 c x2 HX2C.out
      clear hcl hcl2
      by_cases hly:l[a'] < x2
      ·have hnew:∀ t,t < a' + 1→∀ y,l[t]? = some y→y < x2:=fun t ht y hy=>by
        by_cases e:t=a'
        ·subst e
         rw [List.getElem?_eq_getElem hlt2] at hy
         injection hy with hy
         omega
        ·exact HALI.out t (by omega) y hy
       have HNEW:=Lib.hid hnew
       generalize l[a']=y at *
       have b1:decide (y < x2)=true:=decide_eq_true hly
       clear hnew hly hmem
       go_upto_region 23 with fail
       go_quiet (fail)
       have hX8:=HXI.out.drewNB nq
       generalize wr.drewN nq=w8 at *
       clear y0 y1 b1
       go_wp2_with fail
       go_roundw
       case rel=>exact ⟨a' + 1,by omega,by go_num,HNEW.out,hX8⟩
       case measure=>simp [intOf];omega
      ·have hst:=needs_step RISE.out hmem HALI.out (fun y hy=>by
        rw [List.getElem?_eq_getElem hlt2] at hy
        injection hy with hy
        omega)
       rw [List.getElem?_eq_getElem hlt2] at hst
       injection hst with hst
       rw [hst] at y0
       clear hst hly hmem
       go_upto_region 23 with fail
       go_quiet (fail)
       have hX8:=HXI.out.drewNB nq
       have z0:(wr.drewN nq).cell? ⟨g,a',none⟩=some (.int .i64 x2):=y0
       have z1:(wr.drewN nq).cell? ⟨g2,c,none⟩=some (.int .i64 x2):=y1
       generalize wr.drewN nq=w8 at *
       clear y0 y1
       go_upto_region 25 with fail
       go_quiet (fail)
       have hX9:=hX8.drewNB nq
       generalize w8.drewN nq=w9 at *
       clear z0 z1
       go_wp2_with fail
       go_roundw
       case rel=>exact ⟨_,.int .i64 (a':Int),.int .i64 ((c:Int) + 1),⟨a',ha',c + 1,by omega,rfl,by go_num,fun t ht y hy x hx=>by
        obtain ⟨hlc,hxe⟩:=List.getElem?_eq_some_iff.1 hx
        obtain ⟨hlc0,hxe0⟩:=List.getElem?_eq_some_iff.1 HX2C.out
        have:=List.pairwise_iff_getElem.1 RISE2.out c (c + 1) hlc0 hlc (by omega)
        have:=HALI.out t ht y hy
        omega⟩,rfl,rfl,rfl⟩
       case measure=>simp [intOf];omega
    ·obtain rfl:c=l2.length:=by omega
     go_wp2_with fail
     go_ret
     exact ⟨rfl,HX6.out.trans HXR.out⟩
end Go.Proofs.YtemabheegnngdaaGreat
