/- Laws and walks that a claim of this seat leans on: Cyc3, Cyc4, Cyc6. -/
import Derived.Test.YtoaamjgfhppppaaGreatT27
import Derived.Test.YtoaamjgfhppppaaGreatT25
import Derived.Test.YtoaamjgfhppppaaGreatT16
import Derived.Test.YtoaamjgfhppppaaGreatT07
import Derived.Test.YtoaamjgfhppppaaGreatTLint
import Derived.Test.YtoaamjgfhppppaaGreatT20
import Derived.Test.YtoaamjgfhppppaaGreatT00
set_option maxRecDepth 100000
set_option maxHeartbeats 8000000
set_option linter.all false
namespace Go.Proofs.YtoaamjgfhppppaaGreat
open Go.RowKit
theorem clkD_nat {d:Flat} {k:Nat} (h:k<d.procs.length):clkD d (k:Int)=d.procs[k].clocked:=by
 unfold clkD;rw [Int.toNat_natCast,List.getElem?_eq_getElem h];rfl
theorem foldl_snoc {α β:Type} (f:β->α->β) (b:β) (l:List α) (x:α):(l++[x]).foldl f b=f (l.foldl f b) x:=by rw [List.foldl_append];rfl
theorem tick_calls {d:Flat} {sv pv cv nv ov:Value} {P:Nat} {wb w:World} {v:List Nat} (H:Cy d sv pv cv wb) (h:CyW d sv pv cv nv ov P wb v w) :
  Calls Tryz.prog 50 #[.pointer (some ⟨P,0,none⟩)] w fun r w'=>r=.returned (.tuple #[])/\∃ nv',CyW d sv pv cv nv' ov P wb (tickM d v) w'/\w.grownBy w' (some P)/\(∀ k,nv'.ownBlock=some k->w.heap.size<=k):=by
 have HH:=Jh H
 have hck:=(look_in H.ok H.lk).1
 have HCK:=Jh hck
 have hsl:=H.ok.signals
 have hpl:=H.ok.procs
 have hvl:=h.val.1
 have HTV:=Jh (tick_val H.ok hck h.val)
 obtain ⟨a0,cap0,rfl,-⟩:=h.row.open
 have HW:=Jh h
 have h64:=val2_us64 (fun x hx=>(checkM_w hck x hx).2) h.val
 have H64:=Jh h64
 have HCL:=Jh (CloneW_calls v _ w h.row.cells (by omega))
 obtain ⟨sv',pv',cv',e,-,hP,-⟩:=H.flat
 injection e with e
 simp only [Array.mk.injEq,List.cons.injEq,and_true] at e
 obtain ⟨rfl,rfl,rfl⟩:=e
 obtain ⟨ap,bp,op,cp,rfl,-,-,hap,hpr⟩:=hP.open
 have HPA:=Jh hap
 have HPR:=Jh hpr
 have HPS:=Jh hP
 have y3:=h.blk.has 3 _ rfl
 rw [Nat.zero_add] at y3
 clear H h hck hap hpr hP h64
 obtain ⟨n,hn⟩:∃ n,v.length=n:=⟨_,rfl⟩
 have HN:=Jh hn
 rw [hn] at HW HCL hvl y3
 have HVL:=Jh hvl
 have hn20:n<=1048576:=by omega
 clear hvl
 go_enter Tryz.func50,Tryz.ntmps50
 go_upto_region 1 with (go_at_call 42;refine HCL.out.mono ?_;rintro r w1 ⟨u1,rfl,hr1,hx1⟩)
 obtain ⟨a1,c1,rfl,-⟩:=hr1.open
 rw [hn] at hr1
 have HR1:=Jh hr1
 have HX1:=Jh hx1
 have hW1:=HW.out.ext' hx1
 have y1:=hW1.blk.has 1 _ rfl
 rw [Nat.zero_add] at y1
 rw [hn]
 clear hr1 hx1 hW1 y3 HCL
 go_wp2_with fail
 clear y1
 obtain ⟨N1,hN1⟩:∃ N,w.heap.size=N:=⟨_,rfl⟩
 have HN1:=Jh hN1
 rw [hN1] at HR1
 clear hN1 hn
 go_loopw [3,4,5,6,7,19] (fun _ _ _ _ _ i wr=>∃ (k:Nat) (nx:List Nat),k<=d.procs.length/\i=.int .i64 k/\WordRow N1 (.slice a1 n c1) nx wr/\Val2 d.signals nx/\nx=(List.range k).foldl (tick1 d v) v/\Ext w wr) (fun _ _ _ _ _ i _=>d.procs.length-(intOf i).toNat)
 case atStart=>exact ⟨0,v,Nat.zero_le _,rfl,HR1.out,HW.out.val,rfl,HX1.out⟩
 case round =>
  obtain ⟨k,nx,hk,rfl,hrow,hval,hnx,hxr⟩:=hrel
  have HROW:=Jh hrow
  have HVAL:=Jh hval
  have HNX:=Jh hnx
  have HXR:=Jh hxr
  have HC:=Jh (HW.out.ext' hxr)
  clear hrow hval hnx hxr
  by_cases hlt:k<d.procs.length
  ·obtain rfl:=HPA.out (by omega)
   have hkc:=clkD_nat hlt
   obtain ⟨sp,hph,hpt⟩:=Procs.get (HPR.out.mono fun x _ b o hh=>ProcAt.ext' HC.out.ext hh) hlt
   have hsp:=hpt.one
   have hx2:=ext_alloc wr (.cells (d.procs[k].cells sp).toArray 49)
   have hb2:=Blk.new wr (d.procs[k].cells sp).toArray 49
   have htk:tickM d v=tickM d v:=rfl
   have hpin:(0:Int)<=(k:Int)/\(k:Int)<d.procs.length:=⟨by omega,by omega⟩
   have HRUNM:=Jh (runM_of HCK.out HW.out.val hpin.1 hpin.2)
   have HWV:=Jh (run_kept HH.out.ok HCK.out hpin.1 hpin.2 HW.out.val).1
   have HTK:=Jh (show (List.range (k+1)).foldl (tick1 d v) v=tick1 d v nx k by rw [List.range_succ,foldl_snoc,<-HNX.out])
   obtain ⟨ck,hckk⟩:∃ c,d.procs[k].clocked=c:=⟨_,rfl⟩
   unfold Proc.cells at hph hx2 hb2
   rw [hckk] at hph hx2 hb2 hkc
   have HKC:=Jh hkc
   clear hkc hckk htk hpt hpin
   go_upto_region 4 with (first | ((with_reducible show Jl 49);refine Jm 49 (hph) agg_Proc rfl ?_) | ((with_reducible show Js 49);refine wpList_store_new rfl 49 _ _ rfl rfl (by first | rfl | simp) rfl agg_Proc (rfl) rfl (by simp [hsp,one_bool]) ?_))
   generalize wr.alloc _=w2 at *
   have yk:=hb2.has 0 _ rfl
   rw [Nat.zero_add] at yk
   have HX2:=Jh hx2
   clear hph hb2 hx2 hsp
   cases ck
   ·go_wp2_with fail
    go_roundw
    case rel=>exact ⟨k+1,nx,hlt,by go_num,HROW.out.ext HX2.out,HVAL.out,by rw [HTK.out];unfold tick1;rw [HKC.out];rfl,HXR.out.trans HX2.out⟩
    case measure=>simp [intOf];omega
   have HC2:=Jh (HC.out.ext' HX2.out)
   have hi64:i64r (k:Int):=by unfold i64r;omega
   have HRN:=Jh (fun W (hx:Ext w2 W)=>Run_calls d _ v _ (k:Int) W ((HC2.out.ext' hx).flat HH.out) HH.out.ok (HC2.out.row.cells.ext hx) H64.out hi64)
   rw [HRUNM.out] at HRN
   have HT1:=Jh (show tick1 d v nx k=xorL nx v (runL d (k:Int) v) by unfold tick1;rw [HKC.out];rfl)
   rw [HT1.out] at HTK
   generalize runL d (k:Int) v=ws at *
   clear hi64
   go_upto_region 5 with fail
   clear yk
   refine Jg w2 fun hH=>?_
   try simp only [J]
   (refine Jt 0 (.pointer (some ⟨P,0,none⟩)) rfl (yif_load1 rfl fun _ _=>rfl) hH ?_;try simp only [J])
   (refine Jt 1 (.pointer (some ⟨P,0,none⟩)) rfl (yif_load1 rfl (by intro W hW;clear hW;go_simp)) hH ?_;try simp only [J])
   (refine Jt 2 (.pointer (some ⟨P,0,none⟩)) rfl (yif_load1 rfl (by intro W hW;clear hW;go_simp)) hH ?_;try simp only [J])
   (refine Jt 3 (.agg [sv,.slice (some ⟨bp,op,none⟩) d.procs.length cp,cv].toArray) rfl (yif_load rfl 26 _ rfl rfl (fun W hW=>(HC2.out.ext' hW).has3) agg_Flat rfl) hH ?_;try simp only [J])
   (refine Jt 4 (.pointer (some ⟨P,0,none⟩)) rfl (yif_load1 rfl fun _ _=>rfl) hH ?_;try simp only [J])
   (refine Jt 5 (.pointer (some ⟨P,0,none⟩)) rfl (yif_load1 rfl (by intro W hW;clear hW;go_simp)) hH ?_;try simp only [J])
   (refine Jt 6 (.pointer (some ⟨P,3,none⟩)) rfl (yif_load1 rfl (by intro W hW;clear hW;go_simp)) hH ?_;try simp only [J])
   (refine Jt 7 (.slice a0 n cap0) rfl (yif_load1 rfl (by intro W hW;have z:=(HC2.out.ext' hW).blk.has 3 _ rfl;clear hW;go_simp)) hH ?_;try simp only [J])
   (refine Jt 8 (.int .i64 (k:Int)) rfl (yif_load1 rfl fun _ _=>rfl) hH ?_;try simp only [J])
   (refine Jr 9 rfl fun K hK=>?_)
   go_simp
   refine (HRN.out _ hH).mono ?_
   rintro r w3 ⟨u3,rfl,hr3,hx3⟩
   obtain ⟨ua,uc,rfl,-⟩:=hr3.open
   rw [show ws.length=n by rw [HWV.out.1,HVL.out]] at hr3 ⊢
   obtain ⟨M,hM⟩:∃ M,w2.drew.heap.size=M:=⟨_,rfl⟩
   have HM:=Jh hM
   rw [hM] at hr3
   have HU3:=Jh hr3
   refine hK.out _ _ (hH.trans hx3) (fun hH=>?_)
   clear hK K hx3 hr3 hM
   try simp only [J]
   (refine Jt 10 (.tuple #[.slice ua n uc,.int .i64 0]) rfl (yif_load1 rfl fun _ _=>rfl) hH ?_;try simp only [J])
   (refine Jt 11 (.slice ua n uc) rfl (yif_load1 rfl (by intro W hW;clear hW;go_simp)) hH ?_;try simp only [J])
   (refine Jt 12 (.int .i64 0) rfl (yif_load1 rfl (by intro W hW;clear hW;go_simp)) hH ?_;try simp only [J])
   (refine Jt 13 (.slice ua n uc) rfl (yif_load1 rfl fun _ _=>rfl) hH ?_;try simp only [J])
   (refine Jt 14 (.int .i64 0) rfl (yif_load1 rfl fun _ _=>rfl) hH ?_;try simp only [J])
   refine Jz ?_
   have HX3:=Jh (HX2.out.trans hH)
   clear hH HRN HC HC2
   go_upto_region 7 with (go_at_call 73;refine (on_ok w3).mono ?_;rintro r w4 ⟨rfl,hx4⟩)
   have HX4:=Jh (HXR.out.trans (HX3.out.trans hx4))
   have HROW4:=Jh (HROW.out.ext (HX3.out.trans hx4))
   have HU4:=Jh (HU3.out.ext hx4)
   have hgM:∀ g,a1=some ⟨g,0,none⟩->g<M:=fun g e=>by
    subst e
    obtain ⟨-,cur,hcur⟩:=HROW.out.at (k:=g) rfl
    have h1:=(Array.getElem?_eq_some_iff.1 hcur).1
    have h2:=HX2.out.size
    have h3:w2.drew.heap.size=w2.heap.size:=rfl
    rw [<-HM.out,h3]
    omega
   have HGM:=Jh hgM
   clear hx4 HX3 HU3 hgM
   go_wp2_with fail
   generalize wr=wo at *
   go_loopw [7,44] (fun _ i wr=>∃ (j:Nat) (cur:List Nat),j<=n/\i=.int .i64 j/\WordRow N1 (.slice a1 n c1) cur wr/\cur.length=n/\us64 cur/\WordRow M (.slice ua n uc) ws wr/\(∀ q,q<j->cur[q]? = (xorL nx v ws)[q]?)/\(∀ q,j<=q->cur[q]? = nx[q]?)/\Ext w wr) (fun _ i _=>n-(intOf i).toNat)
   case atStart=>exact ⟨0,nx,Nat.zero_le _,rfl,HROW4.out,by rw [HVAL.out.1,HVL.out],val2_us64 (fun x hx=>(checkM_w HCK.out x hx).2) HVAL.out,HU4.out,fun q hq=>absurd hq (by omega),fun q _=>rfl,HX4.out⟩
   case round =>
    obtain ⟨j,cur,hj,rfl,hrow,hcl,h6,hur,hq1,hq2,hxr⟩:=hrel
    have HR:=Jh hrow
    have HCLL:=Jh hcl
    have H6:=Jh h6
    have HUR:=Jh hur
    have HQ1:=Jh hq1
    have HQ2:=Jh hq2
    have HXX:=Jh hxr
    clear hrow hcl h6 hur hq1 hq2 hxr
    by_cases hltj:j<n
    ·have hjc:j<cur.length:=by rw [HCLL.out];exact hltj
     have hjw:j<ws.length:=by rw [HWV.out.1,<-HVL.out];exact hltj
     have hjv:j<v.length:=by rw [HN.out];exact hltj
     have hjx:j<nx.length:=by rw [HVAL.out.1,<-HVL.out];exact hltj
     obtain ⟨gn,cc,e1,hgN,-⟩:=HR.out.open1 (by omega)
     injection e1 with e1 zq1 zq2
     clear zq1 zq2
     obtain rfl:=e1
     obtain ⟨gv,cc2,e2,hgv,-⟩:=HUR.out.open1 (by omega)
     injection e2 with e2 zq1 zq2
     clear zq1 zq2
     obtain rfl:=e2
     have hC:=HW.out.ext' HXX.out
     obtain ⟨g0,cc3,e3,-,-⟩:=hC.row.open1 (by omega)
     injection e3 with e3 zq1 zq2
     clear zq1 zq2
     obtain rfl:=e3
     have hg0:g0<N1:=by
      obtain ⟨-,cur0,hcur0⟩:=HW.out.row.at (k:=g0) rfl
      have h1:=(Array.getElem?_eq_some_iff.1 hcur0).1
      rw [HN1.out] at h1
      exact h1
     have hgm:=HGM.out gn rfl
     have hn0:gn≠g0:=by omega
     have hnv:gn≠gv:=by omega
     obtain ⟨yn,yf⟩:=HR.out.cellf hjc
     have yv:=(hC.row.cellf hjv).1
     have yw:=(HUR.out.cellf hjw).1
     have hPne:P≠gn:=fun e=>by
      have:=hC.blk
      obtain ⟨-,c5,hc5⟩:=HR.out.at (k:=gn) rfl
      unfold Blk at this
      rw [e,hc5] at this
      injection this with this
      injection this with _ this
      exact absurd this (by decide)
     have hcn:cur[j]=nx[j]:=by
      have:=HQ2.out j (Nat.le_refl j)
      rw [List.getElem?_eq_getElem hjc,List.getElem?_eq_getElem hjx] at this
      injection this
     have hxg:(xorL nx v ws)[j]? = some (cur[j] ^^^ (v[j] ^^^ ws[j])):=by
      have:=xorL_get nx v ws hjx
      rw [List.getD_eq_getElem?_getD,List.getElem?_eq_getElem (by rw [xorL_len];exact hjx)] at this
      rw [List.getElem?_eq_getElem (by rw [xorL_len];exact hjx),hcn]
      simp only [Option.getD_some,List.getD_eq_getElem?_getD,List.getElem?_eq_getElem hjx,List.getElem?_eq_getElem hjv,List.getElem?_eq_getElem hjw] at this
      rw [this]
     have h1:=H6.out _ (List.getElem_mem hjc)
     have h2:=H64.out _ (List.getElem_mem hjv)
     have h3:=val2_us64 (fun x hx=>(checkM_w HCK.out x hx).2) HWV.out _ (List.getElem_mem hjw)
     have h23:v[j] ^^^ ws[j]<18446744073709551616:=Nat.xor_lt_two_pow (n:=64) h2 h3
     have h123:cur[j] ^^^ (v[j] ^^^ ws[j])<18446744073709551616:=Nat.xor_lt_two_pow (n:=64) h1 h23
     have HX1':=Jh (n_xor h2 h3)
     have HX2':=Jh (n_xor h1 h23)
     have hD:Ext wr wr.drew:=Below.drew (Below.refl _ _)
     have hset:=(HR.out.ext hD).set j hjc (cur[j] ^^^ (v[j] ^^^ ws[j]))
     have hgs:=gb_set wr.drew gn j (W64 (cur[j] ^^^ (v[j] ^^^ ws[j])))
     have hx9:Ext w (wr.drew.setCell ⟨gn,j,none⟩ (W64 (cur[j] ^^^ (v[j] ^^^ ws[j])))):=(HXX.out.trans hD).grown hgs (by rw [HN1.out];exact hgN)
     have hu9:=(HUR.out.ext hD).grown hgs (fun q hq e=>by
      have e1:q=gv:=by injection hq with hq;exact hq.symm
      have e2:q=gn:=by injection e
      omega)
     have hr9:us64 (cur.set j (cur[j] ^^^ (v[j] ^^^ ws[j]))):=fun z hz=>(List.mem_or_eq_of_mem_set hz).elim (H6.out z) (fun e=>e ▸ h123)
     have hq9:∀ q,q<j+1->(cur.set j (cur[j] ^^^ (v[j] ^^^ ws[j])))[q]? = (xorL nx v ws)[q]?:=fun q hq=>by
      by_cases e:q=j
      ·subst e;rw [List.getElem?_set_self hjc,hxg]
      ·rw [List.getElem?_set_ne (fun h=>e h.symm)];exact HQ1.out q (by omega)
     have hq8:∀ q,j+1<=q->(cur.set j (cur[j] ^^^ (v[j] ^^^ ws[j])))[q]? = nx[q]?:=fun q hq=>by
      rw [List.getElem?_set_ne (by omega)];exact HQ2.out q (by omega)
     have hlen9:(cur.set j (cur[j] ^^^ (v[j] ^^^ ws[j]))).length=n:=by rw [List.length_set];exact HCLL.out
     have HRD:=Jh hset
     have HXD:=Jh hx9
     have HUD:=Jh hu9
     have HR9:=Jh hr9
     have HQ9:=Jh hq9
     have HQ8:=Jh hq8
     have HL9:=Jh hlen9
     have HBP:=Jh hC.blk
     have HYV:=Jh yv
     have HYW:=Jh yw
     have HYN:=Jh yn
     have HYF:=Jh yf
     clear hset hgs hD hx9 hu9 hr9 hq9 hq8 hlen9 hxg hcn h1 h2 h3 h23 h123 yv yw yn yf hC hgN hgv hg0 hgm
     generalize cur.set j _=cur' at *
     generalize cur[j] ^^^ _=X at *
     generalize v[j] ^^^ _=V at *
     generalize cur[j]=A at *
     generalize v[j]=B at *
     generalize ws[j]=D at *
     go_upto_region 10 with fail
     refine wp_region_held_drew (S:=fun W=>Blk W P [sv,.slice (some ⟨bp,op,none⟩) d.procs.length cp,cv,.slice (some ⟨g0,0,none⟩) n cap0,ov].toArray 89/\W.cell? ⟨g0,j,none⟩=some (W64 B)/\W.cell? ⟨gv,j,none⟩=some (W64 D)) (by kernel_rfl) ⟨HBP.out.drew,HYV.out,HYW.out⟩ (fun hH=>?_)
     try simp only [J]
     (refine Jt 0 (.slice (some ⟨gn,0,none⟩) n c1) rfl (yif_load1 rfl fun _ _=>rfl) hH ?_;try simp only [J])
     (refine Jt 1 (.int .i64 (j:Int)) rfl (yif_load1 rfl fun _ _=>rfl) hH ?_;try simp only [J])
     (refine Jt 2 (.pointer (some ⟨gn,j,none⟩)) rfl (yif_load1 rfl (by intro W hW;clear hW;go_simp;try (intro h;omega))) hH ?_;try simp only [J])
     (refine Jt 4 (.pointer (some ⟨P,0,none⟩)) rfl (yif_load1 rfl fun _ _=>rfl) hH ?_;try simp only [J])
     (refine Jt 5 (.pointer (some ⟨P,0,none⟩)) rfl (yif_load1 rfl (by intro W hW;clear hW;go_simp)) hH ?_;try simp only [J])
     (refine Jt 6 (.pointer (some ⟨P,3,none⟩)) rfl (yif_load1 rfl (by intro W hW;clear hW;go_simp)) hH ?_;try simp only [J])
     (refine Jt 7 (.slice (some ⟨g0,0,none⟩) n cap0) rfl (yif_load1 rfl (by intro W hW;have z:=hW.1.has 3 _ rfl;clear hW;go_simp)) hH ?_;try simp only [J])
     (refine Jt 8 (.int .i64 (j:Int)) rfl (yif_load1 rfl fun _ _=>rfl) hH ?_;try simp only [J])
     (refine Jt 9 (.pointer (some ⟨g0,j,none⟩)) rfl (yif_load1 rfl (by intro W hW;clear hW;go_simp;try (intro h;omega))) hH ?_;try simp only [J])
     (refine Jt 10 (W64 B) rfl (yif_load1 rfl (by intro W hW;have z:=hW.2.1;clear hW;go_simp)) hH ?_;try simp only [J])
     (refine Jt 11 (.slice (some ⟨gv,0,none⟩) n uc) rfl (yif_load1 rfl fun _ _=>rfl) hH ?_;try simp only [J])
     (refine Jt 12 (.int .i64 (j:Int)) rfl (yif_load1 rfl fun _ _=>rfl) hH ?_;try simp only [J])
     (refine Jt 13 (.pointer (some ⟨gv,j,none⟩)) rfl (yif_load1 rfl (by intro W hW;clear hW;go_simp;try (intro h;omega))) hH ?_;try simp only [J])
     (refine Jt 14 (W64 D) rfl (yif_load1 rfl (by intro W hW;have z:=hW.2.2;clear hW;go_simp)) hH ?_;try simp only [J])
     (refine Jt 15 (W64 V) rfl (yif_load1 rfl (by intro W hW;clear hW;go_simp;exact HX1'.out)) hH ?_;try simp only [J])
     have yn:wr.drew.cell? ⟨gn,j,none⟩=some (W64 A):=HYN.out
     (refine Jr 3 rfl fun K hK=>?_)
     go_simp
     refine hK.out _ _ hH (fun hH=>?_)
     clear hK K yn
     try simp only [J]
     (refine Jt 16 (W64 X) rfl (yif_load1 rfl (by intro W hW;clear hW;go_simp;exact HX2'.out)) hH ?_;try simp only [J])
     (refine Jt 17 (.pointer (some ⟨gn,j,none⟩)) rfl (yif_load1 rfl (by intro W hW;clear hW;go_simp;try (intro h;omega))) hH ?_;try simp only [J])
     have yn:wr.drew.cell? ⟨gn,j,none⟩=some (W64 A):=HYN.out
     have yf:wr.drew.frozen? ⟨gn,j,none⟩=false:=HYF.out
     have hgd:=gb_set wr.drew gn j (W64 X)
     (refine Jr 18 rfl fun K hK=>?_)
     go_simp
     refine hK.out _ _ ⟨hH.1.grown hgd hPne,(hgd.cell hH.2.1 (by simpa using hn0.symm)),(hgd.cell hH.2.2 (by simpa using hnv.symm))⟩ (fun hH=>?_)
     clear hK K yn yf hgd
     refine Jz ?_
     clear hH
     go_wp2_with fail
     go_roundw
     case rel=>exact ⟨j+1,cur',hltj,by go_num,HRD.out,HL9.out,HR9.out,HUD.out,HQ9.out,HQ8.out,HXD.out⟩
     case measure=>simp [intOf];omega
    ·obtain rfl:j=n:=by omega
     have e:cur=xorL nx v ws:=List.ext_getElem? fun q=>by
      by_cases hq:q<j
      ·exact HQ1.out q hq
      ·rw [List.getElem?_eq_none (by rw [HCLL.out];omega),List.getElem?_eq_none (by rw [xorL_len,HVAL.out.1,<-HVL.out];omega)]
     have HE:=Jh e
     clear e
     go_wp2_with fail
     go_roundw
     case rel=>exact ⟨k+1,cur,hlt,by go_num,HR.out,by rw [HE.out];exact xorL_val HVAL.out HW.out.val HWV.out,by rw [HTK.out];exact HE.out,HXX.out⟩
     case measure=>simp [intOf];omega
  ·obtain rfl:k=d.procs.length:=by omega
   have yc:=HC.out.blk.has 3 _ rfl
   rw [Nat.zero_add] at yc
   have yf:=HC.out.blk.frozen 3
   have HE:=Jh (show nx=tickM d v from HNX.out)
   have HGE:=Jh (gb_trans (gb_ext HXR.out P) (gb_set wr P 3 (.slice a1 n c1)))
   have HOB:=Jh (fun j (hj:(Value.slice a1 n c1).ownBlock=some j)=>(HROW.out.at hj).1)
   have HF:=Jh (HC.out.setV (HROW.out.less (by rw [<-HN1.out];exact HW.out.ext.size)) HVAL.out)
   go_wp2_with fail
   all_goals go_end0
   exact ⟨rfl,_,by rw [<-HE.out];exact HF.out,HGE.out,by rw [HN1.out];exact HOB.out⟩
theorem Us.tail {w:World} {al:Option Addr} {n c:Nat} {x:Nat} {l:List Nat} (h:Us w (.slice al n c) (x::l)) {ad:Option Addr} (had:(if c=1 then al else al.map fun x=>x.add 1)=ad):Us w (.slice ad (n-1) (c-1)) l:=by
 obtain ⟨b,o,⟨a,cap,e,h1,h2,h3⟩,hr⟩:=h
 injection e with e1 e2 e3
 subst e1 e2 e3
 refine ⟨b,o+1,⟨ad,c-1,by simp,by simp at h1;omega,by omega,fun hp=>?_⟩,hr.2⟩
 rw [<-had,h3 (by simp),if_neg (by simp at h1 hp;omega)]
 simp [Addr.add]
theorem putM_cons (s:Signal) (ls:List Signal) (v ins:List Nat):putM (s::ls) v ins=if s.kind=1 then (match ins with | []=>none | y::ins'=>if y<2^s.w.toNat then (putM ls v.tail ins').map (y::·) else none) else (putM ls v.tail ins).map (v.headD 0::·):=by rw [putM.eq_def];rfl
theorem put_step (d:Flat) (v ins:List Nat) (k:Nat) (cur rest:List Nat) (hk:k<d.signals.length) (hv:v.length=d.signals.length) (hc:cur.length=v.length) (hd:cur.drop k=v.drop k)
  (h:putM d.signals v ins=(putM (d.signals.drop k) (v.drop k) rest).map (cur.take k++·)) :
  (d.signals[k].kind≠1->putM d.signals v ins=(putM (d.signals.drop (k+1)) (v.drop (k+1)) rest).map (cur.take (k+1)++·)) /\
  (d.signals[k].kind=1->∀ x l,rest=x::l->x<2^(d.signals[k].w).toNat->putM d.signals v ins=(putM (d.signals.drop (k+1)) (v.drop (k+1)) l).map ((cur.set k x).take (k+1)++·)) /\
  (d.signals[k].kind=1->(rest=[]\/∃ x l,rest=x::l/\¬ x<2^(d.signals[k].w).toNat)->putM d.signals v ins=none):=by
 have hkv:k<v.length:=by omega
 have hkc:k<cur.length:=by omega
 have hcv:cur[k]=v[k]:=by
  have h1:=congrArg (fun l=>l[0]?) hd
  simp only [List.getElem?_drop,Nat.add_zero,List.getElem?_eq_getElem hkv,List.getElem?_eq_getElem hkc] at h1
  injection h1
 have ht:cur.take (k+1)=cur.take k++[v[k]]:=by rw [List.take_succ,List.getElem?_eq_getElem hkc,hcv];rfl
 have hs:∀ x,(cur.set k x).take (k+1)=cur.take k++[x]:=fun x=>by
  rw [List.take_succ,List.take_set,List.set_eq_of_length_le (by rw [List.length_take];omega),List.getElem?_set_self hkc];rfl
 rw [List.drop_eq_getElem_cons hk,List.drop_eq_getElem_cons hkv,putM_cons] at h
 refine ⟨fun hne=>?_,fun he x l hr hx=>?_,fun he hr=>?_⟩
 ·rw [h,if_neg hne,List.tail_cons,List.headD_cons,ht,Option.map_map]
  congr 1
  funext z
  simp
 ·subst hr
  rw [h,if_pos he]
  simp only
  rw [if_pos hx,List.tail_cons,hs,Option.map_map]
  congr 1
  funext z
  simp
 ·rw [h,if_pos he]
  rcases hr with rfl | ⟨x,l,rfl,hx⟩
  ·rfl
  ·simp only
   rw [if_neg hx];rfl
theorem put_calls {d:Flat} {sv pv cv nv ov:Value} {P:Nat} {wb w:World} {v:List Nat} (H:Cy d sv pv cv wb) (h:CyW d sv pv cv nv ov P wb v w) (iv:Value) (ins:List Nat) (hI:Us wb iv ins) (hI64:us64 ins) :
  Calls Tryz.prog 57 #[.pointer (some ⟨P,0,none⟩),iv] w fun r w'=>(∃ x,putM d.signals v ins=some x/\r=.returned (.tuple #[])/\CyW d sv pv cv nv ov P wb x w'/\w.grownBy w' nv.ownBlock)\/(putM d.signals v ins=none/\r=panicOf 1/\Ext wb w'):=by
 have hck:=(look_in H.ok H.lk).1
 have HCK:=Jh (checkM_w hck)
 have hvl:v.length=d.signals.length:=h.val.1
 have HV0:=Jh h.val
 obtain ⟨a,cap,rfl,-⟩:=h.row.open
 rw [hvl] at h ⊢
 obtain ⟨sv',pv',cv',e,hS,-,-⟩:=H.flat
 injection e with e
 simp only [Array.mk.injEq,List.cons.injEq,and_true] at e
 obtain ⟨rfl,rfl,rfl⟩:=e
 have HWF:=Jh H.ok.wf.signals
 obtain ⟨ss,sb,so,sc,rfl,hp1,hp2,hsa,hsr⟩:=hS.open
 have HSA:=Jh hsa
 have HSR:=Jh hsr
 have hsl:=H.ok.signals
 have HW:=Jh h
 have HI:=Jh hI
 have HI64:=Jh hI64
 have HVL:=Jh hvl
 have h0:=h.blk.has 0 _ rfl
 rw [Nat.zero_add] at h0
 obtain ⟨ia,ib,io,ic,rfl,hi1,hi2,-,-⟩:=hI.open
 obtain ⟨R,hR⟩:∃ R,putM d.signals v ins=R:=⟨_,rfl⟩
 have HR:=Jh hR
 rw [hR]
 clear hS hsa hsr H hI hI64 hR
 go_enter Tryz.func57,Tryz.ntmps57
 go_wp2_with fail
 clear h0
 go_loopw [1,4,5,12] (fun inv _ _ i wr=>∃ (k:Nat) (cur rest:List Nat),k<=d.signals.length/\i=.int .i64 k/\CyW d (.slice ss d.signals.length sc) pv cv (.slice a d.signals.length cap) ov P wb cur wr/\cur.drop k=v.drop k/\Us wb inv rest/\us64 rest/\R=(putM (d.signals.drop k) (v.drop k) rest).map (cur.take k++·)/\w.grownBy wr (Value.slice a d.signals.length cap).ownBlock) (fun _ _ _ i _=>d.signals.length-(intOf i).toNat)
 case atStart=>exact ⟨0,v,ins,Nat.zero_le _,rfl,HW.out,rfl,HI.out,HI64.out,by rw [List.drop_zero,List.drop_zero,<-HR.out];simp,gbR_refl _ _⟩
 case round =>
  obtain ⟨k,cur,rest,hk,rfl,hcw,hdr,hin,hin64,hstep,hgr⟩:=hrel
  have HGR:=Jh hgr
  clear hgr
  have HC:=Jh hcw
  have HIN:=Jh hin
  have HDR:=Jh hdr
  have HIN64:=Jh hin64
  obtain ⟨qa,qb,qo,qc,rfl,hq1,hq2,hqa,hqr⟩:=hin.open
  by_cases hlt:k<d.signals.length
  ·obtain rfl:=HSA.out (by omega)
   have hkv:k<cur.length:=by rw [HC.out.val.1];exact hlt
   have hcl:cur.length=v.length:=by rw [HC.out.val.1,HVL.out]
   obtain ⟨g,cap',hnv⟩:=HC.out.head (by omega)
   injection hnv with hnv zq1 zq2
   clear zq1 zq2
   subst hnv
   have he:=Sigs.get (HSR.out.mono fun x _ b o hh=>Has.ext hh HC.out.ext) hlt
   have hx2:=ext_alloc wr (.cells d.signals[k].cells.toArray 41)
   have hbx:=Blk.new wr d.signals[k].cells.toArray 41
   obtain ⟨p1,p2,p3⟩:=put_step d v ins k cur rest hlt HVL.out hcl HDR.out (by rw [HR.out];exact hstep)
   rw [HR.out] at p1 p2 p3
   have hsw:sigW d.signals (k:Int)=d.signals[k].w:=by simp [sigW,List.getElem?_eq_getElem hlt]
   have hwk:=HCK.out _ (List.getElem_mem hlt)
   have HSW:=Jh hsw
   have hdk:∀ x,(cur.set k x).drop (k+1)=v.drop (k+1):=fun x=>by
    rw [List.drop_set_of_lt (by omega)]
    have:=congrArg (List.drop 1) HDR.out
    simpa [List.drop_drop] using this
   have hdk0:cur.drop (k+1)=v.drop (k+1):=by
    have:=congrArg (List.drop 1) HDR.out
    simpa [List.drop_drop] using this
   have HDK:=Jh hdk
   have HDK0:=Jh hdk0
   generalize d.signals[k]=x at *
   have HP1:=Jh p1
   have HP2:=Jh p2
   have HP3:=Jh p3
   have HC2:=Jh (HC.out.ext' hx2)
   have HWK:=Jh hwk
   clear p1 p2 p3 hsw hstep hdr hcw hdk hdk0 hwk hin64
   go_upto_region 3 with (first | ((with_reducible show Jl 41);refine Jm 41 (he) agg_Signal rfl ?_) | ((with_reducible show Js 41);refine wpList_store_new rfl 41 _ _ rfl rfl (by first | rfl | simp) rfl agg_Signal (rfl) rfl (rfl) ?_))
   obtain ⟨B,hB⟩:∃ B,wr.heap.size=B:=⟨_,rfl⟩
   have hgw:g<B:=by
    obtain ⟨-,c,hc⟩:=HC.out.row.at (k:=g) rfl
    rw [<-hB]
    exact (Array.getElem?_eq_some_iff.1 hc).1
   rw [hB] at hbx ⊢
   clear hB he
   generalize wr.alloc _=w2 at *
   have HX2:=Jh hx2
   have HB2:=Jh hbx
   have yk:=hbx.has 2 _ rfl
   rw [Nat.zero_add] at yk
   clear hbx hx2
   by_cases hkd:x.kind=1
   case neg =>
    have b1:(x.kind != 1)=true:=by rw [bne_iff_ne];exact hkd
    have HST:=Jh (HP1.out hkd)
    clear hkd hin hqr hqa
    go_wp2_with fail
    go_roundw
    case rel=>exact ⟨k+1,cur,rest,hlt,by go_num,HC2.out,HDK0.out,HIN.out,HIN64.out,HST.out,gbR_trans HGR.out (gbR_ext HX2.out _)⟩
    case measure=>simp [intOf];omega
   rw [hkd] at yk
   cases rest with
   | nil =>
    have HST:=Jh (HP3.out hkd (.inl rfl))
    clear hkd hin hqr hqa
    go_upto_region 4 with fail
    clear yk
    refine Jg w2 fun hH=>?_
    try simp only [J]
    (refine Jt 0 (.slice qa ([]:List Nat).length qc) rfl (yif_load1 rfl fun _ _=>rfl) hH ?_;try simp only [J])
    (refine Jt 1 (.int .i64 0) rfl (yif_load1 rfl (by intro W hW;clear hW;go_simp)) hH ?_;try simp only [J])
    (refine Jt 2 (.bool true) rfl (yif_load1 rfl (by intro W hW;clear hW;go_simp)) hH ?_;try simp only [J])
    (refine Jt 3 (.bool true) rfl (yif_load1 rfl fun _ _=>rfl) hH ?_;try simp only [J])
    (refine Jt 4 (undef) rfl (Or.inr ⟨rfl,rfl⟩) hH ?_;try simp only [J])
    (refine Jt 5 (undef) rfl (Or.inr ⟨rfl,rfl⟩) hH ?_;try simp only [J])
    (refine Jt 6 (undef) rfl (Or.inr ⟨rfl,rfl⟩) hH ?_;try simp only [J])
    (refine Jt 7 (undef) rfl (Or.inr ⟨rfl,rfl⟩) hH ?_;try simp only [J])
    (refine Jt 8 (undef) rfl (Or.inr ⟨rfl,rfl⟩) hH ?_;try simp only [J])
    (refine Jt 9 (undef) rfl (Or.inr ⟨rfl,rfl⟩) hH ?_;try simp only [J])
    (refine Jt 10 (undef) rfl (Or.inr ⟨rfl,rfl⟩) hH ?_;try simp only [J])
    (refine Jt 11 (.bool true) rfl (yif_load1 rfl (by intro W hW;clear hW;go_simp)) hH ?_;try simp only [J])
    refine Jz ?_
    clear hH
    go_wp2_with (go_at_call 73;refine (on_fail 1 (by decide) _).mono ?_;rintro r w4 ⟨rfl,hx4⟩)
    exact ⟨rfl,.inr ⟨HST.out,rfl,(HC2.out.ext.trans (Below.drew (Below.refl _ _))).trans hx4⟩⟩
   | cons y l =>
    obtain rfl:=hqa (by simp)
    obtain ⟨m,hm⟩:∃ m,(y::l).length=m:=⟨_,rfl⟩
    have hm1:(1:Int)<=(m:Int):=by rw [<-hm];simp;omega
    have hmc:(m:Int)<=(qc:Int):=by rw [<-hm];omega
    have hm0:((m:Int)==0)=false:=by rw [beq_eq_false_iff_ne];omega
    rw [hm] at HIN ⊢
    clear hm hq1
    have hy64:y<18446744073709551616:=HIN64.out y (by simp)
    have HY:=Jh (show Has wb qb qo [W64 y] from hqr.1)
    have HL64:=Jh (fun W=>Tryz.bits_Len64 (y:Int) W (by omega) (by omega))
    have hbl:=bitLen_iff y x.w.toNat hy64
    obtain ⟨bl,hble⟩:∃ b,Lib.bitLen y=b:=⟨_,rfl⟩
    rw [Int.toNat_natCast,hble] at HL64
    rw [hble] at hbl
    obtain ⟨cb,hcb⟩:∃ c,decide (x.w<(bl:Int))=c:=⟨_,rfl⟩
    have HCB:=Jh hcb
    have HBL:=Jh hbl
    have HKD:=Jh hkd
    clear hkd hin hqr hqa hble hbl hcb
    go_upto_region 4 with fail
    clear yk
    refine Jg w2 fun hH=>?_
    try simp only [J]
    (refine Jt 0 (.slice (some ⟨qb,qo,none⟩) m qc) rfl (yif_load1 rfl fun _ _=>rfl) hH ?_;try simp only [J])
    (refine Jt 1 (.int .i64 (m:Int)) rfl (yif_load1 rfl (by intro W hW;clear hW;go_simp)) hH ?_;try simp only [J])
    (refine Jt 2 (.bool false) rfl (yif_load1 rfl (by intro W hW;clear hW;go_simp;try omega)) hH ?_;try simp only [J])
    (refine Jt 3 (.bool false) rfl (yif_load1 rfl fun _ _=>rfl) hH ?_;try simp only [J])
    (refine Jt 4 (.slice (some ⟨qb,qo,none⟩) m qc) rfl (yif_load1 rfl fun _ _=>rfl) hH ?_;try simp only [J])
    (refine Jt 5 (.pointer (some ⟨qb,qo,none⟩)) rfl (yif_load1 rfl (by intro W hW;clear hW;go_simp;try (intro h;omega))) hH ?_;try simp only [J])
    (refine Jt 6 (W64 y) rfl (yif_load1 rfl (by intro W hW;have z:=(HY.out.ext (HC2.out.ext.trans hW)) 0 _ rfl;rw [Nat.add_zero] at z;clear hW;go_simp)) hH ?_;try simp only [J])
    (refine Jt 8 (.pointer (some ⟨B,1,none⟩)) rfl (yif_load1 rfl (by intro W hW;clear hW;go_simp)) hH ?_;try simp only [J])
    (refine Jt 9 (.int .i64 x.w) rfl (yif_load1 rfl (by intro W hW;have z:=(HB2.out.ext hW).has 1 _ rfl;clear hW;go_simp)) hH ?_;try simp only [J])
    (refine Jr 7 rfl fun K hK=>?_)
    go_simp
    refine (HL64.out _).mono ?_
    rintro r w3 ⟨rfl,rfl⟩
    refine hK.out _ _ hH (fun hH=>?_)
    clear hK K
    try simp only [J]
    (refine Jt 10 (.bool cb) rfl (yif_load1 rfl (by intro W hW;clear hW;go_simp;exact HCB.out)) hH ?_;try simp only [J])
    (refine Jt 11 (.bool cb) rfl (yif_load1 rfl (by intro W hW;clear hW;go_simp)) hH ?_;try simp only [J])
    refine Jz ?_
    have HXD:=Jh hH
    clear hH
    generalize w2.drew=w3 at *
    cases cb
    case true =>
     have HST:=Jh (HP3.out HKD.out (.inr ⟨y,l,rfl,fun h=>by have h1:=HBL.out.2 h;have h2:=of_decide_eq_true HCB.out;have:=HWK.out;omega⟩))
     go_wp2_with (go_at_call 73;refine (on_fail 1 (by decide) _).mono ?_;rintro r w4 ⟨rfl,hx4⟩)
     exact ⟨rfl,.inr ⟨HST.out,rfl,(HC2.out.ext.trans HXD.out).trans hx4⟩⟩
    case false =>
    have hyw:y<2^x.w.toNat:=HBL.out.1 (by have h2:=of_decide_eq_false HCB.out;have:=HWK.out;omega)
    have HST:=Jh (HP2.out HKD.out y l rfl hyw)
    have HC3:=Jh (HC2.out.ext' (HXD.out.trans (Below.drew (Below.refl _ w3))))
    have HCN:=Jh (HC3.out.set hkv (HC3.out.val.set (k:=k) (x:=y) hlt (by rw [HSW.out];exact hyw)))
    obtain ⟨ad,had⟩:∃ ad,(if qc=1 then some (⟨qb,qo,none⟩:Addr) else (some (⟨qb,qo,none⟩:Addr)).map fun x=>x.add 1)=ad:=⟨_,rfl⟩
    have HIT:=Jh (HIN.out.tail had)
    have HAD:=Jh had
    obtain ⟨yc,yf⟩:=HC3.out.row.cellf hkv
    have HYC:=Jh yc
    have HYF:=Jh yf
    have HNE:=Jh (fun e:P=g=>HC3.out.row.ne HC3.out.blk (by decide) (k:=g) rfl e.symm)
    have HQB:=Jh (show qb<wb.heap.size from World.block_lt_of_cell? _ _ (HY.out 0 _ rfl))
    clear had yc yf hyw HP1 HP2 HP3 hy64
    go_upto_region 6 with fail
    refine wp_region_held_drew (S:=fun W=>Blk W P [.slice (some ⟨sb,so,none⟩) d.signals.length sc,pv,cv,.slice (some ⟨g,0,none⟩) d.signals.length cap,ov].toArray 89/\Has W qb qo [W64 y]) (by kernel_rfl) ⟨HC3.out.blk,HY.out.ext HC3.out.ext⟩ (fun hH=>?_)
    try simp only [J]
    (refine Jt 0 (.pointer (some ⟨P,0,none⟩)) rfl (yif_load1 rfl fun _ _=>rfl) hH ?_;try simp only [J])
    (refine Jt 1 (.pointer (some ⟨P,0,none⟩)) rfl (yif_load1 rfl (by intro W hW;clear hW;go_simp)) hH ?_;try simp only [J])
    (refine Jt 2 (.pointer (some ⟨P,3,none⟩)) rfl (yif_load1 rfl (by intro W hW;clear hW;go_simp)) hH ?_;try simp only [J])
    (refine Jt 3 (.slice (some ⟨g,0,none⟩) d.signals.length cap) rfl (yif_load1 rfl (by intro W hW;have z:=hW.1.has 3 _ rfl;clear hW;go_simp)) hH ?_;try simp only [J])
    (refine Jt 4 (.int .i64 (k:Int)) rfl (yif_load1 rfl fun _ _=>rfl) hH ?_;try simp only [J])
    (refine Jt 5 (.slice (some ⟨qb,qo,none⟩) m qc) rfl (yif_load1 rfl fun _ _=>rfl) hH ?_;try simp only [J])
    (refine Jt 6 (.pointer (some ⟨qb,qo,none⟩)) rfl (yif_load1 rfl (by intro W hW;clear hW;go_simp;try (intro h;omega))) hH ?_;try simp only [J])
    (refine Jt 7 (W64 y) rfl (yif_load1 rfl (by intro W hW;have z:=hW.2 0 _ rfl;rw [Nat.add_zero] at z;clear hW;go_simp)) hH ?_;try simp only [J])
    (refine Jt 8 (.slice (some ⟨qb,qo,none⟩) m qc) rfl (yif_load1 rfl fun _ _=>rfl) hH ?_;try simp only [J])
    (refine Jt 9 (.slice ad (m-1) (qc-1)) rfl (yif_load1 rfl (by intro W hW;clear hW;go_simp;exact HAD.out)) hH ?_;try simp only [J])
    (refine Jt 10 (.pointer (some ⟨g,k,none⟩)) rfl (yif_load1 rfl (by intro W hW;clear hW;go_simp;try (intro h;omega))) hH ?_;try simp only [J])
    have yc:=HYC.out
    have yf:=HYF.out
    have hgd:=gb_set w3.drew g k (W64 y)
    have HGD:=Jh (gbR_trans HGR.out (gbR_trans (gbR_ext (HX2.out.trans (HXD.out.trans (Below.drew (Below.refl _ w3)))) (some g)) hgd))
    (refine Jr 11 rfl fun K hK=>?_)
    go_simp
    refine hK.out _ _ ⟨hH.1.grown hgd HNE.out,hH.2.grown hgd (by have:=HQB.out;have:=(HC3.out.row.at (k:=g) rfl).1;omega)⟩ (fun hH=>?_)
    clear hK K yc yf hgd
    try simp only [J]
    (refine Jt 12 (.slice ad (m-1) (qc-1)) rfl (yif_load1 rfl fun _ _=>rfl) hH ?_;try simp only [J])
    refine Jz ?_
    clear hH
    go_wp2_with fail
    go_roundw
    case rel=>exact ⟨k+1,cur.set k y,l,hlt,by go_num,HCN.out,HDK.out y,HIT.out,fun z hz=>HIN64.out z (by simp [hz]),HST.out,HGD.out⟩
    case measure=>simp [intOf];omega
  ·obtain rfl:k=d.signals.length:=by omega
   have hend:R=if rest=[] then some cur else none:=by
    rw [hstep,List.drop_length,List.drop_eq_nil_of_le (by omega),List.take_of_length_le (by rw [HC.out.val.1];exact Nat.le_refl _),putM]
    split<;>simp
   cases rest with
   | nil =>
    rw [if_pos rfl] at hend
    have HEN:=Jh hend
    clear hstep hcw hdr hin hin64 hqr hqa hend
    go_wp2_with fail
    all_goals go_end0
    exact .inl ⟨cur,HEN.out,rfl,HC.out,HGR.out⟩
   | cons x l =>
    rw [if_neg (by simp)] at hend
    have HEN:=Jh hend
    clear hstep hcw hdr hin hin64 hqr hqa hend
    go_wp2_with (go_at_call 73;refine (on_fail 1 (by decide) _).mono ?_;rintro r w4 ⟨rfl,hx4⟩)
    exact ⟨rfl,.inr ⟨HEN.out,rfl,HC.out.ext.trans hx4⟩⟩
theorem wpList_call_any {P:Program} {ops:Array Oper} {rest:List Oper} {o:Oper} {a:Act} {w:World} {Q:Exit->Act->World->Prop} (hw:Region.wanted o (yielded ops a.tmps)=true)
  (x:Operand) (l:List Operand) (ats:Array TypeId) (ho:o.op=.call { callee:=.value x,args:=l.toArray,argTypes:=ats })
  {g:FuncId} {fi lb:Array Value} (hx:a.eval x=.func (.func g) fi lb) (eg:Leads P g) {args:List Value} (hargs:l.map a.eval=args) {R:Ending->World->Prop}
  (hc:Calls P g (fi++args.toArray++lb) w R) (h1:∀ u w',R (.returned u) w'->wpList P ops Q rest (a.put o.dst u) w') (h2:∀ c w',R (.panicked c) w'->Q (.panic c) a w') (h3:∀ w',¬ R .outgrown w'):wpList P ops Q (o::rest) a w :=
 BigFrame.wpList_want hw fun K hK=>by
  obtain ⟨dst,op,ty,pos,after,guard⟩:=o
  simp only at ho
  subst ho
  subst hargs
  rw [<-List.map_toArray] at hc
  generalize l.toArray=xs at *
  have hrun:(execOp a.eval { dst,op:=.call { callee:=.value x,args:=xs,argTypes:=ats },type:=ty,pos,after,guard }).run P w=.ok (.enter g (fi++xs.map a.eval++lb)) w:=by
   have h1:execOp a.eval { dst,op:=.call { callee:=.value x,args:=xs,argTypes:=ats },type:=ty,pos,after,guard } = (Deferred.ofValue (a.eval x) (xs.map a.eval) >>= fun d=>invoke d.target d.args):=rfl
   have h2:(Deferred.ofValue (.func (.func g) fi lb) (xs.map a.eval) >>= fun d=>invoke d.target d.args)=callFunc g (fi++xs.map a.eval++lb):=rfl
   rw [h1,hx,h2,eg]
  unfold Oper.wp
  rw [hrun]
  exact hc.mono fun r w' hR=>by
   cases r with
   | returned u=>exact hK _ _ (h1 u w' hR)
   | panicked c=>exact h2 c w' hR
   | outgrown=>exact absurd hR (h3 w')
abbrev noPlayer:Array Value:=#[.slice none 0 0,.slice none 0 0,.slice none 0 0,.slice none 0 0,.slice none 0 0]
abbrev catchAt (Bp Be:Nat):Deferred:={ target:=.fn (.func 72) #[.pointer (some ⟨Bp,0,none⟩),.pointer (some ⟨Be,0,none⟩)],args:=#[] }
theorem leads_catch:Leads Tryz.prog 72:=leads_of Tryz.func72 (by kernel_rfl) rfl
theorem played_res {tmps:Array Value} {Bp Be:Nat} {v1 v2:Value} {w:World} (h6:tmps[6]?.getD undef=.pointer (some ⟨Bp,0,none⟩)) (h7:tmps[7]?.getD undef=.pointer (some ⟨Be,0,none⟩)) (hp:w.cell? ⟨Bp,0,none⟩=some v1) (he:w.cell? ⟨Be,0,none⟩=some v2) :
  (results Tryz.f46 tmps).run Tryz.prog w=.ok (.tuple #[v1,v2]) w:=by
 simp [results,Tryz.results46,go_sem,h6,h7,hp,he]
theorem door_idle {tmps:Array Value} {R:Ending->World->Prop} {Bp Be:Nat} {v1 v2:Value} {w:World} (h6:tmps[6]?.getD undef=.pointer (some ⟨Bp,0,none⟩)) (h7:tmps[7]?.getD undef=.pointer (some ⟨Be,0,none⟩)) (hp:w.cell? ⟨Bp,0,none⟩=some v1) (he:w.cell? ⟨Be,0,none⟩=some v2)
  (hR:R (.returned (.tuple #[v1,v2])) w):Leaves Tryz.prog Tryz.f46 tmps R [catchAt Bp Be] .returning w:=by
 refine leaves_cons (by simp) (leads_catch _ w) ?_
 refine (catch_idle _ _ w).mono ?_
 rintro r u' w' ⟨rfl,rfl,rfl⟩
 exact ⟨_,played_res h6 h7 hp he,hR⟩
theorem door_panic {tmps:Array Value} {R:Ending->World->Prop} {Bp Be:Nat} {v0:Value} {x e0:Int} {w:World} (h6:tmps[6]?.getD undef=.pointer (some ⟨Bp,0,none⟩)) (h7:tmps[7]?.getD undef=.pointer (some ⟨Be,0,none⟩)) (hp:Blk w Bp #[v0] 84) (he:Blk w Be #[.int .i64 e0] 31) (hne:Bp≠Be)
  (hR:∀ w1 w',Blk w' w.heap.size noPlayer 89->w.grownBy w1 (some Bp)->w1.grownBy w' (some Be)->R (.returned (.tuple #[.pointer (some ⟨w.heap.size,0,none⟩),.int .i64 x])) w') :
  Leaves Tryz.prog Tryz.f46 tmps R [catchAt Bp Be] (.panicking [panicE x]) w:=by
 refine leaves_cons (by simp) (leads_catch _ w) ?_
 refine (catch_panic x e0 Bp Be v0 w hp he hne []).mono ?_
 rintro r u' w' ⟨rfl,rfl,rfl⟩
 have ha:=ext_alloc w (.cells noPlayer 89)
 have hZ:=Blk.new w noPlayer 89
 have hp1:=(hp.ext ha).set 0 (.pointer (some ⟨w.heap.size,0,none⟩))
 have g1:=gb_set (w.alloc (.cells noPlayer 89)) Bp 0 (.pointer (some ⟨w.heap.size,0,none⟩))
 have he1:=((he.ext ha).grown g1 hne.symm).set 0 (.int .i64 x)
 have g2:=gb_set ((w.alloc (.cells noPlayer 89)).setCell ⟨Bp,0,none⟩ (.pointer (some ⟨w.heap.size,0,none⟩))) Be 0 (.int .i64 x)
 have hp2:=hp1.grown g2 hne
 have hpl:=hp.lt
 have hel:=he.lt
 have hZ2:=(hZ.grown g1 (by omega)).grown g2 (by omega)
 refine ⟨_,played_res h6 h7 (v1:=.pointer (some ⟨w.heap.size,0,none⟩)) (v2:=.int .i64 x) (by rw [hp2.cell];rfl) (by rw [he1.cell];rfl),hR _ _ hZ2 ?_ g2⟩
 exact gb_trans (gb_ext ha Bp) g1
def Does1 (d:Flat) (sv pv cv:Value) (v:List Nat) (w:World) (g:FuncId) (fi lb:Array Value) (Good:World->Nat->World->Prop) (Bad:Int->World->World->Prop):Prop :=
 ∀ (wb:World) (P:Nat) (nv:Value) (W:World),Ext w wb->CyW d sv pv cv nv (.slice none 0 0) P wb v W ->
  Calls Tryz.prog g (fi++#[.pointer (some ⟨P,0,none⟩)]++lb) W fun r W'=>(∀ b,w.heap.size<=b->b<wb.heap.size->W'.heap[b]? = wb.heap[b]?)/\wb.heap.size<=W'.heap.size /\
   ((r=.returned (.tuple #[])/\Good wb P W')\/∃ e,e≠0/\r=panicOf e/\Bad e wb W')
theorem info_u64:(Tryz.prog.info? 39).map (fun i=>(i.zero,i.size,i.bytes))=some (some (W64 0),1,8):=by kernel_rfl
theorem leaves_same {P:Program} {fn:Func} {t t':Array Value} {R:Ending->World->Prop} (h:results fn t=results fn t'):∀ (ds:List Deferred) (u:FrameMode) (w:World),Leaves P fn t R ds u w->Leaves P fn t' R ds u w:=by
 intro ds
 induction ds with
 | nil =>
  intro u w hL
  cases u with
  | run=>exact hL
  | returning=>obtain ⟨v,h1,h2⟩:=hL;exact ⟨v,h ▸ h1,h2⟩
  | panicking c=>exact hL
 | cons d ds ih =>
  intro u w hL
  obtain ⟨h1,fv,cap,f,args,h2,h3,h4⟩:=hL
  refine ⟨h1,fv,cap,f,args,h2,h3,h4.mono fun e u' w' he=>?_⟩
  cases e with
  | returned v=>exact ih _ _ he
  | panicked c=>exact ih _ _ he
  | outgrown=>exact he
theorem hq_put {k:Nat} {v:Value} {R:Ending->World->Prop} {K:Act->World->Prop} (h6:k≠6) (h7:k≠7):∀ c a w,Exit.then K (bodyPostD Tryz.prog Tryz.f46 R) (.panic c) (a.put (some k) v) w->Exit.then K (bodyPostD Tryz.prog Tryz.f46 R) (.panic c) a w:=fun c a w h=>by
 have e:results Tryz.f46 (a.put (some k) v).tmps=results Tryz.f46 a.tmps:=by
  have e6:(a.tmps.setIfInBounds k v)[6]? = a.tmps[6]?:=by rw [Array.getElem?_setIfInBounds];simp [h6]
  have e7:(a.tmps.setIfInBounds k v)[7]? = a.tmps[7]?:=by rw [Array.getElem?_setIfInBounds];simp [h7]
  simp [results,Tryz.results46,Act.put,e6,e7]
 exact leaves_same e _ _ _ h
theorem ext_set {w w':World} (h:Ext w w') (B:Nat) (v:Value):Ext (w.setCell ⟨B,0,none⟩ v) (w'.setCell ⟨B,0,none⟩ v) where
 os:=h.os
 tape:=h.tape
 output:=h.output
 size:=by simpa [World.setCell] using h.size
 block:=fun k hk=>by
  have hk':k<w.heap.size:=by simpa [World.setCell] using hk
  simp only [World.setCell,Array.getElem?_modify]
  rw [h.block k hk']
theorem played_calls {d:Flat} {sv pv cv s:Value} {v:List Nat} {w:World} (hF:FlatV w (.agg #[sv,pv,cv]) d) (hok:d.ok) (hs:(∃ ad n c,s=.slice (some ad) n c/\Us w s v)\/(s=.slice none 0 0/\v=List.replicate d.signals.length 0)) (h64:us64 v) (hln:v.length<=1048576)
  {g:FuncId} {fi lb:Array Value} (eg:Leads Tryz.prog g) {Good:World->Nat->World->Prop} {Bad:Int->World->World->Prop} (hdo:playE d v=0->Does1 d sv pv cv v w g fi lb Good Bad) :
  Calls Tryz.prog 46 #[.agg #[sv,pv,cv],s,.func (.func g) fi lb] w fun r w' =>
   (playE d v≠0/\∃ Z,r=.returned (.tuple #[.pointer (some ⟨Z,0,none⟩),.int .i64 (playE d v)])/\Blk w' Z noPlayer 89/\Ext w w') \/
   (playE d v=0/\∃ wb P W' w1 Bp Be,Ext w wb/\w.heap.size<=Bp/\Bp<wb.heap.size/\w.heap.size<=Be/\Be<wb.heap.size/\W'.grownBy w1 (some Bp)/\w1.grownBy w' (some Be) /\
    ((r=.returned (.tuple #[.pointer (some ⟨P,0,none⟩),.int .i64 0])/\Good wb P W')\/∃ e Z,e≠0/\r=.returned (.tuple #[.pointer (some ⟨Z,0,none⟩),.int .i64 e])/\Blk w' Z noPlayer 89/\wb.heap.size<=Z/\Bad e wb W')):=by
 have HF:=Jh (fun W (h:Ext w W)=>hF.ext h)
 have HLC:=Jh (fun W (h:Ext w W)=>LCheck_calls d _ W (hF.ext h) hok)
 have HVA:=Jh (fun W s (h:Ext w W) (hs:Us W s v)=>Values_calls d _ v s W (hF.ext h) hok hs h64)
 have HUS:=Jh hs
 have hsl:=hok.signals
 have HDO:=Jh hdo
 have hmf:∀ (fn:Fn) (first cap:Array Value) (w:World),(Instr.makeFunc fn first cap).run Tryz.prog w=.ok (.func fn first cap) w:=fun _ _ _ _=>rfl
 obtain ⟨sa,sn,sc,rfl⟩:∃ a n c,s=.slice a n c:=by
  rcases hs with ⟨ad,n,c,rfl,-⟩ | ⟨rfl,-⟩
  ·exact ⟨_,_,_,rfl⟩
  ·exact ⟨_,_,_,rfl⟩
 have hnil:=fun W=>Lib.run_eql_slice_nil (P:=Tryz.prog) W 27 39 sa sn sc 0 0 Tryz.underlying27
 obtain ⟨sv',pv',cv',e,hS,hP,hC⟩:=hF
 injection e with e
 simp only [Array.mk.injEq,List.cons.injEq,and_true] at e
 obtain ⟨rfl,rfl,rfl⟩:=e
 obtain ⟨a0,b0,o0,c0,rfl,-,-,-,-⟩:=hS.open
 obtain ⟨ap,bp,op,cp,rfl,-,-,-,-⟩:=hP.open
 obtain ⟨ac,bc,oc,cc,rfl,-,-,-,-⟩:=hC.open
 have HX3:=Jh (show Ext w (((w.alloc (.cells [Value.slice a0 d.signals.length c0,.slice ap d.procs.length cp,.slice ac d.checks.length cc].toArray 26)).alloc (.cells #[.pointer none] 84)).alloc (.cells #[.int .i64 0] 31)) from ((ext_alloc _ _).trans (ext_alloc _ _)).trans (ext_alloc _ _))
 have HD3:=Jh (show Blk (((w.alloc (.cells [Value.slice a0 d.signals.length c0,.slice ap d.procs.length cp,.slice ac d.checks.length cc].toArray 26)).alloc (.cells #[.pointer none] 84)).alloc (.cells #[.int .i64 0] 31)) w.heap.size [Value.slice a0 d.signals.length c0,.slice ap d.procs.length cp,.slice ac d.checks.length cc].toArray 26 from ((Blk.new _ _ _).alloc _).alloc _)
 have HP3:=Jh (show Blk (((w.alloc (.cells [Value.slice a0 d.signals.length c0,.slice ap d.procs.length cp,.slice ac d.checks.length cc].toArray 26)).alloc (.cells #[.pointer none] 84)).alloc (.cells #[.int .i64 0] 31)) (w.heap.size+1) #[.pointer none] 84 from by
  have:=(Blk.new (w.alloc (.cells [Value.slice a0 d.signals.length c0,.slice ap d.procs.length cp,.slice ac d.checks.length cc].toArray 26)) #[.pointer none] 84).alloc (.cells #[.int .i64 0] 31)
  rwa [World.size_alloc] at this)
 have HE3:=Jh (show Blk (((w.alloc (.cells [Value.slice a0 d.signals.length c0,.slice ap d.procs.length cp,.slice ac d.checks.length cc].toArray 26)).alloc (.cells #[.pointer none] 84)).alloc (.cells #[.int .i64 0] 31)) (w.heap.size+1+1) #[.int .i64 0] 31 from by
  have:=Blk.new ((w.alloc (.cells [Value.slice a0 d.signals.length c0,.slice ap d.procs.length cp,.slice ac d.checks.length cc].toArray 26)).alloc (.cells #[.pointer none] 84)) #[.int .i64 0] 31
  rwa [World.size_alloc,World.size_alloc] at this)
 clear hS hP hC hs h64 hdo
 go_enter_defers Tryz.func46,Tryz.ntmps46
 go_upto_region 2 with fail
 generalize ((w.alloc _).alloc _).alloc _=w3 at *
 obtain ⟨Bf,hBf⟩:∃ B,w.heap.size=B:=⟨_,rfl⟩
 have HBF:=Jh hBf
 rw [hBf] at HD3 HP3 HE3 ⊢
 clear hBf
 have d3:=HD3.out.has
 by_cases hl:(lookM d).1=0
 case neg =>
  have hpl:playE d v=(lookM d).1:=by unfold playE;rw [if_neg hl]
  have HPL:=Jh hpl
  have HL:=Jh hl
  have HON:=Jh (fun W=>on_fail (lookM d).1 hl W)
  clear hl hpl
  go_wp2_with (first | ((with_reducible show Jl 26);refine Jm 26 (d3) agg_Flat rfl ?_) | (go_at_call 20;refine (HLC.out w3 HX3.out).mono ?_;rintro r w4 ⟨rfl,hx4⟩) | (go_at_call 73;refine (HON.out w4).mono ?_;rintro r w5 ⟨rfl,hx5⟩))
  have hx35:=hx4.trans hx5
  refine door_panic rfl rfl (HP3.out.ext hx35) (HE3.out.ext hx35) (by omega) fun w1 w' hZ g1 g2=>?_
  refine .inl ⟨by rw [HPL.out];exact HL.out,_,by rw [HPL.out],hZ,?_⟩
  exact ((HX3.out.trans hx35).grown g1 (by rw [HBF.out];omega)).grown g2 (by rw [HBF.out];omega)
 have HL:=Jh hl
 rw [hl] at HLC
 clear hl
 go_upto_region 3 with (first | ((with_reducible show Jl 26);refine Jm 26 (d3) agg_Flat rfl ?_) | (go_at_call 20;refine (HLC.out w3 HX3.out).mono ?_;rintro r w4 ⟨rfl,hx4⟩) | (go_at_call 73;refine (on_ok w4).mono ?_;rintro r w5 ⟨rfl,hx5⟩))
 have HX5:=Jh (HX3.out.trans (hx4.trans hx5))
 have HD5:=Jh (HD3.out.ext (hx4.trans hx5))
 have HP5:=Jh (HP3.out.ext (hx4.trans hx5))
 have HE5:=Jh (HE3.out.ext (hx4.trans hx5))
 clear hx4 hx5 d3 HX3 HD3 HP3 HE3 HLC
 go_upto_if 13 with fail
 let hfn:=bodyPostD Tryz.prog Tryz.f46
 go_cut [1] from 13 to 17 (fun u wx=>∃ ad n c,u=.slice (some ad) n c/\Us wx u v/\Ext w5 wx)
 case first =>
  rcases HUS.out with ⟨ad,n,c,e,hu⟩ | ⟨e,ev⟩
  ·obtain rfl:sa=some ad:=by injection e
   have HU:=Jh (hu.ext HX5.out)
   clear hu e
   go_wp2_with fail
   go_meet
   exact ⟨ad,sn,sc,rfl,HU.out,Below.refl _ _⟩
  ·obtain rfl:sa=none:=by injection e
   have HEV:=Jh ev
   have d5:=HD5.out.has 0 _ rfl
   rw [Nat.zero_add] at d5
   clear e ev
   go_wp2_with ((with_reducible show Jw (Op.makeSlice _ _ _));refine Hid.out ?_)
   refine Jh ?_
   have hx:=ext_alloc w5 (.cells (madeCells (W64 0).cells (d.signals.length*1)) 39)
   have hm:=WordRow.made (w:=w5) (N:=w5.heap.size) (n:=d.signals.length) (x:=0) (Nat.le_refl _) (by omega)
   have em:madeCells (W64 0).cells (d.signals.length*1)=(List.replicate d.signals.length (W64 0)).toArray:=by rw [Nat.mul_one];exact madeCells_one _ _
   refine wpList_mk rfl _ _ _ rfl (n:=d.signals.length) rfl rfl Tryz.underlying27 info_u64 (by omega) (by omega) ?_
   rw [em] at hx ⊢
   have HX:=Jh hx
   have HM:=Jh hm
   clear hx hm em
   generalize w5.alloc _=w6 at *
   go_wp2_with fail
   go_meet
   exact ⟨_,_,_,rfl,by rw [HEV.out];exact HM.out.cells,HX.out⟩
 case rest =>
 obtain ⟨ad,n,c,rfl,hu6,hx6⟩:=hcut
 have HU6:=Jh hu6
 have HX6:=Jh (HX5.out.trans hx6)
 have HD6:=Jh (HD5.out.ext hx6)
 have HP6:=Jh (HP5.out.ext hx6)
 have HE6:=Jh (HE5.out.ext hx6)
 have HVB:=Jh (HVA.out wc _ HX6.out hu6)
 have d6:=HD6.out.has
 clear hu6 hx6 HX5 HD5 HP5 HE5 HVA HUS
 by_cases hv:valsOk d v=true
 case neg =>
  have hpl:playE d v=1:=by unfold playE;rw [if_pos HL.out,if_neg hv]
  have HPL:=Jh hpl
  rw [if_neg hv] at HVB
  clear hv hpl
  go_wp2_with (first | ((with_reducible show Jl 26);refine Jm 26 (d6) agg_Flat rfl ?_) | (go_at_call 21;refine HVB.out.mono ?_;rintro r w7 ⟨rfl,hx7⟩) | (go_at_call 73;refine (on_fail 1 (by decide) w7).mono ?_;rintro r w8 ⟨rfl,hx8⟩))
  have hx68:=hx7.trans hx8
  refine door_panic rfl rfl (HP6.out.ext hx68) (HE6.out.ext hx68) (by omega) fun w1 w' hZ g1 g2=>?_
  refine .inl ⟨by rw [HPL.out];decide,_,by rw [HPL.out],hZ,?_⟩
  exact ((HX6.out.trans hx68).grown g1 (by rw [HBF.out];omega)).grown g2 (by rw [HBF.out];omega)
 have hpl:playE d v=0:=playE_zero.2 ⟨HL.out,hv⟩
 have HPL:=Jh hpl
 have HV2:=Jh (valsOk_val2 hv)
 rw [if_pos hv] at HVB
 have HDD:=Jh (HDO.out hpl)
 clear hv hpl
 go_upto_region 6 with (first | ((with_reducible show Jl 26);refine Jm 26 (d6) agg_Flat rfl ?_) | (go_at_call 21;refine HVB.out.mono ?_;rintro r w7' ⟨rfl,hx7⟩) | (go_at_call 73;refine (on_ok w7').mono ?_;rintro r w7 ⟨rfl,hx8⟩))
 have hx68:=hx7.trans hx8
 have HX7:=Jh (HX6.out.trans hx68)
 have HD7:=Jh (HD6.out.ext hx68)
 have HP7:=Jh (HP6.out.ext hx68)
 have HE7:=Jh (HE6.out.ext hx68)
 have HU7:=Jh (HU6.out.ext hx68)
 clear hx7 hx8 hx68 d6 HX6 HD6 HP6 HE6 HVB HU6
 refine wp_region_held_drew (S:=fun W=>Blk W Bf [Value.slice a0 d.signals.length c0,.slice ap d.procs.length cp,.slice ac d.checks.length cc].toArray 26) (by kernel_rfl) (HD7.out.drew) (fun hH=>?_)
 try simp only [J]
 refine wpAnyH_take (i:=0) (v:=.agg [Value.slice a0 d.signals.length c0,.slice ap d.procs.length cp,.slice ac d.checks.length cc].toArray) rfl (by kernel_rfl) (by kernel_rfl) (by kernel_rfl) (hq_put (by decide) (by decide)) (yif_load rfl 26 _ rfl rfl (fun W hW=>hW.has) agg_Flat rfl) hH ?_
 try simp only [J]
 refine wpAnyH_take (i:=1) (v:=.slice (some ad) n c) rfl (by kernel_rfl) (by kernel_rfl) (by kernel_rfl) (hq_put (by decide) (by decide)) (yif_load1 rfl fun _ _=>rfl) hH ?_
 try simp only [J]
 have HD8:=Jh (show Ext w7 w7.drew from Below.drew (Below.refl _ w7))
 have HX8:=Jh (HX7.out.trans HD8.out)
 have HP8:=Jh HP7.out.drew
 have HE8:=Jh HE7.out.drew
 generalize w7.drew=w8 at *
 (refine Jr 2 rfl fun K hK=>?_)
 go_simp
 refine (CloneW_calls v _ _ (HU7.out.ext HD8.out) hln).mono ?_
 rintro r w9 ⟨u,rfl,hr9,hx9⟩
 refine hK.out _ _ (hH.ext hx9) (fun hH=>?_)
 clear hK K
 obtain ⟨au,cu,rfl,-⟩:=hr9.open
 try simp only [J]
 refine wpAnyH_take (i:=3) (v:=.agg [Value.slice a0 d.signals.length c0,.slice ap d.procs.length cp,.slice ac d.checks.length cc,.slice au v.length cu,.slice none 0 0].toArray) rfl (by kernel_rfl) (by kernel_rfl) (by kernel_rfl) (hq_put (by decide) (by decide)) (yif_load1 rfl (by intro W hW;clear hW;go_simp)) hH ?_
 try simp only [J]
 (refine Jr 4 rfl fun K hK=>?_)
 go_simp
 have x10:=ext_alloc w9 (.cells [Value.slice a0 d.signals.length c0,.slice ap d.procs.length cp,.slice ac d.checks.length cc,.slice au v.length cu,.slice none 0 0].toArray 89)
 have hb10:=Blk.new w9 [Value.slice a0 d.signals.length c0,.slice ap d.procs.length cp,.slice ac d.checks.length cc,.slice au v.length cu,.slice none 0 0].toArray 89
 refine hK.out _ _ (hH.ext x10) (fun hH=>?_)
 clear hK K
 try simp only [J]
 obtain ⟨P,hP⟩:∃ P,w9.heap.size=P:=⟨_,rfl⟩
 rw [hP] at hb10 ⊢
 have hP8:w8.heap.size<=P:=by rw [<-hP];exact hx9.size
 have HX10:=Jh (hx9.trans x10)
 have HR10:=Jh (hr9.ext x10)
 have HB10:=Jh hb10
 have HP8':=Jh hP8
 clear hP x10 hx9 hr9 hb10 hP8
 generalize w9.alloc _=w10 at *
 have hp10:=HP8.out.ext HX10.out
 have yp:=hp10.cell 0
 simp only [List.getElem?_toArray,List.getElem?_cons_zero] at yp
 have yf:=hp10.frozen 0
 clear hp10
 have hdd:=hH.grown (gb_set w10 (Bf+1) 0 (.pointer (some ⟨P,0,none⟩))) (by omega)
 (refine Jr 5 rfl fun K hK=>?_)
 go_simp
 refine hK.out _ _ hdd (fun hH=>?_)
 clear hK K yp yf hdd
 refine Jz ?_
 clear hH
 have hbl:=HP8.out.lt
 have hel:=HE8.out.lt
 have hwb:Ext w (w8.setCell ⟨Bf+1,0,none⟩ (.pointer (some ⟨P,0,none⟩))):=HX8.out.grown (gb_set _ _ _ _) (by rw [HBF.out];omega)
 have hsz:(w8.setCell ⟨Bf+1,0,none⟩ (.pointer (some ⟨P,0,none⟩))).heap.size=w8.heap.size:=by simp [World.setCell]
 have hg10:=gb_set w10 (Bf+1) 0 (.pointer (some ⟨P,0,none⟩))
 have hcw:CyW d (.slice a0 d.signals.length c0) (.slice ap d.procs.length cp) (.slice ac d.checks.length cc) (.slice au v.length cu) (.slice none 0 0) P (w8.setCell ⟨Bf+1,0,none⟩ (.pointer (some ⟨P,0,none⟩))) v (w10.setCell ⟨Bf+1,0,none⟩ (.pointer (some ⟨P,0,none⟩))) :=
  ⟨ext_set HX10.out _ _,by rw [hsz];exact HP8'.out,HV2.out,by rw [hsz];exact HR10.out.grown hg10 (fun j hj e=>by have:=(HR10.out.at hj).1;injection e with e;omega),HB10.out.grown hg10 (by have:=HP8'.out;omega),.inl rfl⟩
 have hbp:Blk (w8.setCell ⟨Bf+1,0,none⟩ (.pointer (some ⟨P,0,none⟩))) (Bf+1) #[.pointer (some ⟨P,0,none⟩)] 84:=by simpa using HP8.out.set 0 (.pointer (some ⟨P,0,none⟩))
 have hbe:Blk (w8.setCell ⟨Bf+1,0,none⟩ (.pointer (some ⟨P,0,none⟩))) (Bf+1+1) #[.int .i64 0] 31:=HE8.out.grown (gb_set _ _ _ _) (by omega)
 have HWB:=Jh hwb
 have HCW:=Jh hcw
 have HBP:=Jh hbp
 have HBE:=Jh hbe
 have yp:=(hbp.ext hcw.ext).cell 0
 simp only [List.getElem?_toArray,List.getElem?_cons_zero] at yp
 clear hbl hel hwb hsz hg10 hcw hbp hbe HX10 HR10 HB10 HP8' HX8 HP8 HE8
 generalize w8.setCell _ _=wb at *
 generalize w10.setCell _ _=W at *
 have hdo:=HDD.out wb P _ W HWB.out HCW.out
 go_wp2_with ((with_reducible show Jw (Op.call { callee:=.value (.tmp _),args:=_,argTypes:=_ }));refine Hid.out ?_)
 refine Jh ?_
 clear yp
 refine wpList_call_any rfl _ [_] _ rfl rfl eg rfl hdo ?_ ?_ ?_
 ·rintro u W2 ⟨hk1,hk2,h⟩
  rcases h with ⟨hr,hg⟩ | ⟨e,-,hr,-⟩
  ·injection hr with hr
   subst hr
   have hp2:Blk W2 (Bf+1) #[.pointer (some ⟨P,0,none⟩)] 84:=(hk1 _ (by rw [HBF.out];omega) HBP.out.lt).trans HBP.out
   have he2:Blk W2 (Bf+1+1) #[.int .i64 0] 31:=(hk1 _ (by rw [HBF.out];omega) HBE.out.lt).trans HBE.out
   have g1:=gb_set W2 (Bf+1) 0 (.pointer (some ⟨P,0,none⟩))
   have he3:=he2.grown g1 (by omega)
   have hp3:=hp2.set 0 (.pointer (some ⟨P,0,none⟩))
   have g2:=gb_set (W2.setCell ⟨Bf+1,0,none⟩ (.pointer (some ⟨P,0,none⟩))) (Bf+1+1) 0 (.int .i64 0)
   have he4:=he3.set 0 (.int .i64 0)
   have hp4:=hp3.grown g2 (by omega)
   have yp:=hp2.cell 0
   have fp:=hp2.frozen 0
   have yq:=he3.cell 0
   have fq:=he3.frozen 0
   simp only [List.getElem?_toArray,List.getElem?_cons_zero] at yp yq
   have Y1:=Jh (show _=some (Value.pointer (some ⟨P,0,none⟩)) from by have:=hp4.cell 0;simpa using this)
   have Y2:=Jh (show _=some (Value.int .i64 0) from by have:=he4.cell 0;simpa using this)
   have G1:=Jh g1
   have G2:=Jh g2
   have HG:=Jh hg
   clear hp2 he2 he3 hp3 he4 hp4 g1 g2 hg hk1 hdo
   go_wp2_with fail
   refine door_idle rfl rfl Y1.out Y2.out ?_
   exact .inr ⟨HPL.out,wb,P,W2,_,Bf+1,Bf+1+1,HWB.out,by rw [HBF.out];omega,HBP.out.lt,by rw [HBF.out];omega,HBE.out.lt,G1.out,G2.out,.inl ⟨rfl,HG.out⟩⟩
  ·cases hr
 ·rintro ch W2 ⟨hk1,hk2,h⟩
  rcases h with ⟨hr,-⟩ | ⟨e,he,hr,hb⟩
  ·cases hr
  ·injection hr with hr
   subst hr
   have hp2:Blk W2 (Bf+1) #[.pointer (some ⟨P,0,none⟩)] 84:=(hk1 _ (by rw [HBF.out];omega) HBP.out.lt).trans HBP.out
   have he2:Blk W2 (Bf+1+1) #[.int .i64 0] 31:=(hk1 _ (by rw [HBF.out];omega) HBE.out.lt).trans HBE.out
   refine door_panic rfl rfl hp2 he2 (by omega) fun w1 w' hZ g1 g2=>?_
   exact .inr ⟨HPL.out,wb,P,W2,w1,Bf+1,Bf+1+1,HWB.out,by rw [HBF.out];omega,HBP.out.lt,by rw [HBF.out];omega,HBE.out.lt,g1,g2,.inr ⟨e,_,he,rfl,hZ,hk2,hb⟩⟩
 ·rintro W2 ⟨-,-,h⟩
  rcases h with ⟨h,-⟩ | ⟨e,-,h,-⟩<;>cases h
end Go.Proofs.YtoaamjgfhppppaaGreat
