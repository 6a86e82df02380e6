/- Laws and walks that a claim of this seat leans on: Play3, Play4, Clone, Run. -/
import Derived.Test.YtpngepnfinbaoaaGreatC21
import Derived.Test.YtpngepnfinbaoaaGreatC00
set_option maxRecDepth 100000
set_option maxHeartbeats 8000000
set_option linter.all false
namespace Go.Proofs.YtpngepnfinbaoaaGreat
open Go.RowKit
theorem plOne_set {d:Flat} {sv pv cv wasv nv:Value} {was:List Nat} {ck:Bool} {P:Nat} {wb:World} (H:Pl d sv pv cv wasv was wb) {t:T} (hr:RunOk d.signals ck t) (ho:t.op=1):PlSaid d sv pv cv wasv nv was ck P wb t:=by
 intro v cs w hW hV
 have hls:∀ x∈d.signals,x.w<=64:=fun x hx=>(checkM_w H.hc x hx).2
 obtain ⟨h1,h2,-⟩:=(RunOk_iff _ _ t).1 hr
 obtain ⟨hsl,x,hx,hxw⟩:slice d.signals t.sig t.hi t.lo=true/\∃ x,t.e=[x]/\x.w=t.hi-t.lo+1:=by
  rcases h2 with ⟨-,a,-,b,-⟩ | ⟨o,-⟩ | ⟨o,-⟩ | o | o
  ·exact ⟨a,b⟩
  all_goals omega
 obtain ⟨q1,q2,q3,q4,q5,-⟩:=slice_le d.signals hls hsl
 have q6:=sigW_le d.signals hls t.sig
 have hx1:=h1 x (by simp [hx])
 have hev:=ev_lt (vs:=if ck then was else v) hls x hx1.1 hx1.2.1
 have hone:oneM ck was t v=setV v t.sig t.hi t.lo (evM (if ck then was else v) x):=by rw [oneM_1 ck was v ho,hx];rfl
 rw [hxw] at hev
 obtain ⟨sg,hsg⟩:=Int.eq_ofNat_of_zero_le q1
 obtain ⟨lo,hlo⟩:=Int.eq_ofNat_of_zero_le q3
 obtain ⟨hi,hhi⟩:=Int.eq_ofNat_of_zero_le (Int.le_trans q3 q4)
 have hvl:=hW.val.1
 have hsv:sg<v.length:=by omega
 obtain ⟨g,cap,hnv,hN,hcl⟩:=hW.row.open1 (by omega)
 have hv64:=val2_us64 hls hW.val _ (List.getElem_mem hsv)
 have hc1:=hcl sg _ (List.getElem?_eq_getElem hsv)
 have hf1:w.frozen? ⟨g,sg,none⟩=false:=by
  have h:=hW.row
  rw [hnv] at h
  obtain ⟨-,cur,hcur⟩:=h.at rfl
  exact Blk.frozen (cs:=cur) (T:=28) hcur sg
 have hrow:=hW.row
 rw [hnv] at hrow
 have hrow':=hrow.set sg hsv (setBits v[sg] hi lo (evM (if ck then was else v) x))
 have hset:setV v t.sig t.hi t.lo (evM (if ck then was else v) x)=v.set sg (setBits v[sg] hi lo (evM (if ck then was else v) x)):=by
  unfold setV
  rw [hsg,hlo,hhi,Int.toNat_natCast,Int.toNat_natCast,Int.toNat_natCast,List.getD_eq_getElem?_getD,List.getElem?_eq_getElem hsv,Option.getD_some]
 rw [hlo,hhi,show ((hi:Int)-lo+1).toNat=hi+1-lo by omega] at hev
 have hlh:lo<=hi:=by omega
 have h64:hi<64:=by omega
 obtain ⟨-,cur,hcur⟩:=hW.row.at (k:=g) (by rw [hnv];rfl)
 have hgw:g<w.heap.size:=(Array.getElem?_eq_some_iff.1 hcur).1
 have hPg:P≠g:=fun e=>hW.row.ne hW.blk (by decide) (k:=g) (by rw [hnv];rfl) e.symm
 obtain ⟨se,sl,rfl,he,-⟩:=hV
 obtain ⟨ae,be,oe,ce,rfl,hce1,hce2,hae,her⟩:=he.open
 rw [hx] at hce1 hae her
 obtain rfl:=hae (by simp)
 obtain ⟨sx,hxh,hxs⟩:=Es.get her (k:=0) (by simp)
 have hxh:Has wb be oe (x.cells sx):=by simpa using hxh
 have hxs:Es wb sx x.l:=by simpa using hxs
 have htc:t.cells (.slice (some ⟨be,oe,none⟩) t.e.length ce) sl=[.int .i64 1,.int .i64 (sg:Int),.int .i64 (hi:Int),.int .i64 (lo:Int),.slice (some ⟨be,oe,none⟩) 1 ce,sl]:=by
  unfold T.cells;rw [ho,hsg,hhi,hlo,hx];rfl
 rw [htc,hone,hset]
 have x0:=ext_alloc w (.cells [.int .i64 1,.int .i64 (sg:Int),.int .i64 (hi:Int),.int .i64 (lo:Int),.slice (some ⟨be,oe,none⟩) 1 ce,sl].toArray 39)
 have hT:=Blk.new w [.int .i64 1,.int .i64 (sg:Int),.int .i64 (hi:Int),.int .i64 (lo:Int),.slice (some ⟨be,oe,none⟩) 1 ce,sl].toArray 39
 have HVAL:=Jh (fun W (h:Ext w W)=>plVal H (hW.ext' h) x _ ⟨sx,rfl,hxs.ext (hW.ext.trans h)⟩ hx1)
 have HXH:=Jh (fun W (h:Ext w W)=>hxh.ext (hW.ext.trans h))
 have HP:=Jh (fun W (h:Ext w W)=>hW.blk.ext h)
 have HC:=Jh (fun W (h:Ext w W)=>show W.cell? ⟨g,sg,none⟩=some (W64 v[sg]) from (h.cell (p:=⟨g,sg,none⟩) hgw).trans hc1)
 have HFZ:=Jh (fun W (h:Ext w W)=>show W.frozen? ⟨g,sg,none⟩=false from (h.frozen (p:=⟨g,sg,none⟩) hgw).trans hf1)
 have HROW:=Jh (fun W (h:Ext w W)=>((hnv ▸ hW.row:WordRow wb.heap.size (.slice (some ⟨g,0,none⟩) v.length cap) v w).ext h).set sg hsv (setBits v[sg] hi lo (evM (if ck then was else v) x)))
 subst hnv
 have HSW:=Jh (set_word hlh h64 hv64 hev)
 have HMS:=Jh (mask_shift hlh h64)
 have HML:=Jh (maskN_lt hlh h64)
 have HN:=Jh hN
 have hvl2:v.length<=1048576:=by have:=H.ok.signals;omega
 clear hrow hrow' hone hset hls h1 h2 hsl hx hxw q1 q2 q3 q4 q5 q6 hx1 hev hsg hlo hhi hvl hcl hv64 hc1 hf1 hcur he hce1 hce2 hae her hxh hxs htc hr ho
 generalize evM (if ck then was else v) x=X at *
 generalize v[sg]=y at *
 generalize maskN hi lo=M at *
 go_enter Tryz.func56,Tryz.ntmps56
 go_upto_region 1 with fail
 generalize w.alloc _=w0 at *
 have HT:=Jh hT
 have y0:=hT.has 0 _ rfl
 have y4:=hT.has 4 _ rfl
 have e0:=HXH.out w0 x0
 have HV0:=Jh (HVAL.out w0 x0)
 clear hT
 go_upto_region 5 with (first | ((with_reducible show Jl 31);refine Jm 31 (e0) agg_E rfl ?_) | (go_at_call 92;refine (HV0.out).mono ?_;rintro r w1 ⟨rfl,hx1⟩))
 have HX1:=Jh (x0.trans hx1)
 have HT1:=Jh (HT.out.ext hx1)
 have HP1:=Jh (HP.out w1 HX1.out)
 clear hx1 x0 y0 y4 e0 HV0 HVAL HT
 refine Jg w1 fun hH=>?_
 try simp only [J]
 (refine Jt 0 (.pointer (some ⟨w.heap.size,2,none⟩)) rfl (yif_load1 rfl (by intro W hW;clear hW;go_simp)) hH ?_;try simp only [J])
 (refine Jt 1 (.int .i64 (hi:Int)) rfl (yif_load1 rfl (by intro W hW;have z:=(HT1.out.ext hW).has 2 _ rfl;clear hW;go_simp)) hH ?_;try simp only [J])
 (refine Jt 2 (.pointer (some ⟨w.heap.size,3,none⟩)) rfl (yif_load1 rfl (by intro W hW;clear hW;go_simp)) hH ?_;try simp only [J])
 (refine Jt 3 (.int .i64 (lo:Int)) rfl (yif_load1 rfl (by intro W hW;have z:=(HT1.out.ext hW).has 3 _ rfl;clear hW;go_simp)) hH ?_;try simp only [J])
 (refine Jt 4 (.int .i64 ((hi-lo:Nat):Int)) rfl (yif_load1 rfl (by intro W hW;clear hW;go_simp;rw [IntKind.wrap_i64];omega)) hH ?_;try simp only [J])
 (refine Jt 5 (.int .i64 ((63-(hi-lo):Nat):Int)) rfl (yif_load1 rfl (by intro W hW;clear hW;go_simp;rw [IntKind.wrap_i64];omega)) hH ?_;try simp only [J])
 (refine Jt 6 (.int .u64 ((18446744073709551615:Int).fdiv (2^(63-(hi-lo))))) rfl (yif_load1 rfl (by intro W hW;clear hW;go_simp;exact (Int.fdiv_eq_ediv_of_nonneg _ (Int.le_of_lt (Int.pow_pos (by decide)))).symm)) hH ?_;try simp only [J])
 (refine Jt 7 (.pointer (some ⟨w.heap.size,3,none⟩)) rfl (yif_load1 rfl (by intro W hW;clear hW;go_simp)) hH ?_;try simp only [J])
 (refine Jt 8 (.int .i64 (lo:Int)) rfl (yif_load1 rfl (by intro W hW;have z:=(HT1.out.ext hW).has 3 _ rfl;clear hW;go_simp)) hH ?_;try simp only [J])
 (refine Jt 9 (.int .u64 (M:Int)) rfl (yif_load1 rfl (by intro W hW;clear hW;go_simp;exact HMS.out)) hH ?_;try simp only [J])
 (refine Jt 10 (.int .u64 ((18446744073709551615-M:Nat):Int)) rfl (yif_load1 rfl (by intro W hW;clear hW;go_simp;exact n_not HML.out)) hH ?_;try simp only [J])
 (refine Jt 11 (.int .u64 ((18446744073709551615-M:Nat):Int)) rfl (yif_load1 rfl fun _ _=>rfl) hH ?_;try simp only [J])
 refine Jz ?_
 have HX2:=Jh (HX1.out.trans hH)
 have HT2:=Jh (HT1.out.ext hH)
 have HP2:=Jh (HP1.out.ext hH)
 clear hH HX1 HT1 HP1 HMS HML HXH
 generalize w1.drew=w2 at *
 go_upto_region 6 with fail
 refine wp_region_held_drew (S:=fun W=>Blk W w.heap.size [.int .i64 1,.int .i64 (sg:Int),.int .i64 (hi:Int),.int .i64 (lo:Int),.slice (some ⟨be,oe,none⟩) 1 ce,sl].toArray 39/\Blk W P (plCells sv pv cv wasv (.slice (some ⟨g,0,none⟩) v.length cap) ck).toArray 65) (by kernel_rfl) ⟨HT2.out.drew,HP2.out.drew⟩ (fun hH=>?_)
 try simp only [J]
 (refine Jt 0 (.pointer (some ⟨P,0,none⟩)) rfl (yif_load1 rfl fun _ _=>rfl) hH ?_;try simp only [J])
 (refine Jt 1 (.pointer (some ⟨P,0,none⟩)) rfl (yif_load1 rfl (by intro W hW;clear hW;go_simp)) hH ?_;try simp only [J])
 (refine Jt 2 (.pointer (some ⟨P,4,none⟩)) rfl (yif_load1 rfl (by intro W hW;clear hW;go_simp)) hH ?_;try simp only [J])
 (refine Jt 3 (.slice (some ⟨g,0,none⟩) v.length cap) rfl (yif_load1 rfl (by intro W hW;have z:=hW.2.has 4 _ rfl;clear hW;go_simp)) hH ?_;try simp only [J])
 (refine Jt 4 (.pointer (some ⟨w.heap.size,1,none⟩)) rfl (yif_load1 rfl (by intro W hW;clear hW;go_simp)) hH ?_;try simp only [J])
 (refine Jt 5 (.int .i64 (sg:Int)) rfl (yif_load1 rfl (by intro W hW;have z:=hW.1.has 1 _ rfl;clear hW;go_simp)) hH ?_;try simp only [J])
 (refine Jt 6 (.pointer (some ⟨P,0,none⟩)) rfl (yif_load1 rfl fun _ _=>rfl) hH ?_;try simp only [J])
 (refine Jt 7 (.pointer (some ⟨P,0,none⟩)) rfl (yif_load1 rfl (by intro W hW;clear hW;go_simp)) hH ?_;try simp only [J])
 (refine Jt 8 (.pointer (some ⟨P,4,none⟩)) rfl (yif_load1 rfl (by intro W hW;clear hW;go_simp)) hH ?_;try simp only [J])
 (refine Jt 9 (.slice (some ⟨g,0,none⟩) v.length cap) rfl (yif_load1 rfl (by intro W hW;have z:=hW.2.has 4 _ rfl;clear hW;go_simp)) hH ?_;try simp only [J])
 (refine Jt 10 (.pointer (some ⟨w.heap.size,1,none⟩)) rfl (yif_load1 rfl (by intro W hW;clear hW;go_simp)) hH ?_;try simp only [J])
 (refine Jt 11 (.int .i64 (sg:Int)) rfl (yif_load1 rfl (by intro W hW;have z:=hW.1.has 1 _ rfl;clear hW;go_simp)) hH ?_;try simp only [J])
 (refine Jt 12 (.pointer (some ⟨g,sg,none⟩)) rfl (yif_load1 rfl (by intro W hW;clear hW;go_simp;try (intro h;omega))) hH ?_;try simp only [J])
 (refine Jt 14 (.int .u64 ((18446744073709551615-M:Nat):Int)) rfl (yif_load1 rfl fun _ _=>rfl) hH ?_;try simp only [J])
 (refine Jt 16 (.int .u64 (X:Int)) rfl (yif_load1 rfl fun _ _=>rfl) hH ?_;try simp only [J])
 (refine Jt 17 (.pointer (some ⟨w.heap.size,3,none⟩)) rfl (yif_load1 rfl (by intro W hW;clear hW;go_simp)) hH ?_;try simp only [J])
 (refine Jt 18 (.int .i64 (lo:Int)) rfl (yif_load1 rfl (by intro W hW;have z:=hW.1.has 3 _ rfl;clear hW;go_simp)) hH ?_;try simp only [J])
 (refine Jt 19 (.int .u64 (IntKind.u64.wrap ((X:Int)*2^lo))) rfl (yif_load1 rfl (by intro W hW;clear hW;go_simp)) hH ?_;try simp only [J])
 have c1:=HC.out _ (HX2.out.trans (Below.drew (Below.refl _ w2)))
 (refine Jr 13 rfl fun K hK=>?_)
 go_simp
 refine hK.out _ _ hH (fun hH=>?_)
 clear hK K c1
 try simp only [J]
 (refine Jt 15 (.int .u64 (bits .and .u64 (y:Int) ((18446744073709551615-M:Nat):Int))) rfl (yif_load1 rfl (by intro W hW;clear hW;go_simp)) hH ?_;try simp only [J])
 (refine Jt 20 (.int .u64 ((setBits y hi lo X:Nat):Int)) rfl (yif_load1 rfl (by intro W hW;clear hW;go_simp;exact HSW.out)) hH ?_;try simp only [J])
 (refine Jt 21 (.pointer (some ⟨g,sg,none⟩)) rfl (yif_load1 rfl (by intro W hW;clear hW;go_simp;try (intro h;omega))) hH ?_;try simp only [J])
 have hxd:Ext w w2.drew:=HX2.out.trans (Below.drew (Below.refl _ w2))
 have f1:=HFZ.out _ hxd
 have c1:=HC.out _ hxd
 have HRN:=Jh (HROW.out _ hxd)
 have HGN:=Jh (gbR_trans (gbR_ext hxd (some g)) (gb_set w2.drew g sg (W64 (setBits y hi lo X))))
 clear hxd HSW HC HFZ HROW HX2 HT2 HP2
 generalize setBits y hi lo X=Z at *
 (refine Jr 22 rfl fun K hK=>?_)
 go_simp
 have hw1:Blk (w2.drew.setCell ⟨g,sg,none⟩ (W64 Z)) w.heap.size _ _:=hH.1.grown (gb_set _ g sg _) (by omega)
 have hw2:Blk (w2.drew.setCell ⟨g,sg,none⟩ (W64 Z)) P _ _:=hH.2.grown (gb_set _ g sg _) hPg
 refine hK.out _ _ ⟨hw1,hw2⟩ (fun hH=>?_)
 clear hK K c1 f1 hw1 hw2
 refine Jz ?_
 clear hH
 go_wp2_with fail
 all_goals go_end0
 exact ⟨rfl,HRN.out,HGN.out⟩
theorem arm_idx {l:List T} (h:0<l.length) (x:Int):(idxOf (fun a:T=>a.e.any fun e=>decide (e.v=x)) l<0->armM l x=l.length-1)/\(0<=idxOf (fun a:T=>a.e.any fun e=>decide (e.v=x)) l->idxOf (fun a:T=>a.e.any fun e=>decide (e.v=x)) l=(armM l x:Int)):=by
 unfold idxOf armM
 by_cases c:l.any (fun a:T=>a.e.any fun e=>decide (e.v=x))=true
 ·rw [if_pos c]
  have hlt:l.findIdx (fun a:T=>a.e.any fun e=>decide (e.v=x))<l.length:=List.findIdx_lt_length.2 (by simpa using List.any_eq_true.1 c)
  generalize l.findIdx _=k at *
  exact ⟨fun h=>by omega,fun _=>by rw [Nat.min_eq_left (by omega)]⟩
 ·rw [if_neg c]
  have hge:l.findIdx (fun a:T=>a.e.any fun e=>decide (e.v=x))=l.length:=List.findIdx_eq_length.2 (by
   intro a ha
   have:=List.any_eq_false.1 (by simpa using c:l.any (fun a:T=>a.e.any fun e=>decide (e.v=x))=false) a ha
   simpa using this)
  rw [hge]
  exact ⟨fun _=>by omega,fun h=>by omega⟩
theorem plOne_block {d:Flat} {sv pv cv wasv nv:Value} {was:List Nat} {ck:Bool} {P:Nat} {wb:World} {t:T} (ho:t.op=4\/t.op=5) (hall:PlAll d sv pv cv wasv nv was ck P wb t.l):PlSaid d sv pv cv wasv nv was ck P wb t:=by
 intro v cs w hW hV
 have hone:=oneM_4 ck was (t:=t) v ho
 obtain ⟨se,sl,rfl,he,hl⟩:=hV
 have hall':=hall v sl
 obtain ⟨ae,be,oe,ce,rfl,-,-,-,-⟩:=he.open
 obtain ⟨al,bl,ol,cl,rfl,-,-,-,-⟩:=hl.open
 have x0:=ext_alloc w (.cells (t.cells (.slice ae t.e.length ce) (.slice al t.l.length cl)).toArray 39)
 have hT:=Blk.new w (t.cells (.slice ae t.e.length ce) (.slice al t.l.length cl)).toArray 39
 have HALL:=Jh (hall' _ (hW.ext' x0) hl)
 rw [hone]
 have b1:(t.op==1)=false:=by rw [beq_eq_false_iff_ne];omega
 have b2:(t.op==2)=false:=by rw [beq_eq_false_iff_ne];omega
 have b3:(t.op==3)=false:=by rw [beq_eq_false_iff_ne];omega
 clear hone ho he hl hall hall' hW
 go_enter Tryz.func56,Tryz.ntmps56
 go_upto_region 1 with fail
 generalize w.alloc _=w0 at *
 have y0:=hT.has 0 _ rfl
 have y5:=hT.has 5 _ rfl
 go_wp2_with (first | (go_at_call 24;refine (HALL.out).mono ?_;rintro r w1 ⟨rfl,hr1,hg1⟩))
 all_goals go_end0
 exact ⟨rfl,hr1,gbR_trans (gbR_ext x0 _) hg1⟩
theorem plOne_if {d:Flat} {sv pv cv wasv nv:Value} {was:List Nat} {ck:Bool} {P:Nat} {wb:World} (H:Pl d sv pv cv wasv was wb) {t:T} (hr:RunOk d.signals ck t) (ho:t.op=2) (hall:∀ x∈t.l,PlAll d sv pv cv wasv nv was ck P wb x.l):PlSaid d sv pv cv wasv nv was ck P wb t:=by
 intro v cs w hW hV
 obtain ⟨h1,h2,-⟩:=(RunOk_iff _ _ t).1 hr
 obtain ⟨⟨x,hx⟩,ta,tb,hab⟩:(∃ x,t.e=[x])/\∃ a b,t.l=[a,b]:=by
  rcases h2 with ⟨o,-⟩ | ⟨-,⟨x,hx,-⟩,hab⟩ | ⟨o,-⟩ | o | o
  ·omega
  ·exact ⟨⟨x,hx⟩,hab⟩
  all_goals omega
 have hx1:=h1 x (by simp [hx])
 have hone:oneM ck was t v=if evM (if ck then was else v) x=0 then allM ck was tb.l v else allM ck was ta.l v:=by
  rw [oneM_2 ck was v ho,hx,hab]
  show oneM.nthM ck was [ta,tb] (if evM (if ck then was else v) x=0 then 1 else 0) v=_
  by_cases c:evM (if ck then was else v) x=0
  ·rw [if_pos c,if_pos c,nthM_eq ck was _ 1 v (by simp)];rfl
  ·rw [if_neg c,if_neg c,nthM_eq ck was _ 0 v (by simp)];rfl
 have hA:=hall ta (by simp [hab])
 have hB:=hall tb (by simp [hab])
 obtain ⟨se,sl,rfl,he,hl⟩:=hV
 obtain ⟨ae,be,oe,ce,rfl,hce1,hce2,hae,her⟩:=he.open
 obtain ⟨al,bl,ol,cl,rfl,hcl1,hcl2,hal,hlr⟩:=hl.open
 rw [hx] at hce1 hae her
 rw [hab] at hcl1 hal hlr
 obtain rfl:=hae (by simp)
 obtain rfl:=hal (by simp)
 obtain ⟨sx,hxh,hxs⟩:=Es.get her (k:=0) (by simp)
 have hxh:Has wb be oe (x.cells sx):=by simpa using hxh
 have hxs:Es wb sx x.l:=by simpa using hxs
 obtain ⟨ea,la,hah,hae',hal'⟩:=Ts.get hlr (k:=0) (by simp)
 have hah:Has wb bl ol (ta.cells ea la):=by simpa using hah
 have hae':Es wb ea ta.e:=hae'
 have hal':Ts wb la ta.l:=hal'
 obtain ⟨eb,lb,hbh,hbe',hbl'⟩:=Ts.get hlr (k:=1) (by simp)
 have hbh:Has wb bl (ol+6) (tb.cells eb lb):=by simpa using hbh
 have hbe':Es wb eb tb.e:=hbe'
 have hbl':Ts wb lb tb.l:=hbl'
 have HALA:=Jh (fun W (h:PlW d sv pv cv wasv nv ck P wb v W)=>hA v la W h hal')
 have HALB:=Jh (fun W (h:PlW d sv pv cv wasv nv ck P wb v W)=>hB v lb W h hbl')
 have oa:(ta.cells ea la).all (·.oneCell')=true:=by simp [hae'.one,hal'.one,one_int]
 have ob:(tb.cells eb lb).all (·.oneCell')=true:=by simp [hbe'.one,hbl'.one,one_int]
 obtain ⟨aaa,baa,oaa,caa,rfl,-,-,-,-⟩:=hal'.open
 obtain ⟨aab,bab,oab,cab,rfl,-,-,-,-⟩:=hbl'.open
 have htc:t.cells (.slice (some ⟨be,oe,none⟩) t.e.length ce) (.slice (some ⟨bl,ol,none⟩) t.l.length cl)=[.int .i64 2,.int .i64 t.sig,.int .i64 t.hi,.int .i64 t.lo,.slice (some ⟨be,oe,none⟩) 1 ce,.slice (some ⟨bl,ol,none⟩) 2 cl]:=by
  unfold T.cells;rw [ho,hx,hab];rfl
 rw [htc,hone]
 have x0:=ext_alloc w (.cells [.int .i64 2,.int .i64 t.sig,.int .i64 t.hi,.int .i64 t.lo,.slice (some ⟨be,oe,none⟩) 1 ce,.slice (some ⟨bl,ol,none⟩) 2 cl].toArray 39)
 have hT:=Blk.new w [.int .i64 2,.int .i64 t.sig,.int .i64 t.hi,.int .i64 t.lo,.slice (some ⟨be,oe,none⟩) 1 ce,.slice (some ⟨bl,ol,none⟩) 2 cl].toArray 39
 have HW:=Jh (fun W (h:Ext w W)=>hW.ext' h)
 have HVAL:=Jh (fun W (h:Ext w W)=>plVal H (hW.ext' h) x _ ⟨sx,rfl,hxs.ext (hW.ext.trans h)⟩ hx1)
 have HXH:=Jh (fun W (h:Ext w W)=>hxh.ext (hW.ext.trans h))
 have HAH:=Jh (fun W (h:Ext w W)=>hah.ext (hW.ext.trans h))
 have HBH:=Jh (fun W (h:Ext w W)=>hbh.ext (hW.ext.trans h))
 clear hone h1 h2 hx hab hx1 hA hB he hl hce1 hce2 hcl1 hcl2 hae hal her hlr hxh hxs hah hbh hae' hal' hbe' hbl' htc hr ho hall hW
 generalize evM (if ck then was else v) x=X at *
 obtain ⟨R,hR⟩:∃ R,(if X=0 then allM ck was tb.l v else allM ck was ta.l v)=R:=⟨_,rfl⟩
 have HR:=Jh hR
 rw [hR]
 clear hR
 have hsz:(w.alloc (.cells [.int .i64 2,.int .i64 t.sig,.int .i64 t.hi,.int .i64 t.lo,.slice (some ⟨be,oe,none⟩) 1 ce,.slice (some ⟨bl,ol,none⟩) 2 cl].toArray 39)).heap.size=w.heap.size+1:=by simp
 have HSZ:=Jh hsz
 clear hsz
 go_enter Tryz.func56,Tryz.ntmps56
 go_upto_region 1 with fail
 generalize w.alloc _=w0 at *
 have HT:=Jh hT
 have y0:=hT.has 0 _ rfl
 have y5:=hT.has 5 _ rfl
 have eb1:=HBH.out w0 x0
 have x2:=ext_alloc w0 (.cells (tb.cells eb (.slice aab tb.l.length cab)).toArray 39)
 have hb6:=Blk.new w0 (tb.cells eb (.slice aab tb.l.length cab)).toArray 39
 have X2:=Jh (x0.trans x2)
 have HT2:=Jh (hT.ext x2)
 have HB6:=Jh hb6
 clear hT x0 x2 hb6
 go_upto_region 9 with (first | ((with_reducible show Jl 39);refine Jm 39 (eb1) agg_T rfl ?_) | ((with_reducible show Js 39);refine wpList_store_new rfl 39 _ _ rfl rfl (by first | rfl | simp) rfl agg_T (rfl) rfl (ob) ?_))
 clear y0 y5 eb1
 obtain ⟨B6,hB6⟩:∃ B,w0.heap.size=B:=⟨_,rfl⟩
 rw [hB6] at HB6 ⊢
 have HLE:=Jh (show w.heap.size<=B6 by have:=HSZ.out;omega)
 clear hB6
 generalize w0.alloc _=w2 at *
 have z4:=HT2.out.has 4 _ rfl
 have ex1:=HXH.out w2 X2.out
 have HV2:=Jh (HVAL.out w2 X2.out)
 by_cases hX0:X=0
 ·have c0:((X:Int) != 0)=false:=by rw [bne_eq_false_iff_eq];omega
  obtain rfl:allM ck was tb.l v=R:=by rw [<-HR.out,if_pos hX0]
  clear hX0
  go_upto_region 11 with (first | ((with_reducible show Jl 31);refine Jm 31 (ex1) agg_E rfl ?_) | (go_at_call 92;refine (HV2.out).mono ?_;rintro r w3 ⟨rfl,hx3⟩))
  have X3:=Jh (X2.out.trans hx3)
  have q5:=(HB6.out.ext hx3).has 5 _ rfl
  have HC:=Jh (HALB.out w3 (HW.out w3 X3.out))
  clear hx3 z4 ex1
  go_wp2_with (first | (go_at_call 24;refine (HC.out).mono ?_;rintro r w4 ⟨rfl,hr4,hg4⟩))
  all_goals go_end0
  exact ⟨rfl,hr4,gbR_trans (gbR_ext X3.out _) hg4⟩
 ·have c0:((X:Int) != 0)=true:=by rw [bne_iff_ne];omega
  obtain rfl:allM ck was ta.l v=R:=by rw [<-HR.out,if_neg hX0]
  clear hX0
  go_upto_region 10 with (first | ((with_reducible show Jl 31);refine Jm 31 (ex1) agg_E rfl ?_) | (go_at_call 92;refine (HV2.out).mono ?_;rintro r w3 ⟨rfl,hx3⟩))
  have X3:=Jh (X2.out.trans hx3)
  have HB63:=Jh (HB6.out.ext hx3)
  have z5:=(HT2.out.ext hx3).has 5 _ rfl
  have ea1:=HAH.out w3 X3.out
  clear hx3 z4 ex1
  go_upto_region 11 with (first | ((with_reducible show Jl 39);refine Jm 39 (ea1) agg_T rfl ?_) | ((with_reducible show Js 39);refine wpList_store_blk rfl 39 _ _ rfl (HB63.out) rfl (cs:=ta.cells ea (.slice aaa ta.l.length caa)) (rfl) agg_T (rfl) rfl (oa) ?_;intro w4 hb4 hg4))
  have X4:=Jh (X3.out.grown hg4 HLE.out)
  have q5:=hb4.has 5 _ rfl
  have HC:=Jh (HALA.out w4 (HW.out w4 X4.out))
  clear hb4 hg4 ea1 z5
  go_wp2_with (first | (go_at_call 24;refine (HC.out).mono ?_;rintro r w5 ⟨rfl,hr5,hg5⟩))
  all_goals go_end0
  exact ⟨rfl,hr5,gbR_trans (gbR_ext X4.out _) hg5⟩
theorem plOne_case {d:Flat} {sv pv cv wasv nv:Value} {was:List Nat} {ck:Bool} {P:Nat} {wb:World} (H:Pl d sv pv cv wasv was wb) {t:T} (hr:RunOk d.signals ck t) (hln:t.l.length<=1048576) (ho:t.op=3) (hall:∀ x∈t.l,PlAll d sv pv cv wasv nv was ck P wb x.l):PlSaid d sv pv cv wasv nv was ck P wb t:=by
 intro v cs w hW hV
 obtain ⟨h1,h2,-⟩:=(RunOk_iff _ _ t).1 hr
 obtain ⟨⟨x,hx⟩,hl0⟩:(∃ x,t.e=[x])/\0<t.l.length:=by
  rcases h2 with ⟨o,-⟩ | ⟨o,-⟩ | ⟨-,hx,h,-⟩ | o | o
  ·omega
  ·omega
  ·exact ⟨hx,h⟩
  all_goals omega
 have hx1:=h1 x (by simp [hx])
 obtain ⟨X,hXX⟩:∃ X,evM (if ck then was else v) x=X:=⟨_,rfl⟩
 obtain ⟨K,hK⟩:∃ K,armM t.l (X:Int)=K:=⟨_,rfl⟩
 have hKl:K<t.l.length:=by rw [<-hK];exact armM_lt hl0 _
 have hone:oneM ck was t v=allM ck was t.l[K].l v:=by
  rw [oneM_3 ck was v ho,hx]
  show oneM.nthM ck was t.l (armM t.l (evM (if ck then was else v) x)) v=_
  rw [hXX,hK,nthM_eq ck was _ K v hKl]
 have harm:=arm_idx hl0 (X:Int)
 rw [hK] at harm
 obtain ⟨se,sl,rfl,he,hl⟩:=hV
 have HIX:=Jh (fun B W (h:Ext wb W) (hb:Blk W B #[.int .u64 (X:Int)] 28)=>plArm_calls B (X:Int) t.l sl W hb (hl.ext h))
 obtain ⟨ae,be,oe,ce,rfl,hce1,hce2,hae,her⟩:=he.open
 obtain ⟨al,bl,ol,cl,rfl,hcl1,hcl2,hal,hlr⟩:=hl.open
 rw [hx] at hce1 hae her
 obtain rfl:=hae (by simp)
 obtain rfl:=hal hl0
 obtain ⟨sx,hxh,hxs⟩:=Es.get her (k:=0) (by simp)
 have hxh:Has wb be oe (x.cells sx):=by simpa using hxh
 have hxs:Es wb sx x.l:=by simpa using hxs
 obtain ⟨ea,la,hah,hae',hal'⟩:=Ts.get hlr hKl
 have hA:=hall _ (List.getElem_mem hKl)
 generalize t.l[K]=ta at *
 have HALA:=Jh (fun W (h:PlW d sv pv cv wasv nv ck P wb v W)=>hA v la W h hal')
 obtain ⟨aaa,baa,oaa,caa,rfl,-,-,-,-⟩:=hal'.open
 have htc:t.cells (.slice (some ⟨be,oe,none⟩) t.e.length ce) (.slice (some ⟨bl,ol,none⟩) t.l.length cl)=[.int .i64 3,.int .i64 t.sig,.int .i64 t.hi,.int .i64 t.lo,.slice (some ⟨be,oe,none⟩) 1 ce,.slice (some ⟨bl,ol,none⟩) t.l.length cl]:=by
  unfold T.cells;rw [ho,hx];rfl
 rw [htc,hone]
 have x0:=ext_alloc w (.cells [.int .i64 3,.int .i64 t.sig,.int .i64 t.hi,.int .i64 t.lo,.slice (some ⟨be,oe,none⟩) 1 ce,.slice (some ⟨bl,ol,none⟩) t.l.length cl].toArray 39)
 have hT:=Blk.new w [.int .i64 3,.int .i64 t.sig,.int .i64 t.hi,.int .i64 t.lo,.slice (some ⟨be,oe,none⟩) 1 ce,.slice (some ⟨bl,ol,none⟩) t.l.length cl].toArray 39
 have HW:=Jh (fun W (h:Ext w W)=>hW.ext' h)
 have HVAL:=Jh (fun W (h:Ext w W)=>hXX ▸ plVal H (hW.ext' h) x _ ⟨sx,rfl,hxs.ext (hW.ext.trans h)⟩ hx1)
 have HXH:=Jh (fun W (h:Ext w W)=>hxh.ext (hW.ext.trans h))
 have HAH:=Jh (fun W (h:Ext w W)=>hah.ext (hW.ext.trans h))
 have HXB:=Jh hW.ext
 obtain ⟨I,hI⟩:∃ I,idxOf (fun a:T=>a.e.any fun e=>decide (e.v=(X:Int))) t.l=I:=⟨_,rfl⟩
 have hIl:=idxOf_lt (p:=fun a:T=>a.e.any fun e=>decide (e.v=(X:Int))) (l:=t.l)
 rw [hI] at HIX harm hIl
 have HARM:=Jh harm
 obtain ⟨n,hn⟩:∃ n,t.l.length=n:=⟨_,rfl⟩
 rw [hn] at HARM hKl hl0 hIl x0 hT hcl1 hln ⊢
 rw [hn] at HIX
 clear hone h1 h2 hx hx1 hA he hl hce1 hce2 hcl2 hae hal her hlr hxh hxs hah hae' hal' htc hr ho hall hW hXX hK hI hn harm
 go_enter Tryz.func56,Tryz.ntmps56
 go_upto_region 1 with fail
 generalize w.alloc _=w0 at *
 have HT:=Jh hT
 have y0:=hT.has 0 _ rfl
 have y4:=hT.has 4 _ rfl
 have ex1:=HXH.out w0 x0
 have HV0:=Jh (HVAL.out w0 x0)
 have X0:=Jh x0
 clear hT x0
 go_upto_region 13 with fail
 clear y0
 go_upto_region 14 with (first | ((with_reducible show Jl 31);refine Jm 31 (ex1) agg_E rfl ?_) | (go_at_call 92;refine HV0.out.mono ?_;rintro r w1 ⟨rfl,hx1⟩;have X1:=Jh (X0.out.trans hx1);have HT1:=Jh (HT.out.ext hx1);have x2:=ext_alloc w1 (.cells #[.int .u64 (X:Int)] 28);have hb7:=Blk.new w1 #[.int .u64 (X:Int)] 28))
 have X2:=Jh (X1.out.trans x2)
 have HT2:=Jh (HT1.out.ext x2)
 have HB7:=Jh hb7
 clear hx1 ex1 y4 x2 hb7
 obtain ⟨B7,hB7⟩:∃ B,w1.heap.size=B:=⟨_,rfl⟩
 rw [hB7] at HB7 ⊢
 clear hB7
 generalize w1.alloc _=w2 at *
 have HI2:=Jh (HIX.out B7 w2 (HXB.out.trans X2.out) HB7.out)
 have z5:=HT2.out.has 5 _ rfl
 by_cases hI0:I<0
 ·have hKn:=HARM.out.1 hI0
  obtain rfl:n=K+1:=by omega
  have b0:decide (I<0)=true:=decide_eq_true hI0
  clear hKn hI0
  go_upto_region 17 with (first | (go_at_call 93;refine HI2.out.mono ?_;rintro r w3 ⟨rfl,hx3⟩;have X3:=Jh (X2.out.trans hx3);have q5:=(HT2.out.ext hx3).has 5 _ rfl))
  have e5:=(HAH.out w3 X3.out) 5 _ rfl
  have HC:=Jh (HALA.out w3 (HW.out w3 X3.out))
  clear hx3 z5
  go_wp2_with (first | (go_at_call 24;refine (HC.out).mono ?_;rintro r w4 ⟨rfl,hr4,hg4⟩))
  all_goals go_end0
  exact ⟨rfl,hr4,gbR_trans (gbR_ext X3.out _) hg4⟩
 ·obtain rfl:=HARM.out.2 (by omega)
  have b0:decide ((K:Int)<0)=false:=decide_eq_false hI0
  clear hI0
  go_upto_region 17 with (first | (go_at_call 93;refine HI2.out.mono ?_;rintro r w3 ⟨rfl,hx3⟩;have X3:=Jh (X2.out.trans hx3);have q5:=(HT2.out.ext hx3).has 5 _ rfl))
  have e5:=(HAH.out w3 X3.out) 5 _ rfl
  have HC:=Jh (HALA.out w3 (HW.out w3 X3.out))
  clear hx3 z5
  go_wp2_with (first | (go_at_call 24;refine (HC.out).mono ?_;rintro r w4 ⟨rfl,hr4,hg4⟩))
  all_goals go_end0
  exact ⟨rfl,hr4,gbR_trans (gbR_ext X3.out _) hg4⟩
theorem pl_said {d:Flat} {sv pv cv wasv nv:Value} {was:List Nat} {ck:Bool} {P:Nat} {wb:World} (H:Pl d sv pv cv wasv was wb) (t:T):RunOk d.signals ck t->nodesT t<=1048576->PlSaid d sv pv cv wasv nv was ck P wb t/\PlAll d sv pv cv wasv nv was ck P wb t.l:=by
 induction t using T.ind with
 | h t ih =>
  intro hr hn
  have hr':=(RunOk_iff _ _ t).1 hr
  have hne:=nodesT_eq t
  have hlen:t.l.length<=1048576:=by have:=length_le_sumBy nodesT t.l (fun x _=>nodesT_pos x);omega
  have hsub:∀ x∈t.l,PlSaid d sv pv cv wasv nv was ck P wb x/\PlAll d sv pv cv wasv nv was ck P wb x.l:=fun x hx=>ih x hx (hr'.2.2 x hx) (by have:=le_sumBy nodesT t.l x hx;omega)
  have hall:PlAll d sv pv cv wasv nv was ck P wb t.l:=plAll_of H t.l hlen fun x hx=>⟨(hsub x hx).1,hr'.2.2 x hx⟩
  refine ⟨?_,hall⟩
  rcases hr'.2.1 with ⟨o,-⟩ | ⟨o,-⟩ | ⟨o,-⟩ | o | o
  ·exact plOne_set H hr o
  ·exact plOne_if H hr o fun x hx=>(hsub x hx).2
  ·exact plOne_case H hr hlen o fun x hx=>(hsub x hx).2
  ·exact plOne_block (.inl o) hall
  ·exact plOne_block (.inr o) hall
theorem CloneW_calls (l:List Nat) (s:Value) (w:World) (h:Us w s l) (hl:l.length<=1048576) :
  Calls Tryz.prog 23 #[s] w fun r w'=>∃ u,r=.returned u/\WordRow w.heap.size u l w'/\Ext w w':=by
 have HX:=Jh (ext_alloc w (.cells #[] 28))
 have HN:=Jh (h.ext HX.out)
 have HROW:=Jh (WordRow.bs0 w (N:=w.heap.size) (Nat.le_refl _))
 obtain ⟨a,b,o,cap,rfl,hc1,hc2,ha,hr⟩:=h.open
 have hnil:=fun W=>Lib.run_eql_slice_nil (P:=Tryz.prog) W 27 28 a l.length cap 0 0 Tryz.underlying27
 cases a with
 | none =>
  have h0:l.length=0:=by
   by_cases hh:0<l.length
   ·have:=ha hh;cases this
   ·omega
  have H0:=Jh h0
  clear h0 ha hr h HX HN HROW
  go_enter Tryz.func23,Tryz.ntmps23
  go_wp2_with fail
  go_ret
  obtain rfl:l=[]:=List.eq_nil_of_length_eq_zero H0.out
  exact ⟨_,rfl,WordRow.nil _ _,Below.refl _ _⟩
 | some ad =>
  clear hr ha h
  go_enter Tryz.func23,Tryz.ntmps23
  go_wp2_with (first | ((with_reducible show Jw (Op.buildSlice _ _ _));refine wpList_bs0 rfl _ rfl appWord ?_) | ((with_reducible show Jw (Op.call { callee:=.builtin .append,args:=_,argTypes:=_ }));refine wpList_appW rfl _ _ rfl rfl HROW.out rfl HN.out (by simp;omega) (by simp) ?_;intro v4 w4 hrow4 hg4))
  go_ret
  exact ⟨_,rfl,by simpa using hrow4,Below.grown HX.out hg4 HX.out.size (fun k hk=>by cases hk;exact Nat.le_refl _)⟩
theorem runM_no {d:Flat} {vs:List Nat} {p:Int} (h:¬ (valsOk d vs=true/\0<=p/\p<d.procs.length)):runM d vs p=([],1):=by unfold runM;rw [if_neg h]
theorem runM_yes {d:Flat} {vs:List Nat} {p:Int} (h:valsOk d vs=true/\0<=p/\p<d.procs.length):runM d vs p=(allM ((d.procs[p.toNat]?.map (·.clocked)).getD false) vs (procL d p) vs,0):=by unfold runM;rw [if_pos h]
theorem Run_calls (d:Flat) (v:Value) (vs:List Nat) (s:Value) (p:Int) (w:World) (hF:FlatV w v d) (hok:d.ok) (hs:Us w s vs) (h64:us64 vs) (hp:i64r p) :
  Calls Tryz.prog 9 #[v,s,.int .i64 p] w fun r w'=>∃ u,r=.returned (.tuple #[u,.int .i64 (runM d vs p).2])/\WordRow w.heap.size u (runM d vs p).1 w'/\Ext w w':=by
 have HF:=Jh (fun W (h:Ext w W)=>hF.ext h)
 have HCK:=Jh (fun W (h:Ext w W)=>Check_calls d v W (hF.ext h) hok)
 have HVA:=Jh (fun W (h:Ext w W)=>Values_calls d v vs s W (hF.ext h) hok (hs.ext h) h64)
 have HUS:=Jh (fun W (h:Ext w W)=>hs.ext h)
 have hln:=hok.procs
 obtain ⟨sv,pv,cv,rfl,hS,hP,hC⟩:=hF
 have hone:[sv,pv,cv].all (·.oneCell')=true:=by simp [hS.one,hP.one,hC.one]
 have HPR:=Jh (fun W (h:Ext w W)=>hP.ext h)
 obtain ⟨a0,b0,o0,c0,rfl,-,-,-,-⟩:=hS.open
 obtain ⟨ap,bp,op,cp,rfl,hp1,hp2,hap,hpr⟩:=hP.open
 obtain ⟨ac,bc,oc,cc,rfl,-,-,-,-⟩:=hC.open
 obtain ⟨av,bv,ov,capv,rfl,-,-,-,-⟩:=hs.open
 have hX:=ext_alloc w (.cells [Value.slice a0 d.signals.length c0,.slice ap d.procs.length cp,.slice ac d.checks.length cc].toArray 26)
 have hD:=Blk.new w [Value.slice a0 d.signals.length c0,.slice ap d.procs.length cp,.slice ac d.checks.length cc].toArray 26
 have HAP:=Jh hap
 have HPP:=Jh hpr
 have HOK:=Jh hok
 have HPI:=Jh hp
 clear hS hP hC hs hap hpr hok
 unfold i64r at hp
 go_enter Tryz.func9,Tryz.ntmps9
 go_upto_region 1 with fail
 generalize w.alloc _=w0 at *
 have HD:=Jh hD
 have HX:=Jh hX
 have d0:=hD.has
 have d1:=hD.has 1 _ rfl
 clear hD hX
 by_cases hck:checkM d=0
 case neg =>
  have c1:(checkM d != 0)=true:=by rw [bne_iff_ne];exact hck
  have HR:=Jh (runM_no (d:=d) (vs:=vs) (p:=p) (fun h=>hck (by have:=h.1;unfold valsOk at this;simp only [Bool.and_eq_true,decide_eq_true_eq] at this;exact this.2.1)))
  clear hck
  go_wp2_with (first | ((with_reducible show Jl 26);refine Jm 26 (d0) agg_Flat rfl ?_) | (go_at_call 8;refine (HCK.out w0 HX.out).mono ?_;rintro r w1 ⟨rfl,hx1⟩))
  refine bodyPost_ret (v:=.tuple #[.slice none 0 0,.int .i64 1]) (by simp [results,Tryz.results9,go_sem]) rfl ⟨_,by rw [HR.out],by rw [HR.out];exact WordRow.nil _ _,HX.out.trans hx1⟩
 have HC0:=Jh hck
 rw [hck] at HCK
 obtain ⟨q,hq⟩:∃ q,valsOk d vs=q:=⟨_,rfl⟩
 have HQ:=Jh hq
 rw [hq] at HVA
 clear hq hck
 cases q
 case false =>
  have HR:=Jh (runM_no (d:=d) (vs:=vs) (p:=p) (fun h=>by rw [HQ.out] at h;cases h.1))
  go_wp2_with (first | ((with_reducible show Jl 26);refine Jm 26 (d0) agg_Flat rfl ?_) | (go_at_call 8;refine (HCK.out w0 HX.out).mono ?_;rintro r w1 ⟨rfl,hx1⟩;have d2:=(HD.out.ext hx1).has) | ((with_reducible show Jl 26);refine Jm 26 (d2) agg_Flat rfl ?_) | (go_at_call 22;refine (HVA.out w1 (HX.out.trans hx1)).mono ?_;rintro r w2 ⟨rfl,hx2⟩))
  refine bodyPost_ret (v:=.tuple #[.slice none 0 0,.int .i64 1]) (by simp [results,Tryz.results9,go_sem]) rfl ⟨_,by rw [HR.out],by rw [HR.out];exact WordRow.nil _ _,HX.out.trans (hx1.trans hx2)⟩
 by_cases hp0:p<0
 ·have b1:decide (p<0)=true:=decide_eq_true hp0
  have HR:=Jh (runM_no (d:=d) (vs:=vs) (p:=p) (fun h=>by have:=h.2.1;omega))
  clear hp0
  go_wp2_with (first | ((with_reducible show Jl 26);refine Jm 26 (d0) agg_Flat rfl ?_) | (go_at_call 8;refine (HCK.out w0 HX.out).mono ?_;rintro r w1 ⟨rfl,hx1⟩;have d2:=(HD.out.ext hx1).has) | ((with_reducible show Jl 26);refine Jm 26 (d2) agg_Flat rfl ?_) | (go_at_call 22;refine (HVA.out w1 (HX.out.trans hx1)).mono ?_;rintro r w2 ⟨rfl,hx2⟩))
  refine bodyPost_ret (v:=.tuple #[.slice none 0 0,.int .i64 1]) (by simp [results,Tryz.results9,go_sem]) rfl ⟨_,by rw [HR.out],by rw [HR.out];exact WordRow.nil _ _,HX.out.trans (hx1.trans hx2)⟩
 by_cases hpl:(d.procs.length:Int)<=p
 ·have b1:decide (p<0)=false:=decide_eq_false hp0
  have b2:decide ((d.procs.length:Int)<=p)=true:=decide_eq_true hpl
  have HR:=Jh (runM_no (d:=d) (vs:=vs) (p:=p) (fun h=>by have:=h.2.2;omega))
  clear hp0 hpl
  go_wp2_with (first | ((with_reducible show Jl 26);refine Jm 26 (d0) agg_Flat rfl ?_) | (go_at_call 8;refine (HCK.out w0 HX.out).mono ?_;rintro r w1 ⟨rfl,hx1⟩;have d2:=(HD.out.ext hx1).has) | ((with_reducible show Jl 26);refine Jm 26 (d2) agg_Flat rfl ?_) | (go_at_call 22;refine (HVA.out w1 (HX.out.trans hx1)).mono ?_;rintro r w2 ⟨rfl,hx2⟩;have d3:=(HD.out.ext (hx1.trans hx2)).has 1 _ rfl))
  refine bodyPost_ret (v:=.tuple #[.slice none 0 0,.int .i64 1]) (by simp [results,Tryz.results9,go_sem]) rfl ⟨_,by rw [HR.out],by rw [HR.out];exact WordRow.nil _ _,HX.out.trans (hx1.trans hx2)⟩
 obtain ⟨k,rfl⟩:=Int.eq_ofNat_of_zero_le (show 0<=p by omega)
 have hk:k<d.procs.length:=by omega
 have b1:decide ((k:Int)<0)=false:=decide_eq_false hp0
 have b2:decide ((d.procs.length:Int)<=(k:Int))=false:=decide_eq_false hpl
 have HR:=Jh (runM_yes (d:=d) (vs:=vs) (p:=(k:Int)) ⟨HQ.out,by omega,by omega⟩)
 rw [Int.toNat_natCast,List.getElem?_eq_getElem hk,procL_get (by rw [Int.toNat_natCast];exact hk)] at HR
 simp only [Option.map_some,Option.getD_some,Int.toNat_natCast] at HR
 obtain rfl:=HAP.out (by omega)
 have hat:=HPP.out.get (List.getElem?_eq_getElem hk)
 have HRO:=Jh (runOk_check HOK.out HC0.out _ (List.getElem_mem hk))
 have hnl:=nodes_proc d k hk
 have hnd:=HOK.out.nodes
 have hll:(d.procs[k].l).length<=1048576:=by have:=length_le_sumBy nodesT d.procs[k].l (fun x _=>nodesT_pos x);omega
 have HNS:=Jh (show sumBy nodesT d.procs[k].l<=1048576 by omega)
 clear hp0 hpl hnl hnd
 generalize d.procs[k]=pk at *
 obtain ⟨lv,hph,hpt⟩:=hat
 have HPH:=Jh (fun W (h:Ext w W)=>hph.ext h)
 have HPT:=Jh (fun W (h:Ext w W)=>hpt.ext h)
 obtain ⟨al,bl,ol,cl,rfl,-,-,-,-⟩:=hpt.open
 have hvl:vs.length<=1048576:=by
  have h1:=(valsOk_val2 HQ.out).1
  have h2:=HOK.out.signals
  omega
 have HV2:=Jh (valsOk_val2 HQ.out)
 clear hph hpt
 generalize hgc:pk.clocked=ck at *
 go_upto_region 3 with (first | ((with_reducible show Jl 26);refine Jm 26 (d0) agg_Flat rfl ?_) | (go_at_call 8;refine (HCK.out w0 HX.out).mono ?_;rintro r w1 ⟨rfl,hx1⟩;have d2:=(HD.out.ext hx1).has) | ((with_reducible show Jl 26);refine Jm 26 (d2) agg_Flat rfl ?_) | (go_at_call 22;refine (HVA.out w1 (HX.out.trans hx1)).mono ?_;rintro r w2 ⟨rfl,hx2⟩;have d3:=(HD.out.ext (hx1.trans hx2)).has 1 _ rfl))
 have X2:=Jh (HX.out.trans (hx1.trans hx2))
 have HD2:=Jh (HD.out.ext (hx1.trans hx2))
 clear hx1 hx2 d0 d1 d2 d3 HX HD HCK HVA
 refine Jg w2 fun hH=>?_
 try simp only [J]
 (refine Jt 0 (.agg [Value.slice a0 d.signals.length c0,.slice (some ⟨bp,op,none⟩) d.procs.length cp,.slice ac d.checks.length cc].toArray) rfl (yif_load rfl 26 _ rfl rfl (fun W hW=>(HD2.out.ext hW).has) agg_Flat rfl) hH ?_;try simp only [J])
 (refine Jt 1 (.slice av vs.length capv) rfl (yif_load1 rfl fun _ _=>rfl) hH ?_;try simp only [J])
 (refine Jt 2 (.slice av vs.length capv) rfl (yif_load1 rfl fun _ _=>rfl) hH ?_;try simp only [J])
 (refine Jt 4 (.pointer (some ⟨w.heap.size,1,none⟩)) rfl (yif_load1 rfl (by intro W hW;clear hW;go_simp)) hH ?_;try simp only [J])
 (refine Jt 5 (.slice (some ⟨bp,op,none⟩) d.procs.length cp) rfl (yif_load1 rfl (by intro W hW;have z:=(HD2.out.ext hW).has 1 _ rfl;clear hW;go_simp)) hH ?_;try simp only [J])
 (refine Jt 6 (.int .i64 (k:Int)) rfl (yif_load1 rfl fun _ _=>rfl) hH ?_;try simp only [J])
 (refine Jt 7 (.pointer (some ⟨bp,op+k*2,none⟩)) rfl (yif_load1 rfl (by intro W hW;clear hW;go_simp;try (intro h;omega))) hH ?_;try simp only [J])
 (refine Jt 8 (.pointer (some ⟨bp,op+k*2,none⟩)) rfl (yif_load1 rfl (by intro W hW;clear hW;go_simp)) hH ?_;try simp only [J])
 (refine Jt 9 (.bool ck) rfl (yif_load1 rfl (by intro W hW;have z:=(HPH.out W (X2.out.trans hW)) 0 _ rfl;rw [hgc,Nat.add_zero] at z;clear hW;go_simp)) hH ?_;try simp only [J])
 (refine Jr 3 rfl fun K hK=>?_)
 go_simp
 have hwb:Ext w w2.drew:=X2.out.trans hH
 refine (CloneW_calls vs _ _ (HUS.out _ hwb) hvl).mono ?_
 rintro r w3 ⟨u,rfl,hr3,hx3⟩
 refine hK.out _ _ (hH.trans hx3) (fun hH=>?_)
 clear hK K
 obtain ⟨au,cu,rfl,-⟩:=hr3.open
 try simp only [J]
 (refine Jt 10 (.agg [Value.slice a0 d.signals.length c0,.slice (some ⟨bp,op,none⟩) d.procs.length cp,.slice ac d.checks.length cc,.slice av vs.length capv,.slice au vs.length cu,.bool ck].toArray) rfl (yif_load1 rfl (by intro W hW;clear hW;go_simp)) hH ?_;try simp only [J])
 (refine Jr 11 rfl fun K hK=>?_)
 go_simp
 have x4:=ext_alloc w3 (.cells (plCells (.slice a0 d.signals.length c0) (.slice (some ⟨bp,op,none⟩) d.procs.length cp) (.slice ac d.checks.length cc) (.slice av vs.length capv) (.slice au vs.length cu) ck).toArray 65)
 have hb4:=Blk.new w3 (plCells (.slice a0 d.signals.length c0) (.slice (some ⟨bp,op,none⟩) d.procs.length cp) (.slice ac d.checks.length cc) (.slice av vs.length capv) (.slice au vs.length cu) ck).toArray 65
 refine hK.out _ _ (hH.trans x4) (fun hH=>?_)
 clear hK K
 try simp only [J]
 obtain ⟨P,hP⟩:∃ P,w3.heap.size=P:=⟨_,rfl⟩
 rw [hP] at hb4 ⊢
 have HPL:Pl d (.slice a0 d.signals.length c0) (.slice (some ⟨bp,op,none⟩) d.procs.length cp) (.slice ac d.checks.length cc) (.slice av vs.length capv) vs w2.drew:=⟨HOK.out,HC0.out,HF.out _ hwb,HUS.out _ hwb,HV2.out⟩
 have hPW:PlW d (.slice a0 d.signals.length c0) (.slice (some ⟨bp,op,none⟩) d.procs.length cp) (.slice ac d.checks.length cc) (.slice av vs.length capv) (.slice au vs.length cu) ck P w2.drew vs _:=⟨hx3.trans x4,HV2.out,hr3.ext x4,hb4⟩
 have hall:=plAll_of (nv:=.slice au vs.length cu) (ck:=ck) (P:=P) HPL pk.l hll (fun t ht=>⟨(pl_said HPL t (HRO.out t ht) (Nat.le_trans (le_sumBy nodesT pk.l t ht) HNS.out)).1,HRO.out t ht⟩) vs _ _ hPW (HPT.out _ hwb)
 have HALL:=Jh hall
 have HPW:=Jh hPW
 have hwz:=hwb.size
 have HX4:=Jh (hwb.trans (hx3.trans x4))
 have HGE:=Jh hwb.size
 clear hP hb4 hPW hall HPL x4 hx3 hr3 hwb hwz
 generalize w3.alloc _=w4 at *
 (refine Jt 12 (.pointer (some ⟨P,0,none⟩)) rfl (yif_load1 rfl fun _ _=>rfl) hH ?_;try simp only [J])
 refine Jz ?_
 have HD4:=Jh (HD2.out.ext hH)
 clear hH
 have z1:=HD4.out.has 1 _ rfl
 have p1:=(HPH.out _ HX4.out) 1 _ rfl
 generalize w2.drew=wb at *
 go_upto_region 5 with (first | (go_at_call 24;refine (HALL.out).mono ?_;rintro r w5 ⟨rfl,hr5,hg5⟩))
 have q4:=(HPW.out.blk.grownR hg5 (fun k hk=>HPW.out.row.ne HPW.out.blk (by decide) hk)).has 4 _ rfl
 have HX5:=Jh (Below.grown HX4.out hg5 HX4.out.size (fun k hk=>Nat.le_trans HGE.out (hr5.at hk).1))
 have HR5:=Jh (hr5.less HGE.out)
 clear hg5 hr5 p1 z1
 go_wp2_with ((with_reducible show bodyPost _ _ _ _ _ _);refine Hid.out ?_)
 refine Jh ?_
 refine bodyPost_ret (v:=.tuple #[.slice au vs.length cu,.int .i64 0]) (by simp [results,Tryz.results9,go_sem]) rfl ⟨_,by rw [HR.out],by rw [HR.out];exact HR5.out,HX5.out⟩
end Go.Proofs.YtpngepnfinbaoaaGreat
