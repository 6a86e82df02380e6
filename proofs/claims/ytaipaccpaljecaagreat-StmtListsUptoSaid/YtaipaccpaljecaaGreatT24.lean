/- Laws and walks that a claim of this seat leans on: Play4, Clone, Run, WordsF, MarkB. -/
import Derived.Test.YtaipaccpaljecaaGreatT23
import Derived.Test.YtaipaccpaljecaaGreatT03
import Derived.Test.YtaipaccpaljecaaGreatT13
import Derived.Test.YtaipaccpaljecaaGreatT00
set_option linter.all false
namespace Go.Proofs.YtaipaccpaljecaaGreat
open Go.RowKit
theorem arm_idx {l:List T} (h:0 < l.length) (x:Int):(idxOf (fun a:T=>a.e.any fun e=>decide (e.v=x)) l < 0→armM l x=l.length - 1)∧(0 ≤ idxOf (fun a:T=>a.e.any fun e=>decide (e.v=x)) l→idxOf (fun a:T=>a.e.any fun e=>decide (e.v=x)) l=(armM l x:Int)):=by
 unfold idxOf armM
 by_cases c:l.any (fun a:T=>a.e.any fun e=>decide (e.v=x))=true
 ·rw [if_pos c]
  have hlt:l.findIdx (fun a:T=>a.e.any fun e=>decide (e.v=x)) < l.length:=List.findIdx_lt_length.2 (by simpa using List.any_eq_true.1 c)
  generalize l.findIdx _=k at *
  exact ⟨fun h=>by omega,fun _=>by rw [Nat.min_eq_left (by omega)]⟩
 ·rw [if_neg c]
  have hge:l.findIdx (fun a:T=>a.e.any fun e=>decide (e.v=x))=l.length:=List.findIdx_eq_length.2 (by
   intro a ha
   have:=List.any_eq_false.1 (by simpa using c:l.any (fun a:T=>a.e.any fun e=>decide (e.v=x))=false) a ha
   simpa using this)
  rw [hge]
  exact ⟨fun _=>by omega,fun h=>by omega⟩
set_option maxRecDepth 100000 in
set_option maxHeartbeats 2000000 in
theorem plOne_block {d:Flat} {sv pv cv wasv nv:Value} {was:List Nat} {ck:Bool} {P:Nat} {wb:World} {t:T} (ho:t.op=4 ∨ t.op=5) (hall:PlAll d sv pv cv wasv nv was ck P wb t.l):PlSaid d sv pv cv wasv nv was ck P wb t:=by
 intro v cs w hW hV
 have hone:=oneM_4 ck was (t:=t) v ho
 obtain ⟨se,sl,rfl,he,hl⟩:=hV
 have hall':=hall v sl
 obtain ⟨ae,be,oe,ce,rfl,-,-,-,-⟩:=he.open
 obtain ⟨al,bl,ol,cl,rfl,-,-,-,-⟩:=hl.open
 have x0:=ext_alloc w (.cells (t.cells (.slice ae t.e.length ce) (.slice al t.l.length cl)).toArray 60)
 have hT:=Blk.new w (t.cells (.slice ae t.e.length ce) (.slice al t.l.length cl)).toArray 60
 have HALL:=Lib.hid (hall' _ (hW.ext' x0) hl)
 rw [hone]
 have b1:(t.op == 1)=false:=by rw [beq_eq_false_iff_ne];omega
 have b2:(t.op == 2)=false:=by rw [beq_eq_false_iff_ne];omega
 have b3:(t.op == 3)=false:=by rw [beq_eq_false_iff_ne];omega
 clear hone ho he hl hall hall' hW
 go_enter Tryz.func86,Tryz.ntmps86
 go_upto_region 1 with fail
 generalize w.alloc _=w0 at *
 have y0:=hT.has 0 _ rfl
 have y5:=hT.has 5 _ rfl
 go_wp2_with (first | (go_at_call 55;refine (HALL.out).mono ?_;rintro r w1 ⟨rfl,hr1,hg1⟩))
 all_goals go_end0
 exact ⟨rfl,hr1,gbR_trans (gbR_ext x0 _) hg1⟩
set_option maxRecDepth 100000 in
set_option maxHeartbeats 4000000 in
theorem plOne_if {d:Flat} {sv pv cv wasv nv:Value} {was:List Nat} {ck:Bool} {P:Nat} {wb:World} (H:Pl d sv pv cv wasv was wb) {t:T} (hr:RunOk d.signals ck t) (ho:t.op=2) (hall:∀ x ∈ t.l,PlAll d sv pv cv wasv nv was ck P wb x.l):PlSaid d sv pv cv wasv nv was ck P wb t:=by
 intro v cs w hW hV
 obtain ⟨h1,h2,-⟩:=(RunOk_iff _ _ t).1 hr
 obtain ⟨⟨x,hx⟩,ta,tb,hab⟩ : (∃ x,t.e=[x])∧∃ a b,t.l=[a,b]:=by
  rcases h2 with ⟨o,-⟩ | ⟨-,⟨x,hx,-⟩,hab⟩ | ⟨o,-⟩ | o | o
  ·omega
  ·exact ⟨⟨x,hx⟩,hab⟩
  all_goals omega
 have hx1:=h1 x (by simp [hx])
 have hone:oneM ck was t v=if evM (if ck then was else v) x=0 then allM ck was tb.l v else allM ck was ta.l v:=by
  rw [oneM_2 ck was v ho,hx,hab]
  show oneM.nthM ck was [ta,tb] (if evM (if ck then was else v) x=0 then 1 else 0) v=_
  by_cases c:evM (if ck then was else v) x=0
  ·rw [if_pos c,if_pos c,nthM_eq ck was _ 1 v (by simp)];rfl
  ·rw [if_neg c,if_neg c,nthM_eq ck was _ 0 v (by simp)];rfl
 have hA:=hall ta (by simp [hab])
 have hB:=hall tb (by simp [hab])
 obtain ⟨se,sl,rfl,he,hl⟩:=hV
 obtain ⟨ae,be,oe,ce,rfl,hce1,hce2,hae,her⟩:=he.open
 obtain ⟨al,bl,ol,cl,rfl,hcl1,hcl2,hal,hlr⟩:=hl.open
 rw [hx] at hce1 hae her
 rw [hab] at hcl1 hal hlr
 obtain rfl:=hae (by simp)
 obtain rfl:=hal (by simp)
 obtain ⟨sx,hxh,hxs⟩:=Es.get her (k:=0) (by simp)
 have hxh:Has wb be oe (x.cells sx):=by simpa using hxh
 have hxs:Es wb sx x.l:=by simpa using hxs
 obtain ⟨ea,la,hah,hae',hal'⟩:=Ts.get hlr (k:=0) (by simp)
 have hah:Has wb bl ol (ta.cells ea la):=by simpa using hah
 have hae':Es wb ea ta.e:=hae'
 have hal':Ts wb la ta.l:=hal'
 obtain ⟨eb,lb,hbh,hbe',hbl'⟩:=Ts.get hlr (k:=1) (by simp)
 have hbh:Has wb bl (ol + 6) (tb.cells eb lb):=by simpa using hbh
 have hbe':Es wb eb tb.e:=hbe'
 have hbl':Ts wb lb tb.l:=hbl'
 have HALA:=Lib.hid (fun W (h:PlW d sv pv cv wasv nv ck P wb v W)=>hA v la W h hal')
 have HALB:=Lib.hid (fun W (h:PlW d sv pv cv wasv nv ck P wb v W)=>hB v lb W h hbl')
 have oa:(ta.cells ea la).all (·.oneCell')=true:=by simp [hae'.one,hal'.one,one_int]
 have ob:(tb.cells eb lb).all (·.oneCell')=true:=by simp [hbe'.one,hbl'.one,one_int]
 obtain ⟨aaa,baa,oaa,caa,rfl,-,-,-,-⟩:=hal'.open
 obtain ⟨aab,bab,oab,cab,rfl,-,-,-,-⟩:=hbl'.open
 have htc:t.cells (.slice (some ⟨be,oe,none⟩) t.e.length ce) (.slice (some ⟨bl,ol,none⟩) t.l.length cl)=[.int .i64 2,.int .i64 t.sig,.int .i64 t.hi,.int .i64 t.lo,.slice (some ⟨be,oe,none⟩) 1 ce,.slice (some ⟨bl,ol,none⟩) 2 cl]:=by
  unfold T.cells;rw [ho,hx,hab];rfl
 rw [htc,hone]
 have x0:=ext_alloc w (.cells [.int .i64 2,.int .i64 t.sig,.int .i64 t.hi,.int .i64 t.lo,.slice (some ⟨be,oe,none⟩) 1 ce,.slice (some ⟨bl,ol,none⟩) 2 cl].toArray 60)
 have hT:=Blk.new w [.int .i64 2,.int .i64 t.sig,.int .i64 t.hi,.int .i64 t.lo,.slice (some ⟨be,oe,none⟩) 1 ce,.slice (some ⟨bl,ol,none⟩) 2 cl].toArray 60
 have HW:=Lib.hid (fun W (h:Ext w W)=>hW.ext' h)
 have HVAL:=Lib.hid (fun W (h:Ext w W)=>plVal H (hW.ext' h) x _ ⟨sx,rfl,hxs.ext (hW.ext.trans h)⟩ hx1)
 have HXH:=Lib.hid (fun W (h:Ext w W)=>hxh.ext (hW.ext.trans h))
 have HAH:=Lib.hid (fun W (h:Ext w W)=>hah.ext (hW.ext.trans h))
 have HBH:=Lib.hid (fun W (h:Ext w W)=>hbh.ext (hW.ext.trans h))
 clear hone h1 h2 hx hab hx1 hA hB he hl hce1 hce2 hcl1 hcl2 hae hal her hlr hxh hxs hah hbh hae' hal' hbe' hbl' htc hr ho hall hW
 generalize evM (if ck then was else v) x=X at *
 obtain ⟨R,hR⟩ : ∃ R,(if X=0 then allM ck was tb.l v else allM ck was ta.l v)=R:=⟨_,rfl⟩
 have HR:=Lib.hid hR
 rw [hR]
 clear hR
 have hsz:(w.alloc (.cells [.int .i64 2,.int .i64 t.sig,.int .i64 t.hi,.int .i64 t.lo,.slice (some ⟨be,oe,none⟩) 1 ce,.slice (some ⟨bl,ol,none⟩) 2 cl].toArray 60)).heap.size=w.heap.size + 1:=by simp
 have HSZ:=Lib.hid hsz
 clear hsz
 go_enter Tryz.func86,Tryz.ntmps86
 go_upto_region 1 with fail
 generalize w.alloc _=w0 at *
 have HT:=Lib.hid hT
 have y0:=hT.has 0 _ rfl
 have y5:=hT.has 5 _ rfl
 have eb1:=HBH.out w0 x0
 have x2:=ext_alloc w0 (.cells (tb.cells eb (.slice aab tb.l.length cab)).toArray 60)
 have hb6:=Blk.new w0 (tb.cells eb (.slice aab tb.l.length cab)).toArray 60
 have X2:=Lib.hid (x0.trans x2)
 have HT2:=Lib.hid (hT.ext x2)
 have HB6:=Lib.hid hb6
 clear hT x0 x2 hb6
 go_upto_region 9 with (first | ((with_reducible show Jw (Op.load 60 _));refine wpList_load_has rfl 60 _ rfl rfl (eb1) agg_T rfl ?_) | ((with_reducible show Jw (Op.store 60 _ _));refine wpList_store_new rfl 60 _ _ rfl rfl (by first | rfl | simp) rfl agg_T (rfl) rfl (ob) ?_))
 clear y0 y5 eb1
 obtain ⟨B6,hB6⟩ : ∃ B,w0.heap.size=B:=⟨_,rfl⟩
 rw [hB6] at HB6 ⊢
 have HLE:=Lib.hid (show w.heap.size ≤ B6 by have:=HSZ.out;omega)
 clear hB6
 generalize w0.alloc _=w2 at *
 have z4:=HT2.out.has 4 _ rfl
 have ex1:=HXH.out w2 X2.out
 have HV2:=Lib.hid (HVAL.out w2 X2.out)
 by_cases hX0:X=0
 ·have c0:((X:Int) != 0)=false:=by rw [bne_eq_false_iff_eq];omega
  obtain rfl:allM ck was tb.l v=R:=by rw [← HR.out,if_pos hX0]
  clear hX0
  go_upto_region 11 with (first | ((with_reducible show Jw (Op.load 64 _));refine wpList_load_has rfl 64 _ rfl rfl (ex1) agg_E rfl ?_) | (go_at_call 135;refine (HV2.out).mono ?_;rintro r w3 ⟨rfl,hx3⟩))
  have X3:=Lib.hid (X2.out.trans hx3)
  have q5:=(HB6.out.ext hx3).has 5 _ rfl
  have HC:=Lib.hid (HALB.out w3 (HW.out w3 X3.out))
  clear hx3 z4 ex1
  go_wp2_with (first | (go_at_call 55;refine (HC.out).mono ?_;rintro r w4 ⟨rfl,hr4,hg4⟩))
  all_goals go_end0
  exact ⟨rfl,hr4,gbR_trans (gbR_ext X3.out _) hg4⟩
 ·have c0:((X:Int) != 0)=true:=by rw [bne_iff_ne];omega
  obtain rfl:allM ck was ta.l v=R:=by rw [← HR.out,if_neg hX0]
  clear hX0
  go_upto_region 10 with (first | ((with_reducible show Jw (Op.load 64 _));refine wpList_load_has rfl 64 _ rfl rfl (ex1) agg_E rfl ?_) | (go_at_call 135;refine (HV2.out).mono ?_;rintro r w3 ⟨rfl,hx3⟩))
  have X3:=Lib.hid (X2.out.trans hx3)
  have HB63:=Lib.hid (HB6.out.ext hx3)
  have z5:=(HT2.out.ext hx3).has 5 _ rfl
  have ea1:=HAH.out w3 X3.out
  clear hx3 z4 ex1
  go_upto_region 11 with (first | ((with_reducible show Jw (Op.load 60 _));refine wpList_load_has rfl 60 _ rfl rfl (ea1) agg_T rfl ?_) | ((with_reducible show Jw (Op.store 60 _ _));refine wpList_store_blk rfl 60 _ _ rfl (HB63.out) rfl (cs:=ta.cells ea (.slice aaa ta.l.length caa)) (rfl) agg_T (rfl) rfl (oa) ?_;intro w4 hb4 hg4))
  have X4:=Lib.hid (X3.out.grown hg4 HLE.out)
  have q5:=hb4.has 5 _ rfl
  have HC:=Lib.hid (HALA.out w4 (HW.out w4 X4.out))
  clear hb4 hg4 ea1 z5
  go_wp2_with (first | (go_at_call 55;refine (HC.out).mono ?_;rintro r w5 ⟨rfl,hr5,hg5⟩))
  all_goals go_end0
  exact ⟨rfl,hr5,gbR_trans (gbR_ext X4.out _) hg5⟩
set_option maxRecDepth 100000 in
set_option maxHeartbeats 4000000 in
theorem plOne_case {d:Flat} {sv pv cv wasv nv:Value} {was:List Nat} {ck:Bool} {P:Nat} {wb:World} (H:Pl d sv pv cv wasv was wb) {t:T} (hr:RunOk d.signals ck t) (hln:t.l.length ≤ 1048576) (ho:t.op=3) (hall:∀ x ∈ t.l,PlAll d sv pv cv wasv nv was ck P wb x.l):PlSaid d sv pv cv wasv nv was ck P wb t:=by
 intro v cs w hW hV
 obtain ⟨h1,h2,-⟩:=(RunOk_iff _ _ t).1 hr
 obtain ⟨⟨x,hx⟩,hl0⟩ : (∃ x,t.e=[x])∧0 < t.l.length:=by
  rcases h2 with ⟨o,-⟩ | ⟨o,-⟩ | ⟨-,hx,h,-⟩ | o | o
  ·omega
  ·omega
  ·exact ⟨hx,h⟩
  all_goals omega
 have hx1:=h1 x (by simp [hx])
 obtain ⟨X,hXX⟩ : ∃ X,evM (if ck then was else v) x=X:=⟨_,rfl⟩
 obtain ⟨K,hK⟩ : ∃ K,armM t.l (X:Int)=K:=⟨_,rfl⟩
 have hKl:K < t.l.length:=by rw [← hK];exact armM_lt hl0 _
 have hone:oneM ck was t v=allM ck was t.l[K].l v:=by
  rw [oneM_3 ck was v ho,hx]
  show oneM.nthM ck was t.l (armM t.l (evM (if ck then was else v) x)) v=_
  rw [hXX,hK,nthM_eq ck was _ K v hKl]
 have harm:=arm_idx hl0 (X:Int)
 rw [hK] at harm
 obtain ⟨se,sl,rfl,he,hl⟩:=hV
 have HIX:=Lib.hid (fun B W (h:Ext wb W) (hb:Blk W B #[.int .u64 (X:Int)] 34)=>plArm_calls B (X:Int) t.l sl W hb (hl.ext h))
 obtain ⟨ae,be,oe,ce,rfl,hce1,hce2,hae,her⟩:=he.open
 obtain ⟨al,bl,ol,cl,rfl,hcl1,hcl2,hal,hlr⟩:=hl.open
 rw [hx] at hce1 hae her
 obtain rfl:=hae (by simp)
 obtain rfl:=hal hl0
 obtain ⟨sx,hxh,hxs⟩:=Es.get her (k:=0) (by simp)
 have hxh:Has wb be oe (x.cells sx):=by simpa using hxh
 have hxs:Es wb sx x.l:=by simpa using hxs
 obtain ⟨ea,la,hah,hae',hal'⟩:=Ts.get hlr hKl
 have hA:=hall _ (List.getElem_mem hKl)
 generalize t.l[K]=ta at *
 have HALA:=Lib.hid (fun W (h:PlW d sv pv cv wasv nv ck P wb v W)=>hA v la W h hal')
 obtain ⟨aaa,baa,oaa,caa,rfl,-,-,-,-⟩:=hal'.open
 have htc:t.cells (.slice (some ⟨be,oe,none⟩) t.e.length ce) (.slice (some ⟨bl,ol,none⟩) t.l.length cl)=[.int .i64 3,.int .i64 t.sig,.int .i64 t.hi,.int .i64 t.lo,.slice (some ⟨be,oe,none⟩) 1 ce,.slice (some ⟨bl,ol,none⟩) t.l.length cl]:=by
  unfold T.cells;rw [ho,hx];rfl
 rw [htc,hone]
 have x0:=ext_alloc w (.cells [.int .i64 3,.int .i64 t.sig,.int .i64 t.hi,.int .i64 t.lo,.slice (some ⟨be,oe,none⟩) 1 ce,.slice (some ⟨bl,ol,none⟩) t.l.length cl].toArray 60)
 have hT:=Blk.new w [.int .i64 3,.int .i64 t.sig,.int .i64 t.hi,.int .i64 t.lo,.slice (some ⟨be,oe,none⟩) 1 ce,.slice (some ⟨bl,ol,none⟩) t.l.length cl].toArray 60
 have HW:=Lib.hid (fun W (h:Ext w W)=>hW.ext' h)
 have HVAL:=Lib.hid (fun W (h:Ext w W)=>hXX ▸ plVal H (hW.ext' h) x _ ⟨sx,rfl,hxs.ext (hW.ext.trans h)⟩ hx1)
 have HXH:=Lib.hid (fun W (h:Ext w W)=>hxh.ext (hW.ext.trans h))
 have HAH:=Lib.hid (fun W (h:Ext w W)=>hah.ext (hW.ext.trans h))
 have HXB:=Lib.hid hW.ext
 obtain ⟨I,hI⟩ : ∃ I,idxOf (fun a:T=>a.e.any fun e=>decide (e.v=(X:Int))) t.l=I:=⟨_,rfl⟩
 have hIl:=idxOf_lt (p:=fun a:T=>a.e.any fun e=>decide (e.v=(X:Int))) (l:=t.l)
 rw [hI] at HIX harm hIl
 have HARM:=Lib.hid harm
 obtain ⟨n,hn⟩ : ∃ n,t.l.length=n:=⟨_,rfl⟩
 rw [hn] at HARM hKl hl0 hIl x0 hT hcl1 hln ⊢
 rw [hn] at HIX
 clear hone h1 h2 hx hx1 hA he hl hce1 hce2 hcl2 hae hal her hlr hxh hxs hah hae' hal' htc hr ho hall hW hXX hK hI hn harm
 go_enter Tryz.func86,Tryz.ntmps86
 go_upto_region 1 with fail
 generalize w.alloc _=w0 at *
 have HT:=Lib.hid hT
 have y0:=hT.has 0 _ rfl
 have y4:=hT.has 4 _ rfl
 have ex1:=HXH.out w0 x0
 have HV0:=Lib.hid (HVAL.out w0 x0)
 have X0:=Lib.hid x0
 clear hT x0
 go_upto_region 13 with fail
 clear y0
 go_upto_region 14 with (first | ((with_reducible show Jw (Op.load 64 _));refine wpList_load_has rfl 64 _ rfl rfl (ex1) agg_E rfl ?_) | (go_at_call 135;refine HV0.out.mono ?_;rintro r w1 ⟨rfl,hx1⟩;have X1:=Lib.hid (X0.out.trans hx1);have HT1:=Lib.hid (HT.out.ext hx1);have x2:=ext_alloc w1 (.cells #[.int .u64 (X:Int)] 34);have hb7:=Blk.new w1 #[.int .u64 (X:Int)] 34))
 have X2:=Lib.hid (X1.out.trans x2)
 have HT2:=Lib.hid (HT1.out.ext x2)
 have HB7:=Lib.hid hb7
 clear hx1 ex1 y4 x2 hb7
 obtain ⟨B7,hB7⟩ : ∃ B,w1.heap.size=B:=⟨_,rfl⟩
 rw [hB7] at HB7 ⊢
 clear hB7
 generalize w1.alloc _=w2 at *
 have HI2:=Lib.hid (HIX.out B7 w2 (HXB.out.trans X2.out) HB7.out)
 have z5:=HT2.out.has 5 _ rfl
 by_cases hI0:I < 0
 ·have hKn:=HARM.out.1 hI0
  obtain rfl:n=K + 1:=by omega
  have b0:decide (I < 0)=true:=decide_eq_true hI0
  clear hKn hI0
  go_upto_region 17 with (first | (go_at_call 136;refine HI2.out.mono ?_;rintro r w3 ⟨rfl,hx3⟩;have X3:=Lib.hid (X2.out.trans hx3);have q5:=(HT2.out.ext hx3).has 5 _ rfl))
  have e5:=(HAH.out w3 X3.out) 5 _ rfl
  have HC:=Lib.hid (HALA.out w3 (HW.out w3 X3.out))
  clear hx3 z5
  go_wp2_with (first | (go_at_call 55;refine (HC.out).mono ?_;rintro r w4 ⟨rfl,hr4,hg4⟩))
  all_goals go_end0
  exact ⟨rfl,hr4,gbR_trans (gbR_ext X3.out _) hg4⟩
 ·obtain rfl:=HARM.out.2 (by omega)
  have b0:decide ((K:Int) < 0)=false:=decide_eq_false hI0
  clear hI0
  go_upto_region 17 with (first | (go_at_call 136;refine HI2.out.mono ?_;rintro r w3 ⟨rfl,hx3⟩;have X3:=Lib.hid (X2.out.trans hx3);have q5:=(HT2.out.ext hx3).has 5 _ rfl))
  have e5:=(HAH.out w3 X3.out) 5 _ rfl
  have HC:=Lib.hid (HALA.out w3 (HW.out w3 X3.out))
  clear hx3 z5
  go_wp2_with (first | (go_at_call 55;refine (HC.out).mono ?_;rintro r w4 ⟨rfl,hr4,hg4⟩))
  all_goals go_end0
  exact ⟨rfl,hr4,gbR_trans (gbR_ext X3.out _) hg4⟩
theorem pl_said {d:Flat} {sv pv cv wasv nv:Value} {was:List Nat} {ck:Bool} {P:Nat} {wb:World} (H:Pl d sv pv cv wasv was wb) (t:T):RunOk d.signals ck t→nodesT t ≤ 1048576→PlSaid d sv pv cv wasv nv was ck P wb t∧PlAll d sv pv cv wasv nv was ck P wb t.l:=by
 induction t using T.ind with
 | h t ih =>
  intro hr hn
  have hr':=(RunOk_iff _ _ t).1 hr
  have hne:=nodesT_eq t
  have hlen:t.l.length ≤ 1048576:=by have:=length_le_sumBy nodesT t.l (fun x _=>nodesT_pos x);omega
  have hsub:∀ x ∈ t.l,PlSaid d sv pv cv wasv nv was ck P wb x∧PlAll d sv pv cv wasv nv was ck P wb x.l:=fun x hx=>ih x hx (hr'.2.2 x hx) (by have:=le_sumBy nodesT t.l x hx;omega)
  have hall:PlAll d sv pv cv wasv nv was ck P wb t.l:=plAll_of H t.l hlen fun x hx=>⟨(hsub x hx).1,hr'.2.2 x hx⟩
  refine ⟨?_,hall⟩
  rcases hr'.2.1 with ⟨o,-⟩ | ⟨o,-⟩ | ⟨o,-⟩ | o | o
  ·exact plOne_set H hr o
  ·exact plOne_if H hr o fun x hx=>(hsub x hx).2
  ·exact plOne_case H hr hlen o fun x hx=>(hsub x hx).2
  ·exact plOne_block (.inl o) hall
  ·exact plOne_block (.inr o) hall
open Go.RowKit
set_option maxHeartbeats 800000 in
theorem CloneW_calls (l:List Nat) (s:Value) (w:World) (h:Us w s l) (hl:l.length ≤ 1048576) :
  Calls Tryz.prog 54 #[s] w fun r w'=>∃ u,r=.returned u∧WordRow w.heap.size u l w'∧Ext w w':=by
 have HX:=Lib.hid (ext_alloc w (.cells #[] 34))
 have HN:=Lib.hid (h.ext HX.out)
 have HROW:=Lib.hid (WordRow.bs0 w (N:=w.heap.size) (Nat.le_refl _))
 obtain ⟨a,b,o,cap,rfl,hc1,hc2,ha,hr⟩:=h.open
 have hnil:=fun W=>Lib.run_eql_slice_nil (P:=Tryz.prog) W 41 34 a l.length cap 0 0 Tryz.underlying41
 cases a with
 | none =>
  have h0:l.length=0:=by
   by_cases hh:0 < l.length
   ·have:=ha hh;cases this
   ·omega
  have H0:=Lib.hid h0
  clear h0 ha hr h HX HN HROW
  go_enter Tryz.func54,Tryz.ntmps54
  go_wp2_with fail
  go_ret
  obtain rfl:l=[]:=List.eq_nil_of_length_eq_zero H0.out
  exact ⟨_,rfl,WordRow.nil _ _,Below.refl _ _⟩
 | some ad =>
  clear hr ha h
  go_enter Tryz.func54,Tryz.ntmps54
  go_wp2_with (first | ((with_reducible show Jw (Op.buildSlice _ _ _));refine wpList_bs0 rfl _ rfl appWord ?_) | ((with_reducible show Jw (Op.call { callee:=.builtin .append,args:=_,argTypes:=_ }));refine wpList_appW rfl _ _ rfl rfl HROW.out rfl HN.out (by simp;omega) (by simp) ?_;intro v4 w4 hrow4 hg4))
  go_ret
  exact ⟨_,rfl,by simpa using hrow4,Below.grown HX.out hg4 HX.out.size (fun k hk=>by cases hk;exact Nat.le_refl _)⟩
open Go.RowKit
theorem runM_no {d:Flat} {vs:List Nat} {p:Int} (h : ¬ (valsOk d vs=true∧0 ≤ p∧p < d.procs.length)):runM d vs p=([],1):=by unfold runM;rw [if_neg h]
theorem runM_yes {d:Flat} {vs:List Nat} {p:Int} (h:valsOk d vs=true∧0 ≤ p∧p < d.procs.length):runM d vs p=(allM ((d.procs[p.toNat]?.map (·.clocked)).getD false) vs (procL d p) vs,0):=by unfold runM;rw [if_pos h]
set_option maxRecDepth 100000 in
set_option maxHeartbeats 4000000 in
theorem Run_calls (d:Flat) (v:Value) (vs:List Nat) (s:Value) (p:Int) (w:World) (hF:FlatV w v d) (hok:d.ok) (hs:Us w s vs) (h64:us64 vs) (hp:i64r p) :
  Calls Tryz.prog 23 #[v,s,.int .i64 p] w fun r w'=>∃ u,r=.returned (.tuple #[u,.int .i64 (runM d vs p).2])∧WordRow w.heap.size u (runM d vs p).1 w'∧Ext w w':=by
 have HF:=Lib.hid (fun W (h:Ext w W)=>hF.ext h)
 have HCK:=Lib.hid (fun W (h:Ext w W)=>Check_calls d v W (hF.ext h) hok)
 have HVA:=Lib.hid (fun W (h:Ext w W)=>Values_calls d v vs s W (hF.ext h) hok (hs.ext h) h64)
 have HUS:=Lib.hid (fun W (h:Ext w W)=>hs.ext h)
 have hln:=hok.procs
 obtain ⟨sv,pv,cv,rfl,hS,hP,hC⟩:=hF
 have hone : [sv,pv,cv].all (·.oneCell')=true:=by simp [hS.one,hP.one,hC.one]
 have HPR:=Lib.hid (fun W (h:Ext w W)=>hP.ext h)
 obtain ⟨a0,b0,o0,c0,rfl,-,-,-,-⟩:=hS.open
 obtain ⟨ap,bp,op,cp,rfl,hp1,hp2,hap,hpr⟩:=hP.open
 obtain ⟨ac,bc,oc,cc,rfl,-,-,-,-⟩:=hC.open
 obtain ⟨av,bv,ov,capv,rfl,-,-,-,-⟩:=hs.open
 have hX:=ext_alloc w (.cells [Value.slice a0 d.signals.length c0,.slice ap d.procs.length cp,.slice ac d.checks.length cc].toArray 26)
 have hD:=Blk.new w [Value.slice a0 d.signals.length c0,.slice ap d.procs.length cp,.slice ac d.checks.length cc].toArray 26
 have HAP:=Lib.hid hap
 have HPP:=Lib.hid hpr
 have HOK:=Lib.hid hok
 have HPI:=Lib.hid hp
 clear hS hP hC hs hap hpr hok
 unfold i64r at hp
 go_enter Tryz.func23,Tryz.ntmps23
 go_upto_region 1 with fail
 generalize w.alloc _=w0 at *
 have HD:=Lib.hid hD
 have HX:=Lib.hid hX
 have d0:=hD.has
 have d1:=hD.has 1 _ rfl
 clear hD hX
 by_cases hck:checkM d=0
 case neg =>
  have c1:(checkM d != 0)=true:=by rw [bne_iff_ne];exact hck
  have HR:=Lib.hid (runM_no (d:=d) (vs:=vs) (p:=p) (fun h=>hck (by have:=h.1;unfold valsOk at this;simp only [Bool.and_eq_true,decide_eq_true_eq] at this;exact this.2.1)))
  clear hck
  go_wp2_with (first | ((with_reducible show Jw (Op.load 26 _));refine wpList_load_has rfl 26 _ rfl rfl (d0) agg_Flat rfl ?_) | (go_at_call 39;refine (HCK.out w0 HX.out).mono ?_;rintro r w1 ⟨rfl,hx1⟩))
  refine bodyPost_ret (v:=.tuple #[.slice none 0 0,.int .i64 1]) (by simp [results,Tryz.results23,go_sem]) rfl ⟨_,by rw [HR.out],by rw [HR.out];exact WordRow.nil _ _,HX.out.trans hx1⟩
 have HC0:=Lib.hid hck
 rw [hck] at HCK
 obtain ⟨q,hq⟩ : ∃ q,valsOk d vs=q:=⟨_,rfl⟩
 have HQ:=Lib.hid hq
 rw [hq] at HVA
 clear hq hck
 cases q
 case false =>
  have HR:=Lib.hid (runM_no (d:=d) (vs:=vs) (p:=p) (fun h=>by rw [HQ.out] at h;cases h.1))
  go_wp2_with (first | ((with_reducible show Jw (Op.load 26 _));refine wpList_load_has rfl 26 _ rfl rfl (d0) agg_Flat rfl ?_) | (go_at_call 39;refine (HCK.out w0 HX.out).mono ?_;rintro r w1 ⟨rfl,hx1⟩;have d2:=(HD.out.ext hx1).has) | ((with_reducible show Jw (Op.load 26 _));refine wpList_load_has rfl 26 _ rfl rfl (d2) agg_Flat rfl ?_) | (go_at_call 35;refine (HVA.out w1 (HX.out.trans hx1)).mono ?_;rintro r w2 ⟨rfl,hx2⟩))
  refine bodyPost_ret (v:=.tuple #[.slice none 0 0,.int .i64 1]) (by simp [results,Tryz.results23,go_sem]) rfl ⟨_,by rw [HR.out],by rw [HR.out];exact WordRow.nil _ _,HX.out.trans (hx1.trans hx2)⟩
 by_cases hp0:p < 0
 ·have b1:decide (p < 0)=true:=decide_eq_true hp0
  have HR:=Lib.hid (runM_no (d:=d) (vs:=vs) (p:=p) (fun h=>by have:=h.2.1;omega))
  clear hp0
  go_wp2_with (first | ((with_reducible show Jw (Op.load 26 _));refine wpList_load_has rfl 26 _ rfl rfl (d0) agg_Flat rfl ?_) | (go_at_call 39;refine (HCK.out w0 HX.out).mono ?_;rintro r w1 ⟨rfl,hx1⟩;have d2:=(HD.out.ext hx1).has) | ((with_reducible show Jw (Op.load 26 _));refine wpList_load_has rfl 26 _ rfl rfl (d2) agg_Flat rfl ?_) | (go_at_call 35;refine (HVA.out w1 (HX.out.trans hx1)).mono ?_;rintro r w2 ⟨rfl,hx2⟩))
  refine bodyPost_ret (v:=.tuple #[.slice none 0 0,.int .i64 1]) (by simp [results,Tryz.results23,go_sem]) rfl ⟨_,by rw [HR.out],by rw [HR.out];exact WordRow.nil _ _,HX.out.trans (hx1.trans hx2)⟩
 by_cases hpl:(d.procs.length:Int) ≤ p
 ·have b1:decide (p < 0)=false:=decide_eq_false hp0
  have b2:decide ((d.procs.length:Int) ≤ p)=true:=decide_eq_true hpl
  have HR:=Lib.hid (runM_no (d:=d) (vs:=vs) (p:=p) (fun h=>by have:=h.2.2;omega))
  clear hp0 hpl
  go_wp2_with (first | ((with_reducible show Jw (Op.load 26 _));refine wpList_load_has rfl 26 _ rfl rfl (d0) agg_Flat rfl ?_) | (go_at_call 39;refine (HCK.out w0 HX.out).mono ?_;rintro r w1 ⟨rfl,hx1⟩;have d2:=(HD.out.ext hx1).has) | ((with_reducible show Jw (Op.load 26 _));refine wpList_load_has rfl 26 _ rfl rfl (d2) agg_Flat rfl ?_) | (go_at_call 35;refine (HVA.out w1 (HX.out.trans hx1)).mono ?_;rintro r w2 ⟨rfl,hx2⟩;have d3:=(HD.out.ext (hx1.trans hx2)).has 1 _ rfl))
  refine bodyPost_ret (v:=.tuple #[.slice none 0 0,.int .i64 1]) (by simp [results,Tryz.results23,go_sem]) rfl ⟨_,by rw [HR.out],by rw [HR.out];exact WordRow.nil _ _,HX.out.trans (hx1.trans hx2)⟩
 obtain ⟨k,rfl⟩:=Int.eq_ofNat_of_zero_le (show 0 ≤ p by omega)
 have hk:k < d.procs.length:=by omega
 have b1:decide ((k:Int) < 0)=false:=decide_eq_false hp0
 have b2:decide ((d.procs.length:Int) ≤ (k:Int))=false:=decide_eq_false hpl
 have HR:=Lib.hid (runM_yes (d:=d) (vs:=vs) (p:=(k:Int)) ⟨HQ.out,by omega,by omega⟩)
 rw [Int.toNat_natCast,List.getElem?_eq_getElem hk,procL_get (by rw [Int.toNat_natCast];exact hk)] at HR
 simp only [Option.map_some,Option.getD_some,Int.toNat_natCast] at HR
 obtain rfl:=HAP.out (by omega)
 have hat:=HPP.out.get (List.getElem?_eq_getElem hk)
 have HRO:=Lib.hid (runOk_check HOK.out HC0.out _ (List.getElem_mem hk))
 have hnl:=nodes_proc d k hk
 have hnd:=HOK.out.nodes
 have hll:(d.procs[k].l).length ≤ 1048576:=by have:=length_le_sumBy nodesT d.procs[k].l (fun x _=>nodesT_pos x);omega
 have HNS:=Lib.hid (show sumBy nodesT d.procs[k].l ≤ 1048576 by omega)
 clear hp0 hpl hnl hnd
 generalize d.procs[k]=pk at *
 obtain ⟨lv,hph,hpt⟩:=hat
 have HPH:=Lib.hid (fun W (h:Ext w W)=>hph.ext h)
 have HPT:=Lib.hid (fun W (h:Ext w W)=>hpt.ext h)
 obtain ⟨al,bl,ol,cl,rfl,-,-,-,-⟩:=hpt.open
 have hvl:vs.length ≤ 1048576:=by
  have h1:=(valsOk_val2 HQ.out).1
  have h2:=HOK.out.signals
  omega
 have HV2:=Lib.hid (valsOk_val2 HQ.out)
 clear hph hpt
 generalize hgc:pk.clocked=ck at *
 go_upto_region 3 with (first | ((with_reducible show Jw (Op.load 26 _));refine wpList_load_has rfl 26 _ rfl rfl (d0) agg_Flat rfl ?_) | (go_at_call 39;refine (HCK.out w0 HX.out).mono ?_;rintro r w1 ⟨rfl,hx1⟩;have d2:=(HD.out.ext hx1).has) | ((with_reducible show Jw (Op.load 26 _));refine wpList_load_has rfl 26 _ rfl rfl (d2) agg_Flat rfl ?_) | (go_at_call 35;refine (HVA.out w1 (HX.out.trans hx1)).mono ?_;rintro r w2 ⟨rfl,hx2⟩;have d3:=(HD.out.ext (hx1.trans hx2)).has 1 _ rfl))
 have X2:=Lib.hid (HX.out.trans (hx1.trans hx2))
 have HD2:=Lib.hid (HD.out.ext (hx1.trans hx2))
 clear hx1 hx2 d0 d1 d2 d3 HX HD HCK HVA
 refine wp_region_held_drew (S:=fun W=>Ext w2 W) (by kernel_rfl) (Below.drew (Below.refl _ _)) (fun hHeld=>?_)
 try simp only [J]
 (refine Jt 0 (.agg [Value.slice a0 d.signals.length c0,.slice (some ⟨bp,op,none⟩) d.procs.length cp,.slice ac d.checks.length cc].toArray) rfl (yif_load rfl 26 _ rfl rfl (fun W hW=>(HD2.out.ext hW).has) agg_Flat rfl) hHeld ?_;try simp only [J])
 (refine Jt 1 (.slice av vs.length capv) rfl (yif_load1 rfl fun _ _=>rfl) hHeld ?_;try simp only [J])
 (refine Jt 2 (.slice av vs.length capv) rfl (yif_load1 rfl fun _ _=>rfl) hHeld ?_;try simp only [J])
 (refine Jt 4 (.pointer (some ⟨w.heap.size,1,none⟩)) rfl (yif_load1 rfl (by intro W hW;clear hW;go_simp)) hHeld ?_;try simp only [J])
 (refine Jt 5 (.slice (some ⟨bp,op,none⟩) d.procs.length cp) rfl (yif_load1 rfl (by intro W hW;have z:=(HD2.out.ext hW).has 1 _ rfl;clear hW;go_simp)) hHeld ?_;try simp only [J])
 (refine Jt 6 (.int .i64 (k:Int)) rfl (yif_load1 rfl fun _ _=>rfl) hHeld ?_;try simp only [J])
 (refine Jt 7 (.pointer (some ⟨bp,op + k * 2,none⟩)) rfl (yif_load1 rfl (by intro W hW;clear hW;go_simp;try (intro h;omega))) hHeld ?_;try simp only [J])
 (refine Jt 8 (.pointer (some ⟨bp,op + k * 2,none⟩)) rfl (yif_load1 rfl (by intro W hW;clear hW;go_simp)) hHeld ?_;try simp only [J])
 (refine Jt 9 (.bool ck) rfl (yif_load1 rfl (by intro W hW;have z:=(HPH.out W (X2.out.trans hW)) 0 _ rfl;rw [hgc,Nat.add_zero] at z;clear hW;go_simp)) hHeld ?_;try simp only [J])
 (refine wpAnyH_ready (rs:=[3]) (by kernel_rfl) (by simp) ?_;refine AllReadyH.cons rfl (fun K hK=>?_) AllReadyH.nil)
 go_simp
 have hwb:Ext w w2.drew:=X2.out.trans hHeld
 refine (CloneW_calls vs _ _ (HUS.out _ hwb) hvl).mono ?_
 rintro r w3 ⟨u,rfl,hr3,hx3⟩
 refine hK.out _ _ (hHeld.trans hx3) (fun hHeld=>?_)
 clear hK K
 obtain ⟨au,cu,rfl,-⟩:=hr3.open
 try simp only [J]
 (refine Jt 10 (.agg [Value.slice a0 d.signals.length c0,.slice (some ⟨bp,op,none⟩) d.procs.length cp,.slice ac d.checks.length cc,.slice av vs.length capv,.slice au vs.length cu,.bool ck].toArray) rfl (yif_load1 rfl (by intro W hW;clear hW;go_simp)) hHeld ?_;try simp only [J])
 (refine wpAnyH_ready (rs:=[11]) (by kernel_rfl) (by simp) ?_;refine AllReadyH.cons rfl (fun K hK=>?_) AllReadyH.nil)
 go_simp
 have x4:=ext_alloc w3 (.cells (plCells (.slice a0 d.signals.length c0) (.slice (some ⟨bp,op,none⟩) d.procs.length cp) (.slice ac d.checks.length cc) (.slice av vs.length capv) (.slice au vs.length cu) ck).toArray 82)
 have hb4:=Blk.new w3 (plCells (.slice a0 d.signals.length c0) (.slice (some ⟨bp,op,none⟩) d.procs.length cp) (.slice ac d.checks.length cc) (.slice av vs.length capv) (.slice au vs.length cu) ck).toArray 82
 refine hK.out _ _ (hHeld.trans x4) (fun hHeld=>?_)
 clear hK K
 try simp only [J]
 obtain ⟨P,hP⟩ : ∃ P,w3.heap.size=P:=⟨_,rfl⟩
 rw [hP] at hb4 ⊢
 have HPL:Pl d (.slice a0 d.signals.length c0) (.slice (some ⟨bp,op,none⟩) d.procs.length cp) (.slice ac d.checks.length cc) (.slice av vs.length capv) vs w2.drew:=⟨HOK.out,HC0.out,HF.out _ hwb,HUS.out _ hwb,HV2.out⟩
 have hPW:PlW d (.slice a0 d.signals.length c0) (.slice (some ⟨bp,op,none⟩) d.procs.length cp) (.slice ac d.checks.length cc) (.slice av vs.length capv) (.slice au vs.length cu) ck P w2.drew vs _:=⟨hx3.trans x4,HV2.out,hr3.ext x4,hb4⟩
 have hall:=plAll_of (nv:=.slice au vs.length cu) (ck:=ck) (P:=P) HPL pk.l hll (fun t ht=>⟨(pl_said HPL t (HRO.out t ht) (Nat.le_trans (le_sumBy nodesT pk.l t ht) HNS.out)).1,HRO.out t ht⟩) vs _ _ hPW (HPT.out _ hwb)
 have HALL:=Lib.hid hall
 have HPW:=Lib.hid hPW
 have hwz:=hwb.size
 have HX4:=Lib.hid (hwb.trans (hx3.trans x4))
 have HGE:=Lib.hid hwb.size
 clear hP hb4 hPW hall HPL x4 hx3 hr3 hwb hwz
 generalize w3.alloc _=w4 at *
 (refine Jt 12 (.pointer (some ⟨P,0,none⟩)) rfl (yif_load1 rfl fun _ _=>rfl) hHeld ?_;try simp only [J])
 refine wpAnyH_done (by kernel_rfl) ?_ _
 have HD4:=Lib.hid (HD2.out.ext hHeld)
 clear hHeld
 have z1:=HD4.out.has 1 _ rfl
 have p1:=(HPH.out _ HX4.out) 1 _ rfl
 generalize w2.drew=wb at *
 go_upto_region 5 with (first | (go_at_call 55;refine (HALL.out).mono ?_;rintro r w5 ⟨rfl,hr5,hg5⟩))
 have q4:=(HPW.out.blk.grownR hg5 (fun k hk=>HPW.out.row.ne HPW.out.blk (by decide) hk)).has 4 _ rfl
 have HX5:=Lib.hid (Below.grown HX4.out hg5 HX4.out.size (fun k hk=>Nat.le_trans HGE.out (hr5.at hk).1))
 have HR5:=Lib.hid (hr5.less HGE.out)
 clear hg5 hr5 p1 z1
 go_wp2_with ((with_reducible show bodyPost _ _ _ _ _ _);refine Hid.out ?_)
 refine Lib.hid ?_
 refine bodyPost_ret (v:=.tuple #[.slice au vs.length cu,.int .i64 0]) (by simp [results,Tryz.results23,go_sem]) rfl ⟨_,by rw [HR.out],by rw [HR.out];exact HR5.out,HX5.out⟩
open Go.RowKit
/-! ### filigreeref11.Words -/
set_option maxHeartbeats 2000000 in
theorem Words_calls11 (l r:List Nat) (v v':Value) (w:World) (h:Us w v l) (h':Us w v' r) (hn:l.length ≤ 1099511627776) :
  Calls Tryz.prog 25 #[v,v'] w fun e w'=>e=.returned (.bool (decide (l=r)))∧Ext w w':=by
 obtain ⟨a,b,o,cap,rfl,hc1,hc2,ha,hr⟩:=h.open
 obtain ⟨a',b',o',cap',rfl,hd1,hd2,ha',hr'⟩:=h'.open
 have HR:=Lib.hid hr
 have HA:=Lib.hid ha
 have HR':=Lib.hid hr'
 have HA':=Lib.hid ha'
 clear hr ha h hr' ha' h'
 obtain ⟨t,ht⟩ : ∃ t,decide (l=r)=t:=⟨_,rfl⟩
 rw [ht]
 have HT:=Lib.hid ht
 clear ht
 by_cases hlr:l.length=r.length
 ·have hlb:((l.length:Int) != (r.length:Int))=false:=by rw [bne_eq_false_iff_eq,hlr]
  have HLR:=Lib.hid hlr
  obtain ⟨n,hnl⟩ : ∃ n,l.length=n:=⟨_,rfl⟩
  have HNL:=Lib.hid hnl
  have HNR:=Lib.hid (show r.length=n by rw [← hlr];exact hnl)
  rw [← hlr] at hd1 HA' ⊢
  rw [hnl] at hc1 hd1 HA HA' hn ⊢
  clear hlr hlb hnl
  go_enter Tryz.func25,Tryz.ntmps25
  go_wp2_with fail
  go_loopw [5] (fun i wr=>∃ k:Nat,k ≤ n∧i=.int .i64 k∧(∀ j,j < k→l[j]? = r[j]?)∧Ext w wr) (fun i _=>n - (intOf i).toNat)
  case atStart=>exact ⟨0,Nat.zero_le _,rfl,fun j hj=>absurd hj (by omega),Below.refl _ _⟩
  case round =>
   obtain ⟨k,hk,rfl,hsame,hx⟩:=hrel
   have HS:=Lib.hid hsame
   have HX:=Lib.hid hx
   clear hsame hx
   by_cases hlt:k < n
   ·obtain rfl:=HA.out (by omega)
    obtain rfl:=HA'.out (by omega)
    have HZ:=Lib.hid (fun W (hx:Ext w W)=>Us.get (k:=k) (HR.out.mono fun x _ b o h=>Has.ext h hx) (by rw [HNL.out];exact hlt))
    have HZ':=Lib.hid (fun W (hx:Ext w W)=>Us.get (k:=k) (HR'.out.mono fun x _ b o h=>Has.ext h hx) (by rw [HNR.out];exact hlt))
    have HE:=Lib.hid (show l[k]? = some (l[k]'(by rw [HNL.out];exact hlt)) from List.getElem?_eq_getElem _)
    have HE':=Lib.hid (show r[k]? = some (r[k]'(by rw [HNR.out];exact hlt)) from List.getElem?_eq_getElem _)
    generalize l[k]'_=x at *
    generalize r[k]'_=y at *
    go_upto_region 6 with fail
    refine wp_region_held_drew (S:=fun W=>Ext w W) (by kernel_rfl) (Below.drew HX.out) (fun hHeld=>?_)
    try simp only [J]
    (refine Jt 0 (_) rfl (yif_load1 rfl fun _ _=>rfl) hHeld ?_;try simp only [J])
    (refine Jt 1 (_) rfl (yif_load1 rfl fun _ _=>rfl) hHeld ?_;try simp only [J])
    (refine Jt 2 (.pointer (some ⟨b,o + k,Option.none⟩)) rfl (yif_load1 rfl (by intro W hW;clear hW;go_simp;try (intro h;omega))) hHeld ?_;try simp only [J])
    (refine Jt 3 (W64 x) rfl (yif_load1 rfl (by intro W hW;have y:=HZ.out W hW;clear hW;go_simp)) hHeld ?_;try simp only [J])
    (refine Jt 4 (_) rfl (yif_load1 rfl fun _ _=>rfl) hHeld ?_;try simp only [J])
    (refine Jt 5 (_) rfl (yif_load1 rfl fun _ _=>rfl) hHeld ?_;try simp only [J])
    (refine Jt 6 (.pointer (some ⟨b',o' + k,Option.none⟩)) rfl (yif_load1 rfl (by intro W hW;clear hW;go_simp;try (intro h;omega))) hHeld ?_;try simp only [J])
    (refine Jt 7 (W64 y) rfl (yif_load1 rfl (by intro W hW;have y:=HZ'.out W hW;clear hW;go_simp)) hHeld ?_;try simp only [J])
    obtain ⟨c,hc⟩ : ∃ c,((x:Int) != (y:Int))=c:=⟨_,rfl⟩
    have HC:=Lib.hid hc
    clear hc
    (refine Jt 8 (.bool c) rfl (yif_load1 rfl (by intro W hW;clear hW;go_simp;exact HC.out)) hHeld ?_;try simp only [J])
    refine wpAnyH_done (by kernel_rfl) ?_ _
    cases c
    ·have HXY:=Lib.hid (show x=y by have:=HC.out;rw [bne_eq_false_iff_eq] at this;exact_mod_cast this)
     go_wp2_with fail
     go_roundw
     case rel=>exact ⟨k + 1,hlt,by go_num,fun j hj=>by
      by_cases e:j=k
      ·subst e;rw [HE.out,HE'.out,HXY.out]
      ·exact HS.out j (by omega),hHeld⟩
     case measure=>simp [intOf];omega
    ·have HXY:=Lib.hid (show x ≠ y by have:=HC.out;rw [bne_iff_ne] at this;exact fun e=>this (by rw [e]))
     obtain rfl:t=false:=by
      rw [← HT.out,decide_eq_false_iff_not]
      intro e
      have h1:=HE.out
      rw [e,HE'.out] at h1
      injection h1 with h1
      exact HXY.out h1.symm
     go_wp2_with fail
     go_ret
     exact ⟨rfl,hHeld⟩
   ·obtain rfl:k=n:=by omega
    obtain rfl:t=true:=by
     rw [← HT.out,decide_eq_true_eq]
     refine List.ext_getElem? fun j=>?_
     by_cases hj:j < k
     ·exact HS.out j hj
     ·rw [List.getElem?_eq_none (by rw [HNL.out];omega),List.getElem?_eq_none (by rw [HNR.out];omega)]
    go_wp2_with fail
    go_ret
    exact ⟨rfl,HX.out⟩
 ·obtain rfl:t=false:=by
   rw [← HT.out,decide_eq_false_iff_not]
   intro e;exact hlr (by rw [e])
  have hlb:((l.length:Int) != (r.length:Int))=true:=by rw [bne_iff_ne];omega
  clear hlr
  go_enter Tryz.func25,Tryz.ntmps25
  go_wp2_with fail
  go_ret
  exact ⟨rfl,Below.refl _ _⟩
open Go.RowKit
/-! ### rows of marks -/
theorem appBool:AppT Tryz.prog 100 4 1 1:=⟨Tryz.underlying100,by kernel_rfl,by decide,by decide⟩
abbrev Bools (w:World) (v:Value) (l:List Bool):Prop:=Sl 1 (fun (x:Bool) b o=>Has w b o [.bool x]) v l
def BoolRow (N:Nat) (v:Value) (l:List Bool) (w:World):Prop:=w.ownsRow N 4 1 v l.length (l.map (Value.bool))
theorem BoolRow.nil (N:Nat) (w:World):BoolRow N (.slice none 0 0) [] w:=World.ownsRow_nil _ _ _ _
theorem BoolRow.open {N:Nat} {v:Value} {l:List Bool} {w:World} (h:BoolRow N v l w):∃ a cap,v=.slice a l.length cap∧(v.ownBlock=none→l=[]):=by
 rcases h.2 with ⟨rfl,h0⟩ | ⟨g,cap,cur,rfl,-⟩
 ·exact ⟨none,0,by rw [h0],fun _=>List.eq_nil_of_length_eq_zero h0⟩
 ·exact ⟨_,cap,rfl,fun h=>by cases h⟩
theorem BoolRow.at {N:Nat} {v:Value} {l:List Bool} {w:World} (h:BoolRow N v l w) {k:Nat} (hk:v.ownBlock=some k):N ≤ k∧∃ cur,w.heap[k]? = some (.cells cur 4 (0,0)):=by
 rcases h.2 with ⟨rfl,h0⟩ | ⟨g,cap,cur,rfl,hb,hg,-⟩
 ·cases hk
 ·cases hk;exact ⟨hb,cur,hg⟩
theorem BoolRow.keep {N:Nat} {v:Value} {l:List Bool} {w w':World} (h:BoolRow N v l w) (hk:∀ k,v.ownBlock=some k→∀ o,w.heap[k]? = some o→w'.heap[k]? = some o):BoolRow N v l w':=by
 refine ⟨h.1,?_⟩
 rcases h.2 with hn | ⟨g,cap,cur,rfl,hb,hg,rest⟩
 ·exact .inl hn
 ·exact .inr ⟨g,cap,cur,rfl,hb,hk g rfl _ hg,rest⟩
theorem BoolRow.ext {N:Nat} {v:Value} {l:List Bool} {w w':World} (h:BoolRow N v l w) (hx:Ext w w'):BoolRow N v l w' :=
 h.keep fun k _ _ ho=>(hx.block k (Array.getElem?_eq_some_iff.1 ho).1).trans ho
theorem BoolRow.grown {N:Nat} {v:Value} {l:List Bool} {w w':World} {R:Option Nat} (h:BoolRow N v l w) (hg:w.grownBy w' R) (hR:∀ k,v.ownBlock=some k→some k ≠ R):BoolRow N v l w' :=
 h.keep fun k hk _ ho=>(hg.block k (Array.getElem?_eq_some_iff.1 ho).1 (hR k hk)).trans ho
theorem BoolRow.less {N M:Nat} {v:Value} {l:List Bool} {w:World} (h:BoolRow N v l w) (hM:M ≤ N):BoolRow M v l w:=by
 refine ⟨h.1,?_⟩
 rcases h.2 with hn | ⟨g,cap,cur,rfl,hb,rest⟩
 ·exact .inl hn
 ·exact .inr ⟨g,cap,cur,rfl,Nat.le_trans hM hb,rest⟩
theorem flatB1 (l:List Bool):(l.map fun x=>[Value.bool x]).flatten=l.map (Value.bool):=by
 induction l with
 | nil=>rfl
 | cons x l ih=>simp only [List.map_cons,List.flatten_cons,ih];rfl
theorem BoolRow.cells {N:Nat} {v:Value} {l:List Bool} {w:World} (h:BoolRow N v l w):Bools w v l:=by
 rcases h.2 with ⟨rfl,h0⟩ | ⟨g,cap,cur,rfl,hb,hg,hnc,hcm,hcs,htake⟩
 ·obtain rfl:l=[]:=List.eq_nil_of_length_eq_zero h0
  exact Sl.nil _ _
 ·refine ⟨g,0,⟨_,cap,rfl,hnc,hcm,fun _=>rfl⟩,rows_flat (f:=fun x=>[Value.bool x]) (fun _=>rfl) l 0 ?_⟩
  have:=flat_own (N:=N) (cap:=cap) (size:=1) hg htake
  rw [flatB1];exact this
theorem BoolRow.ne {N B:Nat} {v:Value} {cs:Array Value} {T:TypeId} {l:List Bool} {w:World} (h:BoolRow N v l w) (hb:Blk w B cs T) (hT:(T == 4)=false) {k:Nat} (hk:v.ownBlock=some k):k ≠ B:=by
 rintro rfl
 obtain ⟨-,cur,hcur⟩:=h.at hk
 have h2:w.heap[k]? = some (.cells cs T (0,0)):=hb
 rw [hcur] at h2
 injection h2 with h2
 injection h2 with _ h2
 subst h2
 exact absurd hT (by decide)
theorem run_appBI {w:World} {N:Nat} {v:Value} {l:List Bool} (hown:BoolRow N v l w) {ty:TypeId} {ad:Addr} {m c:Nat} (hm:v=.slice none 0 0→0 < m) {news:List Bool} (hl:news.length=m)
  (hnews:∀ j u,(news.map (Value.bool))[j]? = some u→w.cell? (ad.add j)=some u) (hn:l.length + m ≤ 1099511627776) (hbase:N ≤ w.heap.size) :
  ∃ g cap w',(Builtin.append_ #[100,100] ty #[v,.slice (some ad) m c]).run Tryz.prog w=.ok (.slice (some ⟨g,0,none⟩) (l.length + m) cap) w'∧BoolRow N (.slice (some ⟨g,0,none⟩) (l.length + m) cap) (l ++ news) w'∧w.grownBy w' v.ownBlock:=by
 obtain ⟨ht,hinfo,hsz,hby⟩:=appBool
 cases hi:Tryz.prog.info? 4 with
 | none=>simp [hi] at hinfo
 | some i =>
  simp only [hi,Option.map_some,Option.some.injEq,Prod.mk.injEq] at hinfo
  obtain ⟨hz0,hs,hb⟩:=hinfo
  cases hz:i.zero with
  | none=>simp [hz] at hz0
  | some z =>
   simp only [hz,Option.map_some,Option.some.injEq] at hz0
   have h1':∀ u ∈ news.map (Value.bool),u.oneCell'=true:=by
    intro u hu
    obtain ⟨x,-,rfl⟩:=List.mem_map.1 hu
    rfl
   obtain ⟨v',w',hr,h2,h3,h4⟩:=run_append_own (P:=Tryz.prog) w N 100 ty 4 i z 1 1 ht hi hz hs hb hz0 (by decide) v l.length _ hown ad m c (news.map (Value.bool)) (by simp [hl]) hnews h1' (by simp only [maxLen];omega) (by omega) hbase
   have h5:BoolRow N v' (l ++ news) w':=by unfold BoolRow;rw [List.length_append,hl,List.map_append];exact h2
   rcases h2.2 with ⟨rfl,h0⟩ | ⟨g,cap,cur,rfl,-⟩
   ·have:=h4.1 rfl
    exact absurd (hm this.1) (by omega)
   ·exact ⟨g,cap,w',hr,h5,h3⟩
theorem wpList_appBI {ops:Array Oper} {rest:List Oper} {o:Oper} {a:Act} {w:World} {Q:Exit→Act→World→Prop} (hw:Region.wanted o (yielded ops a.tmps)=true) (s x:Operand)
  (ho:o.op=.call { callee:=.builtin .append,args:=#[s,x],argTypes:=#[100,100] }) {N:Nat} {v:Value} {l:List Bool} (hs:a.eval s=v) (hown:BoolRow N v l w)
  {ad:Addr} {m c:Nat} (hx:a.eval x=.slice (some ad) m c) (hm:v=.slice none 0 0→0 < m) {news:List Bool} (hl:news.length=m)
  (hnews:∀ j u,(news.map (Value.bool))[j]? = some u→w.cell? (ad.add j)=some u) (hn:l.length + m ≤ 1099511627776) (hbase:N ≤ w.heap.size)
  (h:∀ g cap w',BoolRow N (.slice (some ⟨g,0,none⟩) (l.length + m) cap) (l ++ news) w'→w.grownBy w' v.ownBlock→wpList Tryz.prog ops Q rest (a.put o.dst (.slice (some ⟨g,0,none⟩) (l.length + m) cap)) w') :
  wpList Tryz.prog ops Q (o :: rest) a w :=
 BigFrame.wpList_want hw fun _ hK=>by
  obtain ⟨g,cap,w',hr,h2,h3⟩:=run_appBI (ty:=o.type) (c:=c) hown hm hl hnews hn hbase
  unfold Oper.wp execOp
  simp only [ho,resolve,invoke,builtin,Sem.run_bind,Sem.run_pure,Result.andThen_ok,List.map_toArray,List.map_cons,List.map_nil,hs,hx]
  rw [hr]
  exact hK _ _ (h g cap w' h2 h3)
theorem run_appB {w:World} {N:Nat} {v:Value} {l:List Bool} (hown:BoolRow N v l w) {ty:TypeId} {x:Value} {news:List Bool} (hx:Bools w x news) (hn:l.length + news.length ≤ 1099511627776) (hbase:N ≤ w.heap.size) :
  ∃ v' w',(Builtin.append_ #[100,100] ty #[v,x]).run Tryz.prog w=.ok v' w'∧BoolRow N v' (l ++ news) w'∧w.grownBy w' v.ownBlock:=by
 obtain ⟨a,b,o,cap,rfl,hc1,hc2,ha,hr⟩:=hx.open
 by_cases h0:0 < news.length
 ·obtain rfl:=ha h0
  obtain ⟨g,cap',w',h1,h2,h3⟩:=run_appBI (ty:=ty) (c:=cap) (m:=news.length) hown (fun _=>h0) rfl (ad:=⟨b,o,none⟩) (news:=news) (fun j u hj=>by
   rw [List.getElem?_map] at hj
   cases hq:news[j]? with
   | none=>rw [hq] at hj;cases hj
   | some y =>
    rw [hq] at hj
    have hadd:(⟨b,o,none⟩ : Addr).add j=⟨b,o + j,none⟩:=by unfold Addr.add;split <;> simp_all
    rw [hadd]
    have:=(hr.get hq) 0 _ rfl
    simp only [Nat.mul_one,Nat.add_zero] at this
    rw [this]
    exact hj) hn hbase
  exact ⟨_,w',h1,h2,h3⟩
 ·obtain rfl:news=[]:=List.eq_nil_of_length_eq_zero (by omega)
  obtain ⟨ht,hinfo,hsz,hby⟩:=appBool
  cases hi:Tryz.prog.info? 4 with
  | none=>simp [hi] at hinfo
  | some i =>
   have hsrc:Src Tryz.prog i.size 100 (.slice a 0 cap) 0 [] w:=by
    cases a with
    | none=>exact Src.ofNil w ht cap
    | some a=>exact Src.ofSlice w ht a 0 cap [] (by simp) (by intro j u hj;simp at hj) (by simp)
   obtain ⟨av,cv,hv,-⟩:=hown.open
   have hle:l.length ≤ cv:=by
    rcases hown.2 with ⟨e,h0⟩ | ⟨g,c2,cur,e,hb,hg,hnc,-⟩
    ·rw [hv] at e;injection e with _ e2 e3;omega
    ·rw [hv] at e;injection e with _ e2 e3;omega
   refine ⟨v,w,?_,by rw [List.append_nil];exact hown,⟨rfl,rfl,rfl,Nat.le_refl _,fun _ _ _=>rfl⟩⟩
   rw [hv]
   exact run_append_nothing w 100 100 ty 4 i ht hi av l.length cv hle _ hsrc
theorem wpList_appB {ops:Array Oper} {rest:List Oper} {o:Oper} {a:Act} {w:World} {Q:Exit→Act→World→Prop} (hw:Region.wanted o (yielded ops a.tmps)=true) (s x:Operand)
  (ho:o.op=.call { callee:=.builtin .append,args:=#[s,x],argTypes:=#[100,100] }) {N:Nat} {v:Value} {l:List Bool} (hs:a.eval s=v) (hown:BoolRow N v l w)
  {xv:Value} (hx:a.eval x=xv) {news:List Bool} (hnews:Bools w xv news) (hn:l.length + news.length ≤ 1099511627776) (hbase:N ≤ w.heap.size)
  (h:∀ v' w',BoolRow N v' (l ++ news) w'→w.grownBy w' v.ownBlock→wpList Tryz.prog ops Q rest (a.put o.dst v') w') :
  wpList Tryz.prog ops Q (o :: rest) a w :=
 BigFrame.wpList_want hw fun _ hK=>by
  obtain ⟨v',w',hr,h2,h3⟩:=run_appB (ty:=o.type) hown hnews hn hbase
  unfold Oper.wp execOp
  simp only [ho,resolve,invoke,builtin,Sem.run_bind,Sem.run_pure,Result.andThen_ok,List.map_toArray,List.map_cons,List.map_nil,hs,hx]
  rw [hr]
  exact hK _ _ (h v' w' h2 h3)
theorem BoolRow.open1 {N:Nat} {v:Value} {l:List Bool} {w:World} (h:BoolRow N v l w) (hl:0 < l.length):∃ g cap,v=.slice (some ⟨g,0,none⟩) l.length cap∧N ≤ g∧∀ i x,l[i]? = some x→w.cell? ⟨g,i,none⟩=some (.bool x):=by
 rcases h.2 with ⟨rfl,h0⟩ | ⟨g,cap,cur,rfl,hb,hg,hnc,hcm,hcs,htake⟩
 ·omega
 ·refine ⟨g,cap,rfl,hb,fun i x hx=>?_⟩
  have:=flat_own (N:=N) (cap:=cap) (size:=1) hg htake i (.bool x) (by simp [hx])
  rwa [Nat.zero_add] at this
theorem BoolRow.ofBlk {N g:Nat} {l:List Bool} {w:World} (h:Blk w g (l.map (Value.bool)).toArray 4) (hN:N ≤ g) (hm:l.length ≤ 9223372036854775807):BoolRow N (.slice (some ⟨g,0,none⟩) l.length l.length) l w :=
 ⟨by simp,.inr ⟨g,l.length,_,rfl,hN,h,Nat.le_refl _,by simpa [maxLen] using hm,by simp,by rw [Nat.mul_one];exact List.take_of_length_le (by simp)⟩⟩
theorem Bools.ext {w w':World} {v:Value} {l:List Bool} (h:Bools w v l) (hx:Ext w w'):Bools w' v l:=Sl.mono h fun _ _ _ _ q=>Has.ext q hx
theorem BoolRow.set {N g cap:Nat} {n:Nat} {l:List Bool} {w:World} (h:BoolRow N (.slice (some ⟨g,0,none⟩) n cap) l w) (j:Nat) (hj:j < l.length) (x:Bool) :
  BoolRow N (.slice (some ⟨g,0,none⟩) n cap) (l.set j x) (w.setCell ⟨g,j,none⟩ (.bool x)):=by
 rcases h.2 with ⟨e,h0⟩ | ⟨g',cap',cur,e,hb,hg,hnc,hcm,hcs,htake⟩
 ·cases e
 ·injection e with e1 e2 e3
  injection e1 with e1
  injection e1 with e1
  subst e1 e2 e3
  have hB:Blk w g cur 4:=hg
  refine ⟨by simp,.inr ⟨g,cap,cur.setIfInBounds j (.bool x),by rw [List.length_set],hb,hB.set j (.bool x),by rw [List.length_set];exact hnc,hcm,by rw [Array.size_setIfInBounds];exact hcs,?_⟩⟩
  rw [List.length_set,Array.toList_setIfInBounds,List.map_set,← htake,List.take_set]
theorem BoolRow.cases' {N:Nat} {v:Value} {l:List Bool} {w:World} (h:BoolRow N v l w):(v=.slice none 0 0∧l=[]) ∨ ∃ g cap,v=.slice (some ⟨g,0,none⟩) l.length cap∧N ≤ g:=by
 rcases h.2 with ⟨rfl,h0⟩ | ⟨g,cap,cur,rfl,hb,-⟩
 ·exact .inl ⟨rfl,List.eq_nil_of_length_eq_zero h0⟩
 ·exact .inr ⟨g,cap,rfl,hb⟩
theorem BoolRow.bs0 (w:World) {N:Nat} (hN:N ≤ w.heap.size):BoolRow N (.slice (some ⟨w.heap.size,0,none⟩) 0 0) [] (w.alloc (.cells #[] 4)) :=
 ⟨rfl,.inr ⟨w.heap.size,0,#[],rfl,hN,Blk.new w #[] 4,Nat.le_refl _,by decide,rfl,rfl⟩⟩
theorem BoolRow.made {w:World} {N n:Nat} {x:Bool} (hN:N ≤ w.heap.size) (hn:n ≤ 9223372036854775807):BoolRow N (.slice (some ⟨w.heap.size,0,none⟩) n n) (List.replicate n x) (w.alloc (.cells (List.replicate n (Value.bool x)).toArray 4)):=by
 have:=BoolRow.ofBlk (N:=N) (l:=List.replicate n x) (g:=w.heap.size) (w:=w.alloc (.cells (List.replicate n (Value.bool x)).toArray 4)) (by rw [List.map_replicate];exact Blk.new _ _ _) hN (by simpa using hn)
 simpa using this
theorem IntRow.set {N g cap:Nat} {n:Nat} {l:List Int} {w:World} (h:IntRow N (.slice (some ⟨g,0,none⟩) n cap) l w) (j:Nat) (hj:j < l.length) (x:Int) :
  IntRow N (.slice (some ⟨g,0,none⟩) n cap) (l.set j x) (w.setCell ⟨g,j,none⟩ (.int .i64 x)):=by
 rcases h.2 with ⟨e,h0⟩ | ⟨g',cap',cur,e,hb,hg,hnc,hcm,hcs,htake⟩
 ·cases e
 ·injection e with e1 e2 e3
  injection e1 with e1
  injection e1 with e1
  subst e1 e2 e3
  have hB:Blk w g cur 3:=hg
  refine ⟨by simp,.inr ⟨g,cap,cur.setIfInBounds j (.int .i64 x),by rw [List.length_set],hb,hB.set j (.int .i64 x),by rw [List.length_set];exact hnc,hcm,by rw [Array.size_setIfInBounds];exact hcs,?_⟩⟩
  rw [List.length_set,Array.toList_setIfInBounds,List.map_set,← htake,List.take_set]
theorem Bools.cell {w:World} {a:Option Addr} {b o n cap:Nat} {l:List Bool} (h:Rows 1 (fun (x:Bool) b o=>Has w b o [.bool x]) l b o) {k:Nat} (hk:k < l.length):w.cell? ⟨b,o + k,none⟩=some (.bool l[k]):=by
 have:=h.get (List.getElem?_eq_getElem hk) 0 _ rfl
 simpa using this
theorem Ints.cell {w:World} {b o:Nat} {l:List Int} (h:Rows 1 (fun (x:Int) b o=>Has w b o [.int .i64 x]) l b o) {k:Nat} (hk:k < l.length):w.cell? ⟨b,o + k,none⟩=some (.int .i64 l[k]):=by
 have:=h.get (List.getElem?_eq_getElem hk) 0 _ rfl
 simpa using this
end Go.Proofs.YtaipaccpaljecaaGreat
