/- Laws and walks that a claim of this seat leans on: Always. -/
import Derived.Test.YtpngepnfinbaoaaGreatC13
import Derived.Test.YtpngepnfinbaoaaGreatC00
set_option maxRecDepth 100000
set_option maxHeartbeats 8000000
set_option linter.all false
namespace Go.Proofs.YtpngepnfinbaoaaGreat
open Go.RowKit
/-! ### stmt.always -/
def AlwaysSaid (offs:List Int) (l:List T):Prop:=∀ (w:World) (ov lv:Value),Ints w ov offs->Ts w lv l ->
 Calls Tryz.prog 37 #[ov,lv] w fun r w'=>∃ v,r=.returned v/\IntRow w.heap.size v (alwM offs l) w'/\Ext w w'
theorem IntRow.fv {M:Nat} {v:Value} {l:List Int} {w:World} (h:IntRow M v l w):FV VInts M w [v] l:=fun W hW =>
 ⟨v,rfl,(h.keep fun k hk o ho=>(hW.2 k (h.at hk).1 (Array.getElem?_eq_some_iff.1 ho).1).trans ho).cells⟩
theorem RowIs.blk {α:Type} {V:World->List Value->α->Prop} {e:TypeId} {size N:Nat} {v:Value} {r:List α} {w:World} (h:RowIs V e size N v r w) {k:Nat} (hk:v.ownBlock=some k):N<=k/\∃ cur,Blk w k cur e:=by
 obtain ⟨css,h1,-⟩:=h
 rcases h1.2 with ⟨rfl,h0⟩ | ⟨g,cap,cur,rfl,hb,hg,-⟩
 ·cases hk
 ·cases hk;exact ⟨hb,cur,hg⟩
theorem RowIs.intsL {N:Nat} {v:Value} {r:List (List Int)} {w:World} (h:RowIs VInts 53 1 N v r w):IntsL w v r :=
 RowIs.sl (At:=fun w (x:List Int) b o=>∃ u,Has w b o [u]/\Ints w u x) (fun _ _ _ _ _ h hv=>VInts.at h hv) h (Since.refl _ _)
theorem spans_one {w:World} {B:Nat} {s:Span} (h:Blk w B s.cells.toArray 81):Spans w (.slice (some ⟨B,0,none⟩) 1 1) [s] :=
 ⟨B,0,⟨_,1,rfl,Nat.le_refl _,by decide,fun _=>rfl⟩,h.has,trivial⟩
theorem always_step (offs:List Int) (hob:∀ o∈offs,0<=o/\o<=1099511627776) (l:List T) (hok:∀ t∈l,AlwOk offs t) (hn:sumBy nodesT l<=1048576)
  (ih1:∀ t∈l,AlwaysSaid offs t.l) (ih2:∀ t∈l,∀ x∈t.l,AlwaysSaid offs x.l):AlwaysSaid offs l:=by
 intro w ov lv ho hl
 have HO:=Jh ho
 have HOB:=Jh hob
 have HOK:=Jh hok
 have IH1:=Jh ih1
 have IH2:=Jh ih2
 have hlen:=Nat.le_trans (length_le_sumBy nodesT l fun t _=>nodesT_pos t) hn
 have HNS:=Jh hn
 have HPL:=Jh (show ∀ k,(alwP offs (l.take k)).length<=64*1048576 from by
  intro k
  have key:∀ m:List T,(∀ t∈m,AlwOk offs t)->(alwP offs m).length<=64*sumBy nodesT m:=by
   intro m
   induction m with
   | nil=>intro _;simp [alwP]
   | cons y m ih =>
    intro hm
    have q1:=(alw_length offs y (hm y (by simp))).1
    have q2:=ih fun z hz=>hm z (by simp [hz])
    simp only [alwP,List.map_cons,List.flatten_cons,List.length_append,sumBy] at q2 ⊢
    omega
  have:=key (l.take k) fun t ht=>hok t (List.mem_of_mem_take ht)
  have:=sumBy_take_le nodesT l k
  omega)
 have h1v:=ho.one
 obtain ⟨al,bl,ol,cl,rfl,hc1,hc2,hal,hlr⟩:=hl.open
 have HAL:=Jh hal
 have HLR:=Jh hlr
 clear hob hok ih1 ih2 hn ho hl hal hlr
 go_enter Tryz.func37,Tryz.ntmps37
 go_wp2_with fail
 refine wp_loop (fun a wr=>∃ (k:Nat) (u x7 x8 x10 x14 x15 x16 x17 x18 x19 x20 x21 x22 x23 x24 x25 x26 x27 x28 x29 x30 x31 x32 x33 x34 x35 x36 x37 x38 x39 x40 x41 x42 x43 x44 x45 x46 x47 x48 x49 x50 x51 x52 x53 x54 x55 x56:Value),a=⟨#[ov,.slice al l.length cl,undef,undef,.slice Option.none 0 0,u,undef,x7,x8,undef,x10,.slice al l.length cl,.int .i64 l.length,.int .i64 (k:Int),x14,x15,x16,x17,x18,x19,x20,x21,x22,x23,x24,x25,x26,x27,x28,x29,x30,x31,x32,x33,x34,x35,x36,x37,x38,x39,x40,x41,x42,x43,x44,x45,x46,x47,x48,x49,x50,x51,x52,x53,x54,x55,x56,undef,undef,undef,undef],[]⟩ /\
  k<=l.length/\IntRow w.heap.size u (alwP offs (l.take k)) wr/\Ext w wr) (fun a _=>l.length-(intOf (a.tmps.getD 13 undef)).toNat)
  ⟨0,_,_,_,_,_,_,_,_,_,_,_,_,_,_,_,_,_,_,_,_,_,_,_,_,_,_,_,_,_,_,_,_,_,_,_,_,_,_,_,_,_,_,_,_,_,_,_,rfl,Nat.zero_le _,IntRow.nil _ _,Below.refl _ _⟩ ?_
 rintro a wr ⟨k,u,x7,x8,x10,x14,x15,x16,x17,x18,x19,x20,x21,x22,x23,x24,x25,x26,x27,x28,x29,x30,x31,x32,x33,x34,x35,x36,x37,x38,x39,x40,x41,x42,x43,x44,x45,x46,x47,x48,x49,x50,x51,x52,x53,x54,x55,x56,rfl,hk,hrow,hx⟩
 have HROW:=Jh hrow
 have HX:=Jh hx
 have hsz:=hx.size
 clear hrow hx
 by_cases hlt:k<l.length
 ·obtain rfl:=HAL.out (by omega)
  obtain ⟨s1,s2,hhas,he,ht⟩:=Ts.get HLR.out hlt
  have hstep:=alwP_take offs l k hlt
  have hokt:=HOK.out _ (List.getElem_mem hlt)
  have i1:=IH1.out _ (List.getElem_mem hlt)
  have i2:=IH2.out _ (List.getElem_mem hlt)
  have hpl:=HPL.out (k+1)
  rw [hstep,List.length_append] at hpl
  have hnt:=le_sumBy nodesT l _ (List.getElem_mem hlt)
  generalize l[k]=t at *
  have halt:=alt_eq offs t
  obtain ⟨pre,hpre⟩:∃ pre,alwP offs (l.take k)=pre:=⟨_,rfl⟩
  rw [hpre] at HROW hpl hstep
  have HSTEP:=Jh hstep
  have HALT:=Jh halt
  have I1:=Jh i1
  have I2:=Jh i2
  have HOKT:=Jh hokt
  have HPLT:=Jh hpl
  have HNT:=Jh (show nodesT t<=1048576 from Nat.le_trans hnt HNS.out)
  have HH1:=Jh (hhas.ext HX.out)
  have HT1:=Jh ht
  have HE1:=he.one
  have HT2:=ht.one
  clear hstep halt i1 i2 hokt hpl hhas he ht hpre hnt
  have hx4:=ext_alloc wr (.cells (t.cells s1 s2).toArray 39)
  have hb4:=Blk.new wr (t.cells s1 s2).toArray 39
  have hr4:=HROW.out.ext hx4
  have hs4:(wr.alloc (.cells (t.cells s1 s2).toArray 39)).heap.size=wr.heap.size+1:=by simp
  have hX4:=HX.out.trans hx4
  go_upto_region 5 with (first | ((with_reducible show Jl 39);refine Jm 39 (HH1.out) agg_T rfl ?_) | ((with_reducible show Js 39);refine wpList_store_new rfl 39 _ _ rfl rfl (by first | rfl | simp) rfl agg_T (rfl) rfl (by simp [HE1,HT2,one_int]) ?_))
  generalize wr.alloc _=w4 at *
  obtain ⟨B4,hB4⟩:∃ B4,wr.heap.size=B4:=⟨_,rfl⟩
  rw [hB4] at hb4 hs4 ⊢
  have HBX:=Jh hb4
  have HXX:=Jh hX4
  have HRX:=Jh hr4
  clear hb4 hX4 hr4 hx4
  have g0:=HBX.out.has 0 _ rfl
  by_cases o1:t.op=1
  ·have b1:(t.op==1)=true:=by rw [o1];rfl
   have halt:=HALT.out
   rw [if_pos o1] at halt
   have HA2:=Jh halt
   have hnk:=((AlwOk_iff _ _).1 HOKT.out).1 o1
   have HNK:=Jh hnk
   clear halt HALT o1 hnk
   go_upto_region 8 with fail
   go_wp2_with (first | ((with_reducible show Jl 39);refine Jm 39 (HBX.out.has) agg_T rfl ?_) | (go_at_call 36;refine (ownT_calls t s1 s2 HE1 HT2 _).mono ?_;rintro r w5 ⟨rfl,hx5⟩) | ((with_reducible show Jw (Op.buildSlice _ _ _));refine Hid.out ?_))
   refine Jh ?_
   refine wpList_bs1 rfl _ _ rfl appSpan rfl (cs:=(ownS t).cells) rfl rfl (by decide) ?_
   have hx6:=ext_alloc w5 (.cells (ownS t).cells.toArray 81)
   have hb6:=Blk.new w5 (ownS t).cells.toArray 81
   have hs5:=hx5.size
   generalize w5.alloc _=w6 at *
   have HNM:=Jh (numbers_calls offs [ownS t] ov _ w6 (Ints.ext HO.out (HXX.out.trans (hx5.trans hx6))) (spans_one hb6) (by intro s hs;rw [List.mem_singleton.1 hs];exact HNK.out) HOB.out (by simp))
   go_wp2_with (first | (go_at_call 34;refine HNM.out.mono ?_;rintro r w7 ⟨v7,rfl,hr7,hx7⟩) | ((with_reducible show Jw (Op.call { callee:=.builtin .append,args:=_,argTypes:=_ }));refine Hid.out ?_))
   refine Jh ?_
   have hX7:=(hx5.trans hx6).trans hx7
   have hpl:=HPLT.out
   rw [HA2.out] at hpl
   have hz:=HXX.out.size
   have hz7:=hX7.size
   refine wpList_appS rfl _ _ rfl rfl (HRX.out.ext hX7) rfl hr7.cells (by omega) (by omega) ?_
   intro v8 w8 hr8 hg8
   have hx8:Ext w w8:=Ext.grownO (HXX.out.trans hX7) hg8 (fun j hj=>(HRX.out.at hj).1)
   rw [<-HA2.out,<-HSTEP.out] at hr8
   have HR8:=Jh hr8
   clear hr8 hg8 hr7 hx7 hx6 hx5 hb6 hpl hX7 hz hz7 hs5
   go_wp2_with fail
   exact ⟨⟨k+1,_,_,_,_,_,_,_,_,_,_,_,_,_,_,_,_,_,_,_,_,_,_,_,_,_,_,_,_,_,_,_,_,_,_,_,_,_,_,_,_,_,_,_,_,_,_,_,rfl,by omega,HR8.out,hx8⟩,by simp [intOf];omega⟩
  ·have b1:(t.op==1)=false:=by rw [beq_eq_false_iff_ne];exact o1
   by_cases o2:t.op=2\/t.op=3
   ·rcases o2 with o2 | o2
    ·have b2:(t.op==2)=true:=by rw [o2];rfl
     have hl0:=((AlwOk_iff _ _).1 HOKT.out).2.1 (by omega)
     have halt:=HALT.out
     rw [if_neg o1,if_pos (by omega)] at halt
     have HA2:=Jh halt
     have hokx:=((AlwOk_iff _ _).1 HOKT.out).2.2
     have HOKX:=Jh hokx
     have hnx:=nodesT_eq t
     have hnt:=HNT.out
     have HNX:=Jh (show sumBy nodesT t.l<=1048576 by omega)
     have htl:=Nat.le_trans (length_le_sumBy nodesT t.l fun t _=>nodesT_pos t) HNX.out
     obtain ⟨at',bt,ot,ct,rfl,hd1,hd2,hat,htr⟩:=HT1.out.open
     obtain rfl:=hat hl0
     have HTR:=Jh htr
     have HL0:=Jh hl0
     clear halt HALT o1 o2 hokx hnx hnt hat htr hl0
     have g5:=HBX.out.has 5 _ rfl
     go_wp2_with fail
     clear g0 g5 b2
     refine wp_loop (fun a wi=>∃ (j:Nat) (y y10 y15 y16 y17 y18 y19 y20 y21 y22 y23 y24 y25 y26 y27 y28 y29 y30 y31 y32 y33 y34 y35 y36 y37 y41 y42 y43 y44 y45 y46 y47 y48 y49 y50 y51 y52 y53 y54 y55 y56:Value),a=⟨#[ov,.slice (some ⟨bl,ol,Option.none⟩) l.length cl,undef,undef,.slice Option.none 0 0,u,undef,.pointer (some ⟨B4,0,Option.none⟩),y,undef,y10,.slice (some ⟨bl,ol,Option.none⟩) l.length cl,.int .i64 l.length,.int .i64 (k:Int),.bool true,y15,y16,y17,y18,y19,y20,y21,y22,y23,y24,y25,y26,y27,y28,y29,y30,y31,y32,y33,y34,y35,y36,y37,.slice (some ⟨bt,ot,Option.none⟩) t.l.length ct,.int .i64 t.l.length,.int .i64 (j:Int),y41,y42,y43,y44,y45,y46,y47,y48,y49,y50,y51,y52,y53,y54,y55,y56,undef,undef,undef,undef],[]⟩ /\
      j<=t.l.length/\RowIs VInts 53 1 w.heap.size y ((t.l.take j).map fun x=>alwM offs x.l) wi/\IntRow w.heap.size u pre wi/\Ext w wi) (fun a _=>t.l.length-(intOf (a.tmps.getD 40 undef)).toNat)
      ⟨0,_,_,_,_,_,_,_,_,_,_,_,_,_,_,_,_,_,_,_,_,_,_,_,_,_,_,_,_,_,_,_,_,_,_,_,_,_,_,_,_,_,rfl,Nat.zero_le _,RowIs.nil,HRX.out,HXX.out⟩ ?_
     clear HRX HXX HBX hs4
     rintro a wi ⟨j,y,y10,y15,y16,y17,y18,y19,y20,y21,y22,y23,y24,y25,y26,y27,y28,y29,y30,y31,y32,y33,y34,y35,y36,y37,y41,y42,y43,y44,y45,y46,y47,y48,y49,y50,y51,y52,y53,y54,y55,y56,rfl,hj,hways,hrow,hx⟩
     have HWAYS:=Jh hways
     have HRX:=Jh hrow
     have HXX:=Jh hx
     have hszi:=hx.size
     obtain ⟨ay,cy,hy,hy0⟩:=hways.open
     have hly:((t.l.take j).map fun x=>alwM offs x.l).length=j:=by simp;omega
     rw [hly] at hy
     subst hy
     clear hways hrow hx hy0
     by_cases hjl:j<t.l.length
     ·obtain ⟨q1,q2,hqh,hqe,hqt⟩:=Ts.get HTR.out hjl
      have hwst:(t.l.take (j+1)).map (fun x=>alwM offs x.l)=(t.l.take j).map (fun x=>alwM offs x.l)++[alwM offs t.l[j].l]:=by
       rw [take_snoc _ _ hjl,List.map_append];rfl
      have i2:=I2.out _ (List.getElem_mem hjl)
      generalize t.l[j]=x at *
      obtain ⟨wpre,hwpre⟩:∃ wpre,(t.l.take j).map (fun x=>alwM offs x.l)=wpre:=⟨_,rfl⟩
      rw [hwpre] at HWAYS hwst hly
      have HWST:=Jh hwst
      have HQT:=Jh hqt
      have HI2:=Jh i2
      have HH2:=Jh (hqh.ext HXX.out)
      have HLY:=Jh hly
      have HQ1:=hqe.one
      have HQ2:=hqt.one
      clear hwst hqt i2 hqh hly hwpre hqe
      have hx5:=ext_alloc wi (.cells (x.cells q1 q2).toArray 39)
      have hb5:=Blk.new wi (x.cells q1 q2).toArray 39
      have hs5:(wi.alloc (.cells (x.cells q1 q2).toArray 39)).heap.size=wi.heap.size+1:=by simp
      go_upto_region 15 with (first | ((with_reducible show Jl 39);refine Jm 39 (HH2.out) agg_T rfl ?_) | ((with_reducible show Js 39);refine wpList_store_new rfl 39 _ _ rfl rfl (by first | rfl | simp) rfl agg_T (rfl) rfl (by simp [HQ1,HQ2,one_int]) ?_))
      generalize wi.alloc _=w5 at *
      obtain ⟨B5,hB5⟩:∃ B5,wi.heap.size=B5:=⟨_,rfl⟩
      rw [hB5] at hb5 hs5 ⊢
      have g5:=hb5.has 5 _ rfl
      have HIH:=Jh (HI2.out w5 ov q2 (Ints.ext HO.out (HXX.out.trans hx5)) (HQT.out.ext (HXX.out.trans hx5)))
      go_wp2_with (first | (go_at_call 37;refine HIH.out.mono ?_;rintro r w6 ⟨v6,rfl,hr6,hx6⟩) | ((with_reducible show Jw (Op.buildSlice _ _ _));refine Hid.out ?_))
      refine Jh ?_
      obtain ⟨a6,c6,hv6,-⟩:=hr6.open
      have HV6:=Jh (show v6.cells=[v6].toArray by rw [hv6];rfl)
      clear hv6
      refine wpList_bs1 (v:=v6) rfl _ _ rfl appInts rfl (cs:=[v6]) HV6.out rfl (by decide) ?_
      have hx7:=ext_alloc w6 (.cells [v6].toArray 53)
      have hb7:=Blk.new w6 [v6].toArray 53
      have hX7:=(hx5.trans hx6).trans hx7
      have hz7:=hX7.size
      have hW7:=HWAYS.out.since (Since.of_ext hX7)
      have hF7:=(hr6.ext hx7).fv
      have hone6:v6.oneCell'=true:=hr6.cells.one
      have hlt7:∀ q,Value.ownBlock (.slice ay j cy)=some q->q<w5.heap.size:=fun q hq=>by have:=(HWAYS.out.lt q hq).2;omega
      have hS7:=hF7.st (N:=w.heap.size) (by have:=hx5.size;omega) hlt7
      have hrow7:=HRX.out.ext hX7
      have hXW:=HXX.out.trans hX7
      generalize w6.alloc _=w7 at *
      have HS7:=Jh hS7
      have HLT7:=Jh hlt7
      clear hS7 hF7 hlt7
      go_wp2_with ((with_reducible show Jw (Op.call { callee:=.builtin .append,args:=_,argTypes:=_ }));refine Hid.out ?_)
      refine Jh ?_
      refine wpList_app1 rfl _ _ _ rfl appInts rfl hW7 rfl (cs:=[v6]) rfl hb7.has (by simp [hone6]) HS7.out (by rw [HLY.out];omega) (by omega) ?_
      intro g8 cap8 w8 hway8 hg8
      rw [HLY.out] at hway8 ⊢
      have hrow8:IntRow w.heap.size u pre w8:=hrow7.grown hg8 fun q hq e=>by
       obtain ⟨-,cur,hcur⟩:=hW7.blk e.symm
       exact hrow7.ne hcur (by decide) hq rfl
      have hx8:Ext w w8:=Ext.grownO hXW hg8 (fun q hq=>(hW7.blk hq).1)
      rw [<-HWST.out] at hway8
      have HW8:=Jh hway8
      have HR8:=Jh hrow8
      clear hway8 hrow8 hg8 hrow7 hW7 hb7 hx7 hX7 hXW hz7 hr6 hx6 hx5 hb5 g5 hs5
      go_wp2_with fail
      exact ⟨⟨j+1,_,_,_,_,_,_,_,_,_,_,_,_,_,_,_,_,_,_,_,_,_,_,_,_,_,_,_,_,_,_,_,_,_,_,_,_,_,_,_,_,_,rfl,by omega,HW8.out,HR8.out,hx8⟩,by simp [intOf];omega⟩
     ·obtain rfl:j=t.l.length:=by omega
      rw [List.take_length] at HWAYS
      have hhd:(((t.l.map fun x=>alwM offs x.l).headD [])).length<=1073741824:=by
       cases hq:t.l with
       | nil=>simp
       | cons y0 l0 =>
        have hy:y0∈t.l:=by rw [hq];simp
        have e1:=(alw_length offs y0 (HOKX.out y0 hy)).2
        have e2:=nodesT_eq y0
        have e3:=le_sumBy nodesT t.l y0 hy
        have e4:=HNX.out
        simp only [List.map_cons,List.headD_cons]
        omega
      have HMET:=Jh (met_calls _ _ wi HWAYS.out.intsL (by simp;exact HL0.out) hhd)
      go_wp2_with (first | (go_at_call 70;refine HMET.out.mono ?_;rintro r w7 ⟨v7,rfl,hr7,hx7⟩) | ((with_reducible show Jw (Op.call { callee:=.builtin .append,args:=_,argTypes:=_ }));refine Hid.out ?_))
      refine Jh ?_
      have hpl:=HPLT.out
      rw [HA2.out] at hpl
      have hz7:=hx7.size
      refine wpList_appS rfl _ _ rfl rfl (HRX.out.ext hx7) rfl hr7.cells (by omega) (by omega) ?_
      intro v8 w8 hr8 hg8
      have hx8:Ext w w8:=Ext.grownO (HXX.out.trans hx7) hg8 (fun j hj=>(HRX.out.at hj).1)
      rw [<-HA2.out,<-HSTEP.out] at hr8
      have HR8:=Jh hr8
      clear hr8 hg8 hr7 hx7 hpl hz7
      go_wp2_with fail
      exact ⟨⟨k+1,_,_,_,_,_,_,_,_,_,_,_,_,_,_,_,_,_,_,_,_,_,_,_,_,_,_,_,_,_,_,_,_,_,_,_,_,_,_,_,_,_,_,_,_,_,_,_,rfl,by omega,HR8.out,hx8⟩,by simp [intOf];omega⟩
    ·have b2:(t.op==2)=false:=by rw [beq_eq_false_iff_ne];omega
     have b3:(t.op==3)=true:=by rw [o2];rfl
     have hl0:=((AlwOk_iff _ _).1 HOKT.out).2.1 (by omega)
     have halt:=HALT.out
     rw [if_neg o1,if_pos (by omega)] at halt
     have HA2:=Jh halt
     have hokx:=((AlwOk_iff _ _).1 HOKT.out).2.2
     have HOKX:=Jh hokx
     have hnx:=nodesT_eq t
     have hnt:=HNT.out
     have HNX:=Jh (show sumBy nodesT t.l<=1048576 by omega)
     have htl:=Nat.le_trans (length_le_sumBy nodesT t.l fun t _=>nodesT_pos t) HNX.out
     obtain ⟨at',bt,ot,ct,rfl,hd1,hd2,hat,htr⟩:=HT1.out.open
     obtain rfl:=hat hl0
     have HTR:=Jh htr
     have HL0:=Jh hl0
     clear halt HALT o1 o2 hokx hnx hnt hat htr hl0
     have g5:=HBX.out.has 5 _ rfl
     go_wp2_with fail
     clear g0 g5 b2
     refine wp_loop (fun a wi=>∃ (j:Nat) (y y10 y15 y16 y17 y18 y19 y20 y21 y22 y23 y24 y25 y26 y27 y28 y29 y30 y31 y32 y33 y34 y35 y36 y37 y41 y42 y43 y44 y45 y46 y47 y48 y49 y50 y51 y52 y53 y54 y55 y56:Value),a=⟨#[ov,.slice (some ⟨bl,ol,Option.none⟩) l.length cl,undef,undef,.slice Option.none 0 0,u,undef,.pointer (some ⟨B4,0,Option.none⟩),y,undef,y10,.slice (some ⟨bl,ol,Option.none⟩) l.length cl,.int .i64 l.length,.int .i64 (k:Int),.bool true,y15,y16,y17,y18,y19,y20,y21,y22,y23,y24,y25,y26,y27,y28,y29,y30,y31,y32,y33,y34,y35,y36,y37,.slice (some ⟨bt,ot,Option.none⟩) t.l.length ct,.int .i64 t.l.length,.int .i64 (j:Int),y41,y42,y43,y44,y45,y46,y47,y48,y49,y50,y51,y52,y53,y54,y55,y56,undef,undef,undef,undef],[]⟩ /\
      j<=t.l.length/\RowIs VInts 53 1 w.heap.size y ((t.l.take j).map fun x=>alwM offs x.l) wi/\IntRow w.heap.size u pre wi/\Ext w wi) (fun a _=>t.l.length-(intOf (a.tmps.getD 40 undef)).toNat)
      ⟨0,_,_,_,_,_,_,_,_,_,_,_,_,_,_,_,_,_,_,_,_,_,_,_,_,_,_,_,_,_,_,_,_,_,_,_,_,_,_,_,_,_,rfl,Nat.zero_le _,RowIs.nil,HRX.out,HXX.out⟩ ?_
     clear HRX HXX HBX hs4
     rintro a wi ⟨j,y,y10,y15,y16,y17,y18,y19,y20,y21,y22,y23,y24,y25,y26,y27,y28,y29,y30,y31,y32,y33,y34,y35,y36,y37,y41,y42,y43,y44,y45,y46,y47,y48,y49,y50,y51,y52,y53,y54,y55,y56,rfl,hj,hways,hrow,hx⟩
     have HWAYS:=Jh hways
     have HRX:=Jh hrow
     have HXX:=Jh hx
     have hszi:=hx.size
     obtain ⟨ay,cy,hy,hy0⟩:=hways.open
     have hly:((t.l.take j).map fun x=>alwM offs x.l).length=j:=by simp;omega
     rw [hly] at hy
     subst hy
     clear hways hrow hx hy0
     by_cases hjl:j<t.l.length
     ·obtain ⟨q1,q2,hqh,hqe,hqt⟩:=Ts.get HTR.out hjl
      have hwst:(t.l.take (j+1)).map (fun x=>alwM offs x.l)=(t.l.take j).map (fun x=>alwM offs x.l)++[alwM offs t.l[j].l]:=by
       rw [take_snoc _ _ hjl,List.map_append];rfl
      have i2:=I2.out _ (List.getElem_mem hjl)
      generalize t.l[j]=x at *
      obtain ⟨wpre,hwpre⟩:∃ wpre,(t.l.take j).map (fun x=>alwM offs x.l)=wpre:=⟨_,rfl⟩
      rw [hwpre] at HWAYS hwst hly
      have HWST:=Jh hwst
      have HQT:=Jh hqt
      have HI2:=Jh i2
      have HH2:=Jh (hqh.ext HXX.out)
      have HLY:=Jh hly
      have HQ1:=hqe.one
      have HQ2:=hqt.one
      clear hwst hqt i2 hqh hly hwpre hqe
      have hx5:=ext_alloc wi (.cells (x.cells q1 q2).toArray 39)
      have hb5:=Blk.new wi (x.cells q1 q2).toArray 39
      have hs5:(wi.alloc (.cells (x.cells q1 q2).toArray 39)).heap.size=wi.heap.size+1:=by simp
      go_upto_region 15 with (first | ((with_reducible show Jl 39);refine Jm 39 (HH2.out) agg_T rfl ?_) | ((with_reducible show Js 39);refine wpList_store_new rfl 39 _ _ rfl rfl (by first | rfl | simp) rfl agg_T (rfl) rfl (by simp [HQ1,HQ2,one_int]) ?_))
      generalize wi.alloc _=w5 at *
      obtain ⟨B5,hB5⟩:∃ B5,wi.heap.size=B5:=⟨_,rfl⟩
      rw [hB5] at hb5 hs5 ⊢
      have g5:=hb5.has 5 _ rfl
      have HIH:=Jh (HI2.out w5 ov q2 (Ints.ext HO.out (HXX.out.trans hx5)) (HQT.out.ext (HXX.out.trans hx5)))
      go_wp2_with (first | (go_at_call 37;refine HIH.out.mono ?_;rintro r w6 ⟨v6,rfl,hr6,hx6⟩) | ((with_reducible show Jw (Op.buildSlice _ _ _));refine Hid.out ?_))
      refine Jh ?_
      obtain ⟨a6,c6,hv6,-⟩:=hr6.open
      have HV6:=Jh (show v6.cells=[v6].toArray by rw [hv6];rfl)
      clear hv6
      refine wpList_bs1 (v:=v6) rfl _ _ rfl appInts rfl (cs:=[v6]) HV6.out rfl (by decide) ?_
      have hx7:=ext_alloc w6 (.cells [v6].toArray 53)
      have hb7:=Blk.new w6 [v6].toArray 53
      have hX7:=(hx5.trans hx6).trans hx7
      have hz7:=hX7.size
      have hW7:=HWAYS.out.since (Since.of_ext hX7)
      have hF7:=(hr6.ext hx7).fv
      have hone6:v6.oneCell'=true:=hr6.cells.one
      have hlt7:∀ q,Value.ownBlock (.slice ay j cy)=some q->q<w5.heap.size:=fun q hq=>by have:=(HWAYS.out.lt q hq).2;omega
      have hS7:=hF7.st (N:=w.heap.size) (by have:=hx5.size;omega) hlt7
      have hrow7:=HRX.out.ext hX7
      have hXW:=HXX.out.trans hX7
      generalize w6.alloc _=w7 at *
      have HS7:=Jh hS7
      have HLT7:=Jh hlt7
      clear hS7 hF7 hlt7
      go_wp2_with ((with_reducible show Jw (Op.call { callee:=.builtin .append,args:=_,argTypes:=_ }));refine Hid.out ?_)
      refine Jh ?_
      refine wpList_app1 rfl _ _ _ rfl appInts rfl hW7 rfl (cs:=[v6]) rfl hb7.has (by simp [hone6]) HS7.out (by rw [HLY.out];omega) (by omega) ?_
      intro g8 cap8 w8 hway8 hg8
      rw [HLY.out] at hway8 ⊢
      have hrow8:IntRow w.heap.size u pre w8:=hrow7.grown hg8 fun q hq e=>by
       obtain ⟨-,cur,hcur⟩:=hW7.blk e.symm
       exact hrow7.ne hcur (by decide) hq rfl
      have hx8:Ext w w8:=Ext.grownO hXW hg8 (fun q hq=>(hW7.blk hq).1)
      rw [<-HWST.out] at hway8
      have HW8:=Jh hway8
      have HR8:=Jh hrow8
      clear hway8 hrow8 hg8 hrow7 hW7 hb7 hx7 hX7 hXW hz7 hr6 hx6 hx5 hb5 g5 hs5
      go_wp2_with fail
      exact ⟨⟨j+1,_,_,_,_,_,_,_,_,_,_,_,_,_,_,_,_,_,_,_,_,_,_,_,_,_,_,_,_,_,_,_,_,_,_,_,_,_,_,_,_,_,rfl,by omega,HW8.out,HR8.out,hx8⟩,by simp [intOf];omega⟩
     ·obtain rfl:j=t.l.length:=by omega
      rw [List.take_length] at HWAYS
      have hhd:(((t.l.map fun x=>alwM offs x.l).headD [])).length<=1073741824:=by
       cases hq:t.l with
       | nil=>simp
       | cons y0 l0 =>
        have hy:y0∈t.l:=by rw [hq];simp
        have e1:=(alw_length offs y0 (HOKX.out y0 hy)).2
        have e2:=nodesT_eq y0
        have e3:=le_sumBy nodesT t.l y0 hy
        have e4:=HNX.out
        simp only [List.map_cons,List.headD_cons]
        omega
      have HMET:=Jh (met_calls _ _ wi HWAYS.out.intsL (by simp;exact HL0.out) hhd)
      go_wp2_with (first | (go_at_call 70;refine HMET.out.mono ?_;rintro r w7 ⟨v7,rfl,hr7,hx7⟩) | ((with_reducible show Jw (Op.call { callee:=.builtin .append,args:=_,argTypes:=_ }));refine Hid.out ?_))
      refine Jh ?_
      have hpl:=HPLT.out
      rw [HA2.out] at hpl
      have hz7:=hx7.size
      refine wpList_appS rfl _ _ rfl rfl (HRX.out.ext hx7) rfl hr7.cells (by omega) (by omega) ?_
      intro v8 w8 hr8 hg8
      have hx8:Ext w w8:=Ext.grownO (HXX.out.trans hx7) hg8 (fun j hj=>(HRX.out.at hj).1)
      rw [<-HA2.out,<-HSTEP.out] at hr8
      have HR8:=Jh hr8
      clear hr8 hg8 hr7 hx7 hpl hz7
      go_wp2_with fail
      exact ⟨⟨k+1,_,_,_,_,_,_,_,_,_,_,_,_,_,_,_,_,_,_,_,_,_,_,_,_,_,_,_,_,_,_,_,_,_,_,_,_,_,_,_,_,_,_,_,_,_,_,_,rfl,by omega,HR8.out,hx8⟩,by simp [intOf];omega⟩
   ·have b2:(t.op==2)=false:=by rw [beq_eq_false_iff_ne];omega
    have b3:(t.op==3)=false:=by rw [beq_eq_false_iff_ne];omega
    have halt:=HALT.out
    rw [if_neg o1,if_neg o2] at halt
    have HA2:=Jh halt
    have HIH:=Jh (I1.out w4 ov s2 (Ints.ext HO.out HXX.out) (HT1.out.ext HXX.out))
    have g5:=HBX.out.has 5 _ rfl
    clear halt HALT o1 o2
    go_wp2_with (first | (go_at_call 37;refine HIH.out.mono ?_;rintro r w7 ⟨v7,rfl,hr7,hx7⟩) | ((with_reducible show Jw (Op.call { callee:=.builtin .append,args:=_,argTypes:=_ }));refine Hid.out ?_))
    refine Jh ?_
    have hpl:=HPLT.out
    rw [HA2.out] at hpl
    have hz:=HXX.out.size
    have hz7:=hx7.size
    refine wpList_appS rfl _ _ rfl rfl (HRX.out.ext hx7) rfl hr7.cells (by omega) (by omega) ?_
    intro v8 w8 hr8 hg8
    have hx8:Ext w w8:=Ext.grownO (HXX.out.trans hx7) hg8 (fun j hj=>(HRX.out.at hj).1)
    rw [<-HA2.out,<-HSTEP.out] at hr8
    have HR8:=Jh hr8
    clear hr8 hg8 hr7 hx7 hpl hz hz7
    go_wp2_with fail
    exact ⟨⟨k+1,_,_,_,_,_,_,_,_,_,_,_,_,_,_,_,_,_,_,_,_,_,_,_,_,_,_,_,_,_,_,_,_,_,_,_,_,_,_,_,_,_,_,_,_,_,_,_,rfl,by omega,HR8.out,hx8⟩,by simp [intOf];omega⟩
 ·obtain rfl:k=l.length:=by omega
  rw [List.take_length] at HROW
  have hpl:=HPL.out l.length
  rw [List.take_length] at hpl
  go_wp2_with (first
   | (go_at_call 68;refine (sort_calls _ _ _ _ HROW.out (by omega)).mono ?_;rintro r w2 ⟨rfl,hr2,hg2⟩;have hx2:Ext w w2:=Ext.grownO HX.out hg2 (fun k hk=>(HROW.out.at hk).1);have HR2:=Jh hr2;clear hr2 hg2)
   | (go_at_call 69;refine (compact_calls _ _ _ _ HR2.out).mono ?_;rintro r w3 ⟨v3,rfl,ho3,hr3,hg3⟩;have hx3:Ext w w3:=Ext.grownO hx2 hg3 (fun k hk=>(HR2.out.at hk).1);have HR3:=Jh hr3;clear hr3 hg3))
  go_ret
  exact ⟨_,rfl,HR3.out,hx3⟩
end Go.Proofs.YtpngepnfinbaoaaGreat
