/- Laws and walks that a claim of this seat leans on: Ref13, Ref14. -/
import Derived.Test.YtaipaccpaljecaaGreatR28
import Derived.Test.YtaipaccpaljecaaGreatR00
set_option maxRecDepth 100000
set_option maxHeartbeats 8000000
set_option linter.all false
namespace Go.Proofs.YtaipaccpaljecaaGreat
open Go.RowKit
theorem szEs_one (err w:Int) (x:E):szEs err w [x]=([(szE err x w).1],(szE err x w).2):=rfl
theorem szEs_nil (err w:Int):szEs err w []=([],err):=rfl
theorem es_one {W:World} {B:Nat} {cs:List Value} {y:E} (h:Has W B 0 cs) (hv:VE W cs y):Es W (.slice (some ⟨B,0,none⟩) 1 1) [y] :=
 ⟨B,0,⟨_,1,rfl,Nat.le_refl _,by simp only [maxLen];decide,fun _=>rfl⟩,VE.at h hv,trivial⟩
structure OneHyp (ls:List Signal) (ck:Bool) (t:T):Prop where
 sh:shapeT ls t=true
 wf:t.wf
 sized:∀ x∈t.e,SizedRSaid x
 bit:∀ x∈t.e,∀ (cs:List Value) (w:World),VE w cs x->Calls Tryz.prog 150 #[.agg cs.toArray] w (SizePost w (sizeE x (-1)))
 wid:∀ x∈t.e,∀ y,sizeE x 0=.ok y->0<=y.w/\y.w<=9223372036854775807
 some:t.op≠3->SomeR ls ck t.l
 cases:t.op=3->∀ (wd:Int),0<=wd->wd<=9223372036854775807->∀ (s0 s:Value) (w:World),Sigs w s0 ls->Ts w s t.l->Calls Tryz.prog 241 #[s0,s,.bool ck,.int .i64 wd] w (SomePost w (szTL ls ck wd 0 t.l))
abbrev zeroT6:List Value:=[.int .i64 0,.int .i64 0,.int .i64 0,.int .i64 0,.slice Option.none 0 0,.slice Option.none 0 0]
theorem one_stepR (ls:List Signal) (hls:∀ x∈ls,x.w<=64) (ck:Bool) (t:T) (hyp:OneHyp ls ck t):OneR ls ck t:=by
 intro s0 cs w hS hV
 obtain ⟨hsh,hwf,hsz,hbt,hwid,hso,hca⟩:=hyp
 have hst:=(stOk_of_shapeT ls hls t).1 hsh
 have hst1:=((StOk_iff ls t).1 hst).1
 have hq:=szT_eq ls ck t 0 0
 rw [shapeT_eq] at hsh
 obtain ⟨op,sig,hi,lo,e,l⟩:=t
 simp only at hsh hsz hbt hwid hso hca hst1 hq
 obtain ⟨se,sl,rfl,hse,hsl⟩:=hV
 have HSO:=Jh hso
 have HCA:=Jh hca
 have HSZ:=Jh hsz
 have HBT:=Jh hbt
 have HWID:=Jh hwid
 have HS:=Jh hS
 have HSE:=Jh hse
 have HSL:=Jh hsl
 have HST1:=Jh hst1
 have HSH:=Jh hsh
 obtain ⟨q,hqq⟩:∃ q,szT ls ck ⟨op,sig,hi,lo,e,l⟩ 0 0=q:=⟨_,rfl⟩
 rw [hqq] at hq
 have HQ:=Jh hq
 obtain ⟨a0,b0,o0,cap0,rfl,hz1,hz2,ha0,hr0⟩:=hS.open
 obtain ⟨a1,b1,o1,cap1,rfl,hd1,hd2,ha1,hr1⟩:=hse.open
 obtain ⟨a2,b2,o2,cap2,rfl,hd3,hd4,-,-⟩:=hsl.open
 have HA0:=Jh ha0
 have HR0:=Jh hr0
 have HA1:=Jh ha1
 have HR1:=Jh hr1
 rw [hqq]
 clear hqq hq hsh hsz hbt hwid hso hca hst hst1 hS hse hsl ha0 hr0 ha1 hr1 hwf
 have HONE:=Jh (show (T.cells ⟨op,sig,hi,lo,e,l⟩ (.slice a1 e.length cap1) (.slice a2 l.length cap2)).all (·.oneCell')=true by rfl)
 have hx:=(ext_alloc w (.cells (T.cells ⟨op,sig,hi,lo,e,l⟩ (.slice a1 e.length cap1) (.slice a2 l.length cap2)).toArray 60)).alloc (.cells zeroT6.toArray 60)
 have hb4:=(Blk.new w (T.cells ⟨op,sig,hi,lo,e,l⟩ (.slice a1 e.length cap1) (.slice a2 l.length cap2)).toArray 60).alloc (.cells zeroT6.toArray 60)
 have hb6:=Blk.new (w.alloc (.cells (T.cells ⟨op,sig,hi,lo,e,l⟩ (.slice a1 e.length cap1) (.slice a2 l.length cap2)).toArray 60)) zeroT6.toArray 60
 simp only [World.size_alloc] at hb6
 go_enter Tryz.func195,Tryz.ntmps195
 go_upto_region 1 with fail
 generalize (w.alloc _).alloc _=w0 at *
 have hlt0:w.heap.size+1<w0.heap.size:=hb6.lt
 have hx8:=ext_alloc w0 (.cells (T.cells ⟨op,sig,hi,lo,e,l⟩ (.slice a1 e.length cap1) (.slice a2 l.length cap2)).toArray 60)
 have hb8:=Blk.new w0 (T.cells ⟨op,sig,hi,lo,e,l⟩ (.slice a1 e.length cap1) (.slice a2 l.length cap2)).toArray 60
 have hs8:w0.heap.size<(w0.alloc (.cells (T.cells ⟨op,sig,hi,lo,e,l⟩ (.slice a1 e.length cap1) (.slice a2 l.length cap2)).toArray 60)).heap.size:=by simp
 go_upto_region 3 with (first | ((with_reducible show Jl 60);refine Jm 60 (hb4.has) agg_T rfl ?_) | ((with_reducible show Js 60);refine wpList_store_new rfl 60 _ _ rfl rfl (by first | rfl | simp) rfl agg_T (rfl) rfl (HONE.out) ?_))
 generalize w0.alloc _=w2 at *
 have K4:=Jh (hb4.ext hx8)
 have K6:=Jh (hb6.ext hx8)
 have K8:=Jh hb8
 have HX2:=Jh (hx.trans hx8)
 clear hx hb4 hb6 hx8 hb8 HONE
 have f0:=K4.out.has 0 _ rfl
 by_cases o5:op=5
 ·subst o5
  have he:e=[]:=by
   have h:=HSH.out
   rw [if_neg (by decide:¬ (5:Int)=3),if_neg (by decide:¬ (5:Int)=1),if_neg (by decide:¬ (5:Int)=2),if_pos rfl] at h
   split at h
   ·cases h
   ·simp only [Bool.and_eq_true,decide_eq_true_eq] at h
    exact List.eq_nil_of_length_eq_zero h.1
  subst he
  have HOK:=Jh (show q=(⟨5,sig,hi,lo,[],(szTL ls ck 0 0 l).1⟩,(szTL ls ck 0 0 l).2) by
   rw [HQ.out];simp only [szEs_nil,szErr0];rfl)
  have HSOM:=Jh (HSO.out (by decide))
  have HES:=Jh (show ∀ W,Since (w0.heap.size+1) w2 W->Es W (.slice a1 0 cap1) [] from fun W _=>Sl.nil0 _ _ hd2)
  have K4t:=K4
  have K6t:=K6
  have K8t:Hid (Blk w2 w0.heap.size [.int .i64 5,.int .i64 sig,.int .i64 hi,.int .i64 lo,.slice a1 0 cap1,.slice a2 l.length cap2].toArray 60):=K8
  have HXt:=Jh (show Ext w2 w2 from Below.refl _ _)
  have HSE1:=Jh (show (Value.slice a1 0 cap1).oneCell'=true from rfl)
  have f5:=K4t.out.has 5 _ rfl
  go_upto_region 26 with (first | (go_at_call 149;refine (HSOM.out _ (.slice a2 l.length cap2) w2 (HS.out.ext (HX2.out.trans HXt.out)) (HSL.out.ext (HX2.out.trans HXt.out))).mono ?_;intro r w3 hp3;obtain ⟨m,g,rfl,hg,hx3,hrow3,hnil⟩:=hp3;replace hg:=Jh hg))
  obtain ⟨am,lm,cm,hm1⟩:∃ am lm cm,m=.slice am lm cm:=by
   by_cases h:g=0
   ·obtain ⟨a9,c9,h9,-⟩:=(hrow3 h).open;exact ⟨_,_,_,h9⟩
   ·exact ⟨_,_,_,hnil h⟩
  subst hm1
  have K83:=Jh (K8t.out.ext hx3)
  have K63:=Jh (K6t.out.ext hx3)
  have HROW3:=Jh hrow3
  have z5:=K83.out.has 5 _ rfl
  have r5:=K83.out.frozen 5
  have hs3:=hx3.size
  clear hrow3 hnil f5
  go_upto_region 27 with fail
  have hb5:Blk _ w0.heap.size [.int .i64 5,.int .i64 sig,.int .i64 hi,.int .i64 lo,(.slice a1 0 cap1),.slice am lm cm].toArray 60:=K83.out.set 5 (.slice am lm cm)
  have hg5:=gb_set w3 w0.heap.size 5 (.slice am lm cm)
  have K65:=Jh (K63.out.grown hg5 (by omega))
  have HX5:=Jh (((HX2.out.trans HXt.out).trans hx3).grown hg5 (by omega))
  have hs5:=hg5.size
  have HB5:=Jh hb5
  have HG5:=Jh hg5
  have HX3:=Jh hx3
  clear z5 r5 hb5 hg5 hx3
  generalize w3.setCell _ _=w5 at *
  go_wp2_with (first | ((with_reducible show Jl 60);refine Jm 60 (HB5.out.has) agg_T rfl ?_) | ((with_reducible show Js 60);have hk6:=K65.out;refine wpList_store_blk rfl 60 _ _ rfl hk6 rfl (cs:=[.int .i64 5,.int .i64 sig,.int .i64 hi,.int .i64 lo,(.slice a1 0 cap1),.slice am lm cm]) rfl agg_T rfl rfl (by rfl) ?_;intro w9 hb9 hg9) | ((with_reducible show bodyPost _ _ _ _ _ _);refine Hid.out ?_))
  refine Jh ?_
  refine post_ret_blk2 rfl rfl rfl hb9.has agg_T rfl rfl ?_
  refine ⟨_,g,rfl,by rw [HOK.out];exact hg.out,rfl,(by rfl),HX5.out.grown hg9 (by omega),fun h0=>?_⟩
  rw [HOK.out]
  intro W hW
  have hsi:Since (w0.heap.size+1) w3 W:=(Since.of_grown HG5.out (by omega)).trans ((Since.of_grown hg9 (by omega)).trans (hW.mono (by omega)))
  exact ⟨_,_,rfl,HES.out W ((Since.of_ext HX3.out).trans (hsi.mono (by omega))),(HROW3.out h0).sl (V:=VT) (At:=TAt) (fun _ _ _ _ _ h hv=>VT.at h hv) (hsi.mono (by omega))⟩
 by_cases o2:op=2
 ·subst o2
  have hh:e.length=1/\l.length=2:=by
   have h:=HSH.out
   rw [if_neg (by decide:¬ (2:Int)=3),if_neg (by decide:¬ (2:Int)=1),if_pos rfl] at h
   split at h
   ·cases h
   ·simp only [Bool.and_eq_true,decide_eq_true_eq] at h
    exact h.1.1
  have he1:=hh.1
  obtain ⟨x,hex⟩:=List.length_eq_one_iff.1 he1
  have hpos:0<e.length:=by omega
  obtain rfl:=HA1.out hpos
  obtain ⟨sx,qx1,qx2⟩:=Es.get (HR1.out.mono fun x _ b o h=>EAt.ext' (Below.refl _ _) h) hpos
  have hx0:e[0]=x:=by simp [hex]
  rw [hx0] at qx1 qx2
  rw [Nat.zero_mul,Nat.add_zero] at qx1
  have hmem:x∈e:=by rw [hex];simp
  have HEX:=Jh hex
  have HX0:=Jh (qx1.ext HX2.out)
  have hvx:VE w2 (x.cells sx) x:=⟨sx,rfl,qx2.ext HX2.out⟩
  clear hx0 qx1 qx2 hex
  have HC:=Jh (HBT.out x hmem _ w2 hvx)
  have HE1:=Jh he1
  have HSOM:=Jh (HSO.out (by decide))
  clear he1 hh hvx hmem
  have f4:=K4.out.has 4 _ rfl
  go_wp2_with (first | ((with_reducible show Jl 64);refine Jm 64 (HX0.out) agg_E rfl ?_) | (go_at_call 150;refine HC.out.mono ?_;intro r w3 hp3;obtain ⟨cs2,g,rfl,h8,hone,hx3,ho⟩:=hp3.open;clear hp3;refine Hid.out ?_))
  refine Jh ?_
  have hx4:=ext_alloc w3 (.cells cs2.toArray 64)
  have hbb:=Jh (Has.alloc w3 cs2 64)
  have HX34:=Jh hx4
  have HX4:=Jh (hx3.trans hx4)
  have hs34:w3.heap.size<(w3.alloc (.cells cs2.toArray 64)).heap.size:=by simp
  go_upto_region 13 with (first | ((with_reducible show Js 64);refine wpList_store_new rfl 64 _ _ rfl rfl (by first | rfl | simp) rfl agg_E (h8) rfl (hone) ?_))
  generalize w3.alloc _=w4 at *
  clear hx4 f4
  go_wp2_with (first | ((with_reducible show Jl 64);refine Jm 64 (hbb.out) agg_E h8 ?_) | ((with_reducible show Jw (Op.buildSlice _ _ _));refine wpList_bs1 rfl _ _ rfl appE rfl (cs:=cs2) rfl h8 (by decide) ?_;refine Hid.out ?_))
  refine Jh ?_
  have hx5:=ext_alloc w4 (.cells cs2.toArray 64)
  have hb5:=Blk.new w4 cs2.toArray 64
  have hs5:w4.heap.size<(w4.alloc (.cells cs2.toArray 64)).heap.size:=by simp
  have hs4:=HX4.out.size
  obtain ⟨Bs,hBs⟩:∃ Bs,w4.heap.size=Bs:=⟨_,rfl⟩
  rw [hBs] at hb5 ⊢
  have HBS:=Jh hBs
  have hBs1:w2.heap.size<=Bs:=by omega
  clear hBs
  generalize w4.alloc _=w5 at *
  have K85:=Jh (K8.out.ext (HX4.out.trans hx5))
  have z4:=K85.out.has 4 _ rfl
  have r4:=K85.out.frozen 4
  go_upto_region 14 with fail
  have hbt:Blk _ w0.heap.size [.int .i64 2,.int .i64 sig,.int .i64 hi,.int .i64 lo,.slice (some ⟨Bs,0,Option.none⟩) 1 1,.slice a2 l.length cap2].toArray 60:=K85.out.set 4 (.slice (some ⟨Bs,0,Option.none⟩) 1 1)
  have hgt:=gb_set w5 w0.heap.size 4 (.slice (some ⟨Bs,0,Option.none⟩) 1 1)
  have HGT:=Jh hgt
  have HX45:=Jh hx5
  have K8t:=Jh hbt
  have K4t:=Jh ((K4.out.ext (HX4.out.trans hx5)).grown hgt (by omega))
  have K6t:=Jh ((K6.out.ext (HX4.out.trans hx5)).grown hgt (by omega))
  have HBT2:=Jh (hb5.grown hgt (by omega))
  have HXWt:=Jh ((HX2.out.trans (HX4.out.trans hx5)).grown hgt (by omega))
  have hst:=hgt.size
  have hsw5:=hx5.size
  clear z4 r4 hbt hgt hx5 hb5
  generalize w5.setCell _ _=wt at *
  rcases ho with ⟨rfl,y,hy,hfe⟩ | ⟨hg,hy⟩
  ·have HFE:=Jh hfe
   have HOK:=Jh (show q=(⟨2,sig,hi,lo,[y],(szTL ls ck 0 0 l).1⟩,(szTL ls ck 0 0 l).2) by
    rw [HQ.out,HEX.out];simp [szEs_one,szE,szErr0,szW,hy])
   have HES:=Jh (show ∀ W,Since (w0.heap.size+1) wt W->Es W (.slice (some ⟨Bs,0,Option.none⟩) 1 1) [y] from fun W hW =>
    es_one ((hW.blk HBT2.out (by omega)).has) (HFE.out W ((Since.of_ext (HX34.out.trans HX45.out)).trans ((Since.of_grown HGT.out (by omega)).trans (hW.mono (by omega))))))
   have HSE1:=Jh (show (Value.slice (some ⟨Bs,0,Option.none⟩) 1 1).oneCell'=true from rfl)
   have HXt:=HX4
   clear hfe hy
   have f5:=K4t.out.has 5 _ rfl
   go_upto_region 26 with (first | (go_at_call 149;refine (HSOM.out _ (.slice a2 l.length cap2) wt (HS.out.ext HXWt.out) (HSL.out.ext HXWt.out)).mono ?_;intro r w3 hp3;obtain ⟨m,g,rfl,hg,hx3,hrow3,hnil⟩:=hp3;replace hg:=Jh hg))
   obtain ⟨am,lm,cm,hm1⟩:∃ am lm cm,m=.slice am lm cm:=by
    by_cases h:g=0
    ·obtain ⟨a9,c9,h9,-⟩:=(hrow3 h).open;exact ⟨_,_,_,h9⟩
    ·exact ⟨_,_,_,hnil h⟩
   subst hm1
   have K83:=Jh (K8t.out.ext hx3)
   have K63:=Jh (K6t.out.ext hx3)
   have HROW3:=Jh hrow3
   have z5:=K83.out.has 5 _ rfl
   have r5:=K83.out.frozen 5
   have hs3:=hx3.size
   clear hrow3 hnil f5
   go_upto_region 27 with fail
   have hb5:Blk _ w0.heap.size [.int .i64 2,.int .i64 sig,.int .i64 hi,.int .i64 lo,(.slice (some ⟨Bs,0,Option.none⟩) 1 1),.slice am lm cm].toArray 60:=K83.out.set 5 (.slice am lm cm)
   have hg5:=gb_set w3 w0.heap.size 5 (.slice am lm cm)
   have K65:=Jh (K63.out.grown hg5 (by omega))
   have HX5:=Jh ((HXWt.out.trans hx3).grown hg5 (by omega))
   have hs5:=hg5.size
   have HB5:=Jh hb5
   have HG5:=Jh hg5
   have HX3:=Jh hx3
   clear z5 r5 hb5 hg5 hx3
   generalize w3.setCell _ _=w5 at *
   go_wp2_with (first | ((with_reducible show Jl 60);refine Jm 60 (HB5.out.has) agg_T rfl ?_) | ((with_reducible show Js 60);have hk6:=K65.out;refine wpList_store_blk rfl 60 _ _ rfl hk6 rfl (cs:=[.int .i64 2,.int .i64 sig,.int .i64 hi,.int .i64 lo,(.slice (some ⟨Bs,0,Option.none⟩) 1 1),.slice am lm cm]) rfl agg_T rfl rfl (by rfl) ?_;intro w9 hb9 hg9) | ((with_reducible show bodyPost _ _ _ _ _ _);refine Hid.out ?_))
   refine Jh ?_
   refine post_ret_blk2 rfl rfl rfl hb9.has agg_T rfl rfl ?_
   refine ⟨_,g,rfl,by rw [HOK.out];exact hg.out,rfl,(by rfl),HX5.out.grown hg9 (by omega),fun h0=>?_⟩
   rw [HOK.out]
   intro W hW
   have hsi:Since (w0.heap.size+1) w3 W:=(Since.of_grown HG5.out (by omega)).trans ((Since.of_grown hg9 (by omega)).trans (hW.mono (by omega)))
   exact ⟨_,_,rfl,HES.out W ((Since.of_ext HX3.out).trans (hsi.mono (by omega))),(HROW3.out h0).sl (V:=VT) (At:=TAt) (fun _ _ _ _ _ h hv=>VT.at h hv) (hsi.mono (by omega))⟩
  ·have g1:(g != 0)=true:=by rw [bne_iff_ne];omega
   have HG:=Jh (show g=q.2 by
    rw [HQ.out,HEX.out];simp [szEs_one,szE,szErr0,szW,hy]
    exact (szTL_err ls ck l 0 g (by omega)).symm)
   clear hy
   go_wp2_with (first | ((with_reducible show Js 60);have hk6:=K6t.out;refine wpList_store_blk rfl 60 _ _ rfl hk6 rfl (cs:=zeroT6) rfl agg_T rfl rfl rfl ?_;intro w9 hb9 hg9) | ((with_reducible show bodyPost _ _ _ _ _ _);refine Hid.out ?_))
   refine Jh ?_
   refine post_ret_blk2 rfl rfl rfl hb9.has agg_T rfl rfl ?_
   exact ⟨_,g,rfl,HG.out,rfl,rfl,HXWt.out.grown hg9 (by omega),fun h0=>absurd h0 (by omega)⟩
 by_cases o3:op=3
 ·subst o3
  have he1:e.length=1:=by
   have h:=HSH.out
   rw [if_pos rfl] at h
   split at h
   ·cases h
   ·simp only [Bool.and_eq_true,decide_eq_true_eq] at h
    exact h.1
  obtain ⟨x,hex⟩:=List.length_eq_one_iff.1 he1
  have hpos:0<e.length:=by omega
  obtain rfl:=HA1.out hpos
  obtain ⟨sx,qx1,qx2⟩:=Es.get (HR1.out.mono fun x _ b o h=>EAt.ext' (Below.refl _ _) h) hpos
  have hx0:e[0]=x:=by simp [hex]
  rw [hx0] at qx1 qx2
  rw [Nat.zero_mul,Nat.add_zero] at qx1
  have hmem:x∈e:=by rw [hex];simp
  have HEX:=Jh hex
  have HX0:=Jh (qx1.ext HX2.out)
  have hvx:VE w2 (x.cells sx) x:=⟨sx,rfl,qx2.ext HX2.out⟩
  clear hx0 qx1 qx2 hex
  have HC:=Jh (HSZ.out x hmem 0 _ w2 hvx (by decide) (by decide))
  have HWX:=Jh (HWID.out x hmem)
  have HE1:=Jh he1
  clear he1 hvx hmem
  have f4:=K4.out.has 4 _ rfl
  go_wp2_with (first | ((with_reducible show Jl 64);refine Jm 64 (HX0.out) agg_E rfl ?_) | (go_at_call 197;refine HC.out.mono ?_;intro r w3 hp3;obtain ⟨cs2,g,rfl,h8,hone,hx3,ho⟩:=hp3.open;clear hp3;refine Hid.out ?_))
  refine Jh ?_
  have hx4:=ext_alloc w3 (.cells cs2.toArray 64)
  have hbb:=Jh (Has.alloc w3 cs2 64)
  have HX34a:=Jh hx4
  have HX4:=Jh (hx3.trans hx4)
  have hs34:w3.heap.size<(w3.alloc (.cells cs2.toArray 64)).heap.size:=by simp
  have hs4a:=hx3.size
  go_upto_region 17 with (first | ((with_reducible show Js 64);refine wpList_store_new rfl 64 _ _ rfl rfl (by first | rfl | simp) rfl agg_E (h8) rfl (hone) ?_))
  generalize w3.alloc _=w4 at *
  clear hx4 f4
  rcases ho with ⟨rfl,y,hy,hfe⟩ | ⟨hg,hy⟩
  ·have HFE:=Jh hfe
   have hww:=HWX.out y hy
   have HOK:=Jh (show q=(⟨3,sig,hi,lo,[y],(szTL ls ck y.w 0 l).1⟩,(szTL ls ck y.w 0 l).2) by
    rw [HQ.out,HEX.out];simp [szEs_one,szE,szErr0,szW,hy,sizeE.hdW])
   have yw:w4.cell? ⟨w3.heap.size,1,Option.none⟩=some (.int .i64 y.w):=by
    obtain ⟨s9,h9,-⟩:=hfe.ve
    have:=hbb.out 1 (.int .i64 y.w) (by rw [h9];rfl)
    simpa using this
   have f5:=(K4.out.ext HX4.out).has 5 _ rfl
   have HCC:=Jh (HCA.out (by trivial) y.w hww.1 hww.2 _ _ w4 (HS.out.ext (HX2.out.trans HX4.out)) (HSL.out.ext (HX2.out.trans HX4.out)))
   clear hww hfe hy
   go_upto_region 20 with (first | (go_at_call 241;refine HCC.out.mono ?_;intro r w6 hp3;obtain ⟨m,g2,rfl,hg2,hx6,hrow3,hnil⟩:=hp3;replace hg2:=Jh hg2))
   obtain ⟨am,lm,cm,hm1⟩:∃ am lm cm,m=.slice am lm cm:=by
    by_cases h:g2=0
    ·obtain ⟨a9,c9,h9,-⟩:=(hrow3 h).open;exact ⟨_,_,_,h9⟩
    ·exact ⟨_,_,_,hnil h⟩
   subst hm1
   have HROW3:=Jh hrow3
   have HX46:=Jh (HX4.out.trans hx6)
   have HX34:=Jh (HX34a.out.trans hx6)
   have HBB6:=Jh (hbb.out.ext hx6)
   have hs46:=hx6.size
   clear f5 yw hrow3 hnil hx6
   go_wp2_with (first | ((with_reducible show Jl 64);refine Jm 64 (HBB6.out) agg_E h8 ?_) | ((with_reducible show Jw (Op.buildSlice _ _ _));refine wpList_bs1 rfl _ _ rfl appE rfl (cs:=cs2) rfl h8 (by decide) ?_;refine Hid.out ?_))
   refine Jh ?_
   have hx5:=ext_alloc w6 (.cells cs2.toArray 64)
   have hb5:=Blk.new w6 cs2.toArray 64
   have hs5:w6.heap.size<(w6.alloc (.cells cs2.toArray 64)).heap.size:=by simp
   have hs4:=HX46.out.size
   obtain ⟨Bs,hBs⟩:∃ Bs,w6.heap.size=Bs:=⟨_,rfl⟩
   rw [hBs] at hb5 ⊢
   have HBS:=Jh hBs
   have hBs1:w2.heap.size<=Bs:=by omega
   clear hBs
   generalize w6.alloc _=w5 at *
   have K85:=Jh (K8.out.ext (HX46.out.trans hx5))
   have z4:=K85.out.has 4 _ rfl
   have r4:=K85.out.frozen 4
   go_upto_region 21 with fail
   have hbt:Blk _ w0.heap.size [.int .i64 3,.int .i64 sig,.int .i64 hi,.int .i64 lo,.slice (some ⟨Bs,0,Option.none⟩) 1 1,.slice a2 l.length cap2].toArray 60:=K85.out.set 4 (.slice (some ⟨Bs,0,Option.none⟩) 1 1)
   have hgt:=gb_set w5 w0.heap.size 4 (.slice (some ⟨Bs,0,Option.none⟩) 1 1)
   have HGT:=Jh hgt
   have HX45:=Jh hx5
   have K8t:=Jh hbt
   have K4t:=Jh ((K4.out.ext (HX46.out.trans hx5)).grown hgt (by omega))
   have K6t:=Jh ((K6.out.ext (HX46.out.trans hx5)).grown hgt (by omega))
   have HBT2:=Jh (hb5.grown hgt (by omega))
   have HXWt:=Jh ((HX2.out.trans (HX46.out.trans hx5)).grown hgt (by omega))
   have hst:=hgt.size
   have hsw5:=hx5.size
   clear z4 r4 hbt hgt hx5 hb5
   generalize w5.setCell _ _=wt at *
   have HES:=Jh (show ∀ W,Since (w0.heap.size+1) wt W->Es W (.slice (some ⟨Bs,0,Option.none⟩) 1 1) [y] from fun W hW =>
    es_one ((hW.blk HBT2.out (by omega)).has) (HFE.out W ((Since.of_ext (HX34.out.trans HX45.out)).trans ((Since.of_grown HGT.out (by omega)).trans (hW.mono (by omega))))))
   have HSE1:=Jh (show (Value.slice (some ⟨Bs,0,Option.none⟩) 1 1).oneCell'=true from rfl)
   have z5:=K8t.out.has 5 _ rfl
   have r5:=K8t.out.frozen 5
   go_upto_region 22 with fail
   have hb5':Blk _ w0.heap.size [.int .i64 3,.int .i64 sig,.int .i64 hi,.int .i64 lo,.slice (some ⟨Bs,0,Option.none⟩) 1 1,.slice am lm cm].toArray 60:=K8t.out.set 5 (.slice am lm cm)
   have hg5:=gb_set wt w0.heap.size 5 (.slice am lm cm)
   have K65:=Jh (K6t.out.grown hg5 (by omega))
   have HX5:=Jh (HXWt.out.grown hg5 (by omega))
   have hs5':=hg5.size
   have HB5:=Jh hb5'
   have HG5:=Jh hg5
   clear z5 r5 hb5' hg5
   generalize wt.setCell _ _=w7 at *
   go_wp2_with (first | ((with_reducible show Jl 60);refine Jm 60 (HB5.out.has) agg_T rfl ?_) | ((with_reducible show Js 60);have hk6:=K65.out;refine wpList_store_blk rfl 60 _ _ rfl hk6 rfl (cs:=[.int .i64 3,.int .i64 sig,.int .i64 hi,.int .i64 lo,.slice (some ⟨Bs,0,Option.none⟩) 1 1,.slice am lm cm]) rfl agg_T rfl rfl (by rfl) ?_;intro w9 hb9 hg9) | ((with_reducible show bodyPost _ _ _ _ _ _);refine Hid.out ?_))
   refine Jh ?_
   refine post_ret_blk2 rfl rfl rfl hb9.has agg_T rfl rfl ?_
   refine ⟨_,g2,rfl,by rw [HOK.out];exact hg2.out,rfl,(by rfl),HX5.out.grown hg9 (by omega),fun h0=>?_⟩
   rw [HOK.out]
   intro W hW
   have hsi:Since (w0.heap.size+1) wt W:=(Since.of_grown HG5.out (by omega)).trans ((Since.of_grown hg9 (by omega)).trans (hW.mono (by omega)))
   exact ⟨_,_,rfl,HES.out W hsi,(HROW3.out h0).sl (V:=VT) (At:=TAt) (fun _ _ _ _ _ h hv=>VT.at h hv) ((Since.of_ext HX45.out).trans ((Since.of_grown HGT.out (by omega)).trans (hsi.mono (by omega))))⟩
  ·have g1:(g != 0)=true:=by rw [bne_iff_ne];omega
   have HG:=Jh (show g=q.2 by
    rw [HQ.out,HEX.out];simp [szEs_one,szE,szErr0,szW,hy]
    exact (szTL_err ls ck l _ g (by omega)).symm)
   have K6t:=Jh (K6.out.ext HX4.out)
   have HXWt:=Jh (HX2.out.trans HX4.out)
   clear hy
   go_wp2_with (first | ((with_reducible show Js 60);have hk6:=K6t.out;refine wpList_store_blk rfl 60 _ _ rfl hk6 rfl (cs:=zeroT6) rfl agg_T rfl rfl rfl ?_;intro w9 hb9 hg9) | ((with_reducible show bodyPost _ _ _ _ _ _);refine Hid.out ?_))
   refine Jh ?_
   refine post_ret_blk2 rfl rfl rfl hb9.has agg_T rfl rfl ?_
   exact ⟨_,g,rfl,HG.out,rfl,rfl,HXWt.out.grown hg9 (by omega),fun h0=>absurd h0 (by omega)⟩
 by_cases o1:op=1
 rotate_left
 ·exfalso
  have h:=HSH.out
  rw [if_neg o3,if_neg o1,if_neg o2,if_neg o5] at h
  split at h<;>cases h
 subst o1
 clear o2 o3 o5
 have hh:e.length=1/\l.length=0:=by
  have h:=HSH.out
  rw [if_neg (by decide:¬ (1:Int)=3),if_pos rfl] at h
  split at h
  ·cases h
  ·simp only [Bool.and_eq_true,decide_eq_true_eq] at h
   exact h.1
 have he1:=hh.1
 obtain ⟨i1,i2,i3,i4,i5⟩:=HST1.out (by trivial)
 obtain ⟨ks,hks⟩:=Int.eq_ofNat_of_zero_le i1
 subst hks
 have hkl:ks<ls.length:=by omega
 obtain ⟨x,hex⟩:=List.length_eq_one_iff.1 he1
 have hpos:0<e.length:=by omega
 obtain rfl:=HA1.out hpos
 obtain ⟨sx,qx1,qx2⟩:=Es.get (HR1.out.mono fun x _ b o h=>EAt.ext' (Below.refl _ _) h) hpos
 have hx0:e[0]=x:=by simp [hex]
 rw [hx0] at qx1 qx2
 rw [Nat.zero_mul,Nat.add_zero] at qx1
 have hmem:x∈e:=by rw [hex];simp
 have HEX:=Jh hex
 have HX0:=Jh (qx1.ext HX2.out)
 have hvx:VE w2 (x.cells sx) x:=⟨sx,rfl,qx2.ext HX2.out⟩
 clear hx0 qx1 qx2 hex
 have HC:=Jh (fun W (hx:Ext w2 W)=>HSZ.out x hmem (hi-lo+1) _ W (hvx.ext hx) (by omega) (by omega))
 have HE1:=Jh he1
 have HSOM:=Jh (HSO.out (by decide))
 obtain rfl:=HA0.out (by omega)
 have hkd:=(Sigs.get HR0.out hkl)
 have hkk:kindOf ls (ks:Int)=ls[ks].kind:=by simp [kindOf,hkl]
 obtain ⟨kd,hkd2⟩:∃ kd,ls[ks].kind=kd:=⟨_,rfl⟩
 have yk:w2.cell? ⟨b0,o0+ks*4+2,Option.none⟩=some (.int .i64 kd):=by
  have:=(hkd.ext HX2.out) 2 _ rfl
  rw [hkd2] at this;exact this
 rw [hkd2] at hkk
 obtain ⟨c4,hc4⟩:∃ c,(kd==4)=c:=⟨_,rfl⟩
 obtain ⟨c1,hc1⟩:∃ c,(kd==1)=c:=⟨_,rfl⟩
 obtain ⟨bad,hbad⟩:∃ bad,((ck != c4)||c1)=bad:=⟨_,rfl⟩
 have herr:szErr0 ls ck ⟨1,(ks:Int),hi,lo,e,l⟩ 0=if bad=true then 85 else 0:=by
  unfold szErr0
  simp only [hkk]
  have e4:decide (kd=4)=c4:=by rw [<-hc4,Bool.eq_iff_iff];simp
  have e1:kd=1↔c1=true:=by rw [<-hc1];simp
  rw [e4,<-hbad]
  congr 1
  rw [Bool.or_eq_true,bne_iff_ne,e1]
  simp [or_comm]
 have HERR:=Jh herr
 have HBAD:=Jh hbad
 have f1:=K4.out.has 1 _ rfl
 clear he1 hh hmem hkd hkk hkd2 herr hbad i1 i2
 go_upto_region 6 with fail
 go_cut [39] from 32 to 39 (fun u wr=>u=.bool bad/\wr=w2)
 case first =>
  cases ck<;>cases c4<;>cases c1<;>(go_wp2_with fail;go_meet;exact ⟨by rw [<-HBAD.out];rfl,rfl⟩)
 case rest =>
  obtain ⟨rfl,hwc⟩:=hcut
  have hwc':=hwc.symm
  clear hwc
  subst hwc'
  clear yk f1 hc4 hc1
  cases bad
  rotate_left
  ·have HG:=Jh (show (85:Int)=q.2 by
    have h2:=HERR.out
    rw [if_pos rfl] at h2
    rw [HQ.out,HEX.out]
    rw [HEX.out] at h2
    rw [h2]
    simp [szEs_one,szE]
    exact (szTL_err ls ck l _ 85 (by decide)).symm)
   go_wp2_with (first | ((with_reducible show Js 60);have hk6:=K6.out;refine wpList_store_blk rfl 60 _ _ rfl hk6 rfl (cs:=zeroT6) rfl agg_T rfl rfl rfl ?_;intro w9 hb9 hg9) | ((with_reducible show bodyPost _ _ _ _ _ _);refine Hid.out ?_))
   refine Jh ?_
   refine post_ret_blk2 rfl rfl rfl hb9.has agg_T rfl rfl ?_
   exact ⟨_,85,rfl,HG.out,rfl,rfl,HX2.out.grown hg9 (by omega),fun h0=>absurd h0 (by decide)⟩
  ·go_upto_region 8 with fail
   go_cut [11,12] from 42 to 54 (fun u f wx=>CallOut w2 (sizeE x (hi-lo+1)) u f wx)
   case first =>
    refine wp_region_held_drew (S:=fun W=>Blk W w.heap.size (T.cells ⟨1,(ks:Int),hi,lo,e,l⟩ (.slice (some ⟨b1,o1,Option.none⟩) e.length cap1) (.slice a2 l.length cap2)).toArray 60/\Has W b1 o1 (x.cells sx)/\Ext w2 W) (by kernel_rfl) ⟨K4.out.drew,HX0.out.drew,Below.drew (Below.refl _ _)⟩ (fun hH=>?_)
    try simp only [J]
    (refine Jt 0 (_) rfl (yif_load1 rfl fun _ _=>rfl) hH ?_;try simp only [J])
    (refine Jt 1 (.slice (some ⟨b1,o1,Option.none⟩) e.length cap1) rfl (yif_load1 rfl (by intro W hW;have y7:=hW.1.has 4 _ rfl;clear hW;go_simp)) hH ?_;try simp only [J])
    (refine Jt 2 (.pointer (some ⟨b1,o1,Option.none⟩)) rfl (yif_load1 rfl (by intro W hW;clear hW;go_simp)) hH ?_;try simp only [J])
    (refine Jt 3 (.agg (x.cells sx).toArray) rfl (yif_load rfl 64 _ rfl rfl (fun W hW=>hW.2.1) agg_E rfl) hH ?_;try simp only [J])
    (refine Jt 4 (_) rfl (yif_load1 rfl fun _ _=>rfl) hH ?_;try simp only [J])
    (refine Jt 5 (.int .i64 hi) rfl (yif_load1 rfl (by intro W hW;have y7:=hW.1.has 2 _ rfl;clear hW;go_simp)) hH ?_;try simp only [J])
    (refine Jt 6 (_) rfl (yif_load1 rfl fun _ _=>rfl) hH ?_;try simp only [J])
    (refine Jt 7 (.int .i64 lo) rfl (yif_load1 rfl (by intro W hW;have y7:=hW.1.has 3 _ rfl;clear hW;go_simp)) hH ?_;try simp only [J])
    (refine Jt 8 (.int .i64 (hi-lo)) rfl (yif_load1 rfl (by intro W hW;clear hW;go_simp;rw [IntKind.wrap_i64];omega)) hH ?_;try simp only [J])
    (refine Jt 9 (.int .i64 (hi-lo+1)) rfl (yif_load1 rfl (by intro W hW;clear hW;go_simp;rw [IntKind.wrap_i64];omega)) hH ?_;try simp only [J])
    refine wpAnyH_ready (rs:=[10,14]) (by kernel_rfl) (by simp) ?_
    refine AllReadyH.cons rfl (fun K hK=>?_) (AllReadyH.cons rfl (fun K hK=>?_) AllReadyH.nil)
    ·go_simp
     refine (HC.out _ hH.2.2).mono ?_
     intro r w3 hp3
     obtain ⟨cs2,g,rfl,h8,hone,hx3,ho⟩:=hp3.open
     refine hK.out _ _ ⟨hH.1.ext hx3,hH.2.1.ext hx3,hH.2.2.trans hx3⟩ (fun hH=>?_)
     clear hK K
     try simp only [J]
     (refine Jt 11 (_) rfl (yif_load1 rfl fun _ _=>rfl) hH ?_;try simp only [J])
     (refine Jt 12 (.agg cs2.toArray) rfl (yif_load1 rfl (by intro W hW;clear hW;go_simp)) hH ?_;try simp only [J])
     (refine Jt 13 (.int .i64 g) rfl (yif_load1 rfl (by intro W hW;clear hW;go_simp)) hH ?_;try simp only [J])
     refine Jr 14 rfl fun K hK=>?_
     go_simp
     have hex:=ext_alloc w3 (.cells zeroE.toArray 64)
     have hnb:=Blk.new w3 zeroE.toArray 64
     refine hK.out _ _ ⟨hH.1.ext hex,hH.2.1.ext hex,hH.2.2.trans hex⟩ (fun hH=>?_)
     clear hK K
     try simp only [J]
     generalize w3.alloc _=wa at *
     refine Jr 15 rfl fun K hK=>?_
     refine step_store_blk rfl 64 _ _ rfl hnb rfl (cs:=cs2) rfl agg_E h8 rfl hone ?_
     intro wz hbz hgz
     have hxz:Ext w3 wz:=hex.grown hgz (Nat.le_refl _)
     have hx2z:Ext w2 wz:=hH.2.2.grown hgz (by have:=hx3.size;rw [World.heap_drew] at this;omega)
     refine hK.out _ _ ⟨K4.out.ext hx2z,HX0.out.ext hx2z,hx2z⟩ (fun hH=>?_)
     clear hK K
     try simp only [J]
     (refine Jt 16 (_) rfl (yif_load1 rfl fun _ _=>rfl) hH ?_;try simp only [J])
     refine Jz ?_
     go_wp2_with fail
     go_meet
     case rel=>exact ⟨_,cs2,g,rfl,rfl,hbz.has,h8,hone,hx2z,ho.imp (fun ⟨h1,y,h2,h3⟩=>⟨h1,y,h2,h3.ext hxz⟩) id⟩
    ·go_simp
     have hex:=ext_alloc w2 (.cells zeroE.toArray 64)
     have hnb:=Blk.new w2 zeroE.toArray 64
     refine hK.out _ _ ⟨K4.out.ext hex.drew,HX0.out.ext hex.drew,hex.drew⟩ (fun hH=>?_)
     clear hK K
     try simp only [J]
     refine Jr 10 rfl fun K hK=>?_
     go_simp
     refine (HC.out _ hH.2.2).mono ?_
     intro r w3 hp3
     obtain ⟨cs2,g,rfl,h8,hone,hx3,ho⟩:=hp3.open
     refine hK.out _ _ ⟨hH.1.ext hx3,hH.2.1.ext hx3,hH.2.2.trans hx3⟩ (fun hH=>?_)
     clear hK K
     try simp only [J]
     (refine Jt 11 (_) rfl (yif_load1 rfl fun _ _=>rfl) hH ?_;try simp only [J])
     (refine Jt 12 (.agg cs2.toArray) rfl (yif_load1 rfl (by intro W hW;clear hW;go_simp)) hH ?_;try simp only [J])
     (refine Jt 13 (.int .i64 g) rfl (yif_load1 rfl (by intro W hW;clear hW;go_simp)) hH ?_;try simp only [J])
     refine Jr 15 rfl fun K hK=>?_
     refine step_store_blk rfl 64 _ _ rfl (hnb.drew.ext hx3) rfl (cs:=cs2) rfl agg_E h8 rfl hone ?_
     intro wz hbz hgz
     have hx2z:Ext w2 wz:=hH.2.2.grown hgz (Nat.le_refl _)
     refine hK.out _ _ ⟨K4.out.ext hx2z,HX0.out.ext hx2z,hx2z⟩ (fun hH=>?_)
     clear hK K
     try simp only [J]
     (refine Jt 16 (_) rfl (yif_load1 rfl fun _ _=>rfl) hH ?_;try simp only [J])
     refine Jz ?_
     go_wp2_with fail
     go_meet
     case rel=>exact ⟨_,cs2,g,rfl,rfl,hbz.has,h8,hone,hx2z,ho.imp (fun ⟨h1,y,h2,h3⟩=>⟨h1,y,h2,(h3.since (Since.of_grown hgz (by simp [World.size_alloc,World.heap_drew]))).mono (by simp [World.size_alloc,World.heap_drew])⟩) id⟩
   case rest =>
    obtain ⟨Bq,cs2,g,rfl,rfl,hbox,h8,hone,hx4,ho⟩:=hcut
    obtain ⟨w4,hw4⟩:∃ x,x=wc:=⟨_,rfl⟩
    rw [<-hw4] at hbox hx4 ho ⊢
    clear hw4
    have hbb:=Jh hbox
    have HX4:=Jh hx4
    clear hbox hx4
    go_wp2_with (first | ((with_reducible show Jl 64);refine Jm 64 (hbb.out) agg_E h8 ?_) | ((with_reducible show Jw (Op.buildSlice _ _ _));refine wpList_bs1 rfl _ _ rfl appE rfl (cs:=cs2) rfl h8 (by decide) ?_;refine Hid.out ?_))
    refine Jh ?_
    have hx5:=ext_alloc w4 (.cells cs2.toArray 64)
    have hb5:=Blk.new w4 cs2.toArray 64
    have hs5:w4.heap.size<(w4.alloc (.cells cs2.toArray 64)).heap.size:=by simp
    have hs4:=HX4.out.size
    obtain ⟨Bs,hBs⟩:∃ Bs,w4.heap.size=Bs:=⟨_,rfl⟩
    rw [hBs] at hb5 ⊢
    have HBS:=Jh hBs
    have hBs1:w2.heap.size<=Bs:=by omega
    clear hBs
    generalize w4.alloc _=w5 at *
    have K85:=Jh (K8.out.ext (HX4.out.trans hx5))
    have z4:=K85.out.has 4 _ rfl
    have r4:=K85.out.frozen 4
    go_upto_region 10 with fail
    have hbt:Blk _ w0.heap.size [.int .i64 1,.int .i64 (ks:Int),.int .i64 hi,.int .i64 lo,.slice (some ⟨Bs,0,Option.none⟩) 1 1,.slice a2 l.length cap2].toArray 60:=K85.out.set 4 (.slice (some ⟨Bs,0,Option.none⟩) 1 1)
    have hgt:=gb_set w5 w0.heap.size 4 (.slice (some ⟨Bs,0,Option.none⟩) 1 1)
    have HGT:=Jh hgt
    have HX45:=Jh hx5
    have K8t:=Jh hbt
    have K4t:=Jh ((K4.out.ext (HX4.out.trans hx5)).grown hgt (by omega))
    have K6t:=Jh ((K6.out.ext (HX4.out.trans hx5)).grown hgt (by omega))
    have HBT2:=Jh (hb5.grown hgt (by omega))
    have HXWt:=Jh ((HX2.out.trans (HX4.out.trans hx5)).grown hgt (by omega))
    have hst:=hgt.size
    have hsw5:=hx5.size
    clear z4 r4 hbt hgt hx5 hb5
    generalize w5.setCell _ _=wt at *
    rcases ho with ⟨rfl,y,hy,hfe⟩ | ⟨hg,hy⟩
    ·have HFE:=Jh hfe
     have HOK:=Jh (show q=(⟨1,(ks:Int),hi,lo,[y],(szTL ls ck 0 0 l).1⟩,(szTL ls ck 0 0 l).2) by
      have h2:=HERR.out
      rw [if_neg (by decide)] at h2
      rw [HQ.out,HEX.out]
      rw [HEX.out] at h2
      rw [h2]
      simp [szEs_one,szE,szW,hy])
     have HES:=Jh (show ∀ W,Since (w0.heap.size+1) wt W->Es W (.slice (some ⟨Bs,0,Option.none⟩) 1 1) [y] from fun W hW =>
      es_one ((hW.blk HBT2.out (by omega)).has) (HFE.out W ((Since.of_ext (HX45.out)).trans ((Since.of_grown HGT.out (by omega)).trans (hW.mono (by omega))))))
     have HSE1:=Jh (show (Value.slice (some ⟨Bs,0,Option.none⟩) 1 1).oneCell'=true from rfl)
     have HXt:=HX4
     clear hfe hy
     have f5:=K4t.out.has 5 _ rfl
     go_upto_region 26 with (first | (go_at_call 149;refine (HSOM.out _ (.slice a2 l.length cap2) wt (HS.out.ext HXWt.out) (HSL.out.ext HXWt.out)).mono ?_;intro r w3 hp3;obtain ⟨m,g,rfl,hg,hx3,hrow3,hnil⟩:=hp3;replace hg:=Jh hg))
     obtain ⟨am,lm,cm,hm1⟩:∃ am lm cm,m=.slice am lm cm:=by
      by_cases h:g=0
      ·obtain ⟨a9,c9,h9,-⟩:=(hrow3 h).open;exact ⟨_,_,_,h9⟩
      ·exact ⟨_,_,_,hnil h⟩
     subst hm1
     have K83:=Jh (K8t.out.ext hx3)
     have K63:=Jh (K6t.out.ext hx3)
     have HROW3:=Jh hrow3
     have z5:=K83.out.has 5 _ rfl
     have r5:=K83.out.frozen 5
     have hs3:=hx3.size
     clear hrow3 hnil f5
     go_upto_region 27 with fail
     have hb5:Blk _ w0.heap.size [.int .i64 1,.int .i64 (ks:Int),.int .i64 hi,.int .i64 lo,(.slice (some ⟨Bs,0,Option.none⟩) 1 1),.slice am lm cm].toArray 60:=K83.out.set 5 (.slice am lm cm)
     have hg5:=gb_set w3 w0.heap.size 5 (.slice am lm cm)
     have K65:=Jh (K63.out.grown hg5 (by omega))
     have HX5:=Jh ((HXWt.out.trans hx3).grown hg5 (by omega))
     have hs5:=hg5.size
     have HB5:=Jh hb5
     have HG5:=Jh hg5
     have HX3:=Jh hx3
     clear z5 r5 hb5 hg5 hx3
     generalize w3.setCell _ _=w5 at *
     go_wp2_with (first | ((with_reducible show Jl 60);refine Jm 60 (HB5.out.has) agg_T rfl ?_) | ((with_reducible show Js 60);have hk6:=K65.out;refine wpList_store_blk rfl 60 _ _ rfl hk6 rfl (cs:=[.int .i64 1,.int .i64 (ks:Int),.int .i64 hi,.int .i64 lo,(.slice (some ⟨Bs,0,Option.none⟩) 1 1),.slice am lm cm]) rfl agg_T rfl rfl (by rfl) ?_;intro w9 hb9 hg9) | ((with_reducible show bodyPost _ _ _ _ _ _);refine Hid.out ?_))
     refine Jh ?_
     refine post_ret_blk2 rfl rfl rfl hb9.has agg_T rfl rfl ?_
     refine ⟨_,g,rfl,by rw [HOK.out];exact hg.out,rfl,(by rfl),HX5.out.grown hg9 (by omega),fun h0=>?_⟩
     rw [HOK.out]
     intro W hW
     have hsi:Since (w0.heap.size+1) w3 W:=(Since.of_grown HG5.out (by omega)).trans ((Since.of_grown hg9 (by omega)).trans (hW.mono (by omega)))
     exact ⟨_,_,rfl,HES.out W ((Since.of_ext HX3.out).trans (hsi.mono (by omega))),(HROW3.out h0).sl (V:=VT) (At:=TAt) (fun _ _ _ _ _ h hv=>VT.at h hv) (hsi.mono (by omega))⟩
    ·have g1:(g != 0)=true:=by rw [bne_iff_ne];omega
     have HG:=Jh (show g=q.2 by
      have h2:=HERR.out
      rw [if_neg (by decide)] at h2
      rw [HQ.out,HEX.out]
      rw [HEX.out] at h2
      rw [h2]
      simp [szEs_one,szE,szW,hy]
      exact (szTL_err ls ck l 0 g (by omega)).symm)
     clear hy
     go_wp2_with (first | ((with_reducible show Js 60);have hk6:=K6t.out;refine wpList_store_blk rfl 60 _ _ rfl hk6 rfl (cs:=zeroT6) rfl agg_T rfl rfl rfl ?_;intro w9 hb9 hg9) | ((with_reducible show bodyPost _ _ _ _ _ _);refine Hid.out ?_))
     refine Jh ?_
     refine post_ret_blk2 rfl rfl rfl hb9.has agg_T rfl rfl ?_
     exact ⟨_,g,rfl,HG.out,rfl,rfl,HXWt.out.grown hg9 (by omega),fun h0=>absurd h0 (by omega)⟩
theorem sizeE_w {e y:E} (h:sizeE e 0=.ok y):y.w=told (own e) 32:=by
 rw [sizeE_eq] at h
 have h0:told (if (0:Int) = -1 then 1 else 0) (told (own e) 32)=told (own e) 32:=by simp [told]
 rw [h0,if_neg (by omega)] at h
 split at h
 ·split at h
  ·injection h with h;rw [<-h]
  ·cases h
 ·split at h
  ·cases h
  ·split at h
   ·cases h
   ·split at h
    ·cases h
    ·injection h with h;rw [<-h]
theorem oneSome (ls:List Signal) (hls:∀ x∈ls,x.w<=64) (ck:Bool) (t:T) :
  (shapeT ls t=true->t.wf->nodesT t<=1048576->OneR ls ck t)/\(t.l.all (shapeT ls)=true->(∀ x∈t.l,x.wf)->sumBy nodesT t.l<=1048576->SomeR ls ck t.l):=by
 induction t using T.ind with
 | h t ih =>
  have hsecond:t.l.all (shapeT ls)=true->(∀ x∈t.l,x.wf)->sumBy nodesT t.l<=1048576->SomeR ls ck t.l:=by
   intro h1 h2 h3
   refine some_stepR ls ck t.l (fun x hx=>(ih x hx).1 (List.all_eq_true.1 h1 x hx) (h2 x hx) (by have:=le_sumBy nodesT t.l x hx;omega)) ?_
   have:=length_le_sumBy nodesT t.l (fun x _=>by rw [nodesT_eq];omega)
   omega
  refine ⟨?_,hsecond⟩
  intro hsh hwf hnb
  obtain ⟨-,-,-,-,hew,hlw⟩:=(T.wf_iff t).1 hwf
  have hn:=nodesT_eq t
  have hshape:∀ x∈t.e,shape ls x=true:=by
   intro x hx
   rw [shapeT_eq] at hsh
   split at hsh
   ·cases hsh
   ·rename_i h0
    have h1:(t.e.any fun x=>!shape ls x)=false:=by
     cases hh:(t.e.any fun x=>!shape ls x)
     ·rfl
     ·exfalso;apply h0;rw [hh];rfl
    have:=List.any_eq_false.1 h1 x hx
    simpa using this
  have hnx:∀ x∈t.e,nodes x<=1048576:=fun x hx=>by have:=le_sumBy nodes t.e x hx;omega
  refine one_stepR ls hls ck t ⟨hsh,hwf,fun x hx=>sized_callsR hls x (hshape x hx) (hew x hx) (hnx x hx),fun x hx cs w hv=>bit_callsR hls x (hshape x hx) (hew x hx) (hnx x hx) cs w hv,?_,?_,?_⟩
  ·intro x hx y hy
   have h1:=sizeE_w hy
   have h2:=own_le x (ownOk_of_shape ls hls x (hshape x hx))
   have h3:=hnx x hx
   rw [h1];unfold told
   split<;>omega
  ·intro h3
   refine hsecond ?_ hlw (by omega)
   rw [shapeT_eq] at hsh
   split at hsh
   ·cases hsh
   ·try rw [if_neg h3] at hsh
    split at hsh
    ·simp only [Bool.and_eq_true,decide_eq_true_eq] at hsh
     rw [List.eq_nil_of_length_eq_zero hsh.1.2];rfl
    ·split at hsh
     ·rw [Bool.and_eq_true] at hsh;exact hsh.2
     ·split at hsh
      ·rw [Bool.and_eq_true] at hsh;exact hsh.2
      ·cases hsh
  ·intro h3 wd hw0 hw1 s0 s w hS hT
   rw [shapeT_eq] at hsh
   split at hsh
   ·cases hsh
   ·try rw [if_pos h3] at hsh
    simp only [Bool.and_eq_true,decide_eq_true_eq] at hsh
    have harm:∀ x∈t.l,shapeT.armT ls x=true:=by
     intro x hx
     obtain ⟨k,hk,rfl⟩:=List.getElem_of_mem hx
     exact ((arms_iff ls t.l).1 hsh.2.1 k hk).2
    have hlen:=length_le_sumBy nodesT t.l (fun x _=>by rw [nodesT_eq];omega)
    have hx1:∀ x∈t.l,nodesT x<=1048576:=fun x hx=>by have:=le_sumBy nodesT t.l x hx;omega
    have hax:∀ x∈t.l,(∀ y∈x.e,shape ls y=true)/\x.l.all (shapeT ls)=true:=by
     intro x hx
     have h:=harm x hx
     rw [shapeT.armT_eq] at h
     simp only [Bool.and_eq_true,decide_eq_true_eq] at h
     refine ⟨fun y hy=>?_,h.2⟩
     have:=List.all_eq_true.1 h.1.2 y hy
     simp only [Bool.and_eq_true] at this
     exact this.2
    refine cases_stepR ls ck wd hw0 hw1 t.l harm ?_ ?_ (by omega) ?_ s0 s w hS hT
    ·intro x hx y hy
     have h1:=hx1 x hx
     rw [nodesT_eq] at h1
     have h2:=le_sumBy nodes x.e y hy
     exact sized_callsR hls y ((hax x hx).1 y hy) (((T.wf_iff x).1 (hlw x hx)).2.2.2.2.1 y hy) (by omega)
    ·intro x hx
     have h1:=hx1 x hx
     rw [nodesT_eq] at h1
     exact (ih x hx).2 (hax x hx).2 ((T.wf_iff x).1 (hlw x hx)).2.2.2.2.2 (by omega)
    ·intro x hx
     have h1:=hx1 x hx
     rw [nodesT_eq] at h1
     have:=length_le_sumBy nodes x.e (fun x _=>nodes_pos x)
     omega
theorem some_callsR (ls:List Signal) (hls:∀ x∈ls,x.w<=64) (ck:Bool) (l:List T) (h1:l.all (shapeT ls)=true) (h2:∀ x∈l,x.wf) (h3:sumBy nodesT l<=1048576):SomeR ls ck l :=
 (oneSome ls hls ck ⟨5,0,0,0,[],l⟩).2 h1 h2 h3
/-! ### how large a design may be -/
theorem bound_callsR (d:Flat) (v:Value) (w:World) (h:FlatV w v d) (hb:mNodes d<=1048576) (hl:d.signals.length<=1048576) :
  Calls Tryz.prog 146 #[v] w fun r w'=>r=.returned (.bool (fitsM d))/\Ext w w':=by
 have HF:=Jh h
 have HME:=Jh (fun W (hx:Ext w W)=>measure_calls d v W (h.ext hx) hb)
 obtain ⟨sv,pv,cv,rfl,hS,hP,hC⟩:=h
 obtain ⟨xs,bs,os,caps,e1,hs1,hs2,hs3,hsr⟩:=hS.open
 obtain ⟨ap,bp,op,capp,e2,-,-,-,-⟩:=hP.open
 obtain ⟨ac,bc,oc,capc,e3,-,-,-,-⟩:=hC.open
 subst e1;subst e2;subst e3
 have HSR:=Jh hsr
 have HS3:=Jh hs3
 have hbits:=bits5_le d.signals
 have hm:=mDeep_le d
 have hx:=ext_alloc w (.cells [.slice xs d.signals.length caps,.slice ap d.procs.length capp,.slice ac d.checks.length capc].toArray 26)
 have hbx:=Has.alloc w [.slice xs d.signals.length caps,.slice ap d.procs.length capp,.slice ac d.checks.length capc] 26
 have HM:=Jh (show fitsM d=(decide (d.signals.length<=512)&&decide (d.procs.length<=1024)&&decide (bits5 d.signals<=4096)&&(decide (mNodes d<=65536)&&decide (mDeep d<=64))) by
  unfold fitsM
  have:=bits5_iff d.signals 0
  rw [Nat.zero_add,Nat.zero_add] at this
  rw [show decide (bitsN d.signals<=4096)=decide (bits5 d.signals<=4096) from decide_eq_decide.2 this.symm])
 clear hS hP hC hsr hs3
 go_enter Tryz.func146,Tryz.ntmps146
 go_upto_region 1 with fail
 generalize w.alloc _=w0 at *
 have HX:=Jh hx
 have HB:=Jh hbx
 clear hx hbx
 go_wp2_with fail
 go_loopw [3,4] (fun n i wr=>∃ k:Nat,k<=d.signals.length/\i=.int .i64 k/\n=.int .i64 ((bits5 (d.signals.take k):Nat):Int)/\Ext w0 wr) (fun _ i _=>d.signals.length-(intOf i).toNat)
 case atStart=>exact ⟨0,Nat.zero_le _,rfl,rfl,Below.refl _ _⟩
 case round =>
  obtain ⟨k,hk,rfl,rfl,hB⟩:=hrel
  have HBX:=Jh hB
  have y0:=(HB.out.ext hB) 0 _ rfl
  rw [Nat.add_zero] at y0
  clear hB
  by_cases hlt:k<d.signals.length
  ·have he:=Sigs.get (HSR.out.mono fun x _ b o h=>SigAt.ext' (HX.out.trans HBX.out) h) hlt
   obtain rfl:=HS3.out (by omega)
   have y1:=he 1 _ rfl
   have hbk:=bits5_le (d.signals.take k)
   rw [List.length_take] at hbk
   have HTK:=Jh (show bits5 (d.signals.take (k+1))=bits5 (d.signals.take k)+(min (max d.signals[k].w 0) 5000).toNat by
    unfold bits5;rw [sumBy_take _ _ _ hlt])
   obtain ⟨x,hx⟩:∃ x,d.signals[k]=x:=⟨_,rfl⟩
   rw [hx] at y1 HTK
   clear hx he
   obtain ⟨nb,hnb⟩:∃ nb,bits5 (d.signals.take k)=nb:=⟨_,rfl⟩
   rw [hnb] at HTK hbk ⊢
   clear hnb
   go_wp2_with fail
   go_roundw
   case rel=>exact ⟨k+1,by omega,by go_num,by rw [HTK.out];congr 1;omega,HBX.out⟩
   case measure=>simp [intOf];omega
  ·obtain rfl:k=d.signals.length:=by omega
   rw [List.take_length]
   have HBW:=Jh (HB.out.ext HBX.out)
   have y1:=HBW.out 1 _ rfl
   obtain ⟨nb,hnb⟩:∃ nb,bits5 d.signals=nb:=⟨_,rfl⟩
   rw [hnb] at hbits HM ⊢
   clear hnb
   go_upto_region 7 with (first | ((with_reducible show Jl 26);refine Jm 26 (HBW.out) agg_Flat rfl ?_) | (go_at_call 81;refine (HME.out _ (HX.out.trans HBX.out)).mono ?_;rintro r w1 ⟨rfl,hx1⟩))
   have y0:=(HBW.out.ext hx1) 0 _ rfl
   rw [Nat.add_zero] at y0
   have y1:=(HBW.out.ext hx1) 1 _ rfl
   go_wp2_with fail
   all_goals go_ret
   all_goals exact ⟨ret_bool (by rw [HM.out];refine Bool.eq_iff_iff.2 ?_;simp;omega),HX.out.trans (HBX.out.trans hx1)⟩
end Go.Proofs.YtaipaccpaljecaaGreat
