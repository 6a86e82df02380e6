/- Laws and walks that a claim of this seat leans on: Look. -/
import Derived.Test.YtoaamjgfhppppaaGreatTHangs
import Derived.Test.YtoaamjgfhppppaaGreatT00
set_option maxRecDepth 100000
set_option maxHeartbeats 8000000
set_option linter.all false
namespace Go.Proofs.YtoaamjgfhppppaaGreat
open Go.RowKit
/-! ### lint.look -/
theorem noneF_step (ls:List Signal) (by':List Int) (s:Nat) (h:s<ls.length):noneF ls by' s (ls.drop s)=if ((decide (ls[s].kind=2)||decide (ls[s].kind=3))&&(subM ls by' s).contains (-1))=true then true else noneF ls by' (s+1) (ls.drop (s+1)):=by
 rw [List.drop_eq_getElem_cons h,noneF]
theorem offsM_get (ls:List Signal) (k n:Nat) (h:k<=n):(offsM ls n)[k]? = some (sumW ls k):=by
 unfold offsM;rw [List.getElem?_map,List.getElem?_range (by omega)];rfl
theorem latF_step (d:Flat) (p:Nat) (h:p<d.procs.length):latF d p (d.procs.drop p)=if (!d.procs[p].clocked&&!decide ((writesM d (p:Int)).length=(alwaysM d (p:Int)).length))=true then true else latF d (p+1) (d.procs.drop (p+1)):=by
 rw [List.drop_eq_getElem_cons h,latF]
theorem wires_step (d:Flat) (p:Nat) (h:p<d.procs.length):wiresM ((clks d).drop p)=(if d.procs[p].clocked=true then 0 else 1)+wiresM ((clks d).drop (p+1)):=by
 have h':p<(clks d).length:=by unfold clks;simpa using h
 have e:(clks d)[p]=d.procs[p].clocked:=by simp [clks]
 rw [List.drop_eq_getElem_cons h',wiresM,List.countP_cons,e]
 unfold wiresM
 cases d.procs[p].clocked<;>simp<;>omega
def lookT (d:Flat) (by':List Int):Int × List (List Int) × List Int :=
 if latF d 0 d.procs=true then (122,[],[])
 else if (ordM (graphM d by') (clks d)).length<wiresM (clks d) then (123,[],[])
 else (0,graphM d by',ordM (graphM d by') (clks d))
theorem lookM_ok {d:Flat} {by':List Int} (h:drvD d=(0,by')):lookM d=if noneF d.signals by' 0 d.signals=true then (121,[],[]) else lookT d by':=by
 unfold lookM lookT;rw [h];simp
theorem lookM_err {d:Flat} {e:Int} (h:drvD d=(e,[])) (he:e≠0):lookM d=(e,[],[]):=by
 unfold lookM;rw [h];simp [he]
theorem look_calls (d:Flat) (v:Value) (w:World) (h:FlatV w v d) (hok:d.ok) :
  Calls Tryz.prog 40 #[v] w fun r w'=>∃ gv ov,r=.returned (.tuple #[gv,ov,.int .i64 (lookM d).1])/\∃ wg,IntsL wg gv (lookM d).2.1/\Ext w wg/\Ext wg w'/\IntRow wg.heap.size ov (lookM d).2.2 w':=by
 have HF:=Jh h
 obtain ⟨sv,pv,cv,rfl,hS,hP,hC⟩:=h
 have HX:=Jh (ext_alloc w (.cells [sv,pv,cv].toArray 26))
 have HB:=Jh (Blk.new w [sv,pv,cv].toArray 26)
 have HDR:=Jh (Drivers_calls d _ _ (HF.out.ext HX.out) hok)
 have hln:=hok.procs
 have hlns:=hok.signals
 obtain ⟨a0,b0,o0,c0,rfl,hc1,hc2,ha,hr⟩:=hP.open
 obtain ⟨as',bs,os,cs,rfl,hd1,hd2,has,hsr⟩:=hS.open
 have HA:=Jh ha
 have HR:=Jh hr
 have HAS:=Jh has
 have HSR:=Jh hsr
 clear hS hP hC ha hr has hsr
 obtain ⟨res,hres⟩:∃ res,lookM d=res:=⟨_,rfl⟩
 rw [hres]
 have HRES:=Jh hres
 clear hres
 go_enter Tryz.func40,Tryz.ntmps40
 go_upto_region 1 with fail
 have hs1:(w.alloc (.cells [.slice as' d.signals.length cs,.slice a0 d.procs.length c0,cv].toArray 26)).heap.size=w.heap.size+1:=by simp
 generalize w.alloc _=w1 at *
 rcases drvD_cases d with ⟨e,hd,he⟩ | ⟨hck,by',hd,hdm⟩
 ·have hdr:=HDR.out
  rw [hd] at hdr
  have hres:=HRES.out
  rw [lookM_err hd he] at hres
  subst hres
  have HD2:=Jh hdr
  have hbq:(e==0)=false:=by rw [beq_eq_false_iff_ne];exact he
  clear hdr HDR hd he
  go_wp2_with (first | ((with_reducible show Jl 26);refine Jm 26 (HB.out.has) agg_Flat rfl ?_) | (go_at_call 38;refine HD2.out.mono ?_;rintro r w2 ⟨u,rfl,hr2,hx2⟩))
  refine bodyPost_ret (v:=.tuple #[.slice Option.none 0 0,.slice Option.none 0 0,.int .i64 e]) (by simp [results,Tryz.results40,go_sem]) rfl ⟨.slice Option.none 0 0,.slice Option.none 0 0,rfl,_,Sl.nil _ _,HX.out.trans hx2,Below.refl _ _,IntRow.nil _ _⟩
 ·have hdr:=HDR.out
  rw [hd] at hdr
  have hres:=HRES.out
  rw [lookM_ok hd] at hres
  have HD2:=Jh hdr
  have hbl:=drvD_len hok hck hdm
  have hnb:=nBits_le hok hck
  have HBY:=Jh hbl
  obtain ⟨nb,hnbe⟩:∃ nb,by'.length=nb:=⟨_,rfl⟩
  have hnb2:(nb:Int)=nBits d:=by rw [<-hnbe];exact hbl.1
  have HNB:=Jh hnb2
  have HNE:=Jh hnbe
  have hnb3:nb<=67108864:=by omega
  have HC0:=Jh hck
  have HW:=Jh (checkM_w hck)
  have HRS:=Jh hres
  have HBT:=Jh (fun W (hx:Ext w1 W)=>Bits_ok d _ W ((HF.out.ext HX.out).ext hx) hok hck)
  clear hdr HDR hd hck hdm hres HRES hbl hnbe hnb2 hnb
  go_upto_region 5 with (first | ((with_reducible show Jl 26);refine Jm 26 (HB.out.has) agg_Flat rfl ?_) | (go_at_call 38;refine HD2.out.mono ?_;rintro r w2 ⟨u,rfl,hr2,hx2⟩;have HBX2:=Jh (HB.out.ext hx2)) | ((with_reducible show Jl 26);refine Jm 26 (HBX2.out.has) agg_Flat rfl ?_) | (go_at_call 13;refine (HBT.out _ hx2).mono ?_;rintro r w3 ⟨ub,rfl,hr3,hx3⟩))
  obtain ⟨gb,cb,hu,hgb,hgc⟩:=hr3.open1 (by rw [offsM_length];omega)
  rw [offsM_length] at hu
  subst hu
  obtain ⟨ay,cy,hu,-⟩:=hr2.open
  try simp only at hu
  rw [HNE.out] at hu
  subst hu
  have HRY:=Jh (hr2.ext hx3)
  have HGC:=Jh hgc
  have HX3:=Jh (hx2.trans hx3)
  have HB3:=Jh (HB.out.ext HX3.out)
  have y0:=HB3.out.has 0 _ rfl
  rw [Nat.zero_add] at y0
  clear hr2 hr3 hgc hx2 hx3 HBX2 HBT HD2
  obtain ⟨nf,hnf⟩:∃ nf,noneF d.signals by' 0 d.signals=nf:=⟨_,rfl⟩
  have hrs:=HRS.out
  rw [hnf] at hrs
  have HRT:=Jh hrs
  have HNF:Hid (noneF d.signals by' 0 (d.signals.drop 0)=nf):=Jh hnf
  clear hnf hrs HRS
  go_wp2_with fail
  clear y0
  refine wp_loop (fun a wr=>∃ (s:Nat) (x9 x10 x37 x38 x39 x40 x41 x42 x43 x44 x45 x46 x47 x48 x49 x50 x51 x52 x53 x54 x55 x56 x57 x58 x59 x60 x61 x62 x63:Value),a=⟨#[.agg #[.slice as' d.signals.length cs,.slice a0 d.procs.length c0,cv],.pointer (some ⟨w.heap.size,0,Option.none⟩),.slice Option.none 0 0,.slice Option.none 0 0,.int .i64 0,.slice ay nb cy,.int .i64 0,.slice (some ⟨gb,0,Option.none⟩) (d.signals.length+1) cb,.int .i64 0,x9,x10,undef,undef,undef,undef,undef,undef,undef,undef,undef,.tuple #[.slice ay nb cy,.int .i64 0],.agg #[.slice as' d.signals.length cs,.slice a0 d.procs.length c0,cv],.tuple #[.slice ay nb cy,.int .i64 0],.slice ay nb cy,.int .i64 0,.int .i64 0,.bool false,undef,.tuple #[.slice (some ⟨gb,0,Option.none⟩) (d.signals.length+1) cb,.int .i64 0],.agg #[.slice as' d.signals.length cs,.slice a0 d.procs.length c0,cv],.tuple #[.slice (some ⟨gb,0,Option.none⟩) (d.signals.length+1) cb,.int .i64 0],.slice (some ⟨gb,0,Option.none⟩) (d.signals.length+1) cb,.int .i64 0,.pointer (some ⟨w.heap.size,0,Option.none⟩),.slice as' d.signals.length cs,.int .i64 d.signals.length,.int .i64 (s:Int),x37,x38,x39,x40,x41,x42,x43,x44,x45,x46,x47,x48,x49,x50,x51,x52,x53,x54,x55,x56,x57,x58,x59,x60,x61,x62,x63,undef,undef,undef,undef,undef,undef,undef,undef,undef,undef,undef,undef,undef,undef,undef,undef,undef,undef,undef,undef,undef,undef,undef,undef,undef,undef,undef,undef,undef,undef,undef,undef,undef,undef,undef,undef,undef,undef,undef,undef,undef,undef],[]⟩ /\
   s<=d.signals.length/\Hid (noneF d.signals by' s (d.signals.drop s)=nf)/\Ext w3 wr) (fun a _=>d.signals.length-(intOf (a.tmps.getD 36 undef)).toNat)
   ⟨0,_,_,_,_,_,_,_,_,_,_,_,_,_,_,_,_,_,_,_,_,_,_,_,_,_,_,_,_,_,rfl,Nat.zero_le _,HNF,Below.refl _ _⟩ ?_
  clear HNF
  rintro a wr ⟨s,x9,x10,x37,x38,x39,x40,x41,x42,x43,x44,x45,x46,x47,x48,x49,x50,x51,x52,x53,x54,x55,x56,x57,x58,x59,x60,x61,x62,x63,rfl,hs,HN,hxr⟩
  have HXR:=Jh hxr
  clear hxr
  by_cases hlt:s<d.signals.length
  ·obtain rfl:=HAS.out (by omega)
   have hhas:Has wr bs (os+s*4) d.signals[s].cells:=Sigs.get (HSR.out.mono fun x _ b o h=>SigAt.ext' ((HX.out.trans HX3.out).trans HXR.out) h) hlt
   have hstep:=noneF_step d.signals by' s hlt
   rw [HN.out] at hstep
   have hb0:=sumW_le d.signals HW.out s hs
   have hb1:=sumW_mono d.signals HW.out (s+1) d.signals.length (by omega) (Nat.le_refl _)
   have hsw:=sumW_succ d.signals s hlt
   have hw1:=(HW.out _ (List.getElem_mem hlt)).1
   have hnbn:=HNB.out
   unfold nBits at hnbn
   obtain ⟨s0,hs0⟩:∃ s0:Nat,sumW d.signals s=s0:=⟨(sumW d.signals s).toNat,by omega⟩
   obtain ⟨s1,hs1'⟩:∃ s1:Nat,sumW d.signals (s+1)=s1:=⟨(sumW d.signals (s+1)).toNat,by omega⟩
   have yb0:=HGC.out s (s0:Int) (by rw [<-hs0];exact offsM_get _ _ _ (by omega))
   have yb1:=HGC.out (s+1) (s1:Int) (by rw [<-hs1'];exact offsM_get _ _ _ (by omega))
   have h01:s0<s1:=by omega
   have h1n:s1<=nb:=by omega
   obtain ⟨gy,cy',hey,hgy,hgyc⟩:=HRY.out.open1 (by rw [HNE.out];omega)
   rw [HNE.out] at hey
   injection hey with e1 e2 e3
   subst e1
   subst e3
   have hcy:nb<=cy/\cy<=9223372036854775807:=by
    rcases HRY.out.2 with ⟨e,-⟩ | ⟨g,cap,cur,e,-,-,hnc,hcm,-⟩
    ·cases e
    ·injection e with _ _ e
     subst e
     rw [HNE.out] at hnc
     exact ⟨hnc,by simpa [maxLen] using hcm⟩
   have hsub:∀ W,Ext w3 W->Ints W (.slice (some ⟨gy,s0,none⟩) (s1-s0) (cy-s0)) (subM d.signals by' s):=by
    intro W hW
    have:subM d.signals by' s=(by'.drop s0).take (s1-s0):=by
     unfold subM
     rw [hs0,hs1']
     congr 1
     ·omega
    rw [this]
    exact Ints.ext (ints_sub hgyc (by rw [HNE.out];omega) (by omega) (by omega)) hW
   obtain ⟨cc,hcc⟩:∃ cc,(subM d.signals by' s).contains (-1)=cc:=⟨_,rfl⟩
   rw [hcc] at hstep
   generalize d.signals[s]=x at *
   obtain ⟨xk,hxk⟩:∃ xk,x.kind=xk:=⟨_,rfl⟩
   rw [hxk] at hstep
   have HST:=Jh hstep
   have HSUB:=Jh hsub
   have HCC:=Jh hcc
   have HH1:=Jh hhas
   have Y0':=Jh (Has.one1 yb0 HXR.out)
   have Y1':=Jh (Has.one1 yb1 HXR.out)
   have HXK:=Jh hxk
   clear hhas hstep hb0 hb1 hsw hw1 hnbn hs0 hs1' yb0 yb1 hgy hgyc hsub hcc HN hxk
   have hx4:=ext_alloc wr (.cells x.cells.toArray 41)
   have hb4:=Blk.new wr x.cells.toArray 41
   have HX4':=Jh (HXR.out.trans hx4)
   have Y0:=Jh (Has.one1 Y0'.out hx4)
   have Y1:=Jh (Has.one1 Y1'.out hx4)
   go_upto_region 8 with (first | ((with_reducible show Jl 41);refine Jm 41 (HH1.out) agg_Signal rfl ?_) | ((with_reducible show Js 41);refine wpList_store_new rfl 41 _ _ rfl rfl (by first | rfl | simp) rfl agg_Signal (rfl) rfl (by rfl) ?_))
   obtain ⟨B10,hB10⟩:∃ B10,wr.heap.size=B10:=⟨_,rfl⟩
   rw [hB10] at hb4 ⊢
   generalize wr.alloc _=w4 at *
   have HX4:=HX4'
   have hb4':Blk w4 B10 [Value.string x.name,.int .i64 x.w,.int .i64 xk,.int .u64 x.init].toArray 41:=by rw [<-HXK.out];exact hb4
   generalize x.name=xn at hb4'
   generalize x.w=xw at hb4'
   generalize x.init=xi at hb4'
   clear hb4 hx4 Y0' Y1' HXR HX4' hB10
   have HB4:=Jh hb4'
   clear hb4'
   have hsel:xk=2\/xk=3\/¬ (xk=2\/xk=3):=by omega
   rcases hsel with hk2 | hk3 | hkn
   ·subst hk2
    refine wp_region_held_drew (S:=fun W3=>Blk W3 B10 [Value.string xn,.int .i64 xw,.int .i64 2,.int .u64 xi].toArray 41/\W3.cell? ⟨gb,s,none⟩=some (.int .i64 (s0:Int))/\W3.cell? ⟨gb,s+1,none⟩=some (.int .i64 (s1:Int))) (by kernel_rfl) ⟨HB4.out.drew,Y0.out,Y1.out⟩ (fun hH=>?_)
    generalize hW0:w4.drew=W0 at *
    have HEW:Hid (Ext w3 W0):=Jh (by rw [<-hW0];exact HX4.out.drew)
    clear hW0
    try simp only [J]
    cases cc
    ·skip
     (refine Jt 0 (.pointer (some ⟨B10,2,Option.none⟩)) rfl (yif_load1 rfl (by intro W3 hW;clear hW;go_simp)) hH ?_;try simp only [J])
     (refine Jt 1 (.int .i64 2) rfl (yif_load1 rfl (by intro W3 hW;have hw:=hW.1.has 2 _ rfl;clear hW;go_simp)) hH ?_;try simp only [J])
     (refine Jt 2 (.bool true) rfl (yif_load1 rfl (by intro W3 hW;clear hW;go_simp)) hH ?_;try simp only [J])
     (refine Jt 3 (.bool true) rfl (yif_load1 rfl fun _ _=>rfl) hH ?_;try simp only [J])
     (refine Jt 4 (undef) rfl (Or.inr ⟨rfl,rfl⟩) hH ?_;try simp only [J])
     (refine Jt 5 (undef) rfl (Or.inr ⟨rfl,rfl⟩) hH ?_;try simp only [J])
     (refine Jt 6 (undef) rfl (Or.inr ⟨rfl,rfl⟩) hH ?_;try simp only [J])
     (refine Jt 7 (.bool true) rfl (yif_load1 rfl (by intro W3 hW;clear hW;go_simp)) hH ?_;try simp only [J])
     (refine Jt 8 (.bool true) rfl (yif_load1 rfl fun _ _=>rfl) hH ?_;try simp only [J])
     (refine Jt 9 (.slice (some ⟨gy,0,Option.none⟩) nb cy) rfl (yif_load1 rfl fun _ _=>rfl) hH ?_;try simp only [J])
     (refine Jt 10 (.slice (some ⟨gb,0,Option.none⟩) (d.signals.length+1) cb) rfl (yif_load1 rfl fun _ _=>rfl) hH ?_;try simp only [J])
     (refine Jt 11 (.int .i64 (s:Int)) rfl (yif_load1 rfl fun _ _=>rfl) hH ?_;try simp only [J])
     (refine Jt 12 (.pointer (some ⟨gb,s,Option.none⟩)) rfl (yif_load1 rfl (by intro W3 hW;clear hW;go_simp;intro h;omega)) hH ?_;try simp only [J])
     (refine Jt 13 (.int .i64 (s0:Int)) rfl (yif_load1 rfl (by intro W3 hW;have hw:=hW.2.1;clear hW;go_simp)) hH ?_;try simp only [J])
     (refine Jt 14 (.slice (some ⟨gb,0,Option.none⟩) (d.signals.length+1) cb) rfl (yif_load1 rfl fun _ _=>rfl) hH ?_;try simp only [J])
     (refine Jt 15 (.int .i64 (s:Int)) rfl (yif_load1 rfl fun _ _=>rfl) hH ?_;try simp only [J])
     (refine Jt 16 (.int .i64 ((s+1:Nat):Int)) rfl (yif_load1 rfl (by intro W3 hW;clear hW;go_simp;rw [IntKind.wrap_i64];omega)) hH ?_;try simp only [J])
     (refine Jt 17 (.pointer (some ⟨gb,s+1,Option.none⟩)) rfl (yif_load1 rfl (by intro W3 hW;clear hW;go_simp;intro h;omega)) hH ?_;try simp only [J])
     (refine Jt 18 (.int .i64 (s1:Int)) rfl (yif_load1 rfl (by intro W3 hW;have hw:=hW.2.2;clear hW;go_simp)) hH ?_;try simp only [J])
     (refine Jt 19 (.slice (some ⟨gy,s0,Option.none⟩) (s1-s0) (cy-s0)) rfl (yif_load1 rfl (by intro W3 hW;clear hW;go_simp;rw [if_pos (by omega),if_pos (by omega),if_neg (by omega)])) hH ?_;try simp only [J])
     refine Jr 20 rfl fun K hK=>?_
     go_simp
     refine (contains_calls _ _ (-1) W0 (HSUB.out W0 HEW.out)).mono ?_
     rintro r w6 ⟨rfl,rfl⟩
     rw [HCC.out]
     refine hK.out _ _ hH (fun hH=>?_)
     clear hK K
     try simp only [J]
     (refine Jt 21 (.bool false) rfl (yif_load1 rfl (by intro W3 hW;clear hW;go_simp)) hH ?_;try simp only [J])
     refine Jz ?_
     have HN2:Hid (noneF d.signals by' (s+1) (d.signals.drop (s+1))=nf):=Jh (by have:=HST.out;simpa using this.symm)
     clear HST
     go_wp2_with fail
     first | exact ⟨⟨s+1,by omega,by omega,HN2,HEW.out⟩,by simp [intOf];omega⟩ | exact ⟨⟨s+1,_,_,_,_,_,_,_,_,_,_,_,_,_,_,_,_,_,_,_,_,_,_,_,_,_,_,_,_,_,rfl,by omega,HN2,HEW.out⟩,by simp [intOf];omega⟩
    ·skip
     (refine Jt 0 (.pointer (some ⟨B10,2,Option.none⟩)) rfl (yif_load1 rfl (by intro W3 hW;clear hW;go_simp)) hH ?_;try simp only [J])
     (refine Jt 1 (.int .i64 2) rfl (yif_load1 rfl (by intro W3 hW;have hw:=hW.1.has 2 _ rfl;clear hW;go_simp)) hH ?_;try simp only [J])
     (refine Jt 2 (.bool true) rfl (yif_load1 rfl (by intro W3 hW;clear hW;go_simp)) hH ?_;try simp only [J])
     (refine Jt 3 (.bool true) rfl (yif_load1 rfl fun _ _=>rfl) hH ?_;try simp only [J])
     (refine Jt 4 (undef) rfl (Or.inr ⟨rfl,rfl⟩) hH ?_;try simp only [J])
     (refine Jt 5 (undef) rfl (Or.inr ⟨rfl,rfl⟩) hH ?_;try simp only [J])
     (refine Jt 6 (undef) rfl (Or.inr ⟨rfl,rfl⟩) hH ?_;try simp only [J])
     (refine Jt 7 (.bool true) rfl (yif_load1 rfl (by intro W3 hW;clear hW;go_simp)) hH ?_;try simp only [J])
     (refine Jt 8 (.bool true) rfl (yif_load1 rfl fun _ _=>rfl) hH ?_;try simp only [J])
     (refine Jt 9 (.slice (some ⟨gy,0,Option.none⟩) nb cy) rfl (yif_load1 rfl fun _ _=>rfl) hH ?_;try simp only [J])
     (refine Jt 10 (.slice (some ⟨gb,0,Option.none⟩) (d.signals.length+1) cb) rfl (yif_load1 rfl fun _ _=>rfl) hH ?_;try simp only [J])
     (refine Jt 11 (.int .i64 (s:Int)) rfl (yif_load1 rfl fun _ _=>rfl) hH ?_;try simp only [J])
     (refine Jt 12 (.pointer (some ⟨gb,s,Option.none⟩)) rfl (yif_load1 rfl (by intro W3 hW;clear hW;go_simp;intro h;omega)) hH ?_;try simp only [J])
     (refine Jt 13 (.int .i64 (s0:Int)) rfl (yif_load1 rfl (by intro W3 hW;have hw:=hW.2.1;clear hW;go_simp)) hH ?_;try simp only [J])
     (refine Jt 14 (.slice (some ⟨gb,0,Option.none⟩) (d.signals.length+1) cb) rfl (yif_load1 rfl fun _ _=>rfl) hH ?_;try simp only [J])
     (refine Jt 15 (.int .i64 (s:Int)) rfl (yif_load1 rfl fun _ _=>rfl) hH ?_;try simp only [J])
     (refine Jt 16 (.int .i64 ((s+1:Nat):Int)) rfl (yif_load1 rfl (by intro W3 hW;clear hW;go_simp;rw [IntKind.wrap_i64];omega)) hH ?_;try simp only [J])
     (refine Jt 17 (.pointer (some ⟨gb,s+1,Option.none⟩)) rfl (yif_load1 rfl (by intro W3 hW;clear hW;go_simp;intro h;omega)) hH ?_;try simp only [J])
     (refine Jt 18 (.int .i64 (s1:Int)) rfl (yif_load1 rfl (by intro W3 hW;have hw:=hW.2.2;clear hW;go_simp)) hH ?_;try simp only [J])
     (refine Jt 19 (.slice (some ⟨gy,s0,Option.none⟩) (s1-s0) (cy-s0)) rfl (yif_load1 rfl (by intro W3 hW;clear hW;go_simp;rw [if_pos (by omega),if_pos (by omega),if_neg (by omega)])) hH ?_;try simp only [J])
     refine Jr 20 rfl fun K hK=>?_
     go_simp
     refine (contains_calls _ _ (-1) W0 (HSUB.out W0 HEW.out)).mono ?_
     rintro r w6 ⟨rfl,rfl⟩
     rw [HCC.out]
     refine hK.out _ _ hH (fun hH=>?_)
     clear hK K
     try simp only [J]
     (refine Jt 21 (.bool true) rfl (yif_load1 rfl (by intro W3 hW;clear hW;go_simp)) hH ?_;try simp only [J])
     refine Jz ?_
     have hnf:nf=true:=by have:=HST.out;simpa using this
     have hrt:=HRT.out
     rw [hnf,if_pos rfl] at hrt
     subst hrt
     clear HST hnf
     go_wp2_with fail
     refine bodyPost_ret (v:=.tuple #[.slice Option.none 0 0,.slice Option.none 0 0,.int .i64 121]) (by simp [results,Tryz.results40,go_sem]) rfl ⟨.slice Option.none 0 0,.slice Option.none 0 0,rfl,_,Sl.nil _ _,HX.out.trans (HX3.out.trans HEW.out),Below.refl _ _,IntRow.nil _ _⟩
   ·subst hk3
    refine wp_region_held_drew (S:=fun W3=>Blk W3 B10 [Value.string xn,.int .i64 xw,.int .i64 3,.int .u64 xi].toArray 41/\W3.cell? ⟨gb,s,none⟩=some (.int .i64 (s0:Int))/\W3.cell? ⟨gb,s+1,none⟩=some (.int .i64 (s1:Int))) (by kernel_rfl) ⟨HB4.out.drew,Y0.out,Y1.out⟩ (fun hH=>?_)
    generalize hW0:w4.drew=W0 at *
    have HEW:Hid (Ext w3 W0):=Jh (by rw [<-hW0];exact HX4.out.drew)
    clear hW0
    try simp only [J]
    cases cc
    ·skip
     (refine Jt 0 (.pointer (some ⟨B10,2,Option.none⟩)) rfl (yif_load1 rfl (by intro W3 hW;clear hW;go_simp)) hH ?_;try simp only [J])
     (refine Jt 1 (.int .i64 3) rfl (yif_load1 rfl (by intro W3 hW;have hw:=hW.1.has 2 _ rfl;clear hW;go_simp)) hH ?_;try simp only [J])
     (refine Jt 2 (.bool false) rfl (yif_load1 rfl (by intro W3 hW;clear hW;go_simp)) hH ?_;try simp only [J])
     (refine Jt 3 (.bool false) rfl (yif_load1 rfl fun _ _=>rfl) hH ?_;try simp only [J])
     (refine Jt 4 (.pointer (some ⟨B10,2,Option.none⟩)) rfl (yif_load1 rfl (by intro W3 hW;clear hW;go_simp)) hH ?_;try simp only [J])
     (refine Jt 5 (.int .i64 3) rfl (yif_load1 rfl (by intro W3 hW;have hw:=hW.1.has 2 _ rfl;clear hW;go_simp)) hH ?_;try simp only [J])
     (refine Jt 6 (.bool true) rfl (yif_load1 rfl (by intro W3 hW;clear hW;go_simp)) hH ?_;try simp only [J])
     (refine Jt 7 (.bool true) rfl (yif_load1 rfl (by intro W3 hW;clear hW;go_simp)) hH ?_;try simp only [J])
     (refine Jt 8 (.bool true) rfl (yif_load1 rfl fun _ _=>rfl) hH ?_;try simp only [J])
     (refine Jt 9 (.slice (some ⟨gy,0,Option.none⟩) nb cy) rfl (yif_load1 rfl fun _ _=>rfl) hH ?_;try simp only [J])
     (refine Jt 10 (.slice (some ⟨gb,0,Option.none⟩) (d.signals.length+1) cb) rfl (yif_load1 rfl fun _ _=>rfl) hH ?_;try simp only [J])
     (refine Jt 11 (.int .i64 (s:Int)) rfl (yif_load1 rfl fun _ _=>rfl) hH ?_;try simp only [J])
     (refine Jt 12 (.pointer (some ⟨gb,s,Option.none⟩)) rfl (yif_load1 rfl (by intro W3 hW;clear hW;go_simp;intro h;omega)) hH ?_;try simp only [J])
     (refine Jt 13 (.int .i64 (s0:Int)) rfl (yif_load1 rfl (by intro W3 hW;have hw:=hW.2.1;clear hW;go_simp)) hH ?_;try simp only [J])
     (refine Jt 14 (.slice (some ⟨gb,0,Option.none⟩) (d.signals.length+1) cb) rfl (yif_load1 rfl fun _ _=>rfl) hH ?_;try simp only [J])
     (refine Jt 15 (.int .i64 (s:Int)) rfl (yif_load1 rfl fun _ _=>rfl) hH ?_;try simp only [J])
     (refine Jt 16 (.int .i64 ((s+1:Nat):Int)) rfl (yif_load1 rfl (by intro W3 hW;clear hW;go_simp;rw [IntKind.wrap_i64];omega)) hH ?_;try simp only [J])
     (refine Jt 17 (.pointer (some ⟨gb,s+1,Option.none⟩)) rfl (yif_load1 rfl (by intro W3 hW;clear hW;go_simp;intro h;omega)) hH ?_;try simp only [J])
     (refine Jt 18 (.int .i64 (s1:Int)) rfl (yif_load1 rfl (by intro W3 hW;have hw:=hW.2.2;clear hW;go_simp)) hH ?_;try simp only [J])
     (refine Jt 19 (.slice (some ⟨gy,s0,Option.none⟩) (s1-s0) (cy-s0)) rfl (yif_load1 rfl (by intro W3 hW;clear hW;go_simp;rw [if_pos (by omega),if_pos (by omega),if_neg (by omega)])) hH ?_;try simp only [J])
     refine Jr 20 rfl fun K hK=>?_
     go_simp
     refine (contains_calls _ _ (-1) W0 (HSUB.out W0 HEW.out)).mono ?_
     rintro r w6 ⟨rfl,rfl⟩
     rw [HCC.out]
     refine hK.out _ _ hH (fun hH=>?_)
     clear hK K
     try simp only [J]
     (refine Jt 21 (.bool false) rfl (yif_load1 rfl (by intro W3 hW;clear hW;go_simp)) hH ?_;try simp only [J])
     refine Jz ?_
     have HN2:Hid (noneF d.signals by' (s+1) (d.signals.drop (s+1))=nf):=Jh (by have:=HST.out;simpa using this.symm)
     clear HST
     go_wp2_with fail
     first | exact ⟨⟨s+1,by omega,by omega,HN2,HEW.out⟩,by simp [intOf];omega⟩ | exact ⟨⟨s+1,_,_,_,_,_,_,_,_,_,_,_,_,_,_,_,_,_,_,_,_,_,_,_,_,_,_,_,_,_,rfl,by omega,HN2,HEW.out⟩,by simp [intOf];omega⟩
    ·skip
     (refine Jt 0 (.pointer (some ⟨B10,2,Option.none⟩)) rfl (yif_load1 rfl (by intro W3 hW;clear hW;go_simp)) hH ?_;try simp only [J])
     (refine Jt 1 (.int .i64 3) rfl (yif_load1 rfl (by intro W3 hW;have hw:=hW.1.has 2 _ rfl;clear hW;go_simp)) hH ?_;try simp only [J])
     (refine Jt 2 (.bool false) rfl (yif_load1 rfl (by intro W3 hW;clear hW;go_simp)) hH ?_;try simp only [J])
     (refine Jt 3 (.bool false) rfl (yif_load1 rfl fun _ _=>rfl) hH ?_;try simp only [J])
     (refine Jt 4 (.pointer (some ⟨B10,2,Option.none⟩)) rfl (yif_load1 rfl (by intro W3 hW;clear hW;go_simp)) hH ?_;try simp only [J])
     (refine Jt 5 (.int .i64 3) rfl (yif_load1 rfl (by intro W3 hW;have hw:=hW.1.has 2 _ rfl;clear hW;go_simp)) hH ?_;try simp only [J])
     (refine Jt 6 (.bool true) rfl (yif_load1 rfl (by intro W3 hW;clear hW;go_simp)) hH ?_;try simp only [J])
     (refine Jt 7 (.bool true) rfl (yif_load1 rfl (by intro W3 hW;clear hW;go_simp)) hH ?_;try simp only [J])
     (refine Jt 8 (.bool true) rfl (yif_load1 rfl fun _ _=>rfl) hH ?_;try simp only [J])
     (refine Jt 9 (.slice (some ⟨gy,0,Option.none⟩) nb cy) rfl (yif_load1 rfl fun _ _=>rfl) hH ?_;try simp only [J])
     (refine Jt 10 (.slice (some ⟨gb,0,Option.none⟩) (d.signals.length+1) cb) rfl (yif_load1 rfl fun _ _=>rfl) hH ?_;try simp only [J])
     (refine Jt 11 (.int .i64 (s:Int)) rfl (yif_load1 rfl fun _ _=>rfl) hH ?_;try simp only [J])
     (refine Jt 12 (.pointer (some ⟨gb,s,Option.none⟩)) rfl (yif_load1 rfl (by intro W3 hW;clear hW;go_simp;intro h;omega)) hH ?_;try simp only [J])
     (refine Jt 13 (.int .i64 (s0:Int)) rfl (yif_load1 rfl (by intro W3 hW;have hw:=hW.2.1;clear hW;go_simp)) hH ?_;try simp only [J])
     (refine Jt 14 (.slice (some ⟨gb,0,Option.none⟩) (d.signals.length+1) cb) rfl (yif_load1 rfl fun _ _=>rfl) hH ?_;try simp only [J])
     (refine Jt 15 (.int .i64 (s:Int)) rfl (yif_load1 rfl fun _ _=>rfl) hH ?_;try simp only [J])
     (refine Jt 16 (.int .i64 ((s+1:Nat):Int)) rfl (yif_load1 rfl (by intro W3 hW;clear hW;go_simp;rw [IntKind.wrap_i64];omega)) hH ?_;try simp only [J])
     (refine Jt 17 (.pointer (some ⟨gb,s+1,Option.none⟩)) rfl (yif_load1 rfl (by intro W3 hW;clear hW;go_simp;intro h;omega)) hH ?_;try simp only [J])
     (refine Jt 18 (.int .i64 (s1:Int)) rfl (yif_load1 rfl (by intro W3 hW;have hw:=hW.2.2;clear hW;go_simp)) hH ?_;try simp only [J])
     (refine Jt 19 (.slice (some ⟨gy,s0,Option.none⟩) (s1-s0) (cy-s0)) rfl (yif_load1 rfl (by intro W3 hW;clear hW;go_simp;rw [if_pos (by omega),if_pos (by omega),if_neg (by omega)])) hH ?_;try simp only [J])
     refine Jr 20 rfl fun K hK=>?_
     go_simp
     refine (contains_calls _ _ (-1) W0 (HSUB.out W0 HEW.out)).mono ?_
     rintro r w6 ⟨rfl,rfl⟩
     rw [HCC.out]
     refine hK.out _ _ hH (fun hH=>?_)
     clear hK K
     try simp only [J]
     (refine Jt 21 (.bool true) rfl (yif_load1 rfl (by intro W3 hW;clear hW;go_simp)) hH ?_;try simp only [J])
     refine Jz ?_
     have hnf:nf=true:=by have:=HST.out;simpa using this
     have hrt:=HRT.out
     rw [hnf,if_pos rfl] at hrt
     subst hrt
     clear HST hnf
     go_wp2_with fail
     refine bodyPost_ret (v:=.tuple #[.slice Option.none 0 0,.slice Option.none 0 0,.int .i64 121]) (by simp [results,Tryz.results40,go_sem]) rfl ⟨.slice Option.none 0 0,.slice Option.none 0 0,rfl,_,Sl.nil _ _,HX.out.trans (HX3.out.trans HEW.out),Below.refl _ _,IntRow.nil _ _⟩
   ·have b2:(xk==2)=false:=by rw [beq_eq_false_iff_ne];omega
    have b3:(xk==3)=false:=by rw [beq_eq_false_iff_ne];omega
    refine wp_region_held_drew (S:=fun W3=>Blk W3 B10 [Value.string xn,.int .i64 xw,.int .i64 xk,.int .u64 xi].toArray 41/\W3.cell? ⟨gb,s,none⟩=some (.int .i64 (s0:Int))/\W3.cell? ⟨gb,s+1,none⟩=some (.int .i64 (s1:Int))) (by kernel_rfl) ⟨HB4.out.drew,Y0.out,Y1.out⟩ (fun hH=>?_)
    generalize hW0:w4.drew=W0 at *
    have HEW:Hid (Ext w3 W0):=Jh (by rw [<-hW0];exact HX4.out.drew)
    clear hW0
    try simp only [J]
    (refine Jt 0 (.pointer (some ⟨B10,2,Option.none⟩)) rfl (yif_load1 rfl (by intro W3 hW;clear hW;go_simp)) hH ?_;try simp only [J])
    (refine Jt 1 (.int .i64 xk) rfl (yif_load1 rfl (by intro W3 hW;have hw:=hW.1.has 2 _ rfl;clear hW;go_simp)) hH ?_;try simp only [J])
    (refine Jt 2 (.bool false) rfl (yif_load1 rfl (by intro W3 hW;clear hW;go_simp)) hH ?_;try simp only [J])
    (refine Jt 3 (.bool false) rfl (yif_load1 rfl fun _ _=>rfl) hH ?_;try simp only [J])
    (refine Jt 4 (.pointer (some ⟨B10,2,Option.none⟩)) rfl (yif_load1 rfl (by intro W3 hW;clear hW;go_simp)) hH ?_;try simp only [J])
    (refine Jt 5 (.int .i64 xk) rfl (yif_load1 rfl (by intro W3 hW;have hw:=hW.1.has 2 _ rfl;clear hW;go_simp)) hH ?_;try simp only [J])
    (refine Jt 6 (.bool false) rfl (yif_load1 rfl (by intro W3 hW;clear hW;go_simp)) hH ?_;try simp only [J])
    (refine Jt 7 (.bool false) rfl (yif_load1 rfl (by intro W3 hW;clear hW;go_simp)) hH ?_;try simp only [J])
    (refine Jt 8 (.bool false) rfl (yif_load1 rfl fun _ _=>rfl) hH ?_;try simp only [J])
    (refine Jt 9 (undef) rfl (Or.inr ⟨rfl,rfl⟩) hH ?_;try simp only [J])
    (refine Jt 10 (undef) rfl (Or.inr ⟨rfl,rfl⟩) hH ?_;try simp only [J])
    (refine Jt 11 (undef) rfl (Or.inr ⟨rfl,rfl⟩) hH ?_;try simp only [J])
    (refine Jt 12 (undef) rfl (Or.inr ⟨rfl,rfl⟩) hH ?_;try simp only [J])
    (refine Jt 13 (undef) rfl (Or.inr ⟨rfl,rfl⟩) hH ?_;try simp only [J])
    (refine Jt 14 (undef) rfl (Or.inr ⟨rfl,rfl⟩) hH ?_;try simp only [J])
    (refine Jt 15 (undef) rfl (Or.inr ⟨rfl,rfl⟩) hH ?_;try simp only [J])
    (refine Jt 16 (undef) rfl (Or.inr ⟨rfl,rfl⟩) hH ?_;try simp only [J])
    (refine Jt 17 (undef) rfl (Or.inr ⟨rfl,rfl⟩) hH ?_;try simp only [J])
    (refine Jt 18 (undef) rfl (Or.inr ⟨rfl,rfl⟩) hH ?_;try simp only [J])
    (refine Jt 19 (undef) rfl (Or.inr ⟨rfl,rfl⟩) hH ?_;try simp only [J])
    (refine Jt 20 (undef) rfl (Or.inr ⟨rfl,rfl⟩) hH ?_;try simp only [J])
    (refine Jt 21 (.bool false) rfl (yif_load1 rfl (by intro W3 hW;clear hW;go_simp)) hH ?_;try simp only [J])
    refine Jz ?_
    have HN2:Hid (noneF d.signals by' (s+1) (d.signals.drop (s+1))=nf):=Jh (by have:=HST.out;have e2:¬ xk=2:=fun e=>hkn (.inl e);have e3:¬ xk=3:=fun e=>hkn (.inr e);simpa [e2,e3] using this.symm)
    clear HST
    go_wp2_with fail
    first | exact ⟨⟨s+1,by omega,by omega,HN2,HEW.out⟩,by simp [intOf];omega⟩ | exact ⟨⟨s+1,_,_,_,_,_,_,_,_,_,_,_,_,_,_,_,_,_,_,_,_,_,_,_,_,_,_,_,_,_,rfl,by omega,HN2,HEW.out⟩,by simp [intOf];omega⟩
  ·obtain rfl:s=d.signals.length:=by omega
   have hnn:=HN.out
   rw [List.drop_length,noneF] at hnn
   subst hnn
   have HRT2:Hid (lookT d by'=res):=Jh (by have:=HRT.out;simpa using this)
   clear HRT HN HGC HAS HSR
   have HB5:=Jh (HB.out.ext (HX3.out.trans HXR.out))
   have y1:=HB5.out.has 1 _ rfl
   rw [Nat.zero_add] at y1
   obtain ⟨lf,hlf⟩:∃ lf,latF d 0 d.procs=lf:=⟨_,rfl⟩
   have hrt:=HRT2.out
   unfold lookT at hrt
   rw [hlf] at hrt
   have HRT:=Jh hrt
   have HLF:Hid (latF d 0 (d.procs.drop 0)=lf):=Jh hlf
   clear hrt hlf HRT2
   go_wp2_with fail
   clear y1
   refine wp_loop (fun a wq=>∃ (p wc:Nat) (y12 y13 y14 y15 y16 y17 y68 y69 y70 y71 y72 y73 y74 y75 y76 y77 y78 y79 y80 y81 y82 y83 y84 y85 y86 y87 y88 y89 y90 y91 y92 y93:Value),a=⟨#[.agg #[.slice as' d.signals.length cs,.slice a0 d.procs.length c0,cv],.pointer (some ⟨w.heap.size,0,Option.none⟩),.slice Option.none 0 0,.slice Option.none 0 0,.int .i64 0,.slice ay nb cy,.int .i64 0,.slice (some ⟨gb,0,Option.none⟩) (d.signals.length+1) cb,.int .i64 0,x9,x10,.int .i64 (wc:Int),y12,y13,y14,y15,y16,y17,undef,undef,.tuple #[.slice ay nb cy,.int .i64 0],.agg #[.slice as' d.signals.length cs,.slice a0 d.procs.length c0,cv],.tuple #[.slice ay nb cy,.int .i64 0],.slice ay nb cy,.int .i64 0,.int .i64 0,.bool false,undef,.tuple #[.slice (some ⟨gb,0,Option.none⟩) (d.signals.length+1) cb,.int .i64 0],.agg #[.slice as' d.signals.length cs,.slice a0 d.procs.length c0,cv],.tuple #[.slice (some ⟨gb,0,Option.none⟩) (d.signals.length+1) cb,.int .i64 0],.slice (some ⟨gb,0,Option.none⟩) (d.signals.length+1) cb,.int .i64 0,.pointer (some ⟨w.heap.size,0,Option.none⟩),.slice as' d.signals.length cs,.int .i64 d.signals.length,.int .i64 d.signals.length,.bool false,x38,x39,x40,x41,x42,x43,x44,x45,x46,x47,x48,x49,x50,x51,x52,x53,x54,x55,x56,x57,x58,x59,x60,x61,x62,x63,.pointer (some ⟨w.heap.size,1,Option.none⟩),.slice a0 d.procs.length c0,.int .i64 d.procs.length,.int .i64 (p:Int),y68,y69,y70,y71,y72,y73,y74,y75,y76,y77,y78,y79,y80,y81,y82,y83,y84,y85,y86,y87,y88,y89,y90,y91,y92,y93,undef,undef,undef,undef,undef,undef,undef,undef,undef,undef,undef,undef],[]⟩ /\
    p<=d.procs.length/\wc<=p/\Hid (wc+wiresM ((clks d).drop p)=wiresM (clks d))/\Hid (latF d p (d.procs.drop p)=lf)/\Ext w3 wq) (fun a _=>d.procs.length-(intOf (a.tmps.getD 67 undef)).toNat)
    ⟨0,0,_,_,_,_,_,_,_,_,_,_,_,_,_,_,_,_,_,_,_,_,_,_,_,_,_,_,_,_,_,_,_,_,rfl,Nat.zero_le _,Nat.le_refl _,Jh (by rw [List.drop_zero,Nat.zero_add]),HLF,HXR.out⟩ ?_
   clear HLF HXR HB5
   rintro a wq ⟨p,wc,y12,y13,y14,y15,y16,y17,y68,y69,y70,y71,y72,y73,y74,y75,y76,y77,y78,y79,y80,y81,y82,y83,y84,y85,y86,y87,y88,y89,y90,y91,y92,y93,rfl,hp,hwc,HWC,HLF,hxr⟩
   have HXR:=Jh hxr
   clear hxr
   by_cases hlt:p<d.procs.length
   ·obtain rfl:=HA.out (by omega)
    obtain ⟨t1,hhas,hts⟩:=Procs.get HR.out hlt
    have ht1:=hts.one
    have hstep:=latF_step d p hlt
    have hwst:=wires_step d p hlt
    rw [HLF.out] at hstep
    have HH1:=Jh (hhas.ext ((HX.out.trans HX3.out).trans HXR.out))
    have hx4:=ext_alloc wq (.cells (d.procs[p].cells t1).toArray 49)
    have hb4:=Blk.new wq (d.procs[p].cells t1).toArray 49
    have HX4:=Jh (HXR.out.trans hx4)
    have HWR:=Jh (fun W (hx:Ext w3 W)=>Writes_ok d _ W ((HF.out.ext HX.out).ext (HX3.out.trans hx)) hok HC0.out hlt)
    have HAW:=Jh (fun W (hx:Ext w3 W)=>Always_ok d _ W ((HF.out.ext HX.out).ext (HX3.out.trans hx)) hok HC0.out hlt)
    obtain ⟨pb,hpb⟩:∃ pb,d.procs[p].clocked=pb:=⟨_,rfl⟩
    have y0:=hb4.has 0 _ rfl
    rw [hpb] at y0 hstep hwst
    have HST:=Jh hstep
    have HWS:=Jh hwst
    have HY0:=Jh y0
    generalize d.procs[p]=pr at *
    clear hstep hwst hhas hts hpb y0 hb4 hx4 HLF
    go_upto_region 15 with (first | ((with_reducible show Jl 49);refine Jm 49 (HH1.out) agg_Proc rfl ?_) | ((with_reducible show Js 49);refine wpList_store_new rfl 49 _ _ rfl rfl (by first | rfl | simp) rfl agg_Proc (rfl) rfl (by simp [ht1,one_bool]) ?_))
    generalize wq.alloc _=w4 at *
    obtain ⟨B13,hB13⟩:∃ B13,wq.heap.size=B13:=⟨_,rfl⟩
    have y0:=HY0.out
    rw [hB13,Nat.zero_add] at y0
    rw [hB13]
    clear HY0 hB13 HXR
    cases pb
    ·have hwc2:Hid (wc+1+wiresM ((clks d).drop (p+1))=wiresM (clks d)):=Jh (by
      have e1:=HWC.out
      have e2:=HWS.out
      simp only [Bool.false_eq_true,if_false] at e2
      omega)
     have HB6:=Jh (HB3.out.ext HX4.out)
     clear HWC HWS
     go_upto_region 19 with (first | ((with_reducible show Jl 26);refine Jm 26 (HB6.out.has) agg_Flat rfl ?_) | (go_at_call 26;refine (HWR.out _ HX4.out).mono ?_;rintro r w5 ⟨u5,rfl,hr5,hx5⟩;have HX5:=Jh (HX4.out.trans hx5);have HB7:=Jh (HB3.out.ext HX5.out)) | ((with_reducible show Jl 26);refine Jm 26 (HB7.out.has) agg_Flat rfl ?_) | (go_at_call 66;refine (HAW.out _ HX5.out).mono ?_;rintro r w6 ⟨u6,rfl,hr6,hx6⟩))
     obtain ⟨ae,ce,he1,-⟩:=hr5.open
     obtain ⟨ag,cg,hg1,-⟩:=hr6.open
     obtain ⟨l5,hl5⟩:∃ l5,(writesM d (p:Int)).length=l5:=⟨_,rfl⟩
     obtain ⟨l6,hl6⟩:∃ l6,(alwaysM d (p:Int)).length=l6:=⟨_,rfl⟩
     have hst:=HST.out
     rw [hl5,hl6] at hst
     rw [hl5] at he1
     rw [hl6] at hg1
     subst he1
     subst hg1
     have HX6:=Jh (HX5.out.trans hx6)
     by_cases hl:l5=l6
     ·have hlf2:Hid (latF d (p+1) (d.procs.drop (p+1))=lf):=Jh (by simpa [hl] using hst.symm)
      have hneq:(((l5:Nat):Int) != ((l6:Nat):Int))=false:=by simp [hl]
      clear hst HST hl hl5 hl6 hr5 hr6 hx5 hx6 HB6 HB7 HX5
      go_wp2_with fail
      first | exact ⟨⟨p+1,wc+1,_,_,_,_,_,_,_,_,_,_,_,_,_,_,_,_,_,_,_,_,_,_,_,_,_,_,_,_,_,_,_,_,rfl,by omega,by omega,hwc2,hlf2,HX6.out⟩,by simp [intOf];omega⟩ | exact ⟨⟨p+1,wc+1,⟨by omega,by omega⟩,by omega,by omega,hwc2,hlf2,HX6.out⟩,by simp [intOf];omega⟩
     ·have hlf2:lf=true:=by simpa [hl] using hst
      have hneq:(((l5:Nat):Int) != ((l6:Nat):Int))=true:=by rw [bne_iff_ne];omega
      have hrt:=HRT.out
      rw [hlf2,if_pos rfl] at hrt
      subst hrt
      clear hst HST hl hl5 hl6 hr5 hr6 hx5 hx6 HB6 HB7 HX5 hlf2
      go_wp2_with fail
      refine bodyPost_ret (v:=.tuple #[.slice Option.none 0 0,.slice Option.none 0 0,.int .i64 122]) (by simp [results,Tryz.results40,go_sem]) rfl ⟨.slice Option.none 0 0,.slice Option.none 0 0,rfl,_,Sl.nil _ _,HX.out.trans (HX3.out.trans HX6.out),Below.refl _ _,IntRow.nil _ _⟩
    ·have hwc2:Hid (wc+wiresM ((clks d).drop (p+1))=wiresM (clks d)):=Jh (by
      have e1:=HWC.out
      have e2:=HWS.out
      simp only [if_true] at e2
      omega)
     have hlf2:Hid (latF d (p+1) (d.procs.drop (p+1))=lf):=Jh (by have:=HST.out;simpa using this.symm)
     clear HWC HWS HST
     go_wp2_with fail
     exact ⟨⟨p+1,wc,⟨rfl,by omega⟩,by omega,by omega,hwc2,hlf2,HX4.out⟩,by simp [intOf];omega⟩
   ·obtain rfl:p=d.procs.length:=by omega
    have hlf2:=HLF.out
    rw [List.drop_length,latF] at hlf2
    subst hlf2
    have hrt:=HRT.out
    rw [if_neg (by decide)] at hrt
    have hwcc:wc=wiresM (clks d):=by
     have e1:=HWC.out
     rw [List.drop_of_length_le (by simp [clks])] at e1
     simpa [wiresM] using e1
    have hXW:=HX3.out.trans HXR.out
    have HB5:=Jh (HB.out.ext hXW)
    have hby:=HBY.out
    have HHG:=Jh (hangs_calls d _ (.slice ay nb cy) by' wq ((HF.out.ext HX.out).ext hXW) hok HC0.out (Ints.ext HRY.out.cells HXR.out) hby.1 hby.2)
    have hgr:=graphM_range hok HC0.out hby.1 hby.2
    have hgl:=graphM_length d by'
    obtain ⟨G,hG⟩:∃ G,graphM d by'=G:=⟨_,rfl⟩
    rw [hG] at hrt HHG hgr hgl
    obtain ⟨o,ho⟩:∃ o,ordM G (clks d)=o:=⟨_,rfl⟩
    have HOR:=Jh (fun W gv (hx:Ext w1 W) (hg:IntsL W gv G)=>order_calls d _ gv G W ((HF.out.ext HX.out).ext hx) hg hgl (by omega) hgr)
    rw [ho] at hrt HOR
    have HRT2:=Jh hrt
    have HXW:=Jh hXW
    clear hrt HRT HWC HLF hby hgr hgl hG ho hXW
    go_upto_region 24 with (first | ((with_reducible show Jl 26);refine Jm 26 (HB5.out.has) agg_Flat rfl ?_) | (go_at_call 67;refine HHG.out.mono ?_;rintro r w5 ⟨u5,rfl,hr5,hx5⟩;have HX5:=Jh (HXW.out.trans hx5);have HB7:=Jh (HB.out.ext HX5.out)) | ((with_reducible show Jl 26);refine Jm 26 (HB7.out.has) agg_Flat rfl ?_) | (go_at_call 68;refine (HOR.out _ _ HX5.out hr5).mono ?_;rintro r w6 ⟨u6,rfl,hr6,hx6⟩))
    obtain ⟨ag,cg,hg1,-⟩:=hr6.open
    obtain ⟨l6,hl6⟩:∃ l6,o.length=l6:=⟨_,rfl⟩
    rw [hl6] at hg1
    subst hg1
    have HX6:=Jh (HX5.out.trans hx6)
    have HG6:=Jh hr5
    have HO6:=Jh hr6
    have HX56:=Jh hx6
    have hrt:=HRT2.out
    rw [hl6] at hrt
    generalize wiresM (clks d)=wn at hwcc hrt
    subst hwcc
    by_cases hlo:l6<wc
    ·rw [if_pos hlo] at hrt
     subst hrt
     clear HRT2 hr5 hr6 hx5 hx6 hl6
     go_wp2_with fail
     refine bodyPost_ret (v:=.tuple #[.slice Option.none 0 0,.slice Option.none 0 0,.int .i64 123]) (by simp [results,Tryz.results40,go_sem]) rfl ⟨.slice Option.none 0 0,.slice Option.none 0 0,rfl,_,Sl.nil _ _,HX.out.trans HX6.out,Below.refl _ _,IntRow.nil _ _⟩
    ·rw [if_neg hlo] at hrt
     subst hrt
     clear HRT2 hr5 hr6 hx5 hx6 hl6
     go_wp2_with fail
     refine bodyPost_ret (v:=.tuple #[u5,.slice ag l6 cg,.int .i64 0]) (by simp [results,Tryz.results40,go_sem]) rfl ⟨u5,_,rfl,_,HG6.out,HX.out.trans HX5.out,HX56.out,HO6.out⟩
end Go.Proofs.YtoaamjgfhppppaaGreat
