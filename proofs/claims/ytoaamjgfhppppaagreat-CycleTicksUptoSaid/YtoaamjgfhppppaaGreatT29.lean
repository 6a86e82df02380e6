/- Laws and walks that a claim of this seat leans on: Cyc7, CycK, Cyc5, HeldTo. -/
import Derived.Test.YtoaamjgfhppppaaGreatT28
import Derived.Test.YtoaamjgfhppppaaGreatT21
import Derived.Test.YtoaamjgfhppppaaGreatT27
import Derived.Test.YtoaamjgfhppppaaGreatT25
import Derived.Test.YtoaamjgfhppppaaGreatT20
import Derived.Test.YtoaamjgfhppppaaGreatT06
import Derived.Test.YtoaamjgfhppppaaGreatT03
import Derived.Test.YtoaamjgfhppppaaGreatT00
set_option maxRecDepth 100000
set_option maxHeartbeats 8000000
set_option linter.all false
namespace Go.Proofs.YtoaamjgfhppppaaGreat
open Go.RowKit
def playR (d:Flat) (v:List Nat) (X:Option (List Nat)):List Nat × Int:=if playE d v=0 then (match X with | some x=>(x,0) | none=>([],1)) else ([],playE d v)
theorem putR_play (d:Flat) (v ins:List Nat):putR d v ins=playR d v (putM d.signals v ins):=by
 unfold putR playR;split
 ·split<;>simp_all
 ·rfl
theorem played_val {d:Flat} {sv pv cv s:Value} {v:List Nat} {w:World} (hF:FlatV w (.agg #[sv,pv,cv]) d) (hok:d.ok) (hs:(∃ ad n c,s=.slice (some ad) n c/\Us w s v)\/(s=.slice none 0 0/\v=List.replicate d.signals.length 0)) (h64:us64 v) (hln:v.length<=1048576)
  {g:FuncId} {fi lb:Array Value} (eg:Leads Tryz.prog g) (X:Option (List Nat))
  (hdo:∀ (wb:World) (P:Nat) (nv:Value) (W:World),Ext w wb->Cy d sv pv cv wb->CyW d sv pv cv nv (.slice none 0 0) P wb v W ->
   Calls Tryz.prog g (fi++#[.pointer (some ⟨P,0,none⟩)]++lb) W fun r W'=>(∃ x nv' ov',X=some x/\r=.returned (.tuple #[])/\CyW d sv pv cv nv' ov' P wb x W')\/(X=none/\r=panicOf 1/\Ext wb W')) :
  Calls Tryz.prog 46 #[.agg #[sv,pv,cv],s,.func (.func g) fi lb] w fun r w'=>∃ Q u,r=.returned (.tuple #[.pointer (some ⟨Q,0,none⟩),.int .i64 (playR d v X).2])/\w'.cell? ⟨Q,3,none⟩=some u/\Us w' u (playR d v X).1/\Ext w w':=by
 refine (played_calls hF hok hs h64 hln eg (Good:=fun wb P W'=>∃ x nv ov,X=some x/\CyW d sv pv cv nv ov P wb x W') (Bad:=fun e wb W'=>X=none/\e=1/\Ext wb W') ?_).mono ?_
 ·intro h0 wb P nv W hx hcw
  refine (hdo wb P nv W hx ⟨hok,(playE_zero.1 h0).1,hF.ext hx⟩ hcw).mono fun r W' h=>?_
  rcases h with ⟨x,nv',ov',hX,hr,hc⟩ | ⟨hX,hr,hc⟩
  ·exact ⟨fun b _ h2=>hc.ext.block b h2,hc.ext.size,.inl ⟨hr,x,nv',ov',hX,hc⟩⟩
  ·exact ⟨fun b _ h2=>hc.block b h2,hc.size,.inr ⟨1,by decide,hr,hX,rfl,hc⟩⟩
 ·rintro r w' (⟨h,Z,rfl,hz,hx⟩ | ⟨h,wb,P,W',w1,Bp,Be,hwb,a1,a2,a3,a4,g1,g2,(⟨rfl,x,nv,ov,rfl,hc⟩ | ⟨e,Z,he,rfl,hz,hzl,rfl,rfl,hx⟩)⟩)
  ·exact ⟨Z,.slice none 0 0,by unfold playR;rw [if_neg h],by rw [hz.cell];rfl,by unfold playR;rw [if_neg h];exact Sl.nil _ _,hx⟩
  ·have hle:=hc.le
   have hb:=(hc.blk.grown g1 (by omega)).grown g2 (by omega)
   have hr:=(hc.row.grown g1 fun j hj e=>by have:=(hc.row.at hj).1;injection e with e;omega)
   have hr2:=hr.grown g2 fun j hj e=>by have:=(hr.at hj).1;injection e with e;omega
   exact ⟨P,nv,by unfold playR;rw [if_pos h],by rw [hb.cell];rfl,by unfold playR;rw [if_pos h];exact hr2.cells,((hwb.trans hc.ext).grown g1 a1).grown g2 a3⟩
  ·exact ⟨Z,.slice none 0 0,by unfold playR;rw [if_pos h],by rw [hz.cell];rfl,by unfold playR;rw [if_pos h];exact Sl.nil _ _,((hwb.trans hx).grown g1 a1).grown g2 a3⟩
theorem leads_settle:Leads Tryz.prog 48:=leads_of Tryz.func48 (by kernel_rfl) rfl
theorem leads_tick:Leads Tryz.prog 50:=leads_of Tryz.func50 (by kernel_rfl) rfl
theorem leads_reset:Leads Tryz.prog 61:=leads_of Tryz.func61 (by kernel_rfl) rfl
theorem leads_put:Leads Tryz.prog 56:=leads_of Tryz.func56 (by kernel_rfl) rfl
theorem Settle_calls13 (d:Flat) (v:Value) (vs:List Nat) (s:Value) (w:World) (hF:FlatV w v d) (hok:d.ok) (hs:Us w s vs) (h64:us64 vs) (hln:vs.length<=1048576) :
  Calls Tryz.prog 19 #[v,s] w fun r w'=>∃ u,r=.returned (.tuple #[u,.int .i64 (settleR d vs).2])/\Us w' u (settleR d vs).1/\Ext w w':=by
 have HF:=Jh (fun W (h:Ext w W)=>hF.ext h)
 have HUS:=Jh hs
 obtain ⟨sv,pv,cv,rfl,hS,hP,hC⟩:=hF
 obtain ⟨sa,sb,so,sc,rfl,-,-,-,-⟩:=hs.open
 have HPL:=Jh (fun W ad n c (h:Ext w W) (hu:Us W (.slice (some ad) n c) vs)=>played_val (HF.out W h) hok (.inl ⟨ad,n,c,rfl,hu⟩) h64 hln (fi:=#[]) (lb:=#[]) leads_settle (some (settleM d vs))
  (fun wb P nv W2 hx H hcw=>(settle_calls H hcw).mono fun r W' hh=>by
   first
    | (obtain ⟨hr,nv',ov',h2,-⟩:=hh;exact .inl ⟨_,nv',ov',rfl,hr,h2⟩)
    | (obtain ⟨hr,nv',h2,-,-⟩:=hh;exact .inl ⟨_,nv',_,rfl,hr,h2⟩)))
 rw [show (settleR d vs)=playR d vs (some (settleM d vs)) from rfl]
 obtain ⟨e,he⟩:∃ e,(playR d vs (some (settleM d vs))).2=e:=⟨_,rfl⟩
 obtain ⟨x,hx⟩:∃ x,(playR d vs (some (settleM d vs))).1=x:=⟨_,rfl⟩
 rw [he,hx] at HPL
 rw [he,hx]
 have HX0:=Jh (ext_alloc w (.cells [sv,pv,cv].toArray 26))
 have HD0:=Jh (Blk.new w [sv,pv,cv].toArray 26)
 clear hS hP hC hs h64 hok he hx
 go_enter Tryz.func19,Tryz.ntmps19
 go_upto_region 1 with fail
 generalize w.alloc _=w0 at *
 refine Jg w0 fun hH=>?_
 try simp only [J]
 (refine Jt 0 (.agg [sv,pv,cv].toArray) rfl (yif_load rfl 26 _ rfl rfl (fun W hW=>(HD0.out.ext hW).has) agg_Flat rfl) hH ?_;try simp only [J])
 (refine Jt 1 (.slice sa vs.length sc) rfl (yif_load1 rfl fun _ _=>rfl) hH ?_;try simp only [J])
 (refine Jr 2 rfl fun K hK=>?_)
 go_simp
 refine (asked_calls vs _ _ (HUS.out.ext (HX0.out.trans hH))).mono ?_
 rintro r w1 ⟨ad,n,c,rfl,hu1,hx1⟩
 refine hK.out _ _ (hH.trans hx1) (fun hH=>?_)
 clear hK K
 try simp only [J]
 have HU1:=Jh hu1
 clear hu1 hx1
 (refine Jr 3 rfl fun K hK=>?_)
 go_simp
 refine (HPL.out w1 ad n c (HX0.out.trans hH) HU1.out).mono ?_
 rintro r w2 ⟨Q,u,rfl,hq,hu2,hx2⟩
 refine hK.out _ _ (hH.trans hx2) (fun hH=>?_)
 clear hK K
 obtain ⟨ua,ub,uo,uc,rfl,-,-,-,-⟩:=hu2.open
 have HU2:=Jh hu2
 have HQ:=Jh hq
 clear hu2 hq hx2
 try simp only [J]
 (refine Jt 4 (.tuple #[.pointer (some ⟨Q,0,none⟩),.int .i64 e]) rfl (yif_load1 rfl fun _ _=>rfl) hH ?_;try simp only [J])
 (refine Jt 5 (.pointer (some ⟨Q,0,none⟩)) rfl (yif_load1 rfl (by intro W hW;clear hW;go_simp)) hH ?_;try simp only [J])
 (refine Jt 6 (.int .i64 e) rfl (yif_load1 rfl (by intro W hW;clear hW;go_simp)) hH ?_;try simp only [J])
 (refine Jt 7 (.pointer (some ⟨Q,0,none⟩)) rfl (yif_load1 rfl fun _ _=>rfl) hH ?_;try simp only [J])
 (refine Jt 8 (.int .i64 e) rfl (yif_load1 rfl fun _ _=>rfl) hH ?_;try simp only [J])
 refine Jz ?_
 have HX2:=Jh (HX0.out.trans hH)
 have yq:=HQ.out
 clear hH
 go_wp2_with ((with_reducible show bodyPost _ _ _ _ _ _);refine Hid.out ?_)
 refine Jh ?_
 refine bodyPost_ret (v:=.tuple #[.slice ua x.length uc,.int .i64 e]) (by simp [results,Tryz.results19,go_sem]) rfl ⟨_,rfl,HU2.out,HX2.out⟩
theorem Tick_calls13 (d:Flat) (v:Value) (vs:List Nat) (s:Value) (w:World) (hF:FlatV w v d) (hok:d.ok) (hs:Us w s vs) (h64:us64 vs) (hln:vs.length<=1048576) :
  Calls Tryz.prog 25 #[v,s] w fun r w'=>∃ u,r=.returned (.tuple #[u,.int .i64 (tickR d vs).2])/\Us w' u (tickR d vs).1/\Ext w w':=by
 have HF:=Jh (fun W (h:Ext w W)=>hF.ext h)
 have HUS:=Jh hs
 obtain ⟨sv,pv,cv,rfl,hS,hP,hC⟩:=hF
 obtain ⟨sa,sb,so,sc,rfl,-,-,-,-⟩:=hs.open
 have HPL:=Jh (fun W ad n c (h:Ext w W) (hu:Us W (.slice (some ad) n c) vs)=>played_val (HF.out W h) hok (.inl ⟨ad,n,c,rfl,hu⟩) h64 hln (fi:=#[]) (lb:=#[]) leads_tick (some (tickM d vs))
  (fun wb P nv W2 hx H hcw=>(tick_calls H hcw).mono fun r W' hh=>by
   first
    | (obtain ⟨hr,nv',ov',h2,-⟩:=hh;exact .inl ⟨_,nv',ov',rfl,hr,h2⟩)
    | (obtain ⟨hr,nv',h2,-,-⟩:=hh;exact .inl ⟨_,nv',_,rfl,hr,h2⟩)))
 rw [show (tickR d vs)=playR d vs (some (tickM d vs)) from rfl]
 obtain ⟨e,he⟩:∃ e,(playR d vs (some (tickM d vs))).2=e:=⟨_,rfl⟩
 obtain ⟨x,hx⟩:∃ x,(playR d vs (some (tickM d vs))).1=x:=⟨_,rfl⟩
 rw [he,hx] at HPL
 rw [he,hx]
 have HX0:=Jh (ext_alloc w (.cells [sv,pv,cv].toArray 26))
 have HD0:=Jh (Blk.new w [sv,pv,cv].toArray 26)
 clear hS hP hC hs h64 hok he hx
 go_enter Tryz.func25,Tryz.ntmps25
 go_upto_region 1 with fail
 generalize w.alloc _=w0 at *
 refine Jg w0 fun hH=>?_
 try simp only [J]
 (refine Jt 0 (.agg [sv,pv,cv].toArray) rfl (yif_load rfl 26 _ rfl rfl (fun W hW=>(HD0.out.ext hW).has) agg_Flat rfl) hH ?_;try simp only [J])
 (refine Jt 1 (.slice sa vs.length sc) rfl (yif_load1 rfl fun _ _=>rfl) hH ?_;try simp only [J])
 (refine Jr 2 rfl fun K hK=>?_)
 go_simp
 refine (asked_calls vs _ _ (HUS.out.ext (HX0.out.trans hH))).mono ?_
 rintro r w1 ⟨ad,n,c,rfl,hu1,hx1⟩
 refine hK.out _ _ (hH.trans hx1) (fun hH=>?_)
 clear hK K
 try simp only [J]
 have HU1:=Jh hu1
 clear hu1 hx1
 (refine Jr 3 rfl fun K hK=>?_)
 go_simp
 refine (HPL.out w1 ad n c (HX0.out.trans hH) HU1.out).mono ?_
 rintro r w2 ⟨Q,u,rfl,hq,hu2,hx2⟩
 refine hK.out _ _ (hH.trans hx2) (fun hH=>?_)
 clear hK K
 obtain ⟨ua,ub,uo,uc,rfl,-,-,-,-⟩:=hu2.open
 have HU2:=Jh hu2
 have HQ:=Jh hq
 clear hu2 hq hx2
 try simp only [J]
 (refine Jt 4 (.tuple #[.pointer (some ⟨Q,0,none⟩),.int .i64 e]) rfl (yif_load1 rfl fun _ _=>rfl) hH ?_;try simp only [J])
 (refine Jt 5 (.pointer (some ⟨Q,0,none⟩)) rfl (yif_load1 rfl (by intro W hW;clear hW;go_simp)) hH ?_;try simp only [J])
 (refine Jt 6 (.int .i64 e) rfl (yif_load1 rfl (by intro W hW;clear hW;go_simp)) hH ?_;try simp only [J])
 (refine Jt 7 (.pointer (some ⟨Q,0,none⟩)) rfl (yif_load1 rfl fun _ _=>rfl) hH ?_;try simp only [J])
 (refine Jt 8 (.int .i64 e) rfl (yif_load1 rfl fun _ _=>rfl) hH ?_;try simp only [J])
 refine Jz ?_
 have HX2:=Jh (HX0.out.trans hH)
 have yq:=HQ.out
 clear hH
 go_wp2_with ((with_reducible show bodyPost _ _ _ _ _ _);refine Hid.out ?_)
 refine Jh ?_
 refine bodyPost_ret (v:=.tuple #[.slice ua x.length uc,.int .i64 e]) (by simp [results,Tryz.results25,go_sem]) rfl ⟨_,rfl,HU2.out,HX2.out⟩
/-! ### Reset -/
theorem zeros_val (ls:List Signal):Val2 ls (List.replicate ls.length 0):=Val2.mk (by simp) fun k hk=>by
 rw [List.getD_eq_getElem?_getD,List.getElem?_replicate];split<;>simp [Nat.two_pow_pos]
theorem playE_zeros {d:Flat} (hok:d.ok):playE d (List.replicate d.signals.length 0)=(lookM d).1:=by
 unfold playE
 by_cases h:(lookM d).1=0
 ·rw [if_pos h,if_pos (valsOk_of (look_in hok h).1 (zeros_val _)),h]
 ·rw [if_neg h]
theorem resetR_play {d:Flat} (hok:d.ok):resetR d=playR d (List.replicate d.signals.length 0) (some (resetM d)):=by
 unfold resetR playR
 rw [playE_zeros hok]
theorem us64_zeros (n:Nat):us64 (List.replicate n 0):=fun x hx=>by rw [List.eq_of_mem_replicate hx];decide
theorem Reset_calls13 (d:Flat) (v:Value) (w:World) (hF:FlatV w v d) (hok:d.ok) :
  Calls Tryz.prog 32 #[v] w fun r w'=>∃ u,r=.returned (.tuple #[u,.int .i64 (resetR d).2])/\Us w' u (resetR d).1/\Ext w w':=by
 have HF:=Jh (fun W (h:Ext w W)=>hF.ext h)
 obtain ⟨sv,pv,cv,rfl,hS,hP,hC⟩:=hF
 have hsl:=hok.signals
 have HPL:=Jh (fun W (h:Ext w W)=>played_val (HF.out W h) hok (.inr ⟨rfl,rfl⟩) (us64_zeros d.signals.length) (by simpa using hsl) (fi:=#[]) (lb:=#[]) leads_reset (some (resetM d))
  (fun wb P nv W2 hx H hcw=>(reset_calls H hcw).mono fun r W' hh=>.inl ⟨_,_,_,rfl,hh.1,hh.2.1⟩))
 rw [resetR_play hok]
 obtain ⟨e,he⟩:∃ e,(playR d (List.replicate d.signals.length 0) (some (resetM d))).2=e:=⟨_,rfl⟩
 obtain ⟨x,hx⟩:∃ x,(playR d (List.replicate d.signals.length 0) (some (resetM d))).1=x:=⟨_,rfl⟩
 rw [he,hx] at HPL
 rw [he,hx]
 have HX0:=Jh (ext_alloc w (.cells [sv,pv,cv].toArray 26))
 have hD0:=Blk.new w [sv,pv,cv].toArray 26
 clear hS hP hC hok he hx hsl
 go_enter Tryz.func32,Tryz.ntmps32
 go_upto_region 1 with fail
 generalize w.alloc _=w0 at *
 have d0:=hD0.has
 go_upto_region 2 with (first | ((with_reducible show Jl 26);refine Jm 26 (d0) agg_Flat rfl ?_) | (go_at_call 46;refine (HPL.out w0 HX0.out).mono ?_;rintro r w2 ⟨Q,u,rfl,hq,hu2,hx2⟩))
 obtain ⟨ua,ub,uo,uc,rfl,-,-,-,-⟩:=hu2.open
 have HU2:=Jh hu2
 have HX2:=Jh (HX0.out.trans hx2)
 clear hu2 hx2 d0 hD0
 go_wp2_with ((with_reducible show bodyPost _ _ _ _ _ _);refine Hid.out ?_)
 refine Jh ?_
 refine bodyPost_ret (v:=.tuple #[.slice ua x.length uc,.int .i64 e]) (by simp [results,Tryz.results32,go_sem]) rfl ⟨_,rfl,HU2.out,HX2.out⟩
/-! ### Put -/
theorem Put1_calls13 {d:Flat} {sv pv cv nv ov:Value} {P Bi:Nat} {wb w:World} {v:List Nat} (H:Cy d sv pv cv wb) (h:CyW d sv pv cv nv ov P wb v w) (iv:Value) (ins:List Nat) (hI:Us wb iv ins) (hI64:us64 ins) (hB:Has wb Bi 0 [iv]) :
  Calls Tryz.prog 56 #[.pointer (some ⟨P,0,none⟩),.pointer (some ⟨Bi,0,none⟩)] w fun r w'=>(∃ x nv' ov',putM d.signals v ins=some x/\r=.returned (.tuple #[])/\CyW d sv pv cv nv' ov' P wb x w')\/(putM d.signals v ins=none/\r=panicOf 1/\Ext wb w'):=by
 have HP:=Jh (put_calls H h iv ins hI hI64)
 have yb:=(hB.ext h.ext) 0 _ rfl
 rw [Nat.zero_add] at yb
 obtain ⟨ia,ib,io,ic,rfl,-,-,-,-⟩:=hI.open
 clear H h hI hI64 hB
 obtain ⟨R,hR⟩:∃ R,putM d.signals v ins=R:=⟨_,rfl⟩
 rw [hR] at HP
 rw [hR]
 clear hR
 by_cases hn:R=none
 ·have HN:=Jh hn
  have HP2:=Jh (HP.out.mono fun r w' hh=>show r=panicOf 1/\Ext wb w' from by
   rcases hh with ⟨x,hx,-⟩ | ⟨-,h1,h2⟩
   ·rw [hn] at hx;cases hx
   ·exact ⟨h1,h2⟩)
  clear hn
  go_enter Tryz.func56,Tryz.ntmps56
  go_wp2_with (go_at_call 57;refine HP2.out.mono ?_;rintro r w1 ⟨rfl,hx1⟩)
  exact ⟨rfl,.inr ⟨HN.out,rfl,hx1⟩⟩
 ·have HP2:=Jh (HP.out.mono fun r w' hh=>show r=.returned (.tuple #[])/\∃ x,R=some x/\CyW d sv pv cv nv ov P wb x w' from by
   rcases hh with ⟨x,hx,h1,h2,-⟩ | ⟨h0,-⟩
   ·exact ⟨h1,x,hx,h2⟩
   ·exact absurd h0 hn)
  clear hn
  go_enter Tryz.func56,Tryz.ntmps56
  go_wp2_with (go_at_call 57;refine HP2.out.mono ?_;rintro r w1 ⟨rfl,x,hx,hc⟩;have HX:=Jh hx;clear hx)
  all_goals go_end0
  exact .inl ⟨x,_,_,HX.out,rfl,hc⟩
theorem Put_calls13 (d:Flat) (v:Value) (vs:List Nat) (s:Value) (ins:List Nat) (iv:Value) (w:World) (hF:FlatV w v d) (hok:d.ok) (hs:Us w s vs) (h64:us64 vs) (hln:vs.length<=1048576) (hI:Us w iv ins) (hI64:us64 ins) :
  Calls Tryz.prog 27 #[v,s,iv] w fun r w'=>∃ u,r=.returned (.tuple #[u,.int .i64 (putR d vs ins).2])/\Us w' u (putR d vs ins).1/\Ext w w':=by
 have HF:=Jh (fun W (h:Ext w W)=>hF.ext h)
 have HUS:=Jh hs
 obtain ⟨sv,pv,cv,rfl,hS,hP,hC⟩:=hF
 obtain ⟨sa,sb,so,sc,rfl,-,-,-,-⟩:=hs.open
 have HPL:=Jh (fun W ad n c Bi (h:Ext w W) (hu:Us W (.slice (some ad) n c) vs) (hb:Has W Bi 0 [iv])=>played_val (HF.out W h) hok (.inl ⟨ad,n,c,rfl,hu⟩) h64 hln (fi:=#[]) (lb:=#[.pointer (some ⟨Bi,0,none⟩)]) leads_put (putM d.signals vs ins)
  (fun wb P nv W2 hx H hcw=>Put1_calls13 H hcw iv ins ((hI.ext h).ext hx) hI64 (hb.ext hx)))
 obtain ⟨ia,ib,io,ic,rfl,-,-,-,-⟩:=hI.open
 rw [putR_play]
 obtain ⟨e,he⟩:∃ e,(playR d vs (putM d.signals vs ins)).2=e:=⟨_,rfl⟩
 obtain ⟨x,hx⟩:∃ x,(playR d vs (putM d.signals vs ins)).1=x:=⟨_,rfl⟩
 rw [he,hx] at HPL
 rw [he,hx]
 have HX0:=Jh ((ext_alloc w (.cells [sv,pv,cv].toArray 26)).trans (ext_alloc _ (.cells [.slice ia ins.length ic].toArray 27)))
 have HD0:=Jh ((Blk.new w [sv,pv,cv].toArray 26).alloc (.cells [.slice ia ins.length ic].toArray 27))
 have HB0:=Jh (show Blk _ (w.heap.size+1) _ _ from by have:=Blk.new (w.alloc (.cells [sv,pv,cv].toArray 26)) [.slice ia ins.length ic].toArray 27;rwa [World.size_alloc] at this)
 have hmf:∀ (fn:Fn) (first cap:Array Value) (w:World),(Instr.makeFunc fn first cap).run Tryz.prog w=.ok (.func fn first cap) w:=fun _ _ _ _=>rfl
 clear hS hP hC hs h64 hok he hx hI hI64
 go_enter Tryz.func27,Tryz.ntmps27
 go_upto_region 1 with fail
 generalize (w.alloc _).alloc _=w0 at *
 obtain ⟨Bi,hBi⟩:∃ B,w.heap.size+1=B:=⟨_,rfl⟩
 rw [hBi] at HB0 ⊢
 clear hBi
 refine Jg w0 fun hH=>?_
 try simp only [J]
 (refine Jt 0 (.agg [sv,pv,cv].toArray) rfl (yif_load rfl 26 _ rfl rfl (fun W hW=>(HD0.out.ext hW).has) agg_Flat rfl) hH ?_;try simp only [J])
 (refine Jt 1 (.slice sa vs.length sc) rfl (yif_load1 rfl fun _ _=>rfl) hH ?_;try simp only [J])
 (refine Jt 3 (.func (.func 56) #[] #[.pointer (some ⟨Bi,0,none⟩)]) rfl (yif_load1 rfl (by intro W hW;clear hW;go_simp)) hH ?_;try simp only [J])
 (refine Jr 2 rfl fun K hK=>?_)
 go_simp
 refine (asked_calls vs _ _ (HUS.out.ext (HX0.out.trans hH))).mono ?_
 rintro r w1 ⟨ad,n,c,rfl,hu1,hx1⟩
 refine hK.out _ _ (hH.trans hx1) (fun hH=>?_)
 clear hK K
 try simp only [J]
 have HU1:=Jh hu1
 clear hu1 hx1
 (refine Jr 4 rfl fun K hK=>?_)
 go_simp
 refine (HPL.out w1 ad n c Bi (HX0.out.trans hH) HU1.out (HB0.out.ext hH).has).mono ?_
 rintro r w2 ⟨Q,u,rfl,hq,hu2,hx2⟩
 refine hK.out _ _ (hH.trans hx2) (fun hH=>?_)
 clear hK K
 obtain ⟨ua,ub,uo,uc,rfl,-,-,-,-⟩:=hu2.open
 have HU2:=Jh hu2
 have HQ:=Jh hq
 clear hu2 hq hx2
 try simp only [J]
 (refine Jt 5 (.tuple #[.pointer (some ⟨Q,0,none⟩),.int .i64 e]) rfl (yif_load1 rfl fun _ _=>rfl) hH ?_;try simp only [J])
 (refine Jt 6 (.pointer (some ⟨Q,0,none⟩)) rfl (yif_load1 rfl (by intro W hW;clear hW;go_simp)) hH ?_;try simp only [J])
 (refine Jt 7 (.int .i64 e) rfl (yif_load1 rfl (by intro W hW;clear hW;go_simp)) hH ?_;try simp only [J])
 (refine Jt 8 (.pointer (some ⟨Q,0,none⟩)) rfl (yif_load1 rfl fun _ _=>rfl) hH ?_;try simp only [J])
 (refine Jt 9 (.int .i64 e) rfl (yif_load1 rfl fun _ _=>rfl) hH ?_;try simp only [J])
 refine Jz ?_
 have HX2:=Jh (HX0.out.trans hH)
 have yq:=HQ.out
 clear hH
 go_wp2_with ((with_reducible show bodyPost _ _ _ _ _ _);refine Hid.out ?_)
 refine Jh ?_
 refine bodyPost_ret (v:=.tuple #[.slice ua x.length uc,.int .i64 e]) (by simp [results,Tryz.results27,go_sem]) rfl ⟨_,rfl,HU2.out,HX2.out⟩
theorem szCs_same (l:List Chk):∀ err,(szCs err l).2=0->allEq2 eqC (szCs err l).1 l=true->∀ c∈l,sizeE c.e (-1)=.ok c.e:=by
 induction l with
 | nil=>intro err _ _ c hc;cases hc
 | cons y l ih =>
  intro err h he c hc
  unfold szCs at h he ih
  rw [accum] at h he
  rw [allEq2,Bool.and_eq_true] at he
  have key:∀ (l:List Chk) err,(szCs err l).2=0->err=0:=by
   intro l
   induction l with
   | nil=>intro err h;exact h
   | cons c l ih=>intro err h;unfold szCs at h ih;rw [accum] at h;exact (szE_same (ih _ h)).1
  rcases List.mem_cons.1 hc with rfl | hc
  ·have h1:=key l _ h
   obtain ⟨-,h2⟩:=szE_same h1
   have h3:=he.1
   unfold eqC at h3
   rw [Bool.and_eq_true,eqE_iff] at h3
   rw [h2]
   exact congrArg _ h3.2
  ·exact ih _ h he.2 c hc
theorem chk_ok {d:Flat} (hok:d.ok) (hc:checkM d=0):∀ c∈d.checks,WS d.signals c.e/\nodes c.e<=65536/\checkEM d.signals c.e=0:=by
 intro c hm
 obtain ⟨hf,-⟩:=st_of_check hc
 have hls:=checkM_w hc
 have hsh:=checkM_shaped hc
 unfold shapedM at hsh
 simp only [Bool.and_eq_true,Bool.not_eq_true',List.any_eq_false] at hsh
 have hshape:shape d.signals c.e=true:=by simpa using hsh.2 c hm
 have hsz:sizeE c.e (-1)=.ok c.e:=by
  have h:=hc
  unfold checkM at h
  split at h
  ·rename_i g hg
   exfalso
   subst h
   unfold sizeD at hg
   repeat' split at hg
   all_goals first | (cases hg;done) | (injection hg with hg;first | exact absurd hg (by decide) | (rename_i hne;exact hne hg))
  ·rename_i y hy
   split at h
   ·rename_i hs
    unfold sizeD at hy
    split at hy
    ·cases hy
    split at hy
    ·cases hy
    split at hy
    ·cases hy
    split at hy
    ·cases hy
    rename_i h4
    injection hy with hy
    subst hy
    rw [Bool.and_eq_true] at hs
    exact szCs_same d.checks _ (by simpa using h4) hs.2 c hm
   ·exact absurd h (by decide)
 obtain ⟨hws,-⟩:=ws_of_size (fun x hx=>(hls x hx).2) c.e hshape (-1) (by omega) hsz
 unfold fitsM at hf
 simp only [Bool.and_eq_true,decide_eq_true_eq] at hf
 have hn:nodes c.e<=65536:=by
  have h1:=le_sumBy (fun c:Chk=>nodes c.e) d.checks c hm
  have h2:=hf.2.1
  unfold mNodes at h2
  omega
 have hd:deep c.e<=64:=by
  have h1:=maxBy_ge (fun c:Chk=>deep c.e) d.checks c hm
  have h2:=hf.2.2
  unfold mDeep at h2
  omega
 exact ⟨hws,hn,checkEM_ok (fun x hx=>(hls x hx).2) hsh.1.1 hws hn hd⟩
theorem chk_eval {d:Flat} (hok:d.ok) (hc:checkM d=0) {v:List Nat} (hv:Val2 d.signals v):∀ c∈d.checks,evalM d v c.e=(evM v c.e,0):=fun c hm=>by
 unfold evalM
 rw [if_pos ⟨valsOk_of hc hv,(chk_ok hok hc c hm).2.2⟩]
theorem outV_drop (ls:List Signal):∀ (v:List Nat) (k:Nat) (hk:k<ls.length) (hkv:k<v.length),outV (ls.drop k) (v.drop k)=(if ls[k].kind=2 then [v[k]] else [])++outV (ls.drop (k+1)) (v.drop (k+1)):=by
 intro v k hk hkv
 rw [List.drop_eq_getElem_cons hk,List.drop_eq_getElem_cons hkv,outV]
 split<;>rfl
theorem outV_len (ls:List Signal):∀ v,(outV ls v).length<=ls.length:=by
 induction ls with
 | nil=>intro v;exact Nat.le_refl _
 | cons s ls ih =>
  intro v
  rw [outV]
  have:=ih v.tail
  split<;>simp<;>omega
theorem outs_calls {d:Flat} {sv pv cv nv ov:Value} {P:Nat} {wb w:World} {v:List Nat} (H:Cy d sv pv cv wb) (h:CyW d sv pv cv nv ov P wb v w) :
  Calls Tryz.prog 60 #[.pointer (some ⟨P,0,none⟩)] w fun r w'=>∃ u t,r=.returned (.tuple #[u,t])/\WordRow w.heap.size u (outV d.signals v) w'/\BoolRow w.heap.size t (chkV d v) w'/\Ext w w':=by
 have HH:=Jh H
 have hck:=(look_in H.ok H.lk).1
 have HEV:=Jh (chk_eval H.ok hck h.val)
 have HWF:=Jh H.ok.wf.checks
 have hsl:=H.ok.signals
 have hcl:=H.ok.checks
 have HNO:=Jh (fun k (hk:k<d.checks.length)=>(show nodes d.checks[k].e<=1048576 from Nat.le_trans (chk_ok H.ok hck _ (List.getElem_mem hk)).2.1 (by decide)))
 have h64:=val2_us64 (fun x hx=>(checkM_w hck x hx).2) h.val
 have H64:=Jh h64
 have hvl:v.length=d.signals.length:=h.val.1
 have HVL:=Jh hvl
 clear hvl
 obtain ⟨a0,cap0,rfl,-⟩:=h.row.open
 have HW:=Jh h
 have HVR:=Jh h.row
 obtain ⟨sv',pv',cv',e,hS,hP,hC⟩:=H.flat
 injection e with e
 simp only [Array.mk.injEq,List.cons.injEq,and_true] at e
 obtain ⟨rfl,rfl,rfl⟩:=e
 obtain ⟨ss,sb,so,sc,rfl,hp1,hp2,hsa,hsr⟩:=hS.open
 obtain ⟨cs,cb,co,cc,rfl,hc1,hc2,hca,hcr⟩:=hC.open
 have HSA:=Jh hsa
 have HSR:=Jh (fun W (hx:Ext wb W)=>(hsr.mono fun x _ b o hh=>Has.ext hh hx:Rows 4 (SigAt W) d.signals sb so))
 have HCA:=Jh hca
 have HCR:=Jh (fun W (hx:Ext wb W)=>(hcr.mono fun x _ b o hh=>ChkAt.ext' hx hh:Rows 9 (ChkAt W) d.checks cb co))
 have HX0:=Jh h.ext
 have y0:=h.blk.has 0 _ rfl
 rw [Nat.zero_add] at y0
 obtain ⟨OV,hOV⟩:∃ O,outV d.signals v=O:=⟨_,rfl⟩
 have HOV:=Jh hOV
 have hol:=outV_len d.signals v
 rw [hOV] at hol ⊢
 clear hS hP hC hsa hsr hca hcr H hck h64 hOV h
 go_enter Tryz.func60,Tryz.ntmps60
 go_wp2_with fail
 clear y0
 go_loopw [4,6,7,18] (fun uv _ _ i wr=>∃ (k:Nat) (acc:List Nat),k<=d.signals.length/\i=.int .i64 k/\WordRow w.heap.size uv acc wr/\OV=acc++outV (d.signals.drop k) (v.drop k)/\Ext w wr) (fun _ _ _ i _=>d.signals.length-(intOf i).toNat)
 case atStart=>exact ⟨0,[],Nat.zero_le _,rfl,WordRow.nil _ _,by rw [List.drop_zero,List.drop_zero];exact HOV.out.symm,Below.refl _ _⟩
 case round =>
  obtain ⟨k,acc,hk,rfl,hrow,hsplit,hxr⟩:=hrel
  have HROW:=Jh hrow
  have HXR:=Jh hxr
  have HSP:=Jh hsplit
  have hacc:acc.length<=OV.length:=by rw [hsplit,List.length_append];omega
  clear hrow hxr hsplit
  obtain ⟨ua,uc,rfl,-⟩:=HROW.out.open
  by_cases hlt:k<d.signals.length
  ·obtain rfl:=HSA.out (by omega)
   have hkv:k<v.length:=by rw [HVL.out];exact hlt
   have he:=Sigs.get (HSR.out wr (HX0.out.trans HXR.out)) hlt
   have hx2:=ext_alloc wr (.cells d.signals[k].cells.toArray 41)
   have hbx:=Blk.new wr d.signals[k].cells.toArray 41
   have hdr:=outV_drop d.signals v k hlt hkv
   obtain ⟨g0,cap',hnv⟩:=HW.out.head (by omega)
   injection hnv with hnv zq1 zq2
   clear zq1 zq2
   obtain rfl:=hnv
   have hXa:=HXR.out.trans hx2
   have yv:=((HVR.out.ext hXa).cellf hkv).1
   have yp:=(HW.out.ext' hXa).blk.has 3 _ rfl
   rw [Nat.zero_add] at yp
   rw [hdr] at HSP
   clear hdr hXa
   generalize v[k]=y at *
   generalize d.signals[k]=x at *
   go_upto_region 6 with (first | ((with_reducible show Jl 41);refine Jm 41 (he) agg_Signal rfl ?_) | ((with_reducible show Js 41);refine wpList_store_new rfl 41 _ _ rfl rfl (by first | rfl | simp) rfl agg_Signal (rfl) rfl (rfl) ?_))
   generalize wr.alloc _=w2 at *
   have yk:=hbx.has 2 _ rfl
   rw [Nat.zero_add] at yk
   have HX2:=Jh (HXR.out.trans hx2)
   have hrow2:=HROW.out.ext hx2
   have HROW2:=Jh hrow2
   clear hbx hx2 he hrow2
   by_cases hkd:x.kind=2
   ·rw [hkd] at yk
    rw [if_pos hkd] at HSP
    have hx3:=ext_alloc w2 (.cells [W64 y].toArray 39)
    have hb3:=Blk.new w2 [W64 y].toArray 39
    have HX3:=Jh (HX2.out.trans hx3)
    have HR3:=Jh (HROW2.out.ext hx3)
    have HB3:=Jh hb3.has
    clear hx3 hb3 hkd
    go_wp2_with (first | ((with_reducible show Jw (Op.buildSlice _ _ _));refine wpList_bs1 rfl _ _ rfl appWord rfl (cs:=[W64 y]) rfl rfl (by decide) ?_) | ((with_reducible show Jw (Op.call { callee:=.builtin .append,args:=_,argTypes:=_ }));refine Hid.out ?_))
    refine Jh ?_
    refine wpList_appWI rfl _ _ rfl rfl HR3.out rfl (fun _=>Nat.lt_of_lt_of_le Nat.zero_lt_one (Nat.le_refl 1)) (news:=[y]) rfl (news_has HB3.out) (by omega) HX3.out.size ?_
    intro g6 cap6 w6 hr6 hg6
    have HX6:=Jh (Ext.grownO HX3.out hg6 (fun j hj=>(HR3.out.at hj).1))
    have HR6:=Jh hr6
    clear hr6 hg6 yk yv yp
    go_wp2_with fail
    go_roundw
    case rel=>exact ⟨k+1,acc++[y],hlt,by go_num,by first | exact HR6.out | (rw [List.length_append];exact HR6.out),by rw [List.append_assoc];exact HSP.out,HX6.out⟩
    case measure=>simp [intOf];omega
   ·have b2:(x.kind==2)=false:=by rw [beq_eq_false_iff_ne];exact hkd
    rw [if_neg hkd,List.nil_append] at HSP
    clear hkd yv yp
    go_wp2_with fail
    go_roundw
    case rel=>exact ⟨k+1,acc,hlt,by go_num,HROW2.out,HSP.out,HX2.out⟩
    case measure=>simp [intOf];omega
  ·obtain rfl:k=d.signals.length:=by omega
   obtain rfl:acc=OV:=by rw [HSP.out,List.drop_length];simp [outV]
   have HROW2:=Jh (HROW.out)
   have y2:=(HW.out.ext' HXR.out).blk.has 2 _ rfl
   rw [Nat.zero_add] at y2
   generalize wr=w2 at *
   go_wp2_with fail
   clear y2
   go_loopw [5,9,10,11,43] (fun tv _ _ _ i wr=>∃ (k:Nat) (bs:List Bool),k<=d.checks.length/\i=.int .i64 k/\BoolRow w.heap.size tv bs wr/\bs=(d.checks.take k).map (fun c=>decide (evM v c.e=1))/\WordRow w.heap.size (.slice ua acc.length uc) acc wr/\Ext w wr) (fun _ _ _ _ i _=>d.checks.length-(intOf i).toNat)
   case atStart=>exact ⟨0,[],Nat.zero_le _,rfl,BoolRow.nil _ _,by simp,HROW2.out,HXR.out⟩
   case round =>
    obtain ⟨k,bs,hk2,rfl,hbr,hbs,hwr,hxq⟩:=hrel
    have HBR:=Jh hbr
    have HBS:=Jh hbs
    have HWR:=Jh hwr
    have HXQ:=Jh hxq
    have hbl:bs.length=k:=by rw [hbs];simp;omega
    have HBL:=Jh hbl
    clear hbr hbs hwr hxq hbl
    obtain ⟨ta,tc,rfl,-⟩:=HBR.out.open
    by_cases hlt:k<d.checks.length
    ·obtain rfl:=HCA.out (by omega)
     obtain ⟨se,hhc,hes⟩:=Chks.get (HCR.out wr (HX0.out.trans HXQ.out)) hlt
     have hone:=hes.one
     have hev:=HEV.out _ (List.getElem_mem hlt)
     have hwf:=HWF.out _ (List.getElem_mem hlt)
     have hno:=HNO.out k hlt
     have htk:(d.checks.take (k+1)).map (fun c=>decide (evM v c.e=1))=bs++[decide (evM v d.checks[k].e=1)]:=by
      rw [List.take_add_one,List.getElem?_eq_getElem hlt,List.map_append,<-HBS.out];rfl
     have HTK:=Jh htk
     have hx2:=ext_alloc wr (.cells (d.checks[k].cells se).toArray 118)
     have hb2:=Blk.new wr (d.checks[k].cells se).toArray 118
     have HWC:=Jh (fun W (hx:Ext w W)=>(HW.out.ext' hx).flat HH.out)
     have HEC:=Jh (fun W (hx:Ext w W) (hV:Es W se d.checks[k].e.l)=>Eval_calls d _ v _ d.checks[k].e (d.checks[k].e.cells se) W (HWC.out W hx) HH.out.ok ((HVR.out.ext hx).cells) H64.out ⟨se,rfl,hV⟩ hwf hno)
     rw [hev] at HEC
     obtain ⟨q,hq⟩:∃ q,decide (evM v d.checks[k].e=1)=q:=⟨_,rfl⟩
     have hqq:(((evM v d.checks[k].e:Nat):Int)==1)=q:=by
      rw [<-hq,Bool.eq_iff_iff,beq_iff_eq,decide_eq_true_eq];omega
     have HQQ:=Jh hqq
     rw [hq] at HTK
     clear htk hev hwf hno hq hqq
     generalize evM v d.checks[k].e=X at *
     generalize d.checks[k]=c at *
     go_upto_region 12 with (first | ((with_reducible show Jl 118);refine Jm 118 (hhc) agg_Check rfl ?_) | ((with_reducible show Js 118);refine wpList_store_new rfl 118 _ _ rfl rfl (by first | rfl | simp) rfl agg_Check (rfl) rfl (by simp [hone,one_int,one_string]) ?_))
     obtain ⟨B,hB⟩:∃ B,wr.heap.size=B:=⟨_,rfl⟩
     rw [hB] at hb2 ⊢
     clear hB hhc
     generalize wr.alloc _=w3 at *
     have HX3:=Jh (HXQ.out.trans hx2)
     have HB3:=Jh (show Has w3 B 1 (c.e.cells se) from fun j u hj=>by have:=hb2.has (j+1) u (by simpa using hj);rw [Nat.zero_add] at this;rw [Nat.add_comm 1 j];exact this)
     have HES:=Jh (hes.ext hx2)
     have HBR3:=Jh (HBR.out.ext hx2)
     have HWR3:=Jh (HWR.out.ext hx2)
     clear hx2 hb2 hes hone
     refine Jg w3 fun hH=>?_
     try simp only [J]
     (refine Jt 0 (.pointer (some ⟨P,0,none⟩)) rfl (yif_load1 rfl fun _ _=>rfl) hH ?_;try simp only [J])
     (refine Jt 1 (.pointer (some ⟨P,0,none⟩)) rfl (yif_load1 rfl (by intro W hW;clear hW;go_simp)) hH ?_;try simp only [J])
     (refine Jt 2 (.pointer (some ⟨P,0,none⟩)) rfl (yif_load1 rfl (by intro W hW;clear hW;go_simp)) hH ?_;try simp only [J])
     (refine Jt 3 (.agg [.slice ss d.signals.length sc,pv,.slice (some ⟨cb,co,none⟩) d.checks.length cc].toArray) rfl (yif_load rfl 26 _ rfl rfl (fun W hW=>(HW.out.ext' (HX3.out.trans hW)).has3) agg_Flat rfl) hH ?_;try simp only [J])
     (refine Jt 4 (.pointer (some ⟨P,0,none⟩)) rfl (yif_load1 rfl fun _ _=>rfl) hH ?_;try simp only [J])
     (refine Jt 5 (.pointer (some ⟨P,0,none⟩)) rfl (yif_load1 rfl (by intro W hW;clear hW;go_simp)) hH ?_;try simp only [J])
     (refine Jt 6 (.pointer (some ⟨P,3,none⟩)) rfl (yif_load1 rfl (by intro W hW;clear hW;go_simp)) hH ?_;try simp only [J])
     (refine Jt 7 (.slice a0 v.length cap0) rfl (yif_load1 rfl (by intro W hW;have z:=(HW.out.ext' (HX3.out.trans hW)).blk.has 3 _ rfl;clear hW;go_simp)) hH ?_;try simp only [J])
     (refine Jt 8 (.pointer (some ⟨B,1,none⟩)) rfl (yif_load1 rfl (by intro W hW;clear hW;go_simp)) hH ?_;try simp only [J])
     (refine Jt 9 (.agg (c.e.cells se).toArray) rfl (yif_load rfl 72 _ rfl rfl (fun W hW=>HB3.out.ext hW) agg_E rfl) hH ?_;try simp only [J])
     (refine Jr 10 rfl fun K hK=>?_)
     go_simp
     refine (HEC.out _ (HX3.out.trans hH) (HES.out.ext hH)).mono ?_
     rintro r w4 ⟨rfl,hx4⟩
     refine hK.out _ _ (hH.trans hx4) (fun hH=>?_)
     clear hK K hx4
     try simp only [J]
     (refine Jt 11 (.tuple #[.int .u64 (X:Int),.int .i64 0]) rfl (yif_load1 rfl fun _ _=>rfl) hH ?_;try simp only [J])
     (refine Jt 12 (.int .u64 (X:Int)) rfl (yif_load1 rfl (by intro W hW;clear hW;go_simp)) hH ?_;try simp only [J])
     (refine Jt 13 (.int .i64 0) rfl (yif_load1 rfl (by intro W hW;clear hW;go_simp)) hH ?_;try simp only [J])
     (refine Jt 14 (.int .u64 (X:Int)) rfl (yif_load1 rfl fun _ _=>rfl) hH ?_;try simp only [J])
     (refine Jt 15 (.int .i64 0) rfl (yif_load1 rfl fun _ _=>rfl) hH ?_;try simp only [J])
     refine Jz ?_
     have HX4:=Jh hH
     clear hH
     go_upto_region 14 with (go_at_call 73;refine (on_ok w4).mono ?_;rintro r w5 ⟨rfl,hx5⟩)
     have hX35:=HX4.out.trans hx5
     have HX5:=Jh (HX3.out.trans hX35)
     have HBR5:=Jh (HBR3.out.ext hX35)
     have HWR5:=Jh (HWR3.out.ext hX35)
     clear hX35 hx5
     have eqq:=HQQ.out
     have hx6:=ext_alloc w5 (.cells [.bool q].toArray 4)
     have hb6:=Blk.new w5 [.bool q].toArray 4
     have HX6:=Jh (HX5.out.trans hx6)
     have HBR6:=Jh (HBR5.out.ext hx6)
     have HWR6:=Jh (HWR5.out.ext hx6)
     have HB6:=Jh hb6.has
     clear hx6 hb6
     go_wp2_with (first | ((with_reducible show Jw (Op.buildSlice _ _ _));refine wpList_bs1 rfl _ _ rfl appBool rfl (cs:=[.bool q]) rfl rfl (by decide) ?_) | ((with_reducible show Jw (Op.call { callee:=.builtin .append,args:=_,argTypes:=_ }));refine Hid.out ?_))
     refine Jh ?_
     refine wpList_appBI rfl _ _ rfl rfl HBR6.out rfl (fun _=>Nat.lt_of_lt_of_le Nat.zero_lt_one (Nat.le_refl 1)) (news:=[q]) rfl (news_has HB6.out) (by rw [HBL.out];omega) HX6.out.size ?_
     intro g7 cap7 w7 hr7 hg7
     have HX7:=Jh (Ext.grownO HX6.out hg7 (fun j hj=>(HBR6.out.at hj).1))
     have HR7:=Jh hr7
     have HW7:=Jh (HWR6.out.grown hg7 fun q hq e=>by
      obtain ⟨-,cur,hcur⟩:=HWR6.out.at hq
      exact HBR6.out.ne (B:=q) hcur (by decide) e.symm rfl)
     clear hr7 hg7 eqq
     go_wp2_with fail
     go_roundw
     case rel=>exact ⟨k+1,bs++[q],hlt,by go_num,by first | exact HR7.out | (rw [List.length_append];exact HR7.out),HTK.out.symm,HW7.out,HX7.out⟩
     case measure=>simp [intOf];omega
    ·obtain rfl:k=d.checks.length:=by omega
     have HE:=Jh (show bs=chkV d v by rw [HBS.out,List.take_length];rfl)
     go_wp2_with ((with_reducible show bodyPost _ _ _ _ _ _);refine Hid.out ?_)
     refine Jh ?_
     refine bodyPost_ret (v:=.tuple #[.slice ua acc.length uc,.slice ta bs.length tc]) (by simp [results,Tryz.results60,go_sem]) rfl ⟨_,_,rfl,HWR.out,by rw [<-HE.out];exact HBR.out,HXQ.out⟩
section
variable {P:Program} {ops:Array Oper} {Q:Exit->Act->World->Prop} {md:Region.Mode} {S:World->Prop} {stop:Nat}
def wpAnyT (P:Program) (md:Region.Mode) (ops:Array Oper) (Q:Exit->Act->World->Prop) (S:World->Prop) (stop:Nat):Nat->Array Bool->Act->World->Prop
 | 0,listed,a,w=>Region.ready md ops listed=[]/\Q .normal a w
 | fuel+1,listed,a,w =>
  (Region.ready md ops listed=[]->Q .normal a w) /\
  ∀ i∈Region.ready md ops listed,wpOp P ops Q i (fun a' w'=>((listed.setIfInBounds i true).getD stop true=false->S w')/\wpAnyT P md ops Q S stop fuel (listed.setIfInBounds i true) a' w') a w
theorem wpAny_of_T:∀ (fuel:Nat) (listed:Array Bool) (a:Act) (w:World),wpAnyT P md ops Q S stop fuel listed a w->wpAny P md ops Q fuel listed a w
 | 0,_,_,_,h=>h
 | fuel+1,_,_,_,h=>⟨h.1,fun i hi=>wpOp_mono (fun a' w' h'=>wpAny_of_T fuel _ a' w' h'.2) (h.2 i hi)⟩
theorem getD_set_true {l:Array Bool} {i k:Nat} (h:l.getD k true=true):(l.setIfInBounds i true).getD k true=true:=by
 by_cases e:i=k
 ·subst e
  by_cases hi:i<l.size
  ·simp [Array.getD,hi]
  ·simp [Array.getD,hi]
 ·rw [getD_set_ne true e];exact h
theorem wpAnyT_of_held:∀ (fuel:Nat) (listed:Array Bool) (a:Act) (w:World),listed.getD stop true=true->wpAnyH P md ops Q (fun _=>True) fuel listed a w->wpAnyT P md ops Q S stop fuel listed a w
 | 0,_,_,_,_,h=>h
 | fuel+1,_,_,_,hl,h=>⟨h.1,fun i hi=>wpOp_mono (fun a' w' h'=>⟨fun hf=>(by rw [getD_set_true hl] at hf;cases hf),wpAnyT_of_held fuel _ a' w' (getD_set_true hl) h'.2⟩) (h.2 i hi)⟩
def waitsB (md:Region.Mode) (ops:Array Oper) (stop i:Nat):Bool:=match ops[stop]? with
 | some o=>o.after.toList.any fun e=>Region.binds md e&&decide (e.on=i)
 | none=>false
theorem wpAnyT_first {i:Nat} {oi:Oper} {v:Value} (hi:ops[i]? = some oi) (hsel:∀ (j:Nat) (o:Oper) cs b,ops[j]? = some o->o.op≠.select cs b)
  (hQ:∀ c a w,Q (.panic c) (a.put oi.dst v) w->Q (.panic c) a w) (his:i≠stop) (hwt:waitsB md ops stop i=true) :
  ∀ (fuel:Nat) (listed:Array Bool) (a:Act) (w:World),
   (∀ j oj,ops[j]? = some oj->j≠i->listed.getD j true=false->(∀ e∈oj.after,Region.binds md e=true->e.on≠i)->oi.apart ops oj=true) ->
   i∈Region.ready md ops listed->YieldsIf P ops S oi v a->S w->listed.getD stop true=false ->
   wpAnyT P md ops Q S stop fuel (listed.setIfInBounds i true) (a.put oi.dst v) w->wpAnyT P md ops Q S stop (fuel+1) listed a w:=by
 intro fuel
 induction fuel with
 | zero =>
  intro listed a w _ hr hy hS _ H
  refine ⟨fun h=>(by rw [h] at hr;cases hr),fun j hj=>?_⟩
  by_cases hji:j=i
  ·subst hji;exact hy.wpOp hi hS ⟨fun _=>hS,H⟩
  ·have:=ready_mono hj hji
   rw [H.1] at this
   cases this
 | succ fuel ih =>
  intro listed a w hfree hr hy hS hst H
  refine ⟨fun h=>(by rw [h] at hr;cases hr),fun j hj=>?_⟩
  by_cases hji:j=i
  ·subst hji;exact hy.wpOp hi hS ⟨fun _=>hS,H⟩
  ·have h1:=H.2 j (ready_mono hj hji)
   obtain ⟨hjun,oj,hoj,hall⟩:=mem_ready.1 hj
   have hnot:∀ e∈oj.after,Region.binds md e=true->e.on≠i:=fun e he hb heq=>by
    have h1:=hall e he hb
    have h0:=(mem_ready.1 hr).1
    rw [heq] at h1
    rcases Nat.lt_or_ge i listed.size with h' | h'
    ·simp [h'] at h0 h1;rw [h0] at h1;cases h1
    ·simp [Array.getElem?_eq_none h'] at h1
   have hjs:j≠stop:=fun e=>by
    subst e
    unfold waitsB at hwt
    rw [hoj] at hwt
    obtain ⟨e,he,hb⟩:=List.any_eq_true.1 hwt
    simp only [Bool.and_eq_true,decide_eq_true_eq] at hb
    exact hnot e (by simpa using he) hb.1 hb.2
   have h2:=wpOp_putIf hoj (hfree j oj hoj hji hjun hnot) (fun cs b=>hsel i oi cs b hi) (fun cs b=>hsel j oj cs b hoj) hQ hy h1
   have hfree':∀ k ok,ops[k]? = some ok->k≠i->(listed.setIfInBounds j true).getD k true=false ->
     (∀ e∈ok.after,Region.binds md e=true->e.on≠i)->oi.apart ops ok=true:=fun k ok hk hki hun hno=>by
    refine hfree k ok hk hki ?_ hno
    by_cases hjk:j=k
    ·subst hjk;exact hjun
    ·rw [getD_set_ne true hjk] at hun;exact hun
   have hst':(listed.setIfInBounds j true).getD stop true=false:=by rw [getD_set_ne true hjs];exact hst
   refine wpOp_mono (fun a' w' h3=>?_) h2
   have hst2:((listed.setIfInBounds i true).setIfInBounds j true).getD stop true=false:=by rw [getD_set_ne true hjs,getD_set_ne true his];exact hst
   have hS':=h3.2.1 hst2
   refine ⟨fun _=>hS',ih (listed.setIfInBounds j true) a' w' hfree' (ready_mono hr (Ne.symm hji)) h3.1 hS' hst' ?_⟩
   rw [Array.setIfInBounds_comm _ _ hji]
   exact h3.2.2
theorem wpAnyT_firstP {i:Nat} {oi:Oper} {v:Value} (hi:ops[i]? = some oi) (hsel:∀ (j:Nat) (o:Oper) cs b,ops[j]? = some o->o.op≠.select cs b)
  (hQ:∀ c a w,Q (.panic c) (a.put oi.dst v) w->Q (.panic c) a w) (his:i≠stop) :
  ∀ (fuel:Nat) (listed:Array Bool) (a:Act) (w:World),
   (∀ j oj,ops[j]? = some oj->j≠i->listed.getD j true=false->(∀ e∈oj.after,Region.binds md e=true->e.on≠i)->oi.apart ops oj=true) ->
   i∈Region.ready md ops listed->YieldsIf P ops (fun _=>True) oi v a->(listed.getD stop true=false->S w) ->
   wpAnyT P md ops Q S stop fuel (listed.setIfInBounds i true) (a.put oi.dst v) w->wpAnyT P md ops Q S stop (fuel+1) listed a w:=by
 intro fuel
 induction fuel with
 | zero =>
  intro listed a w _ hr hy hS H
  refine ⟨fun h=>(by rw [h] at hr;cases hr),fun j hj=>?_⟩
  by_cases hji:j=i
  ·subst hji;exact hy.wpOp hi trivial ⟨fun h=>hS (by rwa [getD_set_ne true his] at h),H⟩
  ·have:=ready_mono hj hji
   rw [H.1] at this
   cases this
 | succ fuel ih =>
  intro listed a w hfree hr hy hS H
  refine ⟨fun h=>(by rw [h] at hr;cases hr),fun j hj=>?_⟩
  by_cases hji:j=i
  ·subst hji;exact hy.wpOp hi trivial ⟨fun h=>hS (by rwa [getD_set_ne true his] at h),H⟩
  ·have h1:=H.2 j (ready_mono hj hji)
   obtain ⟨hjun,oj,hoj,hall⟩:=mem_ready.1 hj
   have hnot:∀ e∈oj.after,Region.binds md e=true->e.on≠i:=fun e he hb heq=>by
    have h1:=hall e he hb
    have h0:=(mem_ready.1 hr).1
    rw [heq] at h1
    rcases Nat.lt_or_ge i listed.size with h' | h'
    ·simp [h'] at h0 h1;rw [h0] at h1;cases h1
    ·simp [Array.getElem?_eq_none h'] at h1
   have h2:=wpOp_putIf hoj (hfree j oj hoj hji hjun hnot) (fun cs b=>hsel i oi cs b hi) (fun cs b=>hsel j oj cs b hoj) hQ hy h1
   have hfree':∀ k ok,ops[k]? = some ok->k≠i->(listed.setIfInBounds j true).getD k true=false ->
     (∀ e∈ok.after,Region.binds md e=true->e.on≠i)->oi.apart ops ok=true:=fun k ok hk hki hun hno=>by
    refine hfree k ok hk hki ?_ hno
    by_cases hjk:j=k
    ·subst hjk;exact hjun
    ·rw [getD_set_ne true hjk] at hun;exact hun
   refine wpOp_mono (fun a' w' h3=>?_) h2
   have hS':(listed.setIfInBounds j true).getD stop true=false->S w':=fun h=>h3.2.1 (by rw [Array.setIfInBounds_comm _ _ (Ne.symm hji),getD_set_ne true his];exact h)
   refine ⟨hS',ih (listed.setIfInBounds j true) a' w' hfree' (ready_mono hr (Ne.symm hji)) h3.1 hS' ?_⟩
   rw [Array.setIfInBounds_comm _ _ hji]
   exact h3.2.2
theorem wpAnyT_takeP {i:Nat} {oi:Oper} {v:Value} {fuel:Nat} {listed:Array Bool} {a:Act} {w:World} (hi:ops[i]? = some oi)
  (hs:Region.noSelect ops=true) (hf:Region.free md ops listed i=true) (hr:(Region.ready md ops listed).contains i=true) (his:i≠stop)
  (hQ:∀ c a w,Q (.panic c) (a.put oi.dst v) w->Q (.panic c) a w) (hy:YieldsIf P ops (fun _=>True) oi v a) (hS:S w)
  (h:wpAnyT P md ops Q S stop fuel (listed.setIfInBounds i true) (a.put oi.dst v) w):wpAnyT P md ops Q S stop (fuel+1) listed a w :=
 wpAnyT_firstP hi (Region.noSelect_spec hs) hQ his fuel listed a w (Region.free_spec hi hf) (by simpa using hr) hy (fun _=>hS) h
theorem wpAnyT_take {i:Nat} {oi:Oper} {v:Value} {fuel:Nat} {listed:Array Bool} {a:Act} {w:World} (hi:ops[i]? = some oi)
  (hs:Region.noSelect ops=true) (hf:Region.free md ops listed i=true) (hr:(Region.ready md ops listed).contains i=true) (his:i≠stop) (hwt:waitsB md ops stop i=true) (hst:listed.getD stop true=false)
  (hQ:∀ c a w,Q (.panic c) (a.put oi.dst v) w->Q (.panic c) a w) (hy:YieldsIf P ops S oi v a) (hS:S w)
  (h:wpAnyT P md ops Q S stop fuel (listed.setIfInBounds i true) (a.put oi.dst v) w):wpAnyT P md ops Q S stop (fuel+1) listed a w :=
 wpAnyT_first hi (Region.noSelect_spec hs) hQ his hwt fuel listed a w (Region.free_spec hi hf) (by simpa using hr) hy hS hst h
theorem wpAnyT_one {i:Nat} {oi:Oper} {fuel:Nat} {listed:Array Bool} {a:Act} {w:World} (hr:Region.ready md ops listed=[i]) (hi:ops[i]? = some oi)
  (h:∀ K:Act->World->Prop,Shut (∀ a w,((listed.setIfInBounds i true).getD stop true=false->S w)->wpAnyT P md ops Q S stop fuel (listed.setIfInBounds i true) a w->K a w)->if Region.wanted oi (yielded ops a.tmps)=true then Oper.wp P oi a w K Q else K (a.put oi.dst undef) w) :
  wpAnyT P md ops Q S stop (fuel+1) listed a w:=by
 refine ⟨fun h0=>(by rw [hr] at h0;cases h0),fun j hj=>?_⟩
 rw [hr] at hj
 obtain rfl:=List.mem_singleton.1 hj
 exact wpOp_step hi (fun K hK=>h K (fun a w hS hW=>hK a w ⟨hS,hW⟩))
theorem wp_region_T {id:Nat} {a:Act} {w:World} (hm:P.follows .mixedOrders=true) (hS:S w.drew)
  (h:S w.drew->wpAnyT P .any ops Q S stop ops.size (Array.replicate ops.size false) a w.drew):(Code.region id ops true).wp P Q a w :=
 wp_region_any hm (wpAny_of_T _ _ _ _ (h hS))
end
end Go.Proofs.YtoaamjgfhppppaaGreat
