/- Laws and walks that a claim of this seat leans on: Ref6. -/
import Derived.Test.YtaipaccpaljecaaGreatR26
import Derived.Test.YtaipaccpaljecaaGreatR00
set_option maxRecDepth 100000
set_option maxHeartbeats 8000000
set_option linter.all false
namespace Go.Proofs.YtaipaccpaljecaaGreat
open Go.RowKit
theorem step_mk {P:Program} {ops:Array Oper} {o:Oper} {a:Act} {w:World} {K:Act->World->Prop} {Q:Exit->Act->World->Prop} {E:Prop} (hw:Region.wanted o (yielded ops a.tmps)=true)
  (T:TypeId) (x y:Operand) (ho:o.op=.makeSlice T x y) {n:Nat} (hx:a.eval x=.int .i64 (n:Int)) (hy:a.eval y=.int .i64 (n:Int)) {e:TypeId} {z:Value} {size bytes:Nat}
  (ht:P.underlying T=some (.slice e)) (hi:(P.info? e).map (fun i=>(i.zero,i.size,i.bytes))=some (some z,size,bytes)) (hb:(bytes:Int)*(n:Int)<=281474976710656) (h63:(n:Int)<=9223372036854775807)
  (h:K (a.put o.dst (.slice (some ⟨w.heap.size,0,none⟩) n n)) (w.alloc (.cells (madeCells z.cells (n*size)) e))):if Region.wanted o (yielded ops a.tmps)=true then Oper.wp P o a w K Q else E:=by
 rw [if_pos hw]
 cases hq:P.info? e with
 | none=>simp [hq] at hi
 | some i =>
  simp only [hq,Option.map_some,Option.some.injEq,Prod.mk.injEq] at hi
  obtain ⟨hz,hs,hbb⟩:=hi
  subst hs
  subst hbb
  have:=run_make (P:=P) w T e i z ht hq hz .i64 .i64 n n (by omega) (by omega) hb h63
  unfold Oper.wp execOp
  simp only [Int.toNat_natCast] at this
  simp only [ho,hx,hy,Sem.run_bind,this,Result.andThen_ok,Sem.run_pure]
  exact h
theorem Sl.nil0 {α:Type} {size:Nat} {R:α->Nat->Nat->Prop} (a:Option Addr) (cap:Nat) (h:cap<=9223372036854775807):Sl size R (.slice a 0 cap) ([]:List α) :=
 ⟨0,0,⟨a,cap,rfl,Nat.zero_le _,by simpa [maxLen] using h,fun h=>absurd h (Nat.lt_irrefl 0)⟩,trivial⟩
theorem sizeL_length (l:List E):∀ (ws:List Int) (r:List E),sizeE.sizeL l ws=.ok r->r.length=l.length:=by
 induction l with
 | nil=>intro ws r h;simp only [sizeE.sizeL] at h;injection h with h;rw [<-h]
 | cons e l ih =>
  intro ws r h
  simp only [sizeE.sizeL] at h
  cases h1:sizeE e (ws.headD 0) with
  | error f=>simp only [h1] at h;cases h
  | ok x =>
   cases h2:sizeE.sizeL l ws.tail with
   | error f=>simp only [h1,h2] at h;cases h
   | ok r2 =>
    simp only [h1,h2] at h
    injection h with h
    rw [<-h];simp [ih _ _ h2]
theorem underM_len {x y:E} {ws:List Int} (h:underM x ws=.ok y):y.l.length=x.l.length:=by
 unfold underM at h
 cases h1:sizeE.sizeL x.l ws with
 | error f=>simp only [h1] at h;cases h
 | ok r=>simp only [h1] at h;injection h with h;rw [<-h];exact sizeL_length _ _ _ h1
theorem told_told (a b c:Int):told a (told b c)=told (told a b) c:=by
 unfold told;split<;>simp_all
theorem sized_callsR {ls:List Signal} (hls:∀ x∈ls,x.w<=64) (e:E):shape ls e=true->e.wf->nodes e<=1048576->SizedRSaid e:=by
 induction e using E.ind with
 | h e ih =>
 intro hsh hwf hnb wd cs w hV hwd0 hwd1
 have hok:=ownOk_of_shape ls hls e hsh
 have hle:=own_le e hok
 have howe:=own_callsR hls e hsh hnb
 have hwl:=((E.wf_iff e).1 hwf).2.2.2.2.2.2.2
 have hne:=nodes_eq e
 have hle1:∀ x∈e.l,shape ls x=true/\nodes x<=1048576:=fun x hx=>⟨by rw [shape_eq,Bool.and_eq_true] at hsh;exact List.all_eq_true.1 hsh.2 x hx,by have:=le_sumBy nodes e.l _ hx;omega⟩
 have hps:∀ x∈e.l,SizedRSaid x:=fun x hx=>ih x hx (hle1 x hx).1 (hwl x hx) (hle1 x hx).2
 have hpo:∀ x∈e.l,OwnRSaid x:=fun x hx=>own_callsR hls x (hle1 x hx).1 (hle1 x hx).2
 have hfst:0<=own.fst e.l/\own.fst e.l<=9223372036854775807:=by
  have h4:=((OwnOk_iff e).1 hok).2.2.2
  have:∀ l:List E,(∀ x∈l,x∈e.l)->0<=own.fst l/\own.fst l<=9223372036854775807:=by
   intro l
   induction l with
   | nil=>intro _;simp [own.fst]
   | cons x l ih2 =>
    intro hx
    have hx0:=own_le x (h4 x (hx x (by simp)))
    have hx1:=(hle1 x (hx x (by simp))).2
    have:=ih2 (fun y hy=>hx y (by simp [hy]))
    simp only [own.fst]
    split<;>omega
  exact this e.l (fun _ h=>h)
 have hm:=sizeE_ref e wd hwd0 hsh
 rw [told_told] at hm
 have hinv:=shape_inv hsh
 have HVV:=Jh ((E.wf_iff e).1 hwf).2.2.1
 have hlen:=length_le_sumBy nodes e.l (fun x _=>nodes_pos x)
 have hl1:e.l.length<=1048576:=by omega
 obtain ⟨s,rfl,hs⟩:=hV
 obtain ⟨a,b,o,cap,rfl,hc1,hc2,-,-⟩:=hs.open
 obtain ⟨op,ew,v,sig,hi,lo,n,l⟩:=e
 simp only at hs hc1 hps hpo hfst hinv HVV hl1
 have HOWN:=Jh (fun W (hx:Ext w W)=>howe _ W ⟨_,rfl,hs.ext hx⟩)
 have hpart:=fun (w2:Int) W (hx:Ext w W)=>(show VE W (E.cells ⟨op,w2,v,sig,hi,lo,n,l⟩ (.slice a l.length cap)) ⟨op,w2,v,sig,hi,lo,n,l⟩ from ⟨_,rfl,hs.ext hx⟩)
 have HPS:=Jh hps
 have HPO:=Jh hpo
 have HSZ:=Jh hm
 have HPART:=Jh hpart
 have HFST:=Jh hfst
 clear ih hok howe hwl hle1 hps hpo hm hs hwf hsh hpart hfst
 obtain ⟨q,hq⟩:∃ q,own ⟨op,ew,v,sig,hi,lo,n,l⟩=q:=⟨_,rfl⟩
 rw [hq] at HSZ HOWN hle
 have HQ:=Jh hq
 clear hq
 have HX:=(ext_alloc w (.cells (E.cells ⟨op,ew,v,sig,hi,lo,n,l⟩ (.slice a l.length cap)).toArray 64)).alloc (.cells zeroE.toArray 64)
 have HB0:=(Blk.new w (E.cells ⟨op,ew,v,sig,hi,lo,n,l⟩ (.slice a l.length cap)).toArray 64).alloc (.cells zeroE.toArray 64)
 have HB1:=Blk.new (w.alloc (.cells (E.cells ⟨op,ew,v,sig,hi,lo,n,l⟩ (.slice a l.length cap)).toArray 64)) zeroE.toArray 64
 simp only [World.size_alloc] at HB1
 go_enter Tryz.func197,Tryz.ntmps197
 go_upto_region 1 with (fail)
 generalize (w.alloc _).alloc _=w0 at *
 have K2:=Jh HB0
 have K4:=Jh HB1
 have hlt0:w.heap.size+1<w0.heap.size:=HB1.lt
 have HX0:=Jh HX
 clear HB0 HB1 HX
 go_upto_if 15 with fail
 go_cut [6] (fun u wr=>u=.int .i64 (told wd q)/\Ext w0 wr)
 case first =>
  by_cases h0:wd=0
  ·have b0:(wd==0)=true:=by rw [beq_iff_eq];exact h0
   have HT:=Jh (show told wd q=q by simp [told,h0])
   clear h0
   go_wp2_with (first | ((with_reducible show Jl 64);refine Jm 64 (K2.out.has) agg_E rfl ?_) | (go_at_call 196;refine (HOWN.out _ HX0.out).mono ?_;rintro r w6 ⟨rfl,hx6⟩))
   go_meet
   case rel=>exact ⟨by rw [HT.out],hx6⟩
  ·have b0:(wd==0)=false:=by rw [beq_eq_false_iff_ne];exact h0
   have HT:=Jh (show told wd q=wd by simp [told,h0])
   clear h0
   go_wp2_with fail
   go_meet
   case rel=>exact ⟨by rw [HT.out],Below.refl _ _⟩
 case rest =>
 obtain ⟨rfl,hB⟩:=hcut
 have hq1:0<=told wd q/\told wd q<=9223372036854775807:=by unfold told;split<;>omega
 obtain ⟨q1,hq1'⟩:∃ q1,told wd q=q1:=⟨_,rfl⟩
 rw [hq1'] at HSZ hq1 ⊢
 clear hq1'
 replace K2:=Jh (K2.out.ext hB)
 replace K4:=Jh (K4.out.ext hB)
 replace HX0:=Jh (HX0.out.trans hB)
 have hsb:=hB.size
 clear hB
 go_upto_if 19 with fail
 go_cut [6] (fun u wr=>u=.int .i64 (told q1 32)/\Ext wc wr)
 case first =>
  by_cases h0:q1=0
  ·have b0:(q1==0)=true:=by rw [beq_iff_eq];exact h0
   have HT:=Jh (show told q1 32=32 by simp [told,h0])
   clear h0
   go_wp2_with fail
   go_meet
   case rel=>exact ⟨by rw [HT.out],Below.refl _ _⟩
  ·have b0:(q1==0)=false:=by rw [beq_eq_false_iff_ne];exact h0
   have HT:=Jh (show told q1 32=q1 by simp [told,h0])
   clear h0
   go_wp2_with fail
   go_meet
   case rel=>exact ⟨by rw [HT.out],Below.refl _ _⟩
 case rest =>
 obtain ⟨rfl,hB⟩:=hcut
 have hq2:0<=told q1 32/\told q1 32<=9223372036854775807:=by unfold told;split<;>omega
 obtain ⟨w2,hw2⟩:∃ w2,told q1 32=w2:=⟨_,rfl⟩
 rw [hw2] at HSZ hq2 ⊢
 clear hw2
 replace K2:=Jh (K2.out.ext hB)
 replace K4:=Jh (K4.out.ext hB)
 replace HX0:=Jh (HX0.out.trans hB)
 have hsc:w.heap.size+1<wc.heap.size:=by have:=hB.size;omega
 clear hB hsb hlt0
 have hx7:=ext_alloc wc (.cells (E.cells ⟨op,ew,v,sig,hi,lo,n,l⟩ (.slice a l.length cap)).toArray 64)
 have hb7:=Blk.new wc (E.cells ⟨op,ew,v,sig,hi,lo,n,l⟩ (.slice a l.length cap)).toArray 64
 have hs7:wc.heap.size<(wc.alloc (.cells (E.cells ⟨op,ew,v,sig,hi,lo,n,l⟩ (.slice a l.length cap)).toArray 64)).heap.size:=by simp
 go_upto_region 7 with (first | ((with_reducible show Jl 64);refine Jm 64 (K2.out.has) agg_E rfl ?_) | ((with_reducible show Js 64);refine wpList_store_new rfl 64 _ _ rfl rfl (by first | rfl | simp) rfl agg_E (rfl) rfl (by rfl) ?_))
 generalize wc.alloc _=w7 at *
 have z1:=hb7.has 1 _ rfl
 have r1:=hb7.frozen 1
 go_upto_region 8 with fail
 have hbx:Blk _ wc.heap.size (E.cells ⟨op,w2,v,sig,hi,lo,n,l⟩ (.slice a l.length cap)).toArray 64:=hb7.set 1 (.int .i64 w2)
 have hgx:=gb_set w7 wc.heap.size 1 (.int .i64 w2)
 replace K2:=Jh ((K2.out.ext hx7).grown hgx (by omega))
 replace K4:=Jh ((K4.out.ext hx7).grown hgx (by omega))
 replace HX0:=Jh ((HX0.out.trans hx7).grown hgx (by omega))
 have hs8:=hgx.size
 clear z1 r1 hx7 hb7 hgx
 generalize w7.setCell _ _=w8 at *
 have hxz:=ext_alloc w8 (.cells zeroE.toArray 64)
 have hbz:=Blk.new w8 zeroE.toArray 64
 have hsz:w8.heap.size<(w8.alloc (.cells zeroE.toArray 64)).heap.size:=by simp
 go_upto_region 9 with (first | ((with_reducible show Js 64);refine wpList_store_new rfl 64 _ _ rfl rfl (by first | rfl | simp) rfl agg_E (rfl) rfl (by rfl) ?_))
 generalize w8.alloc _=w5 at *
 replace K2:=Jh (K2.out.ext hxz)
 replace K4:=Jh (K4.out.ext hxz)
 have KX:=Jh (hbx.ext hxz)
 have KZ:=Jh hbz
 have HX5:=Jh (HX0.out.trans hxz)
 have HE5:=Jh (show Ext w5 w5 from Below.refl _ _)
 have hs5:w.heap.size+1<w5.heap.size:=by omega
 have HU:=Jh (show UnderSaid w5 ⟨op,w2,v,sig,hi,lo,n,l⟩ (E.cells ⟨op,w2,v,sig,hi,lo,n,l⟩ (.slice a l.length cap)) from fun ws s' W hx hI h1 h2=>under_callsR ⟨op,w2,v,sig,hi,lo,n,l⟩ HPS.out HPO.out hl1 ws h1 h2 _ s' W (HPART.out w2 W (HX5.out.trans hx)) hI)
 have HSC:=Jh hsc
 clear hs7 hs8 hxz hbz hsz hbx HX0 hsc
 have f0:=K2.out.has 0 _ rfl
 have f1:=K2.out.has 1 _ rfl
 have HQ2:=Jh hq2
 have HL1H:=Jh hl1
 clear hls hnb hne hlen hle hwd0 hwd1 hq1 hq2 hc1 hl1
 rcases hinv with h | h | h | h | h | h | h | h
 ·obtain ⟨rfl,rfl,he0,he64,rfl,rfl,rfl,rfl⟩:=h
  have f2:=K2.out.has 2 _ rfl
  by_cases h0:ew=0
  ·obtain rfl:=h0
   have b0:((0:Int) != 0)=false:=rfl
   have HC:=Jh (Holds_calls w2 v w5 HVV.out HQ2.out.1 HQ2.out.2)
   cases hh:holds w2 v with
   | false =>
    rw [hh] at HC
    have HM:=Jh (show sizeE ⟨1,0,v,0,0,0,0,[]⟩ wd=.error 92 by rw [HSZ.out];simp [sizedM,hh])
    clear hh
    go_wp2_with (first | (go_at_call 194;refine HC.out.mono ?_;rintro r w6 ⟨rfl,rfl⟩) | ((with_reducible show Jl 64);refine Jm 64 (KZ.out.has) agg_E rfl ?_) | ((with_reducible show Js 64);have hk4:=K4.out;refine wpList_store_blk rfl 64 _ _ rfl hk4 rfl (cs:=zeroE) rfl agg_E rfl rfl rfl ?_;intro w9 hb9 hg9) | ((with_reducible show bodyPost _ _ _ _ _ _);refine Hid.out ?_))
    refine Jh ?_
    refine post_ret_blk2 rfl rfl rfl hb9.has agg_E rfl rfl (.inl ⟨92,HM.out,by omega,rfl,HX5.out.grown hg9 (by omega)⟩)
   | true =>
    rw [hh] at HC
    have HM:=Jh (show sizeE ⟨1,0,v,0,0,0,0,[]⟩ wd=.ok ⟨1,w2,v,0,0,0,0,[]⟩ by rw [HSZ.out];simp [sizedM,hh])
    clear hh
    go_wp2_with (first | (go_at_call 194;refine HC.out.mono ?_;rintro r w6 ⟨rfl,rfl⟩) | ((with_reducible show Jl 64);refine Jm 64 (KX.out.has) agg_E rfl ?_) | ((with_reducible show Js 64);have hk4:=K4.out;refine wpList_store_blk rfl 64 _ _ rfl hk4 rfl (cs:=E.cells ⟨1,w2,v,0,0,0,0,[]⟩ (.slice a 0 cap)) rfl agg_E rfl rfl rfl ?_;intro w9 hb9 hg9) | ((with_reducible show bodyPost _ _ _ _ _ _);refine Hid.out ?_))
    refine Jh ?_
    refine post_ret_blk2 rfl rfl rfl hb9.has agg_E rfl rfl (.inr ⟨_,_,HM.out,rfl,fun W _=>⟨_,rfl,Sl.nil0 _ _ hc2⟩,HX5.out.grown hg9 (by omega)⟩)
  ·have b0:(ew != 0)=true:=by rw [bne_iff_ne];exact h0
   have b01:(ew==0)=false:=by rw [beq_eq_false_iff_ne];exact h0
   by_cases h1:ew=w2
   ·obtain rfl:=h1
    have HM:=Jh (show sizeE ⟨1,ew,v,0,0,0,0,[]⟩ wd=.ok ⟨1,ew,v,0,0,0,0,[]⟩ by rw [HSZ.out];simp [sizedM,h0])
    have b1:(ew != ew)=false:=by simp
    clear h0
    go_wp2_with (first | ((with_reducible show Jl 64);refine Jm 64 (KX.out.has) agg_E rfl ?_) | ((with_reducible show Js 64);have hk4:=K4.out;refine wpList_store_blk rfl 64 _ _ rfl hk4 rfl (cs:=E.cells ⟨1,ew,v,0,0,0,0,[]⟩ (.slice a 0 cap)) rfl agg_E rfl rfl rfl ?_;intro w9 hb9 hg9) | ((with_reducible show bodyPost _ _ _ _ _ _);refine Hid.out ?_))
    refine Jh ?_
    refine post_ret_blk2 rfl rfl rfl hb9.has agg_E rfl rfl (.inr ⟨_,_,HM.out,rfl,fun W _=>⟨_,rfl,Sl.nil0 _ _ hc2⟩,HX5.out.grown hg9 (by omega)⟩)
   ·have HM:=Jh (show sizeE ⟨1,ew,v,0,0,0,0,[]⟩ wd=.error 90 by rw [HSZ.out];simp [sizedM,h0,h1])
    have b1:(ew != w2)=true:=by rw [bne_iff_ne];exact h1
    clear h0 h1
    go_wp2_with (first | ((with_reducible show Jl 64);refine Jm 64 (KZ.out.has) agg_E rfl ?_) | ((with_reducible show Js 64);have hk4:=K4.out;refine wpList_store_blk rfl 64 _ _ rfl hk4 rfl (cs:=zeroE) rfl agg_E rfl rfl rfl ?_;intro w9 hb9 hg9) | ((with_reducible show bodyPost _ _ _ _ _ _);refine Hid.out ?_))
    refine Jh ?_
    refine post_ret_blk2 rfl rfl rfl hb9.has agg_E rfl rfl (.inl ⟨90,HM.out,by omega,rfl,HX5.out.grown hg9 (by omega)⟩)
 ·obtain ⟨rfl,rfl,-⟩:=h
  by_cases h1:q=w2
  ·have HM:=Jh (show sizeE ⟨2,ew,v,sig,hi,lo,n,[]⟩ wd=underM ⟨2,w2,v,sig,hi,lo,n,[]⟩ [0] by rw [HSZ.out];simp [sizedM,HQ.out,h1])
   have b1:(q != w2)=false:=by rw [bne_eq_false_iff_eq];exact h1
   clear h1
   go_upto_region 20 with (first | ((with_reducible show Jl 64);refine Jm 64 (K2.out.has) agg_E rfl ?_) | (go_at_call 196;refine (HOWN.out _ HX5.out).mono ?_;rintro r w6 ⟨rfl,hx6⟩))
   have HE6:=Jh hx6
   have KX6:=Jh (KX.out.ext hx6)
   have K46:=Jh (K4.out.ext hx6)
   have hs6:=hx6.size
   clear hx6
   go_wp2_with (first | ((with_reducible show Jl 64);refine Jm 64 (KX6.out.has) agg_E rfl ?_) | ((with_reducible show Jw (Op.buildSlice _ _ _));refine wpList_ints rfl _ 1 _ rfl appInt [0] rfl rfl (by decide) (by decide) ?_) | (go_at_call 243;refine (HU.out [0] _ _ (HE6.out.trans (ext_alloc w6 _)) (Blk.ints (Blk.new w6 (ints [0]).toArray 3) 1 (Nat.le_refl _) (by simp only [maxLen];decide)) (by simp) (by intro v hv;have:=HQ2.out;simp at hv;omega)).mono ?_;intro r w3 hp3;obtain ⟨cs2,g,rfl,h8,hone,hx3,-⟩:=hp3.open;have HP3:=Jh hp3;clear hp3) | ((with_reducible show Js 64);have hk4:=(K46.out.ext (ext_alloc w6 _)).ext hx3;refine wpList_store_blk rfl 64 _ _ rfl hk4 rfl (cs:=cs2) rfl agg_E h8 rfl hone ?_;intro w9 hb9 hg9) | ((with_reducible show bodyPost _ _ _ _ _ _);refine Hid.out ?_))
   refine Jh ?_
   have hsx:=hx3.size
   have hsy:w6.heap.size<(w6.alloc (.cells (ints [0]).toArray 3)).heap.size:=by simp
   refine post_ret_blk2 rfl rfl rfl hb9.has agg_E h8 rfl ?_
   rw [HM.out]
   exact HP3.out.again (HX5.out.trans (HE6.out.trans (ext_alloc w6 _))) ((HX5.out.trans (HE6.out.trans ((ext_alloc w6 _).trans hx3))).grown hg9 (by omega)) (Since.of_grown hg9 (by omega))
  ·have HM:=Jh (show sizeE ⟨2,ew,v,sig,hi,lo,n,[]⟩ wd=.error 90 by rw [HSZ.out];simp [sizedM,HQ.out,h1])
   have b1:(q != w2)=true:=by rw [bne_iff_ne];exact h1
   clear h1
   go_wp2_with (first | ((with_reducible show Jl 64);refine Jm 64 (K2.out.has) agg_E rfl ?_) | ((with_reducible show Jl 64);refine Jm 64 ((KZ.out.ext hx6).has) agg_E rfl ?_) | (go_at_call 196;refine (HOWN.out _ HX5.out).mono ?_;rintro r w6 ⟨rfl,hx6⟩) | ((with_reducible show Js 64);have hk4:=K4.out.ext hx6;refine wpList_store_blk rfl 64 _ _ rfl hk4 rfl (cs:=zeroE) rfl agg_E rfl rfl rfl ?_;intro w9 hb9 hg9) | ((with_reducible show bodyPost _ _ _ _ _ _);refine Hid.out ?_))
   refine Jh ?_
   refine post_ret_blk2 rfl rfl rfl hb9.has agg_E rfl rfl (.inl ⟨90,HM.out,by omega,rfl,(HX5.out.trans hx6).grown hg9 (by omega)⟩)
 ·obtain ⟨rfl,hl⟩:=h
  have HL:=Jh hl
  clear hl
  by_cases h1:q=w2
  ·have HM:=Jh (show sizeE ⟨3,ew,v,sig,hi,lo,n,l⟩ wd=underM ⟨3,w2,v,sig,hi,lo,n,l⟩ [0] by rw [HSZ.out];simp [sizedM,HQ.out,h1])
   have b1:(q != w2)=false:=by rw [bne_eq_false_iff_eq];exact h1
   clear h1
   go_upto_region 20 with (first | ((with_reducible show Jl 64);refine Jm 64 (K2.out.has) agg_E rfl ?_) | (go_at_call 196;refine (HOWN.out _ HX5.out).mono ?_;rintro r w6 ⟨rfl,hx6⟩))
   have HE6:=Jh hx6
   have KX6:=Jh (KX.out.ext hx6)
   have K46:=Jh (K4.out.ext hx6)
   have hs6:=hx6.size
   clear hx6
   go_wp2_with (first | ((with_reducible show Jl 64);refine Jm 64 (KX6.out.has) agg_E rfl ?_) | ((with_reducible show Jw (Op.buildSlice _ _ _));refine wpList_ints rfl _ 1 _ rfl appInt [0] rfl rfl (by decide) (by decide) ?_) | (go_at_call 243;refine (HU.out [0] _ _ (HE6.out.trans (ext_alloc w6 _)) (Blk.ints (Blk.new w6 (ints [0]).toArray 3) 1 (Nat.le_refl _) (by simp only [maxLen];decide)) (by simp [HL.out]) (by intro v hv;have:=HQ2.out;simp at hv;omega)).mono ?_;intro r w3 hp3;obtain ⟨cs2,g,rfl,h8,hone,hx3,-⟩:=hp3.open;have HP3:=Jh hp3;clear hp3) | ((with_reducible show Js 64);have hk4:=(K46.out.ext (ext_alloc w6 _)).ext hx3;refine wpList_store_blk rfl 64 _ _ rfl hk4 rfl (cs:=cs2) rfl agg_E h8 rfl hone ?_;intro w9 hb9 hg9) | ((with_reducible show bodyPost _ _ _ _ _ _);refine Hid.out ?_))
   refine Jh ?_
   have hsx:=hx3.size
   have hsy:w6.heap.size<(w6.alloc (.cells (ints [0]).toArray 3)).heap.size:=by simp
   refine post_ret_blk2 rfl rfl rfl hb9.has agg_E h8 rfl ?_
   rw [HM.out]
   exact HP3.out.again (HX5.out.trans (HE6.out.trans (ext_alloc w6 _))) ((HX5.out.trans (HE6.out.trans ((ext_alloc w6 _).trans hx3))).grown hg9 (by omega)) (Since.of_grown hg9 (by omega))
  ·have HM:=Jh (show sizeE ⟨3,ew,v,sig,hi,lo,n,l⟩ wd=.error 90 by rw [HSZ.out];simp [sizedM,HQ.out,h1])
   have b1:(q != w2)=true:=by rw [bne_iff_ne];exact h1
   clear h1
   go_wp2_with (first | ((with_reducible show Jl 64);refine Jm 64 (K2.out.has) agg_E rfl ?_) | ((with_reducible show Jl 64);refine Jm 64 ((KZ.out.ext hx6).has) agg_E rfl ?_) | (go_at_call 196;refine (HOWN.out _ HX5.out).mono ?_;rintro r w6 ⟨rfl,hx6⟩) | ((with_reducible show Js 64);have hk4:=K4.out.ext hx6;refine wpList_store_blk rfl 64 _ _ rfl hk4 rfl (cs:=zeroE) rfl agg_E rfl rfl rfl ?_;intro w9 hb9 hg9) | ((with_reducible show bodyPost _ _ _ _ _ _);refine Hid.out ?_))
   refine Jh ?_
   refine post_ret_blk2 rfl rfl rfl hb9.has agg_E rfl rfl (.inl ⟨90,HM.out,by omega,rfl,(HX5.out.trans hx6).grown hg9 (by omega)⟩)
 ·obtain ⟨rfl,hl,hn1,hn6⟩:=h
  have HL:=Jh hl
  clear hl
  have HM:=Jh (show sizeE ⟨4,ew,v,sig,hi,lo,n,l⟩ wd=unaryM ⟨4,w2,v,sig,hi,lo,n,l⟩ w2 by rw [HSZ.out];simp [sizedM])
  have HC:=Jh (unary_callsR ⟨4,w2,v,sig,hi,lo,n,l⟩ HPS.out HPO.out HL.out w2 HQ2.out.1 HQ2.out.2 _ w5 (HPART.out w2 w5 HX5.out))
  go_wp2_with (first | ((with_reducible show Jl 64);refine Jm 64 (KX.out.has) agg_E rfl ?_) | (go_at_call 244;refine HC.out.mono ?_;intro r w3 hp3;obtain ⟨cs2,g,rfl,h8,hone,hx3,-⟩:=hp3.open;have HP3:=Jh hp3;clear hp3) | ((with_reducible show Js 64);have hk4:=K4.out.ext hx3;refine wpList_store_blk rfl 64 _ _ rfl hk4 rfl (cs:=cs2) rfl agg_E h8 rfl hone ?_;intro w9 hb9 hg9) | ((with_reducible show bodyPost _ _ _ _ _ _);refine Hid.out ?_))
  refine Jh ?_
  have hsx:=hx3.size
  refine post_ret_blk2 rfl rfl rfl hb9.has agg_E h8 rfl ?_
  rw [HM.out]
  exact HP3.out.again HX5.out ((HX5.out.trans hx3).grown hg9 (by omega)) (Since.of_grown hg9 (by omega))
 ·obtain ⟨rfl,hl,hn1,hn6⟩:=h
  have HL:=Jh hl
  clear hl
  have HM:=Jh (show sizeE ⟨5,ew,v,sig,hi,lo,n,l⟩ wd=binaryM ⟨5,w2,v,sig,hi,lo,n,l⟩ w2 by rw [HSZ.out];simp [sizedM])
  have HC:=Jh (binary_callsR ⟨5,w2,v,sig,hi,lo,n,l⟩ HPS.out HPO.out HL.out HFST.out w2 HQ2.out.1 HQ2.out.2 _ w5 (HPART.out w2 w5 HX5.out))
  go_wp2_with (first | ((with_reducible show Jl 64);refine Jm 64 (KX.out.has) agg_E rfl ?_) | (go_at_call 245;refine HC.out.mono ?_;intro r w3 hp3;obtain ⟨cs2,g,rfl,h8,hone,hx3,-⟩:=hp3.open;have HP3:=Jh hp3;clear hp3) | ((with_reducible show Js 64);have hk4:=K4.out.ext hx3;refine wpList_store_blk rfl 64 _ _ rfl hk4 rfl (cs:=cs2) rfl agg_E h8 rfl hone ?_;intro w9 hb9 hg9) | ((with_reducible show bodyPost _ _ _ _ _ _);refine Hid.out ?_))
  refine Jh ?_
  have hsx:=hx3.size
  refine post_ret_blk2 rfl rfl rfl hb9.has agg_E h8 rfl ?_
  rw [HM.out]
  exact HP3.out.again HX5.out ((HX5.out.trans hx3).grown hg9 (by omega)) (Since.of_grown hg9 (by omega))
 ·obtain ⟨rfl,hl⟩:=h
  have HL:=Jh hl
  clear hl
  have HM:=Jh (show sizeE ⟨6,ew,v,sig,hi,lo,n,l⟩ wd=underM ⟨6,w2,v,sig,hi,lo,n,l⟩ [-1,w2,w2] by rw [HSZ.out];simp [sizedM])
  go_wp2_with (first | ((with_reducible show Jl 64);refine Jm 64 (KX.out.has) agg_E rfl ?_) | ((with_reducible show Jw (Op.buildSlice _ _ _));refine wpList_ints rfl _ 3 _ rfl appInt [-1,w2,w2] rfl rfl (by decide) (by decide) ?_) | (go_at_call 243;refine (HU.out [-1,w2,w2] _ _ (HE5.out.trans (ext_alloc w5 _)) (Blk.ints (Blk.new w5 (ints [-1,w2,w2]).toArray 3) 3 (Nat.le_refl _) (by simp only [maxLen];decide)) (by simp [HL.out]) (by intro v hv;have:=HQ2.out;simp at hv;omega)).mono ?_;intro r w3 hp3;obtain ⟨cs2,g,rfl,h8,hone,hx3,-⟩:=hp3.open;have HP3:=Jh hp3;clear hp3) | ((with_reducible show Js 64);have hk4:=(K4.out.ext (ext_alloc w5 _)).ext hx3;refine wpList_store_blk rfl 64 _ _ rfl hk4 rfl (cs:=cs2) rfl agg_E h8 rfl hone ?_;intro w9 hb9 hg9) | ((with_reducible show bodyPost _ _ _ _ _ _);refine Hid.out ?_))
  refine Jh ?_
  have hsx:=hx3.size
  have hsy:w5.heap.size<(w5.alloc (.cells (ints [-1,w2,w2]).toArray 3)).heap.size:=by simp
  refine post_ret_blk2 rfl rfl rfl hb9.has agg_E h8 rfl ?_
  rw [HM.out]
  exact HP3.out.again (HX5.out.trans (HE5.out.trans (ext_alloc w5 _))) ((HX5.out.trans (HE5.out.trans ((ext_alloc w5 _).trans hx3))).grown hg9 (by omega)) (Since.of_grown hg9 (by omega))
 ·obtain ⟨rfl,hl⟩:=h
  have HL:=Jh hl
  clear hl
  go_upto_region 29 with (first | ((with_reducible show Jl 64);refine Jm 64 (K2.out.has) agg_E rfl ?_) | (go_at_call 196;refine (HOWN.out _ HX5.out).mono ?_;rintro r w6 ⟨rfl,hx6⟩))
  have HE6:=Jh hx6
  have KX6:=Jh (KX.out.ext hx6)
  have K46:=Jh (K4.out.ext hx6)
  have KZ6:=Jh (KZ.out.ext hx6)
  have K26:=Jh (K2.out.ext hx6)
  have hs6:=hx6.size
  clear hx6 f0 f1
  by_cases h1:q=0
  ·have HM:=Jh (show sizeE ⟨7,ew,v,sig,hi,lo,n,l⟩ wd=.error 90 by rw [HSZ.out];simp [sizedM,HQ.out,h1])
   have b1:(q==0)=true:=by rw [beq_iff_eq];exact h1
   clear h1
   go_wp2_with (first | ((with_reducible show Jl 64);refine Jm 64 (KZ6.out.has) agg_E rfl ?_) | ((with_reducible show Js 64);have hk4:=K46.out;refine wpList_store_blk rfl 64 _ _ rfl hk4 rfl (cs:=zeroE) rfl agg_E rfl rfl rfl ?_;intro w9 hb9 hg9) | ((with_reducible show bodyPost _ _ _ _ _ _);refine Hid.out ?_))
   refine Jh ?_
   refine post_ret_blk2 rfl rfl rfl hb9.has agg_E rfl rfl (.inl ⟨90,HM.out,by omega,rfl,(HX5.out.trans HE6.out).grown hg9 (by omega)⟩)
  have b1:(q==0)=false:=by rw [beq_eq_false_iff_ne];exact h1
  by_cases h2:q=w2
  rotate_left
  ·have HM:=Jh (show sizeE ⟨7,ew,v,sig,hi,lo,n,l⟩ wd=.error 90 by rw [HSZ.out];simp [sizedM,HQ.out,h2])
   have b2:(q != w2)=true:=by rw [bne_iff_ne];exact h2
   clear h1 h2
   go_wp2_with (first | ((with_reducible show Jl 64);refine Jm 64 (KZ6.out.has) agg_E rfl ?_) | ((with_reducible show Js 64);have hk4:=K46.out;refine wpList_store_blk rfl 64 _ _ rfl hk4 rfl (cs:=zeroE) rfl agg_E rfl rfl rfl ?_;intro w9 hb9 hg9) | ((with_reducible show bodyPost _ _ _ _ _ _);refine Hid.out ?_))
   refine Jh ?_
   refine post_ret_blk2 rfl rfl rfl hb9.has agg_E rfl rfl (.inl ⟨90,HM.out,by omega,rfl,(HX5.out.trans HE6.out).grown hg9 (by omega)⟩)
  have b2:(q != w2)=false:=by rw [bne_eq_false_iff_eq];exact h2
  by_cases h3:64<q
  ·have HM:=Jh (show sizeE ⟨7,ew,v,sig,hi,lo,n,l⟩ wd=.error 90 by rw [HSZ.out];simp [sizedM,HQ.out,h3])
   clear h1 h2
   go_wp2_with (first | ((with_reducible show Jl 64);refine Jm 64 (KZ6.out.has) agg_E rfl ?_) | ((with_reducible show Js 64);have hk4:=K46.out;refine wpList_store_blk rfl 64 _ _ rfl hk4 rfl (cs:=zeroE) rfl agg_E rfl rfl rfl ?_;intro w9 hb9 hg9) | ((with_reducible show bodyPost _ _ _ _ _ _);refine Hid.out ?_))
   refine Jh ?_
   refine post_ret_blk2 rfl rfl rfl hb9.has agg_E rfl rfl (.inl ⟨90,HM.out,by omega,rfl,(HX5.out.trans HE6.out).grown hg9 (by omega)⟩)
  have HM:=Jh (show sizeE ⟨7,ew,v,sig,hi,lo,n,l⟩ wd=underM ⟨7,w2,v,sig,hi,lo,n,l⟩ (List.replicate l.length 0) by
   have h1':¬ w2=0:=by omega
   have h3':w2<=64:=by omega
   rw [HSZ.out];simp [sizedM,HQ.out,h2,h1'];intro h;omega)
  have HL1:=HL1H.out
  clear h1 h2
  go_upto_region 31 with fail
  refine wp_region_held_drew (S:=fun W=>Blk W wc.heap.size (E.cells ⟨7,w2,v,sig,hi,lo,n,l⟩ (.slice a l.length cap)).toArray 64/\Blk W w.heap.size (E.cells ⟨7,ew,v,sig,hi,lo,n,l⟩ (.slice a l.length cap)).toArray 64) (by kernel_rfl) ⟨KX6.out.drew,K26.out.drew⟩ (fun hH=>?_)
  try simp only [J]
  (refine Jt 0 (.agg (E.cells ⟨7,w2,v,sig,hi,lo,n,l⟩ (.slice a l.length cap)).toArray) rfl (yif_load rfl 64 _ rfl rfl (fun W hW=>hW.1.has) agg_E rfl) hH ?_;try simp only [J])
  (refine Jt 1 (_) rfl (yif_load1 rfl (by intro W hW;clear hW;go_simp;rfl)) hH ?_;try simp only [J])
  (refine Jt 2 (.slice a l.length cap) rfl (yif_load1 rfl (by intro W hW;have y7:=hW.2.has 7 _ rfl;clear hW;go_simp)) hH ?_;try simp only [J])
  (refine Jt 3 (.int .i64 (l.length:Nat)) rfl (yif_load1 rfl (by intro W hW;clear hW;go_simp)) hH ?_;try simp only [J])
  refine Jr 4 rfl fun K hK=>?_
  have hmk:madeCells (Value.cells (.int .i64 0)) (l.length*1)=(ints (List.replicate l.length 0)).toArray:=by
   rw [Nat.mul_one];show madeCells #[_] _=_;rw [madeCells_one];simp [ints]
  refine step_mk rfl 31 _ _ rfl (n:=l.length) rfl rfl Tryz.underlying31 info_int (by omega) (by omega) ?_
  rw [hmk]
  have hxm:=ext_alloc w6.drew (.cells (ints (List.replicate l.length 0)).toArray 3)
  have hbm:=Blk.new w6.drew (ints (List.replicate l.length 0)).toArray 3
  refine hK.out _ _ ⟨hH.1.ext hxm,hH.2.ext hxm⟩ (fun hH=>?_)
  clear hK K
  have hsm:(w6.drew.alloc (.cells (ints (List.replicate l.length 0)).toArray 3)).heap.size=w6.heap.size+1:=by simp [World.heap_drew]
  have hxd:Ext w6 (w6.drew.alloc (.cells (ints (List.replicate l.length 0)).toArray 3)):=(Below.drew (Below.refl _ _)).trans hxm
  rw [World.heap_drew] at hbm ⊢
  generalize w6.drew.alloc _=wm at *
  try simp only [J]
  have hI:=hbm.ints l.length (by simp) (by simp only [maxLen];omega)
  rw [List.length_replicate] at hI
  refine Jr 5 rfl fun K hK=>?_
  clear HL1
  go_simp
  refine (HU.out (List.replicate l.length 0) _ wm (HE6.out.trans hxd) hI (by simp) (by intro v hv;have:=List.eq_of_mem_replicate hv;omega)).mono ?_
  intro r w3 hp3;obtain ⟨cs2,g,rfl,h8,hone,hx3,-⟩:=hp3.open;have HP3:=Jh hp3;clear hp3
  refine hK.out _ _ ⟨hH.1.ext hx3,hH.2.ext hx3⟩ (fun hH=>?_)
  clear hK K
  try simp only [J]
  (refine Jt 6 (.agg cs2.toArray) rfl (yif_load1 rfl (by intro W hW;clear hW;go_simp)) hH ?_;try simp only [J])
  (refine Jt 7 (.int .i64 g) rfl (yif_load1 rfl (by intro W hW;clear hW;go_simp)) hH ?_;try simp only [J])
  refine Jr 8 rfl fun K hK=>?_
  have hk4:=Blk.ext K46.out (hxd.trans hx3)
  refine step_store_blk rfl 64 _ _ rfl hk4 rfl (cs:=cs2) rfl agg_E h8 rfl hone ?_
  intro w9 hb9 hg9
  refine hK.out _ _ ⟨hH.1.grown hg9 (by have:=HSC.out;omega),hH.2.grown hg9 (by omega)⟩ (fun hH=>?_)
  clear hK K
  try simp only [J]
  (refine Jt 9 (_) rfl (yif_load1 rfl fun _ _=>rfl) hH ?_;try simp only [J])
  refine Jz ?_
  have hsx:=hx3.size
  go_wp2_with (first | fail | ((with_reducible show bodyPost _ _ _ _ _ _);refine Hid.out ?_))
  refine Jh ?_
  refine post_ret_blk2 rfl rfl rfl hb9.has agg_E h8 rfl ?_
  rw [HM.out]
  exact HP3.out.again (HX5.out.trans (HE6.out.trans hxd)) ((HX5.out.trans (HE6.out.trans (hxd.trans hx3))).grown hg9 (by omega)) (Since.of_grown hg9 (by omega))
 ·obtain ⟨rfl,hl,hn1,hn6,hw1',hw64⟩:=h
  have HL:=Jh hl
  clear hl hn1 hn6 hw1' hw64
  by_cases h1:ew=w2
  rotate_left
  ·have HM:=Jh (show sizeE ⟨8,ew,v,sig,hi,lo,n,l⟩ wd=.error 90 by rw [HSZ.out];simp [sizedM,extM,h1])
   have b1:(ew != w2)=true:=by rw [bne_iff_ne];exact h1
   clear h1
   go_wp2_with (first | ((with_reducible show Jl 64);refine Jm 64 (KZ.out.has) agg_E rfl ?_) | ((with_reducible show Js 64);have hk4:=K4.out;refine wpList_store_blk rfl 64 _ _ rfl hk4 rfl (cs:=zeroE) rfl agg_E rfl rfl rfl ?_;intro w9 hb9 hg9) | ((with_reducible show bodyPost _ _ _ _ _ _);refine Hid.out ?_))
   refine Jh ?_
   refine post_ret_blk2 rfl rfl rfl hb9.has agg_E rfl rfl (.inl ⟨90,HM.out,by omega,rfl,HX5.out.grown hg9 (by omega)⟩)
  obtain rfl:=h1
  have b1:(ew != ew)=false:=by simp
  have HM0:=Jh (show sizeE ⟨8,ew,v,sig,hi,lo,n,l⟩ wd=extM ⟨8,ew,v,sig,hi,lo,n,l⟩ ew by rw [HSZ.out];simp [sizedM])
  have f6:=K2.out.has 6 _ rfl
  have hsy:w5.heap.size<(w5.alloc (.cells (ints [0]).toArray 3)).heap.size:=by simp
  go_wp2_with (first | ((with_reducible show Jl 64);refine Jm 64 (KX.out.has) agg_E rfl ?_) | ((with_reducible show Jw (Op.buildSlice _ _ _));refine wpList_ints rfl _ 1 _ rfl appInt [0] rfl rfl (by decide) (by decide) ?_) | (go_at_call 243;refine (HU.out [0] _ _ (HE5.out.trans (ext_alloc w5 _)) (Blk.ints (Blk.new w5 (ints [0]).toArray 3) 1 (Nat.le_refl _) (by simp only [maxLen];decide)) (by simp [HL.out]) (by intro v hv;simp at hv;omega)).mono ?_;intro r w3 hp3;obtain ⟨cs2,g,rfl,h8,hone,hx3,ho⟩:=hp3.open;clear hp3;refine Hid.out ?_))
  refine Jh ?_
  have HE3:=Jh ((HE5.out.trans (ext_alloc w5 (.cells (ints [0]).toArray 3))).trans hx3)
  have hs3:=hx3.size
  have hxb:=ext_alloc w3 (.cells cs2.toArray 64)
  have hbb:=Blk.new w3 cs2.toArray 64
  have hsb:w3.heap.size<(w3.alloc (.cells cs2.toArray 64)).heap.size:=by simp
  rcases ho with ⟨rfl,y,hy,hfe⟩ | ⟨hg,hy⟩
  ·have hlen:=underM_len hy
   simp only [HL.out] at hlen
   obtain ⟨z,hz⟩:=List.length_eq_one_iff.1 hlen
   have hFE:=Jh (hfe.ext hxb)
   have hve:=hfe.ve
   obtain ⟨s3,hcs,hs3e⟩:=hve
   have hz2:sizeE.hdW y.l=z.w:=by rw [hz];rfl
   have HC8:=Jh hcs
   have hq:∃ b3 o3 cap3,s3=.slice (some ⟨b3,o3,Option.none⟩) 1 cap3/\1<=cap3/\cap3<=9223372036854775807/\w3.cell? ⟨b3,o3+1,Option.none⟩=some (.int .i64 z.w):=by
    obtain ⟨a3,b3,o3,cap3,e3,k1,k2,ha3,hr3⟩:=hs3e.open
    rw [hz] at e3 k1 ha3 hr3
    obtain ⟨s4,q1,-⟩:=Es.get hr3 (k:=0) (by simp)
    refine ⟨b3,o3,cap3,?_,by simpa using k1,k2,?_⟩
    ·rw [e3,ha3 (by simp)];rfl
    ·have:=q1 1 _ rfl
     simpa using this
   obtain ⟨b3,o3,cap3,rfl,k1,k2,k3⟩:=hq
   have K3:=Jh k3
   have hm0:sizeE ⟨8,ew,v,sig,hi,lo,n,l⟩ wd=(if (n≠33/\ew<z.w)\/(n=33/\z.w<ew) then .error 90 else .ok y):=by
    rw [HM0.out];unfold extM;simp only [ne_eq,not_true_eq_false,if_false,hy,hz2]
   have HM1:=Jh hm0
   have HHX:=Jh hxb
   clear hm0 hy hlen hz hz2 hs3e hfe k3 hcs hxb
   go_upto_region 35 with (first | ((with_reducible show Js 64);refine wpList_store_new rfl 64 _ _ rfl rfl (by first | rfl | simp) rfl agg_E (h8) rfl (hone) ?_))
   have hx4:=((HE3.out).trans HHX.out)
   have hk3:(w3.alloc (.cells cs2.toArray 64)).cell? ⟨b3,o3+1,Option.none⟩=some (.int .i64 z.w):=(HHX.out.cell (p:=⟨b3,o3+1,none⟩) (World.block_lt_of_cell? w3 _ K3.out)).trans K3.out
   have hFE2:=hFE.out
   generalize w3.alloc _=w4 at *
   have y7:w4.cell? ⟨w3.heap.size,7,Option.none⟩=some (.slice (some ⟨b3,o3,Option.none⟩) 1 cap3):=by
    have:=hbb.has 7 _ (by rw [HC8.out];rfl)
    simpa using this
   have K44:=Jh (Blk.ext K4.out hx4)
   have KZ4:=Jh (Blk.ext KZ.out hx4)
   have f64:=(Blk.ext K2.out hx4).has 6 _ rfl
   have HX4:=Jh (HX5.out.trans hx4)
   have HFE:=Jh hFE2
   have HBB:=Jh hbb
   clear hx4 hbb hFE2 hFE HHX
   by_cases n33:n=33
   ·have c1:(n != 33)=false:=by rw [bne_eq_false_iff_eq];exact n33
    have c2:(n==33)=true:=by rw [beq_iff_eq];exact n33
    by_cases hc:z.w<ew
    ·have HM:=Jh (show sizeE ⟨8,ew,v,sig,hi,lo,n,l⟩ wd=.error 90 by rw [HM1.out,if_pos (.inr ⟨n33,hc⟩)])
     clear n33
     go_wp2_with (first | ((with_reducible show Jl 64);refine Jm 64 (KZ4.out.has) agg_E rfl ?_) | ((with_reducible show Js 64);have hk4:=K44.out;refine wpList_store_blk rfl 64 _ _ rfl hk4 rfl (cs:=zeroE) rfl agg_E rfl rfl rfl ?_;intro w9 hb9 hg9) | ((with_reducible show bodyPost _ _ _ _ _ _);refine Hid.out ?_))
     refine Jh ?_
     refine post_ret_blk2 rfl rfl rfl hb9.has agg_E rfl rfl (.inl ⟨90,HM.out,by omega,rfl,HX4.out.grown hg9 (by omega)⟩)
    ·have HM:=Jh (show sizeE ⟨8,ew,v,sig,hi,lo,n,l⟩ wd=.ok y by rw [HM1.out,if_neg (fun h=>h.elim (fun h=>h.1 n33) (fun h=>hc h.2))])
     clear n33
     go_wp2_with (first | ((with_reducible show Jl 64);refine Jm 64 (HBB.out.has) agg_E h8 ?_) | ((with_reducible show Js 64);have hk4:=K44.out;refine wpList_store_blk rfl 64 _ _ rfl hk4 rfl (cs:=cs2) rfl agg_E h8 rfl hone ?_;intro w9 hb9 hg9) | ((with_reducible show bodyPost _ _ _ _ _ _);refine Hid.out ?_))
     refine Jh ?_
     refine post_ret_blk2 rfl rfl rfl hb9.has agg_E h8 rfl (.inr ⟨y,cs2,HM.out,rfl,(HFE.out.since (Since.of_grown hg9 (by omega))).mono (by omega),HX4.out.grown hg9 (by omega)⟩)
   ·have c1:(n != 33)=true:=by rw [bne_iff_ne];exact n33
    have c2:(n==33)=false:=by rw [beq_eq_false_iff_ne];exact n33
    by_cases hc:ew<z.w
    ·have HM:=Jh (show sizeE ⟨8,ew,v,sig,hi,lo,n,l⟩ wd=.error 90 by rw [HM1.out,if_pos (.inl ⟨n33,hc⟩)])
     clear n33
     go_wp2_with (first | ((with_reducible show Jl 64);refine Jm 64 (KZ4.out.has) agg_E rfl ?_) | ((with_reducible show Js 64);have hk4:=K44.out;refine wpList_store_blk rfl 64 _ _ rfl hk4 rfl (cs:=zeroE) rfl agg_E rfl rfl rfl ?_;intro w9 hb9 hg9) | ((with_reducible show bodyPost _ _ _ _ _ _);refine Hid.out ?_))
     refine Jh ?_
     refine post_ret_blk2 rfl rfl rfl hb9.has agg_E rfl rfl (.inl ⟨90,HM.out,by omega,rfl,HX4.out.grown hg9 (by omega)⟩)
    ·have HM:=Jh (show sizeE ⟨8,ew,v,sig,hi,lo,n,l⟩ wd=.ok y by rw [HM1.out,if_neg (fun h=>h.elim (fun h=>hc h.2) (fun h=>n33 h.1))])
     clear n33
     go_wp2_with (first | ((with_reducible show Jl 64);refine Jm 64 (HBB.out.has) agg_E h8 ?_) | ((with_reducible show Js 64);have hk4:=K44.out;refine wpList_store_blk rfl 64 _ _ rfl hk4 rfl (cs:=cs2) rfl agg_E h8 rfl hone ?_;intro w9 hb9 hg9) | ((with_reducible show bodyPost _ _ _ _ _ _);refine Hid.out ?_))
     refine Jh ?_
     refine post_ret_blk2 rfl rfl rfl hb9.has agg_E h8 rfl (.inr ⟨y,cs2,HM.out,rfl,(HFE.out.since (Since.of_grown hg9 (by omega))).mono (by omega),HX4.out.grown hg9 (by omega)⟩)
  ·have g1:(g != 0)=true:=by rw [bne_iff_ne];omega
   have HM:=Jh (show sizeE ⟨8,ew,v,sig,hi,lo,n,l⟩ wd=.error g by rw [HM0.out];unfold extM;simp only [ne_eq,not_true_eq_false,if_false,hy])
   have HHX:=Jh hxb
   clear hy hxb hbb
   go_upto_region 35 with (first | ((with_reducible show Js 64);refine wpList_store_new rfl 64 _ _ rfl rfl (by first | rfl | simp) rfl agg_E (h8) rfl (hone) ?_))
   have hx4:=((HE3.out).trans HHX.out)
   generalize w3.alloc _=w4 at *
   have K44:=Jh (Blk.ext K4.out hx4)
   have KZ4:=Jh (Blk.ext KZ.out hx4)
   have HX4:=Jh (HX5.out.trans hx4)
   clear hx4
   go_wp2_with (first | ((with_reducible show Jl 64);refine Jm 64 (KZ4.out.has) agg_E rfl ?_) | ((with_reducible show Js 64);have hk4:=K44.out;refine wpList_store_blk rfl 64 _ _ rfl hk4 rfl (cs:=zeroE) rfl agg_E rfl rfl rfl ?_;intro w9 hb9 hg9) | ((with_reducible show bodyPost _ _ _ _ _ _);refine Hid.out ?_))
   refine Jh ?_
   refine post_ret_blk2 rfl rfl rfl hb9.has agg_E rfl rfl (.inl ⟨g,HM.out,hg,rfl,HX4.out.grown hg9 (by omega)⟩)
end Go.Proofs.YtaipaccpaljecaaGreat
