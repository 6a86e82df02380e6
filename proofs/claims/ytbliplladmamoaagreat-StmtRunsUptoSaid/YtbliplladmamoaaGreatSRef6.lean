/- Laws and walks that a claim of this seat leans on: Ref6. -/
import Derived.Test.YtbliplladmamoaaGreatS26
import Derived.Test.YtbliplladmamoaaGreatS00
set_option maxRecDepth 100000
set_option maxHeartbeats 8000000
set_option linter.all false
namespace Go.Proofs.YtbliplladmamoaaGreat
open Go.RowKit
theorem Agu {P:Program} {j:Array Oper} {o:Oper} {a:Act} {w:World} {K:Act->World->Prop} {Q:Exit->Act->World->Prop} {E:Prop} (hw:Region.wanted o (yielded j a.tmps)=true)
  (T:TypeId) (x y:Operand) (ho:o.op=.makeSlice T x y) {n:Nat} (hx:a.eval x=.int .i64 (n:Int)) (hy:a.eval y=.int .i64 (n:Int)) {e:TypeId} {z:Value} {size bytes:Nat}
  (ht:P.underlying T=some (.slice e)) (hi:(P.info? e).map (fun i=>(i.zero,i.size,i.bytes))=some (some z,size,bytes)) (hb:(bytes:Int)*(n:Int)<=281474976710656) (u:(n:Int)<=9223372036854775807)
  (h:K (a.put o.dst (.slice (some ⟨w.heap.size,0,none⟩) n n)) (w.alloc (.cells (madeCells z.cells (n*size)) e))):if Region.wanted o (yielded j a.tmps)=true then Oper.wp P o a w K Q else E:=by
 rw [if_pos hw]
 cases hq:P.info? e with
 | none=>simp [hq] at hi
 | some i =>
  simp only [hq,Option.map_some,Option.some.injEq,Prod.mk.injEq] at hi
  obtain ⟨hz,hs,aa⟩:=hi
  subst hs
  subst aa
  have:=run_make (P:=P) w T e i z ht hq hz .i64 .i64 n n (by omega) (by omega) hb u
  unfold Oper.wp execOp
  simp only [Int.toNat_natCast] at this
  simp only [ho,hx,hy,Sem.run_bind,this,Result.andThen_ok,Sem.run_pure]
  exact h
theorem Sl.nil0 {α:Type} {size:Nat} {R:α->Nat->Nat->Prop} (a:Option Addr) (cap:Nat) (h:cap<=9223372036854775807):Sl size R (.slice a 0 cap) ([]:List α) :=
 ⟨0,0,⟨a,cap,rfl,Nat.zero_le _,by simpa [maxLen] using h,fun h=>absurd h (Nat.lt_irrefl 0)⟩,trivial⟩
theorem Vz (l:List E):∀ (ws:List Int) (r:List E),Ao.sizeL l ws=.ok r->r.length=l.length:=by
 induction l with
 | nil=>intro ws r h;simp only [Ao.sizeL] at h;injection h with h;rw [<-h]
 | cons e l ih =>
  intro ws r h
  simp only [Ao.sizeL] at h
  cases h1:Ao e (ws.headD 0) with
  | error f=>simp only [h1] at h;cases h
  | ok x =>
   cases h2:Ao.sizeL l ws.tail with
   | error f=>simp only [h1,h2] at h;cases h
   | ok r2 =>
    simp only [h1,h2] at h
    injection h with h
    rw [<-h];simp [ih _ _ h2]
theorem Aav {x y:E} {ws:List Int} (h:Bm x ws=.ok y):y.l.length=x.l.length:=by
 unfold Bm at h
 cases h1:Ao.sizeL x.l ws with
 | error f=>simp only [h1] at h;cases h
 | ok r=>simp only [h1] at h;injection h with h;rw [<-h];exact Vz _ _ _ h1
theorem Ac2 (a b c:Int):Bw a (Bw b c)=Bw (Bw a b) c:=by
 unfold Bw;split<;>simp_all
theorem Hq {ls:List Ai} (bi:∀ x∈ls,x.w<=64) (e:E):A7 ls e=true->e.wf->nodes e<=1048576->F7 e:=by
 induction e using E.ind with
 | h e ih =>
 intro az b7 cv wd cs w hV br c5
 have bz:=C8 ls bi e az
 have cr:=Ku e bz
 have bo:=Nn bi e az cv
 have c6:=((E.wf_iff e).1 b7).2.2.2.2.2.2.2
 have de:=C7 e
 have ar:∀ x∈e.l,A7 ls x=true/\nodes x<=1048576:=fun x hx=>⟨by rw [Fu,Bool.and_eq_true] at az;exact List.all_eq_true.1 az.2 x hx,by have:=Bf nodes e.l _ hx;omega⟩
 have b4:∀ x∈e.l,F7 x:=fun x hx=>ih x hx (ar x hx).1 (c6 x hx) (ar x hx).2
 have bh:∀ x∈e.l,G8 x:=fun x hx=>Nn bi x (ar x hx).1 (ar x hx).2
 have a5:0<=own.fst e.l/\own.fst e.l<=9223372036854775807:=by
  have h4:=((Fd e).1 bz).2.2.2
  have:∀ l:List E,(∀ x∈l,x∈e.l)->0<=own.fst l/\own.fst l<=9223372036854775807:=by
   intro l
   induction l with
   | nil=>intro _;simp [own.fst]
   | cons x l ih2 =>
    intro hx
    have dv:=Ku x (h4 x (hx x (by simp)))
    have dw:=(ar x (hx x (by simp))).2
    have:=ih2 (fun y hy=>hx y (by simp [hy]))
    simp only [own.fst]
    split<;>omega
  exact this e.l (fun _ h=>h)
 have hm:=Aco e wd br az
 rw [Ac2] at hm
 have bm:=Pa az
 have cg:=Jh ((E.wf_iff e).1 b7).2.2.1
 have ax:=A8 nodes e.l (fun x _=>Gh x)
 have bg:e.l.length<=1048576:=by omega
 obtain ⟨s,rfl,hs⟩:=hV
 obtain ⟨a,b,o,cap,rfl,co,cp,-,-⟩:=hs.open
 obtain ⟨op,ew,v,sig,hi,lo,n,l⟩:=e
 simp only at hs co b4 bh a5 bm cg bg
 have an:=Jh (fun W (hx:Ext w W)=>bo _ W ⟨_,rfl,hs.ext hx⟩)
 have a7:=fun (w2:Int) W (hx:Ext w W)=>(show VE W (E.cells ⟨op,w2,v,sig,hi,lo,n,l⟩ (.slice a l.length cap)) ⟨op,w2,v,sig,hi,lo,n,l⟩ from ⟨_,rfl,hs.ext hx⟩)
 have bt:=Jh b4
 have bs:=Jh bh
 have ak:=Jh hm
 have ay:=Jh a7
 have cd:=Jh a5
 clear ih bz bo c6 ar b4 bh hm hs b7 az a7 a5
 obtain ⟨q,hq⟩:∃ q,own ⟨op,ew,v,sig,hi,lo,n,l⟩=q:=⟨_,rfl⟩
 rw [hq] at ak an cr
 have HQ:=Jh hq
 clear hq
 have HX:=(Ab w (.cells (E.cells ⟨op,ew,v,sig,hi,lo,n,l⟩ (.slice a l.length cap)).toArray 40)).alloc (.cells A0.toArray 40)
 have b9:=(Blk.new w (E.cells ⟨op,ew,v,sig,hi,lo,n,l⟩ (.slice a l.length cap)).toArray 40).alloc (.cells A0.toArray 40)
 have bb:=Blk.new (w.alloc (.cells (E.cells ⟨op,ew,v,sig,hi,lo,n,l⟩ (.slice a l.length cap)).toArray 40)) A0.toArray 40
 simp only [World.size_alloc] at bb
 go_enter Tryz.func144,Tryz.ntmps144
 go_upto_region 1 with (fail)
 generalize (w.alloc _).alloc _=w0 at *
 have K2:=Jh b9
 have K4:=Jh bb
 have ct:w.heap.size+1<w0.heap.size:=bb.lt
 have av:=Jh HX
 clear b9 bb HX
 go_upto_if 15 with fail
 go_cut [6] (fun u wr=>u=.int .i64 (Bw wd q)/\Ext w0 wr)
 case first =>
  by_cases h0:wd=0
  ·have b0:(wd==0)=true:=by rw [beq_iff_eq];exact h0
   have HT:=Jh (show Bw wd q=q by simp [Bw,h0])
   clear h0
   go_wp2_with (first | ((with_reducible show Jl 40);refine Aa rfl 40 _ rfl rfl (K2.out.has) Ah rfl ?_) | (go_at_call 143;refine (an.out _ av.out).mono ?_;rintro r w6 ⟨rfl,ae⟩))
   go_meet
   case rel=>exact ⟨by rw [HT.out],ae⟩
  ·have b0:(wd==0)=false:=by rw [beq_eq_false_iff_ne];exact h0
   have HT:=Jh (show Bw wd q=wd by simp [Bw,h0])
   clear h0
   go_wp2_with fail
   go_meet
   case rel=>exact ⟨by rw [HT.out],Below.refl _ _⟩
 case rest =>
 obtain ⟨rfl,hB⟩:=hcut
 have cw:0<=Bw wd q/\Bw wd q<=9223372036854775807:=by unfold Bw;split<;>omega
 obtain ⟨q1,bp⟩:∃ q1,Bw wd q=q1:=⟨_,rfl⟩
 rw [bp] at ak cw ⊢
 clear bp
 replace K2:=Jh (K2.out.ext hB)
 replace K4:=Jh (K4.out.ext hB)
 replace av:=Jh (av.out.trans hB)
 have cz:=hB.size
 clear hB
 go_upto_if 19 with fail
 go_cut [6] (fun u wr=>u=.int .i64 (Bw q1 32)/\Ext wc wr)
 case first =>
  by_cases h0:q1=0
  ·have b0:(q1==0)=true:=by rw [beq_iff_eq];exact h0
   have HT:=Jh (show Bw q1 32=32 by simp [Bw,h0])
   clear h0
   go_wp2_with fail
   go_meet
   case rel=>exact ⟨by rw [HT.out],Below.refl _ _⟩
  ·have b0:(q1==0)=false:=by rw [beq_eq_false_iff_ne];exact h0
   have HT:=Jh (show Bw q1 32=q1 by simp [Bw,h0])
   clear h0
   go_wp2_with fail
   go_meet
   case rel=>exact ⟨by rw [HT.out],Below.refl _ _⟩
 case rest =>
 obtain ⟨rfl,hB⟩:=hcut
 have b5:0<=Bw q1 32/\Bw q1 32<=9223372036854775807:=by unfold Bw;split<;>omega
 obtain ⟨w2,c3⟩:∃ w2,Bw q1 32=w2:=⟨_,rfl⟩
 rw [c3] at ak b5 ⊢
 clear c3
 replace K2:=Jh (K2.out.ext hB)
 replace K4:=Jh (K4.out.ext hB)
 replace av:=Jh (av.out.trans hB)
 have ch:w.heap.size+1<wc.heap.size:=by have:=hB.size;omega
 clear hB cz ct
 have bj:=Ab wc (.cells (E.cells ⟨op,ew,v,sig,hi,lo,n,l⟩ (.slice a l.length cap)).toArray 40)
 have be:=Blk.new wc (E.cells ⟨op,ew,v,sig,hi,lo,n,l⟩ (.slice a l.length cap)).toArray 40
 have df:wc.heap.size<(wc.alloc (.cells (E.cells ⟨op,ew,v,sig,hi,lo,n,l⟩ (.slice a l.length cap)).toArray 40)).heap.size:=by simp
 go_upto_region 7 with (first | ((with_reducible show Jl 40);refine Aa rfl 40 _ rfl rfl (K2.out.has) Ah rfl ?_) | ((with_reducible show Js 40);refine Ad rfl 40 _ _ rfl rfl (by first | rfl | simp) rfl Ah (rfl) rfl (by rfl) ?_))
 generalize wc.alloc _=w7 at *
 have z1:=be.has 1 _ rfl
 have r1:=be.frozen 1
 go_upto_region 8 with fail
 have cm:Blk _ wc.heap.size (E.cells ⟨op,w2,v,sig,hi,lo,n,l⟩ (.slice a l.length cap)).toArray 40:=be.set 1 (.int .i64 w2)
 have a6:=Ay w7 wc.heap.size 1 (.int .i64 w2)
 replace K2:=Jh ((K2.out.ext bj).grown a6 (by omega))
 replace K4:=Jh ((K4.out.ext bj).grown a6 (by omega))
 replace av:=Jh ((av.out.trans bj).grown a6 (by omega))
 have dg:=a6.size
 clear z1 r1 bj be a6
 generalize w7.setCell _ _=w8 at *
 have ba:=Ab w8 (.cells A0.toArray 40)
 have cn:=Blk.new w8 A0.toArray 40
 have di:w8.heap.size<(w8.alloc (.cells A0.toArray 40)).heap.size:=by simp
 go_upto_region 9 with (first | ((with_reducible show Js 40);refine Ad rfl 40 _ _ rfl rfl (by first | rfl | simp) rfl Ah (rfl) rfl (by rfl) ?_))
 generalize w8.alloc _=w5 at *
 replace K2:=Jh (K2.out.ext ba)
 replace K4:=Jh (K4.out.ext ba)
 have KX:=Jh (cm.ext ba)
 have KZ:=Jh cn
 have ac:=Jh (av.out.trans ba)
 have a1:=Jh (show Ext w5 w5 from Below.refl _ _)
 have dt:w.heap.size+1<w5.heap.size:=by omega
 have HU:=Jh (show Ov w5 ⟨op,w2,v,sig,hi,lo,n,l⟩ (E.cells ⟨op,w2,v,sig,hi,lo,n,l⟩ (.slice a l.length cap)) from fun ws s' W hx hI h1 h2=>Ky ⟨op,w2,v,sig,hi,lo,n,l⟩ bt.out bs.out bg ws h1 h2 _ s' W (ay.out w2 W (ac.out.trans hx)) hI)
 have da:=Jh ch
 clear df dg ba cn di cm av ch
 have f0:=K2.out.has 0 _ rfl
 have f1:=K2.out.has 1 _ rfl
 have au:=Jh b5
 have ce:=Jh bg
 clear bi cv de ax cr br c5 cw b5 co bg
 rcases bm with h | h | h | h | h | h | h | h
 ·obtain ⟨rfl,rfl,dp,dk,rfl,rfl,rfl,rfl⟩:=h
  have f2:=K2.out.has 2 _ rfl
  by_cases h0:ew=0
  ·obtain rfl:=h0
   have b0:((0:Int) != 0)=false:=rfl
   have HC:=Jh (Lg w2 v w5 cg.out au.out.1 au.out.2)
   cases hh:holds w2 v with
   | false =>
    rw [hh] at HC
    have HM:=Jh (show Ao ⟨1,0,v,0,0,0,0,[]⟩ wd=.error 92 by rw [ak.out];simp [Cl,hh])
    clear hh
    go_wp2_with (first | (go_at_call 141;refine HC.out.mono ?_;rintro r w6 ⟨rfl,rfl⟩) | ((with_reducible show Jl 40);refine Aa rfl 40 _ rfl rfl (KZ.out.has) Ah rfl ?_) | ((with_reducible show Js 40);have ab:=K4.out;refine Ac rfl 40 _ _ rfl ab rfl (cs:=A0) rfl Ah rfl rfl rfl ?_;intro w9 aa j) | ((with_reducible show bodyPost _ _ _ _ _ _);refine Hid.out ?_))
    refine Jh ?_
    refine Ak rfl rfl rfl aa.has Ah rfl rfl (.inl ⟨92,HM.out,by omega,rfl,ac.out.grown j (by omega)⟩)
   | true =>
    rw [hh] at HC
    have HM:=Jh (show Ao ⟨1,0,v,0,0,0,0,[]⟩ wd=.ok ⟨1,w2,v,0,0,0,0,[]⟩ by rw [ak.out];simp [Cl,hh])
    clear hh
    go_wp2_with (first | (go_at_call 141;refine HC.out.mono ?_;rintro r w6 ⟨rfl,rfl⟩) | ((with_reducible show Jl 40);refine Aa rfl 40 _ rfl rfl (KX.out.has) Ah rfl ?_) | ((with_reducible show Js 40);have ab:=K4.out;refine Ac rfl 40 _ _ rfl ab rfl (cs:=E.cells ⟨1,w2,v,0,0,0,0,[]⟩ (.slice a 0 cap)) rfl Ah rfl rfl rfl ?_;intro w9 aa j) | ((with_reducible show bodyPost _ _ _ _ _ _);refine Hid.out ?_))
    refine Jh ?_
    refine Ak rfl rfl rfl aa.has Ah rfl rfl (.inr ⟨_,_,HM.out,rfl,fun W _=>⟨_,rfl,Sl.nil0 _ _ cp⟩,ac.out.grown j (by omega)⟩)
  ·have b0:(ew != 0)=true:=by rw [bne_iff_ne];exact h0
   have dl:(ew==0)=false:=by rw [beq_eq_false_iff_ne];exact h0
   by_cases h1:ew=w2
   ·obtain rfl:=h1
    have HM:=Jh (show Ao ⟨1,ew,v,0,0,0,0,[]⟩ wd=.ok ⟨1,ew,v,0,0,0,0,[]⟩ by rw [ak.out];simp [Cl,h0])
    have b1:(ew != ew)=false:=by simp
    clear h0
    go_wp2_with (first | ((with_reducible show Jl 40);refine Aa rfl 40 _ rfl rfl (KX.out.has) Ah rfl ?_) | ((with_reducible show Js 40);have ab:=K4.out;refine Ac rfl 40 _ _ rfl ab rfl (cs:=E.cells ⟨1,ew,v,0,0,0,0,[]⟩ (.slice a 0 cap)) rfl Ah rfl rfl rfl ?_;intro w9 aa j) | ((with_reducible show bodyPost _ _ _ _ _ _);refine Hid.out ?_))
    refine Jh ?_
    refine Ak rfl rfl rfl aa.has Ah rfl rfl (.inr ⟨_,_,HM.out,rfl,fun W _=>⟨_,rfl,Sl.nil0 _ _ cp⟩,ac.out.grown j (by omega)⟩)
   ·have HM:=Jh (show Ao ⟨1,ew,v,0,0,0,0,[]⟩ wd=.error 90 by rw [ak.out];simp [Cl,h0,h1])
    have b1:(ew != w2)=true:=by rw [bne_iff_ne];exact h1
    clear h0 h1
    go_wp2_with (first | ((with_reducible show Jl 40);refine Aa rfl 40 _ rfl rfl (KZ.out.has) Ah rfl ?_) | ((with_reducible show Js 40);have ab:=K4.out;refine Ac rfl 40 _ _ rfl ab rfl (cs:=A0) rfl Ah rfl rfl rfl ?_;intro w9 aa j) | ((with_reducible show bodyPost _ _ _ _ _ _);refine Hid.out ?_))
    refine Jh ?_
    refine Ak rfl rfl rfl aa.has Ah rfl rfl (.inl ⟨90,HM.out,by omega,rfl,ac.out.grown j (by omega)⟩)
 ·obtain ⟨rfl,rfl,-⟩:=h
  by_cases h1:q=w2
  ·have HM:=Jh (show Ao ⟨2,ew,v,sig,hi,lo,n,[]⟩ wd=Bm ⟨2,w2,v,sig,hi,lo,n,[]⟩ [0] by rw [ak.out];simp [Cl,HQ.out,h1])
   have b1:(q != w2)=false:=by rw [bne_eq_false_iff_eq];exact h1
   clear h1
   go_upto_region 20 with (first | ((with_reducible show Jl 40);refine Aa rfl 40 _ rfl rfl (K2.out.has) Ah rfl ?_) | (go_at_call 143;refine (an.out _ ac.out).mono ?_;rintro r w6 ⟨rfl,ae⟩))
   have al:=Jh ae
   have a4:=Jh (KX.out.ext ae)
   have aw:=Jh (K4.out.ext ae)
   have cy:=ae.size
   clear ae
   go_wp2_with (first | ((with_reducible show Jl 40);refine Aa rfl 40 _ rfl rfl (a4.out.has) Ah rfl ?_) | ((with_reducible show Jw (Op.buildSlice _ _ _));refine C1 rfl _ 1 _ rfl Dh [0] rfl rfl (by decide) (by decide) ?_) | (go_at_call 177;refine (HU.out [0] _ _ (al.out.trans (Ab w6 _)) (Blk.ints (Blk.new w6 (ints [0]).toArray 3) 1 (Nat.le_refl _) (by simp only [maxLen];decide)) (by simp) (by intro v hv;have:=au.out;simp at hv;omega)).mono ?_;intro r w3 ag;obtain ⟨aj,g,rfl,h8,ai,af,-⟩:=ag.open;have ao:=Jh ag;clear ag) | ((with_reducible show Js 40);have ab:=(aw.out.ext (Ab w6 _)).ext af;refine Ac rfl 40 _ _ rfl ab rfl (cs:=aj) rfl Ah h8 rfl ai ?_;intro w9 aa j) | ((with_reducible show bodyPost _ _ _ _ _ _);refine Hid.out ?_))
   refine Jh ?_
   have a8:=af.size
   have b6:w6.heap.size<(w6.alloc (.cells (ints [0]).toArray 3)).heap.size:=by simp
   refine Ak rfl rfl rfl aa.has Ah h8 rfl ?_
   rw [HM.out]
   exact ao.out.again (ac.out.trans (al.out.trans (Ab w6 _))) ((ac.out.trans (al.out.trans ((Ab w6 _).trans af))).grown j (by omega)) (Al.of_grown j (by omega))
  ·have HM:=Jh (show Ao ⟨2,ew,v,sig,hi,lo,n,[]⟩ wd=.error 90 by rw [ak.out];simp [Cl,HQ.out,h1])
   have b1:(q != w2)=true:=by rw [bne_iff_ne];exact h1
   clear h1
   go_wp2_with (first | ((with_reducible show Jl 40);refine Aa rfl 40 _ rfl rfl (K2.out.has) Ah rfl ?_) | ((with_reducible show Jl 40);refine Aa rfl 40 _ rfl rfl ((KZ.out.ext ae).has) Ah rfl ?_) | (go_at_call 143;refine (an.out _ ac.out).mono ?_;rintro r w6 ⟨rfl,ae⟩) | ((with_reducible show Js 40);have ab:=K4.out.ext ae;refine Ac rfl 40 _ _ rfl ab rfl (cs:=A0) rfl Ah rfl rfl rfl ?_;intro w9 aa j) | ((with_reducible show bodyPost _ _ _ _ _ _);refine Hid.out ?_))
   refine Jh ?_
   refine Ak rfl rfl rfl aa.has Ah rfl rfl (.inl ⟨90,HM.out,by omega,rfl,(ac.out.trans ae).grown j (by omega)⟩)
 ·obtain ⟨rfl,hl⟩:=h
  have HL:=Jh hl
  clear hl
  by_cases h1:q=w2
  ·have HM:=Jh (show Ao ⟨3,ew,v,sig,hi,lo,n,l⟩ wd=Bm ⟨3,w2,v,sig,hi,lo,n,l⟩ [0] by rw [ak.out];simp [Cl,HQ.out,h1])
   have b1:(q != w2)=false:=by rw [bne_eq_false_iff_eq];exact h1
   clear h1
   go_upto_region 20 with (first | ((with_reducible show Jl 40);refine Aa rfl 40 _ rfl rfl (K2.out.has) Ah rfl ?_) | (go_at_call 143;refine (an.out _ ac.out).mono ?_;rintro r w6 ⟨rfl,ae⟩))
   have al:=Jh ae
   have a4:=Jh (KX.out.ext ae)
   have aw:=Jh (K4.out.ext ae)
   have cy:=ae.size
   clear ae
   go_wp2_with (first | ((with_reducible show Jl 40);refine Aa rfl 40 _ rfl rfl (a4.out.has) Ah rfl ?_) | ((with_reducible show Jw (Op.buildSlice _ _ _));refine C1 rfl _ 1 _ rfl Dh [0] rfl rfl (by decide) (by decide) ?_) | (go_at_call 177;refine (HU.out [0] _ _ (al.out.trans (Ab w6 _)) (Blk.ints (Blk.new w6 (ints [0]).toArray 3) 1 (Nat.le_refl _) (by simp only [maxLen];decide)) (by simp [HL.out]) (by intro v hv;have:=au.out;simp at hv;omega)).mono ?_;intro r w3 ag;obtain ⟨aj,g,rfl,h8,ai,af,-⟩:=ag.open;have ao:=Jh ag;clear ag) | ((with_reducible show Js 40);have ab:=(aw.out.ext (Ab w6 _)).ext af;refine Ac rfl 40 _ _ rfl ab rfl (cs:=aj) rfl Ah h8 rfl ai ?_;intro w9 aa j) | ((with_reducible show bodyPost _ _ _ _ _ _);refine Hid.out ?_))
   refine Jh ?_
   have a8:=af.size
   have b6:w6.heap.size<(w6.alloc (.cells (ints [0]).toArray 3)).heap.size:=by simp
   refine Ak rfl rfl rfl aa.has Ah h8 rfl ?_
   rw [HM.out]
   exact ao.out.again (ac.out.trans (al.out.trans (Ab w6 _))) ((ac.out.trans (al.out.trans ((Ab w6 _).trans af))).grown j (by omega)) (Al.of_grown j (by omega))
  ·have HM:=Jh (show Ao ⟨3,ew,v,sig,hi,lo,n,l⟩ wd=.error 90 by rw [ak.out];simp [Cl,HQ.out,h1])
   have b1:(q != w2)=true:=by rw [bne_iff_ne];exact h1
   clear h1
   go_wp2_with (first | ((with_reducible show Jl 40);refine Aa rfl 40 _ rfl rfl (K2.out.has) Ah rfl ?_) | ((with_reducible show Jl 40);refine Aa rfl 40 _ rfl rfl ((KZ.out.ext ae).has) Ah rfl ?_) | (go_at_call 143;refine (an.out _ ac.out).mono ?_;rintro r w6 ⟨rfl,ae⟩) | ((with_reducible show Js 40);have ab:=K4.out.ext ae;refine Ac rfl 40 _ _ rfl ab rfl (cs:=A0) rfl Ah rfl rfl rfl ?_;intro w9 aa j) | ((with_reducible show bodyPost _ _ _ _ _ _);refine Hid.out ?_))
   refine Jh ?_
   refine Ak rfl rfl rfl aa.has Ah rfl rfl (.inl ⟨90,HM.out,by omega,rfl,(ac.out.trans ae).grown j (by omega)⟩)
 ·obtain ⟨rfl,hl,bw,bx⟩:=h
  have HL:=Jh hl
  clear hl
  have HM:=Jh (show Ao ⟨4,ew,v,sig,hi,lo,n,l⟩ wd=G3 ⟨4,w2,v,sig,hi,lo,n,l⟩ w2 by rw [ak.out];simp [Cl])
  have HC:=Jh (V4 ⟨4,w2,v,sig,hi,lo,n,l⟩ bt.out bs.out HL.out w2 au.out.1 au.out.2 _ w5 (ay.out w2 w5 ac.out))
  go_wp2_with (first | ((with_reducible show Jl 40);refine Aa rfl 40 _ rfl rfl (KX.out.has) Ah rfl ?_) | (go_at_call 178;refine HC.out.mono ?_;intro r w3 ag;obtain ⟨aj,g,rfl,h8,ai,af,-⟩:=ag.open;have ao:=Jh ag;clear ag) | ((with_reducible show Js 40);have ab:=K4.out.ext af;refine Ac rfl 40 _ _ rfl ab rfl (cs:=aj) rfl Ah h8 rfl ai ?_;intro w9 aa j) | ((with_reducible show bodyPost _ _ _ _ _ _);refine Hid.out ?_))
  refine Jh ?_
  have a8:=af.size
  refine Ak rfl rfl rfl aa.has Ah h8 rfl ?_
  rw [HM.out]
  exact ao.out.again ac.out ((ac.out.trans af).grown j (by omega)) (Al.of_grown j (by omega))
 ·obtain ⟨rfl,hl,bw,bx⟩:=h
  have HL:=Jh hl
  clear hl
  have HM:=Jh (show Ao ⟨5,ew,v,sig,hi,lo,n,l⟩ wd=D8 ⟨5,w2,v,sig,hi,lo,n,l⟩ w2 by rw [ak.out];simp [Cl])
  have HC:=Jh (R5 ⟨5,w2,v,sig,hi,lo,n,l⟩ bt.out bs.out HL.out cd.out w2 au.out.1 au.out.2 _ w5 (ay.out w2 w5 ac.out))
  go_wp2_with (first | ((with_reducible show Jl 40);refine Aa rfl 40 _ rfl rfl (KX.out.has) Ah rfl ?_) | (go_at_call 179;refine HC.out.mono ?_;intro r w3 ag;obtain ⟨aj,g,rfl,h8,ai,af,-⟩:=ag.open;have ao:=Jh ag;clear ag) | ((with_reducible show Js 40);have ab:=K4.out.ext af;refine Ac rfl 40 _ _ rfl ab rfl (cs:=aj) rfl Ah h8 rfl ai ?_;intro w9 aa j) | ((with_reducible show bodyPost _ _ _ _ _ _);refine Hid.out ?_))
  refine Jh ?_
  have a8:=af.size
  refine Ak rfl rfl rfl aa.has Ah h8 rfl ?_
  rw [HM.out]
  exact ao.out.again ac.out ((ac.out.trans af).grown j (by omega)) (Al.of_grown j (by omega))
 ·obtain ⟨rfl,hl⟩:=h
  have HL:=Jh hl
  clear hl
  have HM:=Jh (show Ao ⟨6,ew,v,sig,hi,lo,n,l⟩ wd=Bm ⟨6,w2,v,sig,hi,lo,n,l⟩ [-1,w2,w2] by rw [ak.out];simp [Cl])
  go_wp2_with (first | ((with_reducible show Jl 40);refine Aa rfl 40 _ rfl rfl (KX.out.has) Ah rfl ?_) | ((with_reducible show Jw (Op.buildSlice _ _ _));refine C1 rfl _ 3 _ rfl Dh [-1,w2,w2] rfl rfl (by decide) (by decide) ?_) | (go_at_call 177;refine (HU.out [-1,w2,w2] _ _ (a1.out.trans (Ab w5 _)) (Blk.ints (Blk.new w5 (ints [-1,w2,w2]).toArray 3) 3 (Nat.le_refl _) (by simp only [maxLen];decide)) (by simp [HL.out]) (by intro v hv;have:=au.out;simp at hv;omega)).mono ?_;intro r w3 ag;obtain ⟨aj,g,rfl,h8,ai,af,-⟩:=ag.open;have ao:=Jh ag;clear ag) | ((with_reducible show Js 40);have ab:=(K4.out.ext (Ab w5 _)).ext af;refine Ac rfl 40 _ _ rfl ab rfl (cs:=aj) rfl Ah h8 rfl ai ?_;intro w9 aa j) | ((with_reducible show bodyPost _ _ _ _ _ _);refine Hid.out ?_))
  refine Jh ?_
  have a8:=af.size
  have b6:w5.heap.size<(w5.alloc (.cells (ints [-1,w2,w2]).toArray 3)).heap.size:=by simp
  refine Ak rfl rfl rfl aa.has Ah h8 rfl ?_
  rw [HM.out]
  exact ao.out.again (ac.out.trans (a1.out.trans (Ab w5 _))) ((ac.out.trans (a1.out.trans ((Ab w5 _).trans af))).grown j (by omega)) (Al.of_grown j (by omega))
 ·obtain ⟨rfl,hl⟩:=h
  have HL:=Jh hl
  clear hl
  go_upto_region 29 with (first | ((with_reducible show Jl 40);refine Aa rfl 40 _ rfl rfl (K2.out.has) Ah rfl ?_) | (go_at_call 143;refine (an.out _ ac.out).mono ?_;rintro r w6 ⟨rfl,ae⟩))
  have al:=Jh ae
  have a4:=Jh (KX.out.ext ae)
  have aw:=Jh (K4.out.ext ae)
  have bu:=Jh (KZ.out.ext ae)
  have db:=Jh (K2.out.ext ae)
  have cy:=ae.size
  clear ae f0 f1
  by_cases h1:q=0
  ·have HM:=Jh (show Ao ⟨7,ew,v,sig,hi,lo,n,l⟩ wd=.error 90 by rw [ak.out];simp [Cl,HQ.out,h1])
   have b1:(q==0)=true:=by rw [beq_iff_eq];exact h1
   clear h1
   go_wp2_with (first | ((with_reducible show Jl 40);refine Aa rfl 40 _ rfl rfl (bu.out.has) Ah rfl ?_) | ((with_reducible show Js 40);have ab:=aw.out;refine Ac rfl 40 _ _ rfl ab rfl (cs:=A0) rfl Ah rfl rfl rfl ?_;intro w9 aa j) | ((with_reducible show bodyPost _ _ _ _ _ _);refine Hid.out ?_))
   refine Jh ?_
   refine Ak rfl rfl rfl aa.has Ah rfl rfl (.inl ⟨90,HM.out,by omega,rfl,(ac.out.trans al.out).grown j (by omega)⟩)
  have b1:(q==0)=false:=by rw [beq_eq_false_iff_ne];exact h1
  by_cases h2:q=w2
  rotate_left
  ·have HM:=Jh (show Ao ⟨7,ew,v,sig,hi,lo,n,l⟩ wd=.error 90 by rw [ak.out];simp [Cl,HQ.out,h2])
   have b2:(q != w2)=true:=by rw [bne_iff_ne];exact h2
   clear h1 h2
   go_wp2_with (first | ((with_reducible show Jl 40);refine Aa rfl 40 _ rfl rfl (bu.out.has) Ah rfl ?_) | ((with_reducible show Js 40);have ab:=aw.out;refine Ac rfl 40 _ _ rfl ab rfl (cs:=A0) rfl Ah rfl rfl rfl ?_;intro w9 aa j) | ((with_reducible show bodyPost _ _ _ _ _ _);refine Hid.out ?_))
   refine Jh ?_
   refine Ak rfl rfl rfl aa.has Ah rfl rfl (.inl ⟨90,HM.out,by omega,rfl,(ac.out.trans al.out).grown j (by omega)⟩)
  have b2:(q != w2)=false:=by rw [bne_eq_false_iff_eq];exact h2
  by_cases h3:64<q
  ·have HM:=Jh (show Ao ⟨7,ew,v,sig,hi,lo,n,l⟩ wd=.error 90 by rw [ak.out];simp [Cl,HQ.out,h3])
   clear h1 h2
   go_wp2_with (first | ((with_reducible show Jl 40);refine Aa rfl 40 _ rfl rfl (bu.out.has) Ah rfl ?_) | ((with_reducible show Js 40);have ab:=aw.out;refine Ac rfl 40 _ _ rfl ab rfl (cs:=A0) rfl Ah rfl rfl rfl ?_;intro w9 aa j) | ((with_reducible show bodyPost _ _ _ _ _ _);refine Hid.out ?_))
   refine Jh ?_
   refine Ak rfl rfl rfl aa.has Ah rfl rfl (.inl ⟨90,HM.out,by omega,rfl,(ac.out.trans al.out).grown j (by omega)⟩)
  have HM:=Jh (show Ao ⟨7,ew,v,sig,hi,lo,n,l⟩ wd=Bm ⟨7,w2,v,sig,hi,lo,n,l⟩ (List.replicate l.length 0) by
   have dc:¬ w2=0:=by omega
   have dn:w2<=64:=by omega
   rw [ak.out];simp [Cl,HQ.out,h2,dc];intro h;omega)
  have c9:=ce.out
  clear h1 h2
  go_upto_region 31 with fail
  refine wp_region_held_drew (S:=fun W=>Blk W wc.heap.size (E.cells ⟨7,w2,v,sig,hi,lo,n,l⟩ (.slice a l.length cap)).toArray 40/\Blk W w.heap.size (E.cells ⟨7,ew,v,sig,hi,lo,n,l⟩ (.slice a l.length cap)).toArray 40) (by kernel_rfl) ⟨a4.out.drew,db.out.drew⟩ (fun hH=>?_)
  try simp only [J]
  (refine Jt 0 (.agg (E.cells ⟨7,w2,v,sig,hi,lo,n,l⟩ (.slice a l.length cap)).toArray) rfl (Ar rfl 40 _ rfl rfl (fun W hW=>hW.1.has) Ah rfl) hH ?_;try simp only [J])
  (refine Jt 1 _ rfl (yif_load1 rfl (by intro W hW;clear hW;go_simp;rfl)) hH ?_;try simp only [J])
  (refine Jt 2 (.slice a l.length cap) rfl (yif_load1 rfl (by intro W hW;have y7:=hW.2.has 7 _ rfl;clear hW;go_simp)) hH ?_;try simp only [J])
  (refine Jk 3 (.int .i64 (l.length:Nat)) rfl hH ?_;try simp only [J])
  refine Jr 4 rfl fun K hK=>?_
  have dd:madeCells (Value.cells (.int .i64 0)) (l.length*1)=(ints (List.replicate l.length 0)).toArray:=by
   rw [Nat.mul_one];show madeCells #[_] _=_;rw [M1];simp [ints]
  refine Agu rfl 49 _ _ rfl (n:=l.length) rfl rfl Tryz.underlying49 Yh (by omega) (by omega) ?_
  rw [dd]
  have b8:=Ab w6.drew (.cells (ints (List.replicate l.length 0)).toArray 3)
  have cl:=Blk.new w6.drew (ints (List.replicate l.length 0)).toArray 3
  refine hK.out _ _ ⟨hH.1.ext b8,hH.2.ext b8⟩ (fun hH=>?_)
  clear hK K
  have du:(w6.drew.alloc (.cells (ints (List.replicate l.length 0)).toArray 3)).heap.size=w6.heap.size+1:=by simp [World.heap_drew]
  have bk:Ext w6 (w6.drew.alloc (.cells (ints (List.replicate l.length 0)).toArray 3)):=(Below.drew (Below.refl _ _)).trans b8
  rw [World.heap_drew] at cl ⊢
  generalize w6.drew.alloc _=wm at *
  try simp only [J]
  have hI:=cl.ints l.length (by simp) (by simp only [maxLen];omega)
  rw [List.length_replicate] at hI
  refine Jr 5 rfl fun K hK=>?_
  clear c9
  go_simp
  refine (HU.out (List.replicate l.length 0) _ wm (al.out.trans bk) hI (by simp) (by intro v hv;have:=List.eq_of_mem_replicate hv;omega)).mono ?_
  intro r w3 ag;obtain ⟨aj,g,rfl,h8,ai,af,-⟩:=ag.open;have ao:=Jh ag;clear ag
  refine hK.out _ _ ⟨hH.1.ext af,hH.2.ext af⟩ (fun hH=>?_)
  clear hK K
  try simp only [J]
  (refine Jk 6 (.agg aj.toArray) rfl hH ?_;try simp only [J])
  (refine Jk 7 (.int .i64 g) rfl hH ?_;try simp only [J])
  refine Jr 8 rfl fun K hK=>?_
  have ab:=Blk.ext aw.out (bk.trans af)
  refine D2 rfl 40 _ _ rfl ab rfl (cs:=aj) rfl Ah h8 rfl ai ?_
  intro w9 aa j
  refine hK.out _ _ ⟨hH.1.grown j (by have:=da.out;omega),hH.2.grown j (by omega)⟩ (fun hH=>?_)
  clear hK K
  try simp only [J]
  (refine Ji 9 _ rfl hH ?_;try simp only [J])
  refine Jz ?_
  have a8:=af.size
  go_wp2_with (first | fail | ((with_reducible show bodyPost _ _ _ _ _ _);refine Hid.out ?_))
  refine Jh ?_
  refine Ak rfl rfl rfl aa.has Ah h8 rfl ?_
  rw [HM.out]
  exact ao.out.again (ac.out.trans (al.out.trans bk)) ((ac.out.trans (al.out.trans (bk.trans af))).grown j (by omega)) (Al.of_grown j (by omega))
 ·obtain ⟨rfl,hl,bw,bx,c0,c4⟩:=h
  have HL:=Jh hl
  clear hl bw bx c0 c4
  by_cases h1:ew=w2
  rotate_left
  ·have HM:=Jh (show Ao ⟨8,ew,v,sig,hi,lo,n,l⟩ wd=.error 90 by rw [ak.out];simp [Cl,Abw,h1])
   have b1:(ew != w2)=true:=by rw [bne_iff_ne];exact h1
   clear h1
   go_wp2_with (first | ((with_reducible show Jl 40);refine Aa rfl 40 _ rfl rfl (KZ.out.has) Ah rfl ?_) | ((with_reducible show Js 40);have ab:=K4.out;refine Ac rfl 40 _ _ rfl ab rfl (cs:=A0) rfl Ah rfl rfl rfl ?_;intro w9 aa j) | ((with_reducible show bodyPost _ _ _ _ _ _);refine Hid.out ?_))
   refine Jh ?_
   refine Ak rfl rfl rfl aa.has Ah rfl rfl (.inl ⟨90,HM.out,by omega,rfl,ac.out.grown j (by omega)⟩)
  obtain rfl:=h1
  have b1:(ew != ew)=false:=by simp
  have cf:=Jh (show Ao ⟨8,ew,v,sig,hi,lo,n,l⟩ wd=Abw ⟨8,ew,v,sig,hi,lo,n,l⟩ ew by rw [ak.out];simp [Cl])
  have f6:=K2.out.has 6 _ rfl
  have b6:w5.heap.size<(w5.alloc (.cells (ints [0]).toArray 3)).heap.size:=by simp
  go_wp2_with (first | ((with_reducible show Jl 40);refine Aa rfl 40 _ rfl rfl (KX.out.has) Ah rfl ?_) | ((with_reducible show Jw (Op.buildSlice _ _ _));refine C1 rfl _ 1 _ rfl Dh [0] rfl rfl (by decide) (by decide) ?_) | (go_at_call 177;refine (HU.out [0] _ _ (a1.out.trans (Ab w5 _)) (Blk.ints (Blk.new w5 (ints [0]).toArray 3) 1 (Nat.le_refl _) (by simp only [maxLen];decide)) (by simp [HL.out]) (by intro v hv;simp at hv;omega)).mono ?_;intro r w3 ag;obtain ⟨aj,g,rfl,h8,ai,af,ho⟩:=ag.open;clear ag;refine Hid.out ?_))
  refine Jh ?_
  have cb:=Jh ((a1.out.trans (Ab w5 (.cells (ints [0]).toArray 3))).trans af)
  have dr:=af.size
  have a9:=Ab w3 (.cells aj.toArray 40)
  have bf:=Blk.new w3 aj.toArray 40
  have cz:w3.heap.size<(w3.alloc (.cells aj.toArray 40)).heap.size:=by simp
  rcases ho with ⟨rfl,y,hy,bv⟩ | ⟨hg,hy⟩
  ·have ax:=Aav hy
   simp only [HL.out] at ax
   obtain ⟨z,hz⟩:=List.length_eq_one_iff.1 ax
   have ci:=Jh (bv.ext a9)
   have dj:=bv.ve
   obtain ⟨s3,cq,bq⟩:=dj
   have c7:Ao.hdW y.l=z.w:=by rw [hz];rfl
   have c8:=Jh cq
   have hq:∃ b3 o3 ap,s3=.slice (some ⟨b3,o3,Option.none⟩) 1 ap/\1<=ap/\ap<=9223372036854775807/\w3.cell? ⟨b3,o3+1,Option.none⟩=some (.int .i64 z.w):=by
    obtain ⟨a3,b3,o3,ap,e3,k1,k2,cj,cx⟩:=bq.open
    rw [hz] at e3 k1 cj cx
    obtain ⟨s4,q1,-⟩:=Es.get cx (k:=0) (by simp)
    refine ⟨b3,o3,ap,?_,by simpa using k1,k2,?_⟩
    ·rw [e3,cj (by simp)];rfl
    ·have:=q1 1 _ rfl
     simpa using this
   obtain ⟨b3,o3,ap,rfl,k1,k2,k3⟩:=hq
   have K3:=Jh k3
   have cu:Ao ⟨8,ew,v,sig,hi,lo,n,l⟩ wd=(if (n≠33/\ew<z.w)\/(n=33/\z.w<ew) then .error 90 else .ok y):=by
    rw [cf.out];unfold Abw;simp only [ne_eq,not_true_eq_false,if_false,hy,c7]
   have bc:=Jh cu
   have a2:=Jh a9
   clear cu hy ax hz c7 bq bv k3 cq a9
   go_upto_region 35 with (first | ((with_reducible show Js 40);refine Ad rfl 40 _ _ rfl rfl (by first | rfl | simp) rfl Ah (h8) rfl (ai) ?_))
   have aq:=((cb.out).trans a2.out)
   have dq:(w3.alloc (.cells aj.toArray 40)).cell? ⟨b3,o3+1,Option.none⟩=some (.int .i64 z.w):=(a2.out.cell (p:=⟨b3,o3+1,none⟩) (World.block_lt_of_cell? w3 _ K3.out)).trans K3.out
   have bl:=ci.out
   generalize w3.alloc _=w4 at *
   have y7:w4.cell? ⟨w3.heap.size,7,Option.none⟩=some (.slice (some ⟨b3,o3,Option.none⟩) 1 ap):=by
    have:=bf.has 7 _ (by rw [c8.out];rfl)
    simpa using this
   have a0:=Jh (Blk.ext K4.out aq)
   have bd:=Jh (Blk.ext KZ.out aq)
   have dm:=(Blk.ext K2.out aq).has 6 _ rfl
   have ah:=Jh (ac.out.trans aq)
   have cc:=Jh bl
   have ca:=Jh bf
   clear aq bf bl ci a2
   by_cases am:n=33
   ·have c1:(n != 33)=false:=by rw [bne_eq_false_iff_eq];exact am
    have c2:(n==33)=true:=by rw [beq_iff_eq];exact am
    by_cases hc:z.w<ew
    ·have HM:=Jh (show Ao ⟨8,ew,v,sig,hi,lo,n,l⟩ wd=.error 90 by rw [bc.out,if_pos (.inr ⟨am,hc⟩)])
     clear am
     go_wp2_with (first | ((with_reducible show Jl 40);refine Aa rfl 40 _ rfl rfl (bd.out.has) Ah rfl ?_) | ((with_reducible show Js 40);have ab:=a0.out;refine Ac rfl 40 _ _ rfl ab rfl (cs:=A0) rfl Ah rfl rfl rfl ?_;intro w9 aa j) | ((with_reducible show bodyPost _ _ _ _ _ _);refine Hid.out ?_))
     refine Jh ?_
     refine Ak rfl rfl rfl aa.has Ah rfl rfl (.inl ⟨90,HM.out,by omega,rfl,ah.out.grown j (by omega)⟩)
    ·have HM:=Jh (show Ao ⟨8,ew,v,sig,hi,lo,n,l⟩ wd=.ok y by rw [bc.out,if_neg (fun h=>h.elim (fun h=>h.1 am) (fun h=>hc h.2))])
     clear am
     go_wp2_with (first | ((with_reducible show Jl 40);refine Aa rfl 40 _ rfl rfl (ca.out.has) Ah h8 ?_) | ((with_reducible show Js 40);have ab:=a0.out;refine Ac rfl 40 _ _ rfl ab rfl (cs:=aj) rfl Ah h8 rfl ai ?_;intro w9 aa j) | ((with_reducible show bodyPost _ _ _ _ _ _);refine Hid.out ?_))
     refine Jh ?_
     refine Ak rfl rfl rfl aa.has Ah h8 rfl (.inr ⟨y,aj,HM.out,rfl,(cc.out.since (Al.of_grown j (by omega))).mono (by omega),ah.out.grown j (by omega)⟩)
   ·have c1:(n != 33)=true:=by rw [bne_iff_ne];exact am
    have c2:(n==33)=false:=by rw [beq_eq_false_iff_ne];exact am
    by_cases hc:ew<z.w
    ·have HM:=Jh (show Ao ⟨8,ew,v,sig,hi,lo,n,l⟩ wd=.error 90 by rw [bc.out,if_pos (.inl ⟨am,hc⟩)])
     clear am
     go_wp2_with (first | ((with_reducible show Jl 40);refine Aa rfl 40 _ rfl rfl (bd.out.has) Ah rfl ?_) | ((with_reducible show Js 40);have ab:=a0.out;refine Ac rfl 40 _ _ rfl ab rfl (cs:=A0) rfl Ah rfl rfl rfl ?_;intro w9 aa j) | ((with_reducible show bodyPost _ _ _ _ _ _);refine Hid.out ?_))
     refine Jh ?_
     refine Ak rfl rfl rfl aa.has Ah rfl rfl (.inl ⟨90,HM.out,by omega,rfl,ah.out.grown j (by omega)⟩)
    ·have HM:=Jh (show Ao ⟨8,ew,v,sig,hi,lo,n,l⟩ wd=.ok y by rw [bc.out,if_neg (fun h=>h.elim (fun h=>hc h.2) (fun h=>am h.1))])
     clear am
     go_wp2_with (first | ((with_reducible show Jl 40);refine Aa rfl 40 _ rfl rfl (ca.out.has) Ah h8 ?_) | ((with_reducible show Js 40);have ab:=a0.out;refine Ac rfl 40 _ _ rfl ab rfl (cs:=aj) rfl Ah h8 rfl ai ?_;intro w9 aa j) | ((with_reducible show bodyPost _ _ _ _ _ _);refine Hid.out ?_))
     refine Jh ?_
     refine Ak rfl rfl rfl aa.has Ah h8 rfl (.inr ⟨y,aj,HM.out,rfl,(cc.out.since (Al.of_grown j (by omega))).mono (by omega),ah.out.grown j (by omega)⟩)
  ·have g1:(g != 0)=true:=by rw [bne_iff_ne];omega
   have HM:=Jh (show Ao ⟨8,ew,v,sig,hi,lo,n,l⟩ wd=.error g by rw [cf.out];unfold Abw;simp only [ne_eq,not_true_eq_false,if_false,hy])
   have a2:=Jh a9
   clear hy a9 bf
   go_upto_region 35 with (first | ((with_reducible show Js 40);refine Ad rfl 40 _ _ rfl rfl (by first | rfl | simp) rfl Ah (h8) rfl (ai) ?_))
   have aq:=((cb.out).trans a2.out)
   generalize w3.alloc _=w4 at *
   have a0:=Jh (Blk.ext K4.out aq)
   have bd:=Jh (Blk.ext KZ.out aq)
   have ah:=Jh (ac.out.trans aq)
   clear aq
   go_wp2_with (first | ((with_reducible show Jl 40);refine Aa rfl 40 _ rfl rfl (bd.out.has) Ah rfl ?_) | ((with_reducible show Js 40);have ab:=a0.out;refine Ac rfl 40 _ _ rfl ab rfl (cs:=A0) rfl Ah rfl rfl rfl ?_;intro w9 aa j) | ((with_reducible show bodyPost _ _ _ _ _ _);refine Hid.out ?_))
   refine Jh ?_
   refine Ak rfl rfl rfl aa.has Ah rfl rfl (.inl ⟨g,HM.out,hg,rfl,ah.out.grown j (by omega)⟩)
end Go.Proofs.YtbliplladmamoaaGreat
