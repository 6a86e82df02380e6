/- Laws and walks that a claim of this seat leans on: Bitv7, Value, Value2. -/
import Derived.Test.YtpngepnfinbaoaaGreatC17
import Derived.Test.YtpngepnfinbaoaaGreatC16
import Derived.Test.YtpngepnfinbaoaaGreatC00
set_option maxRecDepth 100000
set_option maxHeartbeats 8000000
set_option linter.all false
namespace Go.Proofs.YtpngepnfinbaoaaGreat
open Go.RowKit
def binW (op w:Int):Int:=if op<=18 then w else 1
theorem sh_shl (a b:Nat):Op.shift .shl .u64 (a:Int) .u64 (b:Int)=pure (.int .u64 (IntKind.u64.wrap ((a:Int)*2^(min b 64)))):=by
 unfold Op.shift
 rw [if_neg (by omega)]
 rfl
theorem sh_shr (a b:Nat):Op.shift .shr .u64 (a:Int) .u64 (b:Int)=pure (.int .u64 ((a / 2^(min b 64):Nat):Int)):=by
 unfold Op.shift
 rw [if_neg (by omega)]
 show pure (Value.int .u64 ((a:Int).fdiv (2^min b 64)))=_
 rw [Int.fdiv_eq_ediv_of_nonneg _ (Int.le_of_lt (Int.pow_pos (by decide)))]
 norm_cast
theorem shl_val (a b w:Nat) (hw:w<=64):∃ n:Nat,IntKind.u64.wrap ((a:Int)*2^(min b 64))=(n:Int)/\n<2^64/\n%2^w=a*2^b%2^w:=by
 have e:=pow64 hw
 refine ⟨a*2^(min b 64)%18446744073709551616,?_,by omega,?_⟩
 ·rw [IntKind.wrap_u64,show ((a:Int)*2^(min b 64))=((a*2^(min b 64):Nat):Int) by norm_cast]
  omega
 ·rw [Nat.mod_mod_of_dvd _ ⟨_,e.symm⟩]
  by_cases h:b<=64
  ·rw [Nat.min_eq_left h]
  ·rw [Nat.min_eq_right (by omega)]
   have h1:a*2^64=2^w*(a*2^(64-w)):=by
    rw [show (2:Nat)^64=2^w*2^(64-w) by rw [e]]
    rw [<-Nat.mul_assoc,Nat.mul_comm a,Nat.mul_assoc]
   have h2:a*2^b=2^w*(a*2^(b-w)):=by
    have:(2:Nat)^b=2^w*2^(b-w):=by rw [<-Nat.pow_add];congr 1;omega
    rw [this,<-Nat.mul_assoc,Nat.mul_comm a,Nat.mul_assoc]
   rw [h1,h2,Nat.mul_mod_right,Nat.mul_mod_right]
theorem shr_val (a b:Nat) (ha:a<2^64):a / 2^(min b 64)=a / 2^b:=by
 by_cases h:b<=64
 ·rw [Nat.min_eq_left h]
 ·rw [Nat.min_eq_right (by omega),Nat.div_eq_of_lt ha,Nat.div_eq_of_lt (Nat.lt_of_lt_of_le ha (Nat.pow_le_pow_right (by decide) (by omega)))]
theorem pair_bin (op:Int) (h1:11<=op) (h2:op<=26) (h3:op≠17) (h4:op≠18) (w a b:Nat) (hw:1<=w) (hw2:w<=64) (ha:a<2^w) (hb:b<2^w) (h25:25<=op->w=1) :
  pairM op a b<2^64/\pairM op a b%2^(binW op w).toNat=binM op w a b:=by
 have e:=pow64 hw2
 have hM:=Nat.pow_le_pow_right (n:=2) (by decide) hw2
 have hd:2^w ∣ 18446744073709551616:=⟨_,e.symm⟩
 have hk:op=11\/op=12\/op=13\/op=14\/op=15\/op=16\/op=25\/op=26\/op=19\/op=20\/op=21\/op=22\/op=23\/op=24:=by omega
 have b2:∀ c:Bool,b2n c<18446744073709551616/\b2n c<2:=fun c=>by cases c<;>decide
 rcases hk with rfl | rfl | rfl | rfl | rfl | rfl | rfl | rfl | rfl | rfl | rfl | rfl | rfl | rfl
 ·have:=Nat.and_lt_two_pow a hb
  simp [pairM,binW,binM,fAnd];exact ⟨by omega,Nat.mod_eq_of_lt this⟩
 ·have:=Nat.or_lt_two_pow ha hb
  simp [pairM,binW,binM,fOr];exact ⟨by omega,Nat.mod_eq_of_lt this⟩
 ·have:=Nat.xor_lt_two_pow ha hb
  simp [pairM,binW,binM,fXor];exact ⟨by omega,Nat.mod_eq_of_lt this⟩
 ·simp [pairM,binW,binM,fAdd];exact ⟨by omega,Nat.mod_mod_of_dvd _ hd⟩
 ·simp [pairM,binW,binM,fSub]
  refine ⟨by omega,?_⟩
  rw [Nat.mod_mod_of_dvd _ hd]
  have hk:=Nat.two_pow_pos (64-w)
  generalize 2^w=M at *
  generalize 2^(64-w)=K at *
  have h6:a+18446744073709551616-b=M*(K-1)+(a+M-b):=by
   have:M*(K-1)=M*K-M:=by rw [Nat.mul_sub,Nat.mul_one]
   have:M<=M*K:=Nat.le_mul_of_pos_right _ hk
   omega
  rw [h6,Nat.mul_add_mod]
 ·simp [pairM,binW,binM,fMul];exact ⟨by omega,Nat.mod_mod_of_dvd _ hd⟩
 ·obtain rfl:=h25 (by decide)
  have:=Nat.and_lt_two_pow a hb
  simp [pairM,binW,binM,fAnd];exact ⟨by omega,by omega⟩
 ·obtain rfl:=h25 (by decide)
  have:=Nat.or_lt_two_pow ha hb
  simp [pairM,binW,binM,fOr];exact ⟨by omega,by omega⟩
 ·simp [pairM,binW,binM,fEq];exact b2 _
 ·simp [pairM,binW,binM,fNe];exact b2 _
 ·simp [pairM,binW,binM,fLt];exact b2 _
 ·simp [pairM,binW,binM,fLe];exact b2 _
 ·simp [pairM,binW,binM,fGt];exact b2 _
 ·simp [pairM,binW,binM,fGe];exact b2 _
theorem Bin_calls (op:Int) (h1:11<=op) (h2:op<=26) (a b:Bt) (ha:a.ok) (hb:b.ok) (hab:op≠17->op≠18->a.w=b.w) (h25:25<=op->a.w=1) (w:World) :
  Calls Tryz.prog 62 #[.int .i64 op,.agg a.cells.toArray,.agg b.cells.toArray] w (BtPost w ⟨binW op a.w,binM op a.w.toNat a.v b.v⟩):=by
 have x1:=ext_alloc w (.cells a.cells.toArray 69)
 have x2:=ext_alloc (w.alloc (.cells a.cells.toArray 69)) (.cells b.cells.toArray 69)
 have x3:=ext_alloc ((w.alloc (.cells a.cells.toArray 69)).alloc (.cells b.cells.toArray 69)) (.cells #[.int .i64 0,.int .u64 0] 69)
 have hA:=((Blk.new w a.cells.toArray 69).ext x2).ext x3
 have hB:=(Blk.new (w.alloc (.cells a.cells.toArray 69)) b.cells.toArray 69).ext x3
 have hR:=Blk.new ((w.alloc (.cells a.cells.toArray 69)).alloc (.cells b.cells.toArray 69)) #[.int .i64 0,.int .u64 0] 69
 have HX:=(x1.trans x2).trans x3
 simp only [World.size_alloc] at hB hR
 clear x1 x2 x3
 have HAL:=Jh (fun (s:Value) (W:World) (h:Bts W s [a,b])=>all_calls [a,b] (by simp;exact ⟨ha,hb⟩) s W h)
 have HMD:=fun (wd:Int) (n:Nat) (hn:n<2^64) (h0:0<=wd) (h1:wd<=64) (w:World)=>made_callsN wd n hn h0 h1 w
 have ha64:=Bt.lt64 ha
 have hb64:=Bt.lt64 hb
 have a1:=ha.1
 have a2:=ha.2.1
 have a3:=Jh ha.2.2
 have b3:=Jh hb.2.2
 have HAB:=Jh hab
 have H25:=Jh h25
 clear ha hb hab h25
 obtain ⟨wd,av⟩:=a
 obtain ⟨bw,bv⟩:=b
 simp only at ha64 hb64 a1 a2 a3 b3 HAB H25
 obtain ⟨RES,hres⟩:∃ r,binM op wd.toNat av bv=r:=⟨_,rfl⟩
 have HRES:=Jh hres
 rw [hres]
 clear hres
 go_enter Tryz.func62,Tryz.ntmps62
 go_upto_region 1 with fail
 generalize ((w.alloc _).alloc _).alloc _=w0 at *
 have hA1:=hA.has
 have hB1:=hB.has
 have hxb:=ext_alloc w0 (.cells ([Bt.cells ⟨wd,av⟩,Bt.cells ⟨bw,bv⟩].flatten.toArray) 69)
 have hbs:=Bts.of_blk [⟨wd,av⟩,⟨bw,bv⟩] 2 (Blk.new w0 ([Bt.cells ⟨wd,av⟩,Bt.cells ⟨bw,bv⟩].flatten.toArray) 69) (by simp) (by decide)
 have HAC:=Jh (HAL.out _ _ hbs)
 have HA:=Jh (hA.ext hxb)
 have HB:=Jh (hB.ext hxb)
 have HR:=Jh (hR.ext hxb)
 have HXB:=Jh (HX.trans hxb)
 clear hA hB hR hxb hbs HAL HX
 go_upto_region 2 with (first | ((with_reducible show Jw (Op.load _ _));refine Hid.out ?_))
 refine Jh ?_
 refine Jm 69 (hA1) agg_Bits rfl ?_
 refine Jm 69 (hB1) agg_Bits rfl ?_
 refine wpList_bsN rfl _ 2 _ rfl appBits (vs:=[.agg (Bt.cells ⟨wd,av⟩).toArray,.agg (Bt.cells ⟨bw,bv⟩).toArray]) rfl rfl (css:=[Bt.cells ⟨wd,av⟩,Bt.cells ⟨bw,bv⟩]) rfl (by simp) (by decide) (by decide) ?_
 clear hA1 hB1
 generalize w0.alloc _=w1 at *
 generalize w0.heap.size=B0 at *
 try simp only [J]
 by_cases o17:op=17
 ·subst o17
  obtain ⟨n,e1,hn,hm⟩:=shl_val av bv wd.toNat (by omega)
  have hsh:=sh_shl av bv
  rw [e1] at hsh
  have HM:=Jh hm
  clear e1 hm
  go_wp2_with (first | (go_at_call 102;refine HAC.out.mono ?_;rintro r w2 ⟨rfl,hx2⟩;have g0:=(HA.out.ext hx2).has 0 _ rfl;have g1:=(HA.out.ext hx2).has 1 _ rfl;have g2:=(HB.out.ext hx2).has 1 _ rfl;have g3:=(HB.out.ext hx2).has 0 _ rfl) | (go_at_call 98;refine (HMD wd n hn (by omega) (by omega) _).mono ?_;rintro r w3 ⟨rfl,hx3⟩) | ((with_reducible show Js 69);refine wpList_store_blk rfl 69 _ _ rfl (HR.out.ext (hx2.trans hx3)) rfl (cs:=Bt.cells ⟨wd,n%2^wd.toNat⟩) (rfl) agg_Bits (rfl) rfl (rfl) ?_;intro w4 hb4 hg4))
  refine post_ret_blk2' rfl rfl rfl hb4.has agg_Bits rfl rfl ⟨?_,(HXB.out.trans (hx2.trans hx3)).grown hg4 (by omega)⟩
  rw [<-HRES.out,HM.out]
  simp [binW,binM]
 ·by_cases o18:op=18
  ·subst o18
   obtain ⟨n,hn0⟩:∃ n,av / 2^(min bv 64)=n:=⟨_,rfl⟩
   have hn:n<2^64:=by rw [<-hn0];exact Nat.lt_of_le_of_lt (Nat.div_le_self _ _) ha64
   have hsh:=sh_shr av bv
   rw [hn0] at hsh
   have HM:=Jh hn0
   clear hn0 o17
   go_wp2_with (first | (go_at_call 102;refine HAC.out.mono ?_;rintro r w2 ⟨rfl,hx2⟩;have g0:=(HA.out.ext hx2).has 0 _ rfl;have g1:=(HA.out.ext hx2).has 1 _ rfl;have g2:=(HB.out.ext hx2).has 1 _ rfl;have g3:=(HB.out.ext hx2).has 0 _ rfl) | (go_at_call 98;refine (HMD wd n hn (by omega) (by omega) _).mono ?_;rintro r w3 ⟨rfl,hx3⟩) | ((with_reducible show Js 69);refine wpList_store_blk rfl 69 _ _ rfl (HR.out.ext (hx2.trans hx3)) rfl (cs:=Bt.cells ⟨wd,n%2^wd.toNat⟩) (rfl) agg_Bits (rfl) rfl (rfl) ?_;intro w4 hb4 hg4))
   refine post_ret_blk2' rfl rfl rfl hb4.has agg_Bits rfl rfl ⟨?_,(HXB.out.trans (hx2.trans hx3)).grown hg4 (by omega)⟩
   rw [<-HRES.out,<-HM.out,shr_val _ _ ha64,Nat.mod_eq_of_lt (Nat.lt_of_le_of_lt (Nat.div_le_self _ _) a3.out)]
   simp [binW,binM]
  ·have hbw:=HAB.out o17 o18
   subst hbw
   have hpb:=pair_bin op h1 h2 o17 o18 wd.toNat av bv (by omega) (by omega) a3.out b3.out (fun h=>by have:=H25.out h;omega)
   obtain ⟨n,hn0⟩:∃ n,pairM op av bv=n:=⟨_,rfl⟩
   have HPM:=Jh hn0
   rw [hn0,show ((wd.toNat:Nat):Int)=wd by omega] at hpb
   have hn:=hpb.1
   have HM:=Jh hpb.2
   clear hpb hn0
   have c17:(op==17)=false:=by rw [beq_eq_false_iff_ne];exact o17
   have c18:(op==18)=false:=by rw [beq_eq_false_iff_ne];exact o18
   have HPC:=Jh (fun W=>pairs_calls op h1 h2 o17 o18 W)
   have O17:=Jh o17
   have O18:=Jh o18
   clear o17 o18
   go_wp2_with (first | (go_at_call 102;refine HAC.out.mono ?_;rintro r w2 ⟨rfl,hx2⟩;have g0:=(HA.out.ext hx2).has 0 _ rfl;have g1:=(HA.out.ext hx2).has 1 _ rfl;have g2:=(HB.out.ext hx2).has 1 _ rfl;have g3:=(HB.out.ext hx2).has 0 _ rfl) | (go_at_call 103;refine Hid.out ?_))
   refine Jh ?_
   clear g0 g1 g2 g3
   refine (HPC.out w2).mono ?_
   rintro r w3 ⟨F,rfl,⟨k,lb,rfl,eg,hdo⟩,hx3⟩
   have hc:=hdo w3 (Below.refl _ _) av bv ha64 hb64
   simp only [vN,HPM.out] at hc
   have HC:=Jh hc
   clear hc hdo
   have g0:=((HA.out.ext hx2).ext hx3).has 0 _ rfl
   have g1:=((HA.out.ext hx2).ext hx3).has 1 _ rfl
   have g2:=((HB.out.ext hx2).ext hx3).has 1 _ rfl
   have g3:=((HB.out.ext hx2).ext hx3).has 0 _ rfl
   by_cases c25:25<=op
   ·have c19:19<=op:=by omega
    obtain rfl:=H25.out c25
    go_wp2_with (first | ((with_reducible show Jw (Op.call { callee:=.value (.tmp _),args:=_,argTypes:=_ }));refine wpList_call_fv rfl _ _ _ rfl rfl eg rfl HC.out ?_;intro w4 hx4) | (go_at_call 98;refine (HMD 1 n hn (by omega) (by omega) _).mono ?_;rintro r w5 ⟨rfl,hx5⟩) | ((with_reducible show Js 69);refine wpList_store_blk rfl 69 _ _ rfl (HR.out.ext (hx2.trans (hx3.trans (hx4.trans hx5)))) rfl (cs:=Bt.cells ⟨1,n%2^(1:Int).toNat⟩) (rfl) agg_Bits (rfl) rfl (rfl) ?_;intro w6 hb6 hg6))
    refine post_ret_blk2' rfl rfl rfl hb6.has agg_Bits rfl rfl ⟨?_,(HXB.out.trans (hx2.trans (hx3.trans (hx4.trans hx5)))).grown hg6 (by omega)⟩
    have hM:=HM.out
    rw [show binW op 1=1 by unfold binW;split<;>rfl] at hM ⊢
    rw [hM,HRES.out];rfl
   ·by_cases c19:19<=op
    ·go_wp2_with (first | ((with_reducible show Jw (Op.call { callee:=.value (.tmp _),args:=_,argTypes:=_ }));refine wpList_call_fv rfl _ _ _ rfl rfl eg rfl HC.out ?_;intro w4 hx4) | (go_at_call 98;refine (HMD 1 n hn (by omega) (by omega) _).mono ?_;rintro r w5 ⟨rfl,hx5⟩) | ((with_reducible show Js 69);refine wpList_store_blk rfl 69 _ _ rfl (HR.out.ext (hx2.trans (hx3.trans (hx4.trans hx5)))) rfl (cs:=Bt.cells ⟨1,n%2^(1:Int).toNat⟩) (rfl) agg_Bits (rfl) rfl (rfl) ?_;intro w6 hb6 hg6))
     refine post_ret_blk2' rfl rfl rfl hb6.has agg_Bits rfl rfl ⟨?_,(HXB.out.trans (hx2.trans (hx3.trans (hx4.trans hx5)))).grown hg6 (by omega)⟩
     have hM:=HM.out
     rw [show binW op wd=1 by unfold binW;rw [if_neg (by omega)]] at hM ⊢
     rw [hM,HRES.out];rfl
    ·go_wp2_with (first | ((with_reducible show Jw (Op.call { callee:=.value (.tmp _),args:=_,argTypes:=_ }));refine wpList_call_fv rfl _ _ _ rfl rfl eg rfl HC.out ?_;intro w4 hx4) | (go_at_call 98;refine (HMD wd n hn (by omega) (by omega) _).mono ?_;rintro r w5 ⟨rfl,hx5⟩) | ((with_reducible show Js 69);refine wpList_store_blk rfl 69 _ _ rfl (HR.out.ext (hx2.trans (hx3.trans (hx4.trans hx5)))) rfl (cs:=Bt.cells ⟨wd,n%2^(wd:Int).toNat⟩) (rfl) agg_Bits (rfl) rfl (rfl) ?_;intro w6 hb6 hg6))
     refine post_ret_blk2' rfl rfl rfl hb6.has agg_Bits rfl rfl ⟨?_,(HXB.out.trans (hx2.trans (hx3.trans (hx4.trans hx5)))).grown hg6 (by omega)⟩
     have hM:=HM.out
     rw [show binW op wd=wd by unfold binW;rw [if_pos (by omega)]] at hM ⊢
     rw [hM,HRES.out];rfl
theorem step_call_fv {P:Program} {ops:Array Oper} {o:Oper} {a:Act} {w:World} {K:Act->World->Prop} {Q:Exit->Act->World->Prop} {E:Prop} (hw:Region.wanted o (yielded ops a.tmps)=true)
  (x:Operand) (l:List Operand) (ats:Array TypeId) (ho:o.op=.call { callee:=.value x,args:=l.toArray,argTypes:=ats })
  {g:FuncId} {lb:Array Value} (hx:a.eval x=.func (.func g) #[] lb) (eg:Leads P g) {args:List Value} (hargs:l.map a.eval=args) {v:Value} {R:World->Prop}
  (hc:Calls P g (args.toArray++lb) w fun r w'=>r=.returned v/\R w') (h:∀ w',R w'->K (a.put o.dst v) w'):if Region.wanted o (yielded ops a.tmps)=true then Oper.wp P o a w K Q else E:=by
 rw [if_pos hw]
 obtain ⟨dst,op,ty,pos,after,guard⟩:=o
 simp only at ho
 subst ho
 subst hargs
 rw [<-List.map_toArray] at hc
 generalize l.toArray=xs at *
 have hrun:(execOp a.eval { dst,op:=.call { callee:=.value x,args:=xs,argTypes:=ats },type:=ty,pos,after,guard }).run P w=.ok (.enter g (xs.map a.eval++lb)) w:=by
  have h1:execOp a.eval { dst,op:=.call { callee:=.value x,args:=xs,argTypes:=ats },type:=ty,pos,after,guard } = (Deferred.ofValue (a.eval x) (xs.map a.eval) >>= fun d=>invoke d.target d.args):=rfl
  have h2:(Deferred.ofValue (.func (.func g) #[] lb) (xs.map a.eval) >>= fun d=>invoke d.target d.args)=callFunc g (#[]++xs.map a.eval++lb):=rfl
  rw [h1,hx,h2,eg,Array.empty_append]
 unfold Oper.wp
 rw [hrun]
 exact hc.mono fun r w' ⟨hr,hR⟩=>by subst hr;exact h w' hR
theorem leads_v1:Leads Tryz.prog 58:=leads_of Tryz.func58 (by kernel_rfl) rfl
theorem leads_v2:Leads Tryz.prog 59:=leads_of Tryz.func59 (by kernel_rfl) rfl
def Looks (wb:World) (ls:List Signal) (vs:List Nat) (F:Value):Prop :=
 ∃ k lb,F=.func (.func k) #[] lb/\Leads Tryz.prog k/\∀ W,Ext wb W->∀ sig:Int,0<=sig->sig<ls.length->Calls Tryz.prog k (#[.int .i64 sig]++lb) W fun r W'=>r=.returned (.int .u64 (vs.getD sig.toNat 0:Nat))/\Ext W W'
def ValEnv (wb:World) (ls:List Signal) (vs:List Nat) (S:Nat):Prop :=
 ∃ D L F sv pv cv,Blk wb S #[.func (.func 58) #[] #[.pointer (some ⟨D,0,none⟩),.pointer (some ⟨L,0,none⟩)]] 113/\Blk wb D #[sv,pv,cv] 26/\Blk wb L #[F] 73/\Sigs wb sv ls/\Looks wb ls vs F
theorem value1_calls {wb:World} {ls:List Signal} {vs:List Nat} {D L:Nat} {F sv pv cv:Value} (hD:Blk wb D #[sv,pv,cv] 26) (hL:Blk wb L #[F] 73) (hS:Sigs wb sv ls) (hF:Looks wb ls vs F)
  (e:E) (cs:List Value) (w:World) (hx:Ext wb w) (hV:VE w cs e) (h0:0<=e.sig) (h1:e.sig<ls.length) :
  Calls Tryz.prog 58 #[.agg cs.toArray,.pointer (some ⟨D,0,none⟩),.pointer (some ⟨L,0,none⟩)] w fun r w'=>r=.returned (.agg (Bt.cells ⟨sigW ls e.sig,vs.getD e.sig.toNat 0⟩).toArray)/\Ext w w':=by
 obtain ⟨s,rfl,-⟩:=hV
 obtain ⟨a',b',o',cap',rfl,hc1,hc2,ha,hr⟩:=(hS.ext hx).open
 obtain ⟨kf,lb,rfl,ek,hk⟩:=hF
 obtain ⟨k,hk2⟩:=Int.eq_ofNat_of_zero_le h0
 have hlt:k<ls.length:=by omega
 obtain rfl:=ha (by omega)
 have hsw:sigW ls e.sig=ls[k].w:=by rw [hk2];simp [sigW,List.getElem?_eq_getElem hlt]
 have x1:=ext_alloc w (.cells (e.cells s).toArray 31)
 have x2:=ext_alloc (w.alloc (.cells (e.cells s).toArray 31)) (.cells #[.int .i64 0,.int .u64 0] 69)
 have hE:=(Blk.new w (e.cells s).toArray 31).ext x2
 have hR:=Blk.new (w.alloc (.cells (e.cells s).toArray 31)) #[.int .i64 0,.int .u64 0] 69
 have hX:=x1.trans x2
 simp only [World.size_alloc] at hR
 clear x1 x2
 have HSG:=Jh (fun W (h:Ext w W)=>(Sigs.get (hr.mono fun x _ b o hh=>SigAt.ext' h hh) hlt:Has W b' (o'+k*4) ls[k].cells))
 have HD:=Jh (fun W (h:Ext w W)=>(hD.ext (hx.trans h)))
 have HL:=Jh (fun W (h:Ext w W)=>(hL.ext (hx.trans h)))
 have HKF:=Jh (fun W (h:Ext w W)=>hk W (hx.trans h) e.sig h0 h1)
 rw [hsw]
 generalize ls[k]=x at *
 clear hk hD hL hS hr hsw
 rw [hk2] at HKF ⊢
 simp only [Int.toNat_natCast] at HKF ⊢
 obtain ⟨V,hv⟩:∃ V,vs.getD k 0=V:=⟨_,rfl⟩
 rw [hv] at HKF ⊢
 clear hv
 go_enter Tryz.func58,Tryz.ntmps58
 go_upto_region 1 with fail
 generalize (w.alloc _).alloc _=w0 at *
 have HR:=Jh hR
 have HE:=Jh hE
 clear hR hE
 refine wp_region_held_drew (S:=fun W=>Ext w W/\Blk W w.heap.size (e.cells s).toArray 31) (by kernel_rfl) ⟨hX.drew,HE.out.drew⟩ (fun hH=>?_)
 try simp only [J]
 (refine Jt 0 (_) rfl (yif_load1 rfl fun _ _=>rfl) hH ?_;try simp only [J])
 (refine Jt 1 (.slice (some ⟨b',o',none⟩) ls.length cap') rfl (yif_load1 rfl (by intro W hW;have y:=(HD.out W hW.1).has 0 _ rfl;clear hW;go_simp)) hH ?_;try simp only [J])
 (refine Jt 2 (_) rfl (yif_load1 rfl fun _ _=>rfl) hH ?_;try simp only [J])
 (refine Jt 3 (.int .i64 k) rfl (yif_load1 rfl (by intro W hW;have y:=hW.2.has 3 _ rfl;rw [hk2] at y;clear hW;go_simp)) hH ?_;try simp only [J])
 (refine Jt 4 (.pointer (some ⟨b',o'+k*4,none⟩)) rfl (yif_load1 rfl (by intro W hW;clear hW;go_simp;try (intro h;omega))) hH ?_;try simp only [J])
 (refine Jt 5 (_) rfl (yif_load1 rfl (by intro W hW;clear hW;go_simp;rfl)) hH ?_;try simp only [J])
 (refine Jt 6 (.int .i64 x.w) rfl (yif_load1 rfl (by intro W hW;have y:=HSG.out W hW.1 1 _ rfl;clear hW;go_simp)) hH ?_;try simp only [J])
 (refine Jt 7 (.func (.func kf) #[] lb) rfl (yif_load1 rfl (by intro W hW;have y:=(HL.out W hW.1).has 0 _ rfl;clear hW;go_simp)) hH ?_;try simp only [J])
 (refine Jt 8 (_) rfl (yif_load1 rfl fun _ _=>rfl) hH ?_;try simp only [J])
 (refine Jt 9 (.int .i64 k) rfl (yif_load1 rfl (by intro W hW;have y:=hW.2.has 3 _ rfl;rw [hk2] at y;clear hW;go_simp)) hH ?_;try simp only [J])
 (refine Jr 10 rfl fun K hK=>?_)
 refine step_call_fv rfl _ _ _ rfl rfl ek rfl (HKF.out _ hH.1) ?_
 intro w3 hx3
 refine hK.out _ _ ⟨hH.1.trans hx3,hH.2.ext hx3⟩ (fun hH=>?_)
 clear hK K
 try simp only [J]
 (refine Jt 11 (.agg (Bt.cells ⟨x.w,V⟩).toArray) rfl (yif_load1 rfl (by intro W hW;clear hW;go_simp)) hH ?_;try simp only [J])
 (refine Jr 12 rfl fun K hK=>?_)
 refine step_store_blk' rfl 69 _ _ rfl (HR.out.drew.ext hx3) rfl (cs:=Bt.cells ⟨x.w,V⟩) rfl agg_Bits rfl rfl rfl ?_
 intro w4 hb4 hg4
 refine hK.out _ _ ⟨hH.1.grown hg4 (by omega),hH.2.grown hg4 (by omega)⟩ (fun hH=>?_)
 clear hK K
 refine Jz ?_
 go_wp2_with ((with_reducible show bodyPost _ _ _ _ _ _);refine Hid.out ?_)
 refine Jh ?_
 exact post_ret_blk rfl rfl hb4.has agg_Bits rfl rfl ⟨rfl,hH.1⟩
theorem v2_num {wb:World} {ls:List Signal} {vs:List Nat} {S:Nat} (hls:∀ x∈ls,1<=x.w/\x.w<=64) (hvals:Vals ls vs) (henv:ValEnv wb ls vs S) {wd sig hi lo nn:Int} {n:Nat} (s0 s:Value) (w:World) (hx:Ext wb w) (hE0:Es w s0 [])
  (hBt:Bts w s (([]:List E).map (evB vs))) :
  Calls Tryz.prog 59 #[.agg (E.cells (⟨1,wd,(n:Int),sig,hi,lo,nn,[]⟩) s0).toArray,s,.pointer (some ⟨S,0,none⟩)] w fun r w'=>r=.returned (.agg (Bt.cells ⟨wd,n⟩).toArray)/\Ext w w':=by
 have hone:(E.cells (⟨1,wd,(n:Int),sig,hi,lo,nn,[]⟩) s0).all (·.oneCell')=true:=by simp [hE0.one,one_int]
 obtain ⟨D,L,F,sv,pv,cv,qS,qD,qL,qSg,qF⟩:=henv
 have HQS:=Jh (fun W (h:Ext w W)=>qS.ext (hx.trans h))
 obtain ⟨ab,bb,ob,capb,rfl,hcb1,hcb2,hba,hbr⟩:=hBt.open
 have HBR:=Jh (fun W (h:Ext w W)=>(hbr.mono fun x _ b o (hh:Has w b o x.cells)=>Has.ext hh h:Rows 2 (BtAt W) _ bb ob))
 have x1:=ext_alloc w (.cells (E.cells (⟨1,wd,(n:Int),sig,hi,lo,nn,[]⟩) s0).toArray 31)
 have x2:=ext_alloc (w.alloc (.cells (E.cells (⟨1,wd,(n:Int),sig,hi,lo,nn,[]⟩) s0).toArray 31)) (.cells #[.int .i64 0,.int .u64 0] 69)
 have hE:=(Blk.new w (E.cells (⟨1,wd,(n:Int),sig,hi,lo,nn,[]⟩) s0).toArray 31).ext x2
 have hR:=Blk.new (w.alloc (.cells (E.cells (⟨1,wd,(n:Int),sig,hi,lo,nn,[]⟩) s0).toArray 31)) #[.int .i64 0,.int .u64 0] 69
 have hX:=x1.trans x2
 simp only [World.size_alloc] at hR
 clear x1 x2
 go_enter Tryz.func59,Tryz.ntmps59
 go_upto_region 1 with fail
 generalize (w.alloc _).alloc _=w0 at *
 have HE:=Jh hE
 have HR:=Jh hR
 have HX:=Jh hX
 have g0:=hE.has 0 _ rfl
 clear hE hR hX
 have g1:=HE.out.has 1 _ rfl
 have g2:=HE.out.has 2 _ rfl
 go_wp2_with (first | ((with_reducible show Js 69);refine wpList_store_blk rfl 69 _ _ rfl (HR.out) rfl (cs:=Bt.cells ⟨wd,n⟩) (rfl) agg_Bits (rfl) rfl (rfl) ?_;intro w4 hb4 hg4) | ((with_reducible show Jl 69);refine Jm 69 (hb4.has) agg_Bits rfl ?_) | ((with_reducible show Js 69);refine wpList_store_blk rfl 69 _ _ rfl (hb4) rfl (cs:=Bt.cells ⟨wd,n⟩) (rfl) agg_Bits (rfl) rfl (rfl) ?_;intro w9 hb9 hg9) | ((with_reducible show bodyPost _ _ _ _ _ _);refine Hid.out ?_))
 refine Jh ?_
 refine post_ret_blk rfl rfl hb9.has agg_Bits rfl rfl ⟨rfl,(HX.out.grown hg4 (by omega)).grown hg9 (by omega)⟩
theorem v2_sig {wb:World} {ls:List Signal} {vs:List Nat} {S:Nat} (hls:∀ x∈ls,1<=x.w/\x.w<=64) (hvals:Vals ls vs) (henv:ValEnv wb ls vs S) {wd v sig hi lo nn:Int} (h0:0<=sig) (h1:sig<ls.length) (hlo:0<=lo) (hlh:lo<=hi) (hhi:hi<sigW ls sig) (s0 s:Value) (w:World) (hx:Ext wb w) (hE0:Es w s0 [])
  (hBt:Bts w s (([]:List E).map (evB vs))) :
  Calls Tryz.prog 59 #[.agg (E.cells (⟨2,wd,v,sig,hi,lo,nn,[]⟩) s0).toArray,s,.pointer (some ⟨S,0,none⟩)] w fun r w'=>r=.returned (.agg (Bt.cells ⟨hi-lo+1,vs.getD sig.toNat 0 / 2^lo.toNat%2^(hi-lo+1).toNat⟩).toArray)/\Ext w w':=by
 have hone:(E.cells (⟨2,wd,v,sig,hi,lo,nn,[]⟩) s0).all (·.oneCell')=true:=by simp [hE0.one,one_int]
 obtain ⟨D,L,F,sv,pv,cv,qS,qD,qL,qSg,qF⟩:=henv
 have HQS:=Jh (fun W (h:Ext w W)=>qS.ext (hx.trans h))
 obtain ⟨ab,bb,ob,capb,rfl,hcb1,hcb2,hba,hbr⟩:=hBt.open
 have HBR:=Jh (fun W (h:Ext w W)=>(hbr.mono fun x _ b o (hh:Has w b o x.cells)=>Has.ext hh h:Rows 2 (BtAt W) _ bb ob))
 have x1:=ext_alloc w (.cells (E.cells (⟨2,wd,v,sig,hi,lo,nn,[]⟩) s0).toArray 31)
 have x2:=ext_alloc (w.alloc (.cells (E.cells (⟨2,wd,v,sig,hi,lo,nn,[]⟩) s0).toArray 31)) (.cells #[.int .i64 0,.int .u64 0] 69)
 have hE:=(Blk.new w (E.cells (⟨2,wd,v,sig,hi,lo,nn,[]⟩) s0).toArray 31).ext x2
 have hR:=Blk.new (w.alloc (.cells (E.cells (⟨2,wd,v,sig,hi,lo,nn,[]⟩) s0).toArray 31)) #[.int .i64 0,.int .u64 0] 69
 have hX:=x1.trans x2
 simp only [World.size_alloc] at hR
 clear x1 x2
 have hokb:Bt.ok ⟨sigW ls sig,vs.getD sig.toNat 0⟩:=by
  obtain ⟨k,hk⟩:=Int.eq_ofNat_of_zero_le h0
  have hlt:k<ls.length:=by omega
  have h2:sigW ls sig=ls[k].w:=by rw [hk];simp [sigW,List.getElem?_eq_getElem hlt]
  have h3:=hls _ (List.getElem_mem hlt)
  exact ⟨by rw [h2];exact h3.1,by rw [h2];exact h3.2,hvals sig h0 h1⟩
 have HSL:=Jh (fun W=>Slice_calls _ hokb hi lo hlo hlh hhi W)
 have HV1:=Jh (fun W (h:Ext w W)=>value1_calls qD qL qSg qF (⟨2,wd,v,sig,hi,lo,nn,[]⟩) (E.cells (⟨2,wd,v,sig,hi,lo,nn,[]⟩) s0) W (hx.trans h) ⟨s0,rfl,hE0.ext h⟩ h0 h1)
 go_enter Tryz.func59,Tryz.ntmps59
 go_upto_region 1 with fail
 generalize (w.alloc _).alloc _=w0 at *
 have HE:=Jh hE
 have HR:=Jh hR
 have HX:=Jh hX
 have g0:=hE.has 0 _ rfl
 clear hE hR hX
 go_wp2_with fail
 refine wp_region_held_drew (S:=fun W=>Ext w W/\Blk W w.heap.size (E.cells (⟨2,wd,v,sig,hi,lo,nn,[]⟩) s0).toArray 31) (by kernel_rfl) ⟨HX.out.drew,HE.out.drew⟩ (fun hH=>?_)
 try simp only [J]
 (refine Jt 0 (.func (.func 58) #[] #[.pointer (some ⟨D,0,none⟩),.pointer (some ⟨L,0,none⟩)]) rfl (yif_load1 rfl (by intro W hW;have y:=(HQS.out W hW.1).has 0 _ rfl;clear hW;go_simp)) hH ?_;try simp only [J])
 (refine Jt 1 (.agg (E.cells (⟨2,wd,v,sig,hi,lo,nn,[]⟩) s0).toArray) rfl (yif_load rfl 31 _ rfl rfl (fun W hW=>hW.2.has) agg_E rfl) hH ?_;try simp only [J])
 (refine Jt 3 (_) rfl (yif_load1 rfl fun _ _=>rfl) hH ?_;try simp only [J])
 (refine Jt 4 (.int .i64 hi) rfl (yif_load1 rfl (by intro W hW;have y:=hW.2.has 4 _ rfl;clear hW;go_simp)) hH ?_;try simp only [J])
 (refine Jt 5 (_) rfl (yif_load1 rfl fun _ _=>rfl) hH ?_;try simp only [J])
 (refine Jt 6 (.int .i64 lo) rfl (yif_load1 rfl (by intro W hW;have y:=hW.2.has 5 _ rfl;clear hW;go_simp)) hH ?_;try simp only [J])
 (refine Jr 2 rfl fun K hK=>?_)
 refine step_call_fv rfl _ _ _ rfl rfl leads_v1 rfl (HV1.out _ hH.1) ?_
 intro w2 hx2
 refine hK.out _ _ ⟨hH.1.trans hx2,hH.2.ext hx2⟩ (fun hH=>?_)
 clear hK K
 try simp only [J]
 (refine Jr 7 rfl fun K hK=>?_)
 go_simp
 refine (HSL.out _).mono ?_
 rintro r w3 ⟨rfl,hx3⟩
 refine hK.out _ _ ⟨hH.1.trans hx3,hH.2.ext hx3⟩ (fun hH=>?_)
 clear hK K
 try simp only [J]
 (refine Jt 8 (.tuple #[.agg (Bt.cells ⟨hi-lo+1,vs.getD sig.toNat 0 / 2^lo.toNat%2^(hi-lo+1).toNat⟩).toArray,.int .i64 0]) rfl (yif_load1 rfl fun _ _=>rfl) hH ?_;try simp only [J])
 (refine Jt 9 (.agg (Bt.cells ⟨hi-lo+1,vs.getD sig.toNat 0 / 2^lo.toNat%2^(hi-lo+1).toNat⟩).toArray) rfl (yif_load1 rfl (by intro W hW;clear hW;go_simp)) hH ?_;try simp only [J])
 (refine Jt 10 (.int .i64 0) rfl (yif_load1 rfl (by intro W hW;clear hW;go_simp)) hH ?_;try simp only [J])
 (refine Jr 11 rfl fun K hK=>?_)
 refine step_store_blk' rfl 69 _ _ rfl ((HR.out.drew.ext hx2).ext hx3) rfl (cs:=Bt.cells ⟨hi-lo+1,vs.getD sig.toNat 0 / 2^lo.toNat%2^(hi-lo+1).toNat⟩) rfl agg_Bits rfl rfl rfl ?_
 intro w4 hb4 hg4
 refine hK.out _ _ ⟨hH.1.grown hg4 (by omega),hH.2.grown hg4 (by omega)⟩ (fun hH=>?_)
 clear hK K
 refine Jz ?_
 go_wp2_with (first | ((with_reducible show Jl 69);refine Jm 69 (hb4.has) agg_Bits rfl ?_) | ((with_reducible show Js 69);refine wpList_store_blk rfl 69 _ _ rfl (hb4) rfl (cs:=Bt.cells ⟨hi-lo+1,vs.getD sig.toNat 0 / 2^lo.toNat%2^(hi-lo+1).toNat⟩) (rfl) agg_Bits (rfl) rfl (rfl) ?_;intro w9 hb9 hg9) | ((with_reducible show bodyPost _ _ _ _ _ _);refine Hid.out ?_))
 refine Jh ?_
 refine post_ret_blk rfl rfl hb9.has agg_Bits rfl rfl ⟨?_,(hH.1).grown hg9 (by omega)⟩
 rfl
theorem v2_idx {wb:World} {ls:List Signal} {vs:List Nat} {S:Nat} (hls:∀ x∈ls,1<=x.w/\x.w<=64) (hvals:Vals ls vs) (henv:ValEnv wb ls vs S) {wd v sig hi lo nn:Int} {x:E} (h0:0<=sig) (h1:sig<ls.length) (s0 s:Value) (w:World) (hx:Ext wb w) (hE0:Es w s0 [x])
  (hBt:Bts w s (([x]:List E).map (evB vs))) :
  Calls Tryz.prog 59 #[.agg (E.cells (⟨3,wd,v,sig,hi,lo,nn,[x]⟩) s0).toArray,s,.pointer (some ⟨S,0,none⟩)] w fun r w'=>r=.returned (.agg (Bt.cells ⟨1,vs.getD sig.toNat 0 / 2^evM vs x%2⟩).toArray)/\Ext w w':=by
 have hone:(E.cells (⟨3,wd,v,sig,hi,lo,nn,[x]⟩) s0).all (·.oneCell')=true:=by simp [hE0.one,one_int]
 obtain ⟨D,L,F,sv,pv,cv,qS,qD,qL,qSg,qF⟩:=henv
 have HQS:=Jh (fun W (h:Ext w W)=>qS.ext (hx.trans h))
 obtain ⟨ab,bb,ob,capb,rfl,hcb1,hcb2,hba,hbr⟩:=hBt.open
 have HBR:=Jh (fun W (h:Ext w W)=>(hbr.mono fun x _ b o (hh:Has w b o x.cells)=>Has.ext hh h:Rows 2 (BtAt W) _ bb ob))
 have x1:=ext_alloc w (.cells (E.cells (⟨3,wd,v,sig,hi,lo,nn,[x]⟩) s0).toArray 31)
 have x2:=ext_alloc (w.alloc (.cells (E.cells (⟨3,wd,v,sig,hi,lo,nn,[x]⟩) s0).toArray 31)) (.cells #[.int .i64 0,.int .u64 0] 69)
 have hE:=(Blk.new w (E.cells (⟨3,wd,v,sig,hi,lo,nn,[x]⟩) s0).toArray 31).ext x2
 have hR:=Blk.new (w.alloc (.cells (E.cells (⟨3,wd,v,sig,hi,lo,nn,[x]⟩) s0).toArray 31)) #[.int .i64 0,.int .u64 0] 69
 have hX:=x1.trans x2
 simp only [World.size_alloc] at hR
 clear x1 x2
 have HV1:=Jh (fun W (h:Ext w W)=>value1_calls qD qL qSg qF (⟨3,wd,v,sig,hi,lo,nn,[x]⟩) (E.cells (⟨3,wd,v,sig,hi,lo,nn,[x]⟩) s0) W (hx.trans h) ⟨s0,rfl,hE0.ext h⟩ h0 h1)
 have hlim:vs.getD sig.toNat 0<2^64:=by
  obtain ⟨k,hk⟩:=Int.eq_ofNat_of_zero_le h0
  have hlt:k<ls.length:=by omega
  have h2:sigW ls sig=ls[k].w:=by rw [hk];simp [sigW,List.getElem?_eq_getElem hlt]
  have h3:=hls _ (List.getElem_mem hlt)
  exact Nat.lt_of_lt_of_le (hvals sig h0 h1) (Nat.pow_le_pow_right (by decide) (by omega))
 obtain rfl:=hba (by simp)
 have H0:=Jh (fun W (h:Ext w W)=>(by have:=Bts.get (HBR.out W h) (k:=0) (by simp);simpa using this:Has W bb (ob) (evB vs x).cells))
 obtain ⟨A,hA⟩:∃ A,vs.getD sig.toNat 0=A:=⟨_,rfl⟩
 obtain ⟨B,hB⟩:∃ B,evM vs x=B:=⟨_,rfl⟩
 have HBX:=Jh (show evB vs x=⟨x.w,B⟩ by unfold evB;rw [hB])
 simp only [HBX.out] at H0
 rw [hA] at HV1 hlim ⊢
 rw [hB]
 have hsh:=sh_shr A B
 obtain ⟨m,hm⟩:∃ m,A / 2^(min B 64)=m:=⟨_,rfl⟩
 rw [hm] at hsh
 have hm64:m<18446744073709551616:=by rw [<-hm];exact Nat.lt_of_le_of_lt (Nat.div_le_self _ _) hlim
 have HRES:=Jh (show bits .and .u64 (m:Int) 1=((m%2:Nat):Int) by
  have:=n_and (a:=m) (b:=1) hm64 (by decide)
  rw [Nat.and_one_is_mod] at this
  exact this)
 have HM:=Jh (show m=A / 2^B by rw [<-hm,shr_val A B hlim])
 clear hm hA hB
 go_enter Tryz.func59,Tryz.ntmps59
 go_upto_region 1 with fail
 generalize (w.alloc _).alloc _=w0 at *
 have HE:=Jh hE
 have HR:=Jh hR
 have HX:=Jh hX
 have g0:=hE.has 0 _ rfl
 clear hE hR hX
 have k0:=HE.out.has
 have k1:=(HQS.out w0 HX.out).has 0 _ rfl
 go_wp2_with (first | ((with_reducible show Jl 31);refine Jm 31 (k0) agg_E rfl ?_) | ((with_reducible show Jw (Op.call { callee:=.value (.tmp _),args:=_,argTypes:=_ }));refine wpList_call_fv rfl _ _ _ rfl rfl leads_v1 rfl (HV1.out _ HX.out) ?_;intro w2 hx2) | ((with_reducible show Js 69);refine wpList_store_new rfl 69 _ _ rfl rfl (by first | rfl | simp) rfl agg_Bits (rfl) rfl (rfl) ?_))
 have hx3:=hx2.alloc (.cells (Bt.cells ⟨sigW ls sig,A⟩).toArray 69)
 have hb3:=Blk.new w2 (Bt.cells ⟨sigW ls sig,A⟩).toArray 69
 have HR3:=Jh (HR.out.ext hx3)
 have HX3:=Jh (HX.out.trans hx3)
 clear k0 k1 hx3
 have hs2:=hx2.size
 have hs0:=HR.out.lt
 generalize w2.alloc _=w3 at *
 generalize w2.heap.size=B2 at *
 refine wp_region_held_drew (S:=fun W=>Ext w W/\Blk W B2 (Bt.cells ⟨sigW ls sig,A⟩).toArray 69) (by kernel_rfl) ⟨HX3.out.drew,hb3.drew⟩ (fun hH=>?_)
 try simp only [J]
 (refine Jt 0 (_) rfl (yif_load1 rfl fun _ _=>rfl) hH ?_;try simp only [J])
 (refine Jt 1 (.int .u64 (A:Int)) rfl (yif_load1 rfl (by intro W hW;have y:=hW.2.has 1 _ rfl;clear hW;go_simp)) hH ?_;try simp only [J])
 (refine Jt 2 (_) rfl (yif_load1 rfl fun _ _=>rfl) hH ?_;try simp only [J])
 (refine Jt 3 (.pointer (some ⟨bb,ob,none⟩)) rfl (yif_load1 rfl (by intro W hW;clear hW;go_simp)) hH ?_;try simp only [J])
 (refine Jt 4 (.pointer (some ⟨bb,ob+1,none⟩)) rfl (yif_load1 rfl (by intro W hW;clear hW;go_simp)) hH ?_;try simp only [J])
 (refine Jt 5 (.int .u64 (B:Int)) rfl (yif_load1 rfl (by intro W hW;have y:=H0.out W hW.1 1 _ rfl;clear hW;go_simp)) hH ?_;try simp only [J])
 (refine Jt 6 (.int .u64 (m:Int)) rfl (yif_load1 rfl (by intro W hW;clear hW;go_simp)) hH ?_;try simp only [J])
 (refine Jt 7 (.int .u64 ((m%2:Nat):Int)) rfl (yif_load1 rfl (by intro W hW;clear hW;go_simp;exact HRES.out)) hH ?_;try simp only [J])
 (refine Jt 8 (.agg (Bt.cells ⟨1,m%2⟩).toArray) rfl (yif_load1 rfl (by intro W hW;clear hW;go_simp)) hH ?_;try simp only [J])
 (refine Jr 9 rfl fun K hK=>?_)
 refine step_store_blk' rfl 69 _ _ rfl HR3.out.drew rfl (cs:=Bt.cells ⟨1,m%2⟩) rfl agg_Bits rfl rfl rfl ?_
 intro w4 hb4 hg4
 refine hK.out _ _ ⟨hH.1.grown hg4 (by omega),hH.2.grown hg4 (by omega)⟩ (fun hH=>?_)
 clear hK K
 refine Jz ?_
 go_wp2_with (first | ((with_reducible show Jl 69);refine Jm 69 (hb4.has) agg_Bits rfl ?_) | ((with_reducible show Js 69);refine wpList_store_blk rfl 69 _ _ rfl (hb4) rfl (cs:=Bt.cells ⟨1,m%2⟩) (rfl) agg_Bits (rfl) rfl (rfl) ?_;intro w9 hb9 hg9) | ((with_reducible show bodyPost _ _ _ _ _ _);refine Hid.out ?_))
 refine Jh ?_
 refine post_ret_blk rfl rfl hb9.has agg_Bits rfl rfl ⟨?_,(hH.1).grown hg9 (by omega)⟩
 rw [HM.out]
theorem v2_un {wb:World} {ls:List Signal} {vs:List Nat} {S:Nat} (hls:∀ x∈ls,1<=x.w/\x.w<=64) (hvals:Vals ls vs) (henv:ValEnv wb ls vs S) {wd v sig hi lo nn:Int} {x:E} (hxo:(evB vs x).ok) (h0:1<=nn) (h1:nn<=6) (h6:nn=6->x.w=1) (s0 s:Value) (w:World) (hx:Ext wb w) (hE0:Es w s0 [x])
  (hBt:Bts w s (([x]:List E).map (evB vs))) :
  Calls Tryz.prog 59 #[.agg (E.cells (⟨4,wd,v,sig,hi,lo,nn,[x]⟩) s0).toArray,s,.pointer (some ⟨S,0,none⟩)] w fun r w'=>r=.returned (.agg (Bt.cells ⟨unW nn x.w,unM nn x.w.toNat (evM vs x)⟩).toArray)/\Ext w w':=by
 have hone:(E.cells (⟨4,wd,v,sig,hi,lo,nn,[x]⟩) s0).all (·.oneCell')=true:=by simp [hE0.one,one_int]
 obtain ⟨D,L,F,sv,pv,cv,qS,qD,qL,qSg,qF⟩:=henv
 have HQS:=Jh (fun W (h:Ext w W)=>qS.ext (hx.trans h))
 obtain ⟨ab,bb,ob,capb,rfl,hcb1,hcb2,hba,hbr⟩:=hBt.open
 have HBR:=Jh (fun W (h:Ext w W)=>(hbr.mono fun x _ b o (hh:Has w b o x.cells)=>Has.ext hh h:Rows 2 (BtAt W) _ bb ob))
 have x1:=ext_alloc w (.cells (E.cells (⟨4,wd,v,sig,hi,lo,nn,[x]⟩) s0).toArray 31)
 have x2:=ext_alloc (w.alloc (.cells (E.cells (⟨4,wd,v,sig,hi,lo,nn,[x]⟩) s0).toArray 31)) (.cells #[.int .i64 0,.int .u64 0] 69)
 have hE:=(Blk.new w (E.cells (⟨4,wd,v,sig,hi,lo,nn,[x]⟩) s0).toArray 31).ext x2
 have hR:=Blk.new (w.alloc (.cells (E.cells (⟨4,wd,v,sig,hi,lo,nn,[x]⟩) s0).toArray 31)) #[.int .i64 0,.int .u64 0] 69
 have hX:=x1.trans x2
 simp only [World.size_alloc] at hR
 clear x1 x2
 have HU:=Jh (fun W=>Un_calls nn h0 h1 (evB vs x) hxo h6 W)
 obtain rfl:=hba (by simp)
 have H0:=Jh (fun W (h:Ext w W)=>(by have:=Bts.get (HBR.out W h) (k:=0) (by simp);simpa using this:Has W bb (ob) (evB vs x).cells))
 go_enter Tryz.func59,Tryz.ntmps59
 go_upto_region 1 with fail
 generalize (w.alloc _).alloc _=w0 at *
 have HE:=Jh hE
 have HR:=Jh hR
 have HX:=Jh hX
 have g0:=hE.has 0 _ rfl
 clear hE hR hX
 go_wp2_with fail
 refine wp_region_held_drew (S:=fun W=>Ext w W/\Blk W w.heap.size (E.cells (⟨4,wd,v,sig,hi,lo,nn,[x]⟩) s0).toArray 31) (by kernel_rfl) ⟨HX.out.drew,HE.out.drew⟩ (fun hH=>?_)
 try simp only [J]
 (refine Jt 0 (_) rfl (yif_load1 rfl fun _ _=>rfl) hH ?_;try simp only [J])
 (refine Jt 1 (.int .i64 nn) rfl (yif_load1 rfl (by intro W hW;have y:=hW.2.has 6 _ rfl;clear hW;go_simp)) hH ?_;try simp only [J])
 (refine Jt 2 (_) rfl (yif_load1 rfl fun _ _=>rfl) hH ?_;try simp only [J])
 (refine Jt 3 (.pointer (some ⟨bb,ob,none⟩)) rfl (yif_load1 rfl (by intro W hW;clear hW;go_simp)) hH ?_;try simp only [J])
 (refine Jt 4 (.agg (evB vs x).cells.toArray) rfl (yif_load rfl 69 _ rfl rfl (fun W hW=>H0.out W hW.1) agg_Bits rfl) hH ?_;try simp only [J])
 (refine Jr 5 rfl fun K hK=>?_)
 go_simp
 refine (HU.out _).mono ?_
 rintro r w3 ⟨rfl,hx3⟩
 refine hK.out _ _ ⟨hH.1.trans hx3,hH.2.ext hx3⟩ (fun hH=>?_)
 clear hK K
 try simp only [J]
 (refine Jt 6 (.tuple #[.agg (Bt.cells ⟨unW nn (evB vs x).w,unM nn (evB vs x).w.toNat (evB vs x).v⟩).toArray,.int .i64 0]) rfl (yif_load1 rfl fun _ _=>rfl) hH ?_;try simp only [J])
 (refine Jt 7 (.agg (Bt.cells ⟨unW nn (evB vs x).w,unM nn (evB vs x).w.toNat (evB vs x).v⟩).toArray) rfl (yif_load1 rfl (by intro W hW;clear hW;go_simp)) hH ?_;try simp only [J])
 (refine Jt 8 (.int .i64 0) rfl (yif_load1 rfl (by intro W hW;clear hW;go_simp)) hH ?_;try simp only [J])
 (refine Jr 9 rfl fun K hK=>?_)
 refine step_store_blk' rfl 69 _ _ rfl (HR.out.drew.ext hx3) rfl (cs:=Bt.cells ⟨unW nn (evB vs x).w,unM nn (evB vs x).w.toNat (evB vs x).v⟩) rfl agg_Bits rfl rfl rfl ?_
 intro w4 hb4 hg4
 refine hK.out _ _ ⟨hH.1.grown hg4 (by omega),hH.2.grown hg4 (by omega)⟩ (fun hH=>?_)
 clear hK K
 refine Jz ?_
 go_wp2_with (first | ((with_reducible show Jl 69);refine Jm 69 (hb4.has) agg_Bits rfl ?_) | ((with_reducible show Js 69);refine wpList_store_blk rfl 69 _ _ rfl (hb4) rfl (cs:=Bt.cells ⟨unW nn (evB vs x).w,unM nn (evB vs x).w.toNat (evB vs x).v⟩) (rfl) agg_Bits (rfl) rfl (rfl) ?_;intro w9 hb9 hg9) | ((with_reducible show bodyPost _ _ _ _ _ _);refine Hid.out ?_))
 refine Jh ?_
 refine post_ret_blk rfl rfl hb9.has agg_Bits rfl rfl ⟨?_,(hH.1).grown hg9 (by omega)⟩
 rfl
theorem v2_bin {wb:World} {ls:List Signal} {vs:List Nat} {S:Nat} (hls:∀ x∈ls,1<=x.w/\x.w<=64) (hvals:Vals ls vs) (henv:ValEnv wb ls vs S) {wd v sig hi lo nn:Int} {x y:E} (hxo:(evB vs x).ok) (hyo:(evB vs y).ok) (h0:11<=nn) (h1:nn<=26) (hxy:nn≠17->nn≠18->x.w=y.w) (h25:25<=nn->x.w=1) (s0 s:Value) (w:World) (hx:Ext wb w) (hE0:Es w s0 [x,y])
  (hBt:Bts w s (([x,y]:List E).map (evB vs))) :
  Calls Tryz.prog 59 #[.agg (E.cells (⟨5,wd,v,sig,hi,lo,nn,[x,y]⟩) s0).toArray,s,.pointer (some ⟨S,0,none⟩)] w fun r w'=>r=.returned (.agg (Bt.cells ⟨binW nn x.w,binM nn x.w.toNat (evM vs x) (evM vs y)⟩).toArray)/\Ext w w':=by
 have hone:(E.cells (⟨5,wd,v,sig,hi,lo,nn,[x,y]⟩) s0).all (·.oneCell')=true:=by simp [hE0.one,one_int]
 obtain ⟨D,L,F,sv,pv,cv,qS,qD,qL,qSg,qF⟩:=henv
 have HQS:=Jh (fun W (h:Ext w W)=>qS.ext (hx.trans h))
 obtain ⟨ab,bb,ob,capb,rfl,hcb1,hcb2,hba,hbr⟩:=hBt.open
 have HBR:=Jh (fun W (h:Ext w W)=>(hbr.mono fun x _ b o (hh:Has w b o x.cells)=>Has.ext hh h:Rows 2 (BtAt W) _ bb ob))
 have x1:=ext_alloc w (.cells (E.cells (⟨5,wd,v,sig,hi,lo,nn,[x,y]⟩) s0).toArray 31)
 have x2:=ext_alloc (w.alloc (.cells (E.cells (⟨5,wd,v,sig,hi,lo,nn,[x,y]⟩) s0).toArray 31)) (.cells #[.int .i64 0,.int .u64 0] 69)
 have hE:=(Blk.new w (E.cells (⟨5,wd,v,sig,hi,lo,nn,[x,y]⟩) s0).toArray 31).ext x2
 have hR:=Blk.new (w.alloc (.cells (E.cells (⟨5,wd,v,sig,hi,lo,nn,[x,y]⟩) s0).toArray 31)) #[.int .i64 0,.int .u64 0] 69
 have hX:=x1.trans x2
 simp only [World.size_alloc] at hR
 clear x1 x2
 have HU:=Jh (fun W=>Bin_calls nn h0 h1 (evB vs x) (evB vs y) hxo hyo hxy h25 W)
 obtain rfl:=hba (by simp)
 have H0:=Jh (fun W (h:Ext w W)=>(by have:=Bts.get (HBR.out W h) (k:=0) (by simp);simpa using this:Has W bb (ob) (evB vs x).cells))
 have H1:=Jh (fun W (h:Ext w W)=>(by have:=Bts.get (HBR.out W h) (k:=1) (by simp);simpa using this:Has W bb (ob+2) (evB vs y).cells))
 go_enter Tryz.func59,Tryz.ntmps59
 go_upto_region 1 with fail
 generalize (w.alloc _).alloc _=w0 at *
 have HE:=Jh hE
 have HR:=Jh hR
 have HX:=Jh hX
 have g0:=hE.has 0 _ rfl
 clear hE hR hX
 go_wp2_with fail
 refine wp_region_held_drew (S:=fun W=>Ext w W/\Blk W w.heap.size (E.cells (⟨5,wd,v,sig,hi,lo,nn,[x,y]⟩) s0).toArray 31) (by kernel_rfl) ⟨HX.out.drew,HE.out.drew⟩ (fun hH=>?_)
 try simp only [J]
 (refine Jt 0 (_) rfl (yif_load1 rfl fun _ _=>rfl) hH ?_;try simp only [J])
 (refine Jt 1 (.int .i64 nn) rfl (yif_load1 rfl (by intro W hW;have y:=hW.2.has 6 _ rfl;clear hW;go_simp)) hH ?_;try simp only [J])
 (refine Jt 2 (_) rfl (yif_load1 rfl fun _ _=>rfl) hH ?_;try simp only [J])
 (refine Jt 3 (.pointer (some ⟨bb,ob,none⟩)) rfl (yif_load1 rfl (by intro W hW;clear hW;go_simp)) hH ?_;try simp only [J])
 (refine Jt 4 (.agg (evB vs x).cells.toArray) rfl (yif_load rfl 69 _ rfl rfl (fun W hW=>H0.out W hW.1) agg_Bits rfl) hH ?_;try simp only [J])
 (refine Jt 5 (_) rfl (yif_load1 rfl fun _ _=>rfl) hH ?_;try simp only [J])
 (refine Jt 6 (.pointer (some ⟨bb,ob+2,none⟩)) rfl (yif_load1 rfl (by intro W hW;clear hW;go_simp)) hH ?_;try simp only [J])
 (refine Jt 7 (.agg (evB vs y).cells.toArray) rfl (yif_load rfl 69 _ rfl rfl (fun W hW=>H1.out W hW.1) agg_Bits rfl) hH ?_;try simp only [J])
 (refine Jr 8 rfl fun K hK=>?_)
 go_simp
 refine (HU.out _).mono ?_
 rintro r w3 ⟨rfl,hx3⟩
 refine hK.out _ _ ⟨hH.1.trans hx3,hH.2.ext hx3⟩ (fun hH=>?_)
 clear hK K
 try simp only [J]
 (refine Jt 9 (.tuple #[.agg (Bt.cells ⟨binW nn (evB vs x).w,binM nn (evB vs x).w.toNat (evB vs x).v (evB vs y).v⟩).toArray,.int .i64 0]) rfl (yif_load1 rfl fun _ _=>rfl) hH ?_;try simp only [J])
 (refine Jt 10 (.agg (Bt.cells ⟨binW nn (evB vs x).w,binM nn (evB vs x).w.toNat (evB vs x).v (evB vs y).v⟩).toArray) rfl (yif_load1 rfl (by intro W hW;clear hW;go_simp)) hH ?_;try simp only [J])
 (refine Jt 11 (.int .i64 0) rfl (yif_load1 rfl (by intro W hW;clear hW;go_simp)) hH ?_;try simp only [J])
 (refine Jr 12 rfl fun K hK=>?_)
 refine step_store_blk' rfl 69 _ _ rfl (HR.out.drew.ext hx3) rfl (cs:=Bt.cells ⟨binW nn (evB vs x).w,binM nn (evB vs x).w.toNat (evB vs x).v (evB vs y).v⟩) rfl agg_Bits rfl rfl rfl ?_
 intro w4 hb4 hg4
 refine hK.out _ _ ⟨hH.1.grown hg4 (by omega),hH.2.grown hg4 (by omega)⟩ (fun hH=>?_)
 clear hK K
 refine Jz ?_
 go_wp2_with (first | ((with_reducible show Jl 69);refine Jm 69 (hb4.has) agg_Bits rfl ?_) | ((with_reducible show Js 69);refine wpList_store_blk rfl 69 _ _ rfl (hb4) rfl (cs:=Bt.cells ⟨binW nn (evB vs x).w,binM nn (evB vs x).w.toNat (evB vs x).v (evB vs y).v⟩) (rfl) agg_Bits (rfl) rfl (rfl) ?_;intro w9 hb9 hg9) | ((with_reducible show bodyPost _ _ _ _ _ _);refine Hid.out ?_))
 refine Jh ?_
 refine post_ret_blk rfl rfl hb9.has agg_Bits rfl rfl ⟨?_,(hH.1).grown hg9 (by omega)⟩
 rfl
theorem v2_cond {wb:World} {ls:List Signal} {vs:List Nat} {S:Nat} (hls:∀ x∈ls,1<=x.w/\x.w<=64) (hvals:Vals ls vs) (henv:ValEnv wb ls vs S) {wd v sig hi lo nn:Int} {c x y:E} (hco:(evB vs c).ok) (hxo:(evB vs x).ok) (hyo:(evB vs y).ok) (hc1:c.w=1) (hxy:x.w=y.w) (s0 s:Value) (w:World) (hx:Ext wb w) (hE0:Es w s0 [c,x,y])
  (hBt:Bts w s (([c,x,y]:List E).map (evB vs))) :
  Calls Tryz.prog 59 #[.agg (E.cells (⟨6,wd,v,sig,hi,lo,nn,[c,x,y]⟩) s0).toArray,s,.pointer (some ⟨S,0,none⟩)] w fun r w'=>r=.returned (.agg (Bt.cells ⟨x.w,if evM vs c=1 then evM vs x else evM vs y⟩).toArray)/\Ext w w':=by
 have hone:(E.cells (⟨6,wd,v,sig,hi,lo,nn,[c,x,y]⟩) s0).all (·.oneCell')=true:=by simp [hE0.one,one_int]
 obtain ⟨D,L,F,sv,pv,cv,qS,qD,qL,qSg,qF⟩:=henv
 have HQS:=Jh (fun W (h:Ext w W)=>qS.ext (hx.trans h))
 obtain ⟨ab,bb,ob,capb,rfl,hcb1,hcb2,hba,hbr⟩:=hBt.open
 have HBR:=Jh (fun W (h:Ext w W)=>(hbr.mono fun x _ b o (hh:Has w b o x.cells)=>Has.ext hh h:Rows 2 (BtAt W) _ bb ob))
 have x1:=ext_alloc w (.cells (E.cells (⟨6,wd,v,sig,hi,lo,nn,[c,x,y]⟩) s0).toArray 31)
 have x2:=ext_alloc (w.alloc (.cells (E.cells (⟨6,wd,v,sig,hi,lo,nn,[c,x,y]⟩) s0).toArray 31)) (.cells #[.int .i64 0,.int .u64 0] 69)
 have hE:=(Blk.new w (E.cells (⟨6,wd,v,sig,hi,lo,nn,[c,x,y]⟩) s0).toArray 31).ext x2
 have hR:=Blk.new (w.alloc (.cells (E.cells (⟨6,wd,v,sig,hi,lo,nn,[c,x,y]⟩) s0).toArray 31)) #[.int .i64 0,.int .u64 0] 69
 have hX:=x1.trans x2
 simp only [World.size_alloc] at hR
 clear x1 x2
 have HU0:=fun W=>Cond_calls (evB vs c) (evB vs x) (evB vs y) hco hxo hyo hc1 hxy W
 obtain ⟨RES,hres⟩:∃ b:Bt,(⟨x.w,if evM vs c=1 then evM vs x else evM vs y⟩:Bt)=b:=⟨_,rfl⟩
 change ∀ W,Calls Tryz.prog _ _ W (BtPost W ⟨x.w,if evM vs c=1 then evM vs x else evM vs y⟩) at HU0
 rw [hres] at HU0 ⊢
 have HU:=Jh HU0
 clear HU0 hres hxy hc1
 obtain rfl:=hba (by simp)
 have H0:=Jh (fun W (h:Ext w W)=>(by have:=Bts.get (HBR.out W h) (k:=0) (by simp);simpa using this:Has W bb (ob) (evB vs c).cells))
 have H1:=Jh (fun W (h:Ext w W)=>(by have:=Bts.get (HBR.out W h) (k:=1) (by simp);simpa using this:Has W bb (ob+2) (evB vs x).cells))
 have H2:=Jh (fun W (h:Ext w W)=>(by have:=Bts.get (HBR.out W h) (k:=2) (by simp);simpa using this:Has W bb (ob+4) (evB vs y).cells))
 go_enter Tryz.func59,Tryz.ntmps59
 go_upto_region 1 with fail
 generalize (w.alloc _).alloc _=w0 at *
 have HE:=Jh hE
 have HR:=Jh hR
 have HX:=Jh hX
 have g0:=hE.has 0 _ rfl
 clear hE hR hX
 go_wp2_with fail
 refine wp_region_held_drew (S:=fun W=>Ext w W/\Blk W w.heap.size (E.cells (⟨6,wd,v,sig,hi,lo,nn,[c,x,y]⟩) s0).toArray 31) (by kernel_rfl) ⟨HX.out.drew,HE.out.drew⟩ (fun hH=>?_)
 try simp only [J]
 (refine Jt 0 (_) rfl (yif_load1 rfl fun _ _=>rfl) hH ?_;try simp only [J])
 (refine Jt 1 (.pointer (some ⟨bb,ob,none⟩)) rfl (yif_load1 rfl (by intro W hW;clear hW;go_simp)) hH ?_;try simp only [J])
 (refine Jt 2 (.agg (evB vs c).cells.toArray) rfl (yif_load rfl 69 _ rfl rfl (fun W hW=>H0.out W hW.1) agg_Bits rfl) hH ?_;try simp only [J])
 (refine Jt 3 (_) rfl (yif_load1 rfl fun _ _=>rfl) hH ?_;try simp only [J])
 (refine Jt 4 (.pointer (some ⟨bb,ob+2,none⟩)) rfl (yif_load1 rfl (by intro W hW;clear hW;go_simp)) hH ?_;try simp only [J])
 (refine Jt 5 (.agg (evB vs x).cells.toArray) rfl (yif_load rfl 69 _ rfl rfl (fun W hW=>H1.out W hW.1) agg_Bits rfl) hH ?_;try simp only [J])
 (refine Jt 6 (_) rfl (yif_load1 rfl fun _ _=>rfl) hH ?_;try simp only [J])
 (refine Jt 7 (.pointer (some ⟨bb,ob+4,none⟩)) rfl (yif_load1 rfl (by intro W hW;clear hW;go_simp)) hH ?_;try simp only [J])
 (refine Jt 8 (.agg (evB vs y).cells.toArray) rfl (yif_load rfl 69 _ rfl rfl (fun W hW=>H2.out W hW.1) agg_Bits rfl) hH ?_;try simp only [J])
 (refine Jr 9 rfl fun K hK=>?_)
 go_simp
 refine (HU.out _).mono ?_
 rintro r w3 ⟨rfl,hx3⟩
 refine hK.out _ _ ⟨hH.1.trans hx3,hH.2.ext hx3⟩ (fun hH=>?_)
 clear hK K
 try simp only [J]
 (refine Jt 10 (.tuple #[.agg (Bt.cells RES).toArray,.int .i64 0]) rfl (yif_load1 rfl fun _ _=>rfl) hH ?_;try simp only [J])
 (refine Jt 11 (.agg (Bt.cells RES).toArray) rfl (yif_load1 rfl (by intro W hW;clear hW;go_simp)) hH ?_;try simp only [J])
 (refine Jt 12 (.int .i64 0) rfl (yif_load1 rfl (by intro W hW;clear hW;go_simp)) hH ?_;try simp only [J])
 (refine Jr 13 rfl fun K hK=>?_)
 refine step_store_blk' rfl 69 _ _ rfl (HR.out.drew.ext hx3) rfl (cs:=Bt.cells RES) rfl agg_Bits rfl rfl rfl ?_
 intro w4 hb4 hg4
 refine hK.out _ _ ⟨hH.1.grown hg4 (by omega),hH.2.grown hg4 (by omega)⟩ (fun hH=>?_)
 clear hK K
 refine Jz ?_
 go_wp2_with (first | ((with_reducible show Jl 69);refine Jm 69 (hb4.has) agg_Bits rfl ?_) | ((with_reducible show Js 69);refine wpList_store_blk rfl 69 _ _ rfl (hb4) rfl (cs:=Bt.cells RES) (rfl) agg_Bits (rfl) rfl (rfl) ?_;intro w9 hb9 hg9) | ((with_reducible show bodyPost _ _ _ _ _ _);refine Hid.out ?_))
 refine Jh ?_
 refine post_ret_blk rfl rfl hb9.has agg_Bits rfl rfl ⟨?_,(hH.1).grown hg9 (by omega)⟩
 rfl
theorem v2_cat {wb:World} {ls:List Signal} {vs:List Nat} {S:Nat} (hls:∀ x∈ls,1<=x.w/\x.w<=64) (hvals:Vals ls vs) (henv:ValEnv wb ls vs S) {wd v sig hi lo nn:Int} {l:List E} (hlo:∀ x∈l.map (evB vs),x.ok) (hl0:l.map (evB vs)≠[]) (hw:catW (l.map (evB vs))<=64) (s0 s:Value) (w:World) (hx:Ext wb w) (hE0:Es w s0 l)
  (hBt:Bts w s ((l:List E).map (evB vs))) :
  Calls Tryz.prog 59 #[.agg (E.cells (⟨7,wd,v,sig,hi,lo,nn,l⟩) s0).toArray,s,.pointer (some ⟨S,0,none⟩)] w fun r w'=>r=.returned (.agg (Bt.cells ⟨catW (l.map (evB vs)),catM (catP (l.map (evB vs))) 0⟩).toArray)/\Ext w w':=by
 have hone:(E.cells (⟨7,wd,v,sig,hi,lo,nn,l⟩) s0).all (·.oneCell')=true:=by simp [hE0.one,one_int]
 obtain ⟨D,L,F,sv,pv,cv,qS,qD,qL,qSg,qF⟩:=henv
 have HQS:=Jh (fun W (h:Ext w W)=>qS.ext (hx.trans h))
 obtain ⟨ab,bb,ob,capb,rfl,hcb1,hcb2,hba,hbr⟩:=hBt.open
 have HBR:=Jh (fun W (h:Ext w W)=>(hbr.mono fun x _ b o (hh:Has w b o x.cells)=>Has.ext hh h:Rows 2 (BtAt W) _ bb ob))
 have x1:=ext_alloc w (.cells (E.cells (⟨7,wd,v,sig,hi,lo,nn,l⟩) s0).toArray 31)
 have x2:=ext_alloc (w.alloc (.cells (E.cells (⟨7,wd,v,sig,hi,lo,nn,l⟩) s0).toArray 31)) (.cells #[.int .i64 0,.int .u64 0] 69)
 have hE:=(Blk.new w (E.cells (⟨7,wd,v,sig,hi,lo,nn,l⟩) s0).toArray 31).ext x2
 have hR:=Blk.new (w.alloc (.cells (E.cells (⟨7,wd,v,sig,hi,lo,nn,l⟩) s0).toArray 31)) #[.int .i64 0,.int .u64 0] 69
 have hX:=x1.trans x2
 simp only [World.size_alloc] at hR
 clear x1 x2
 have HU:=Jh (fun W (h:Ext w W)=>Cat_calls (l.map (evB vs)) hlo hl0 hw _ W (hBt.ext h))
 obtain ⟨RES,hres⟩:∃ b:Bt,(⟨catW (l.map (evB vs)),catM (catP (l.map (evB vs))) 0⟩:Bt)=b:=⟨_,rfl⟩
 rw [hres] at HU ⊢
 clear hres
 simp only [List.length_map] at HU ⊢
 go_enter Tryz.func59,Tryz.ntmps59
 go_upto_region 1 with fail
 generalize (w.alloc _).alloc _=w0 at *
 have HE:=Jh hE
 have HR:=Jh hR
 have HX:=Jh hX
 have g0:=hE.has 0 _ rfl
 clear hE hR hX
 go_wp2_with (first | (go_at_call 64;refine (HU.out _ HX.out).mono ?_;rintro r w3 ⟨rfl,hx3⟩) | ((with_reducible show Js 69);refine wpList_store_blk rfl 69 _ _ rfl (HR.out.ext hx3) rfl (cs:=RES.cells) (rfl) agg_Bits (rfl) rfl (rfl) ?_;intro w4 hb4 hg4) | ((with_reducible show Jl 69);refine Jm 69 (hb4.has) agg_Bits rfl ?_) | ((with_reducible show Js 69);refine wpList_store_blk rfl 69 _ _ rfl (hb4) rfl (cs:=RES.cells) (rfl) agg_Bits (rfl) rfl (rfl) ?_;intro w9 hb9 hg9) | ((with_reducible show bodyPost _ _ _ _ _ _);refine Hid.out ?_))
 refine Jh ?_
 refine post_ret_blk rfl rfl hb9.has agg_Bits rfl rfl ⟨rfl,((HX.out.trans hx3).grown hg4 (by omega)).grown hg9 (by omega)⟩
theorem v2_ext {wb:World} {ls:List Signal} {vs:List Nat} {S:Nat} (hls:∀ x∈ls,1<=x.w/\x.w<=64) (hvals:Vals ls vs) (henv:ValEnv wb ls vs S) {wd v sig hi lo nn:Int} {x:E} (hxo:(evB vs x).ok) (h0:31<=nn) (h1:nn<=33) (hw1:1<=wd) (hw2:wd<=64) (hz:nn≠33->x.w<=wd) (hc:nn=33->wd<=x.w) (s0 s:Value) (w:World) (hx:Ext wb w) (hE0:Es w s0 [x])
  (hBt:Bts w s (([x]:List E).map (evB vs))) :
  Calls Tryz.prog 59 #[.agg (E.cells (⟨8,wd,v,sig,hi,lo,nn,[x]⟩) s0).toArray,s,.pointer (some ⟨S,0,none⟩)] w fun r w'=>r=.returned (.agg (Bt.cells ⟨wd,extN nn wd.toNat x.w.toNat (evM vs x)⟩).toArray)/\Ext w w':=by
 have hone:(E.cells (⟨8,wd,v,sig,hi,lo,nn,[x]⟩) s0).all (·.oneCell')=true:=by simp [hE0.one,one_int]
 obtain ⟨D,L,F,sv,pv,cv,qS,qD,qL,qSg,qF⟩:=henv
 have HQS:=Jh (fun W (h:Ext w W)=>qS.ext (hx.trans h))
 obtain ⟨ab,bb,ob,capb,rfl,hcb1,hcb2,hba,hbr⟩:=hBt.open
 have HBR:=Jh (fun W (h:Ext w W)=>(hbr.mono fun x _ b o (hh:Has w b o x.cells)=>Has.ext hh h:Rows 2 (BtAt W) _ bb ob))
 have x1:=ext_alloc w (.cells (E.cells (⟨8,wd,v,sig,hi,lo,nn,[x]⟩) s0).toArray 31)
 have x2:=ext_alloc (w.alloc (.cells (E.cells (⟨8,wd,v,sig,hi,lo,nn,[x]⟩) s0).toArray 31)) (.cells #[.int .i64 0,.int .u64 0] 69)
 have hE:=(Blk.new w (E.cells (⟨8,wd,v,sig,hi,lo,nn,[x]⟩) s0).toArray 31).ext x2
 have hR:=Blk.new (w.alloc (.cells (E.cells (⟨8,wd,v,sig,hi,lo,nn,[x]⟩) s0).toArray 31)) #[.int .i64 0,.int .u64 0] 69
 have hX:=x1.trans x2
 simp only [World.size_alloc] at hR
 clear x1 x2
 have HU:=Jh (fun W=>Ext_calls nn wd h0 h1 hw1 hw2 (evB vs x) hxo hz hc W)
 obtain rfl:=hba (by simp)
 have H0:=Jh (fun W (h:Ext w W)=>(by have:=Bts.get (HBR.out W h) (k:=0) (by simp);simpa using this:Has W bb (ob) (evB vs x).cells))
 go_enter Tryz.func59,Tryz.ntmps59
 go_upto_region 1 with fail
 generalize (w.alloc _).alloc _=w0 at *
 have HE:=Jh hE
 have HR:=Jh hR
 have HX:=Jh hX
 have g0:=hE.has 0 _ rfl
 clear hE hR hX
 go_wp2_with fail
 refine wp_region_held_drew (S:=fun W=>Ext w W/\Blk W w.heap.size (E.cells (⟨8,wd,v,sig,hi,lo,nn,[x]⟩) s0).toArray 31) (by kernel_rfl) ⟨HX.out.drew,HE.out.drew⟩ (fun hH=>?_)
 try simp only [J]
 (refine Jt 0 (_) rfl (yif_load1 rfl fun _ _=>rfl) hH ?_;try simp only [J])
 (refine Jt 1 (.int .i64 nn) rfl (yif_load1 rfl (by intro W hW;have y:=hW.2.has 6 _ rfl;clear hW;go_simp)) hH ?_;try simp only [J])
 (refine Jt 2 (_) rfl (yif_load1 rfl fun _ _=>rfl) hH ?_;try simp only [J])
 (refine Jt 3 (.int .i64 wd) rfl (yif_load1 rfl (by intro W hW;have y:=hW.2.has 1 _ rfl;clear hW;go_simp)) hH ?_;try simp only [J])
 (refine Jt 4 (_) rfl (yif_load1 rfl fun _ _=>rfl) hH ?_;try simp only [J])
 (refine Jt 5 (.pointer (some ⟨bb,ob,none⟩)) rfl (yif_load1 rfl (by intro W hW;clear hW;go_simp)) hH ?_;try simp only [J])
 (refine Jt 6 (.agg (evB vs x).cells.toArray) rfl (yif_load rfl 69 _ rfl rfl (fun W hW=>H0.out W hW.1) agg_Bits rfl) hH ?_;try simp only [J])
 (refine Jr 7 rfl fun K hK=>?_)
 go_simp
 refine (HU.out _).mono ?_
 rintro r w3 ⟨rfl,hx3⟩
 refine hK.out _ _ ⟨hH.1.trans hx3,hH.2.ext hx3⟩ (fun hH=>?_)
 clear hK K
 try simp only [J]
 (refine Jt 8 (.tuple #[.agg (Bt.cells ⟨wd,extN nn wd.toNat (evB vs x).w.toNat (evB vs x).v⟩).toArray,.int .i64 0]) rfl (yif_load1 rfl fun _ _=>rfl) hH ?_;try simp only [J])
 (refine Jt 9 (.agg (Bt.cells ⟨wd,extN nn wd.toNat (evB vs x).w.toNat (evB vs x).v⟩).toArray) rfl (yif_load1 rfl (by intro W hW;clear hW;go_simp)) hH ?_;try simp only [J])
 (refine Jt 10 (.int .i64 0) rfl (yif_load1 rfl (by intro W hW;clear hW;go_simp)) hH ?_;try simp only [J])
 (refine Jr 11 rfl fun K hK=>?_)
 refine step_store_blk' rfl 69 _ _ rfl (HR.out.drew.ext hx3) rfl (cs:=Bt.cells ⟨wd,extN nn wd.toNat (evB vs x).w.toNat (evB vs x).v⟩) rfl agg_Bits rfl rfl rfl ?_
 intro w4 hb4 hg4
 refine hK.out _ _ ⟨hH.1.grown hg4 (by omega),hH.2.grown hg4 (by omega)⟩ (fun hH=>?_)
 clear hK K
 refine Jz ?_
 go_wp2_with (first | ((with_reducible show Jl 69);refine Jm 69 (hb4.has) agg_Bits rfl ?_) | ((with_reducible show Js 69);refine wpList_store_blk rfl 69 _ _ rfl (hb4) rfl (cs:=Bt.cells ⟨wd,extN nn wd.toNat (evB vs x).w.toNat (evB vs x).v⟩) (rfl) agg_Bits (rfl) rfl (rfl) ?_;intro w9 hb9 hg9) | ((with_reducible show bodyPost _ _ _ _ _ _);refine Hid.out ?_))
 refine Jh ?_
 refine post_ret_blk rfl rfl hb9.has agg_Bits rfl rfl ⟨?_,(hH.1).grown hg9 (by omega)⟩
 rfl
end Go.Proofs.YtpngepnfinbaoaaGreat
