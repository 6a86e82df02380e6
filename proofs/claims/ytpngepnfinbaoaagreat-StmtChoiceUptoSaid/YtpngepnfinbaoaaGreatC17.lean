/- Laws and walks that a claim of this seat leans on: Bitv4, Pair1, Inv, Pair2. -/
import Derived.Test.YtpngepnfinbaoaaGreatC15
import Derived.Test.YtpngepnfinbaoaaGreatC03
import Derived.Maps.OwnOps
import Derived.Maps.Views
import Derived.Test.YtpngepnfinbaoaaGreatC00
set_option maxRecDepth 100000
set_option maxHeartbeats 8000000
set_option linter.all false
namespace Go.Proofs.YtpngepnfinbaoaaGreat
open Go.RowKit
theorem sext_val {wa wd:Int} {v k:Nat} (h1:1<=wa) (h2:wa<=wd) (h3:wd<=64) (hv:v<2^wa.toNat) (hk:wa.toNat+k=64) :
  ∃ (s:Nat) (q:Int) (n:Nat),IntKind.u64.wrap ((v:Int)*2^k)=(s:Int)/\IntKind.i64.wrap (s:Int)=q/\IntKind.u64.wrap (q / 2^k)=(n:Int)/\True/\n<2^64/\n%2^wd.toNat=extN 32 wd.toNat wa.toNat v:=by
 obtain ⟨A,hA⟩:∃ A,wa.toNat=A+1:=⟨wa.toNat-1,by omega⟩
 obtain ⟨D,hD⟩:∃ D,wd.toNat=D:=⟨_,rfl⟩
 have hAD:A+1<=D:=by omega
 have hD64:D<=64:=by omega
 rw [hA] at hv hk ⊢
 rw [hD]
 have e64:2^(A+1)*2^k=18446744073709551616:=by rw [<-Nat.pow_add,hk]
 have hA2:2^(A+1)=2*2^A:=by rw [Nat.pow_succ];omega
 have hAD2:2^(A+1)<=2^D:=Nat.pow_le_pow_right (by decide) hAD
 have hD2:2^D*2^(64-D)=18446744073709551616:=pow64 hD64
 have hM:2^D<=18446744073709551616:=Nat.pow_le_pow_right (n:=2) (by decide) hD64
 have hkp:=Nat.two_pow_pos k
 have hvk:v*2^k<18446744073709551616:=by rw [<-e64];exact (Nat.mul_lt_mul_right hkp).2 hv
 have hc:((2:Int)^k)=((2^k:Nat):Int):=by norm_cast
 refine ⟨v*2^k,IntKind.i64.wrap ((v*2^k:Nat):Int),if 2^A<=v then 18446744073709551616-(2^(A+1)-v) else v,?_,rfl,?_,trivial,?_,?_⟩
 ·rw [hc,IntKind.wrap_u64]
  rw [show ((v:Int)*((2^k:Nat):Int))=((v*2^k:Nat):Int) by norm_cast]
  omega
 ·rw [IntKind.wrap_i64,IntKind.wrap_u64,hc]
  have hh:2^A*2^k=9223372036854775808:=by
   have:2*(2^A*2^k)=18446744073709551616:=by rw [<-Nat.mul_assoc,<-hA2,e64]
   omega
  by_cases hneg:2^A<=v
  ·rw [if_pos hneg]
   have h5:9223372036854775808<=v*2^k:=by rw [<-hh];exact Nat.mul_le_mul_right _ hneg
   have e:(((v*2^k:Nat):Int)+9223372036854775808)%18446744073709551616-9223372036854775808=((v:Int)-(2^(A+1):Nat))*((2^k:Nat):Int):=by
    rw [Int.sub_mul]
    have:((2^(A+1):Nat):Int)*((2^k:Nat):Int)=18446744073709551616:=by rw [<-Int.natCast_mul,e64];rfl
    rw [this,<-Int.natCast_mul]
    omega
   rw [e,Int.mul_ediv_cancel _ (by omega)]
   omega
  ·rw [if_neg hneg]
   have h5:v*2^k<9223372036854775808:=by rw [<-hh];exact (Nat.mul_lt_mul_right hkp).2 (by omega)
   have e:(((v*2^k:Nat):Int)+9223372036854775808)%18446744073709551616-9223372036854775808=(v:Int)*((2^k:Nat):Int):=by
    rw [<-Int.natCast_mul]
    omega
   rw [e,Int.mul_ediv_cancel _ (by omega)]
   omega
 ·split<;>omega
 ·unfold extN
  rw [show A+1-1=A by omega]
  by_cases hneg:2^A<=v
  ·rw [if_pos hneg,if_pos ⟨rfl,hneg⟩]
   generalize 2^D=M at *
   generalize 2^(A+1)=N at *
   generalize 2^(64-D)=K at *
   have hK:1<=K:=by
    rcases Nat.eq_zero_or_pos K with h | h
    ·rw [h] at hD2;omega
    ·exact h
   have h6:18446744073709551616-(N-v)=M*(K-1)+(v+(M-N)):=by
    have:M*(K-1)=M*K-M:=by rw [Nat.mul_sub,Nat.mul_one]
    have:M<=M*K:=Nat.le_mul_of_pos_right _ hK
    omega
   rw [h6,Nat.mul_add_mod,Nat.mod_eq_of_lt (by omega)]
  ·rw [if_neg hneg,if_neg (by omega),if_neg (by decide),Nat.mod_eq_of_lt (by omega)]
theorem Ext_calls (op wd:Int) (h1:31<=op) (h3:op<=33) (h0:1<=wd) (h64:wd<=64) (a:Bt) (ha:a.ok) (hz:op≠33->a.w<=wd) (hc:op=33->wd<=a.w) (w:World) :
  Calls Tryz.prog 65 #[.int .i64 op,.int .i64 wd,.agg a.cells.toArray] w (BtPost w ⟨wd,extN op wd.toNat a.w.toNat a.v⟩):=by
 have HX:=Jh ((ext_alloc w (.cells a.cells.toArray 69)).trans (ext_alloc _ (.cells #[.int .i64 0,.int .u64 0] 69)))
 have hD:=(Blk.new w a.cells.toArray 69).ext (ext_alloc _ (.cells #[.int .i64 0,.int .u64 0] 69))
 have hR:=Blk.new (w.alloc (.cells a.cells.toArray 69)) #[.int .i64 0,.int .u64 0] 69
 rw [show (w.alloc (.cells a.cells.toArray 69)).heap.size=w.heap.size+1 by simp] at hR
 have hm:=fun W=>may_calls a ha W
 have HM:=Jh hm
 have hv64:=Bt.lt64 ha
 have a1:=ha.1
 have a2:=ha.2.1
 have a3:=ha.2.2
 have HMD:=fun (wd:Int) (n:Nat) (hn:n<2^64) (h0:0<=wd) (h1:wd<=64) (w:World)=>made_callsN wd n hn h0 h1 w
 clear hm
 obtain ⟨wa,v⟩:=a
 simp only at a1 a2 a3 hz hc hv64
 have HA:=Jh a3
 clear a3
 have hD1:=hD.has
 have HD:=Jh hD
 have HR:=Jh hR
 clear hD hR
 have hop:op=31\/op=32\/op=33:=by omega
 clear h1 h3
 have b1:decide (0<wd)=true:=by simp;omega
 have b2:decide (wd<=64)=true:=by simp;omega
 go_enter Tryz.func65,Tryz.ntmps65
 go_upto_region 1 with fail
 generalize (w.alloc _).alloc _=w0 at *
 rcases hop with rfl | rfl | rfl
 ·have b3:wa<=wd:=hz (by decide)
  clear hz hc
  go_wp2_with (first | ((with_reducible show Jl 69);refine Jm 69 (hD1) agg_Bits rfl ?_) | (go_at_call 99;refine (HM.out _).mono ?_;rintro r w1 ⟨rfl,hx1⟩;have g0:=(HD.out.ext hx1).has 0 _ rfl;have g1:=(HD.out.ext hx1).has 1 _ rfl) | (go_at_call 98;refine (HMD wd v hv64 (by omega) (by omega) _).mono ?_;rintro r w3 ⟨rfl,hx2⟩) | ((with_reducible show Js 69);refine wpList_store_blk rfl 69 _ _ rfl (HR.out.ext (hx1.trans hx2)) rfl (cs:=Bt.cells ⟨wd,v%2^wd.toNat⟩) (rfl) agg_Bits (rfl) rfl (rfl) ?_;intro w4 hb4 hg4))
  refine post_ret_blk2' rfl rfl rfl hb4.has agg_Bits rfl rfl ⟨?_,(HX.out.trans (hx1.trans hx2)).grown hg4 (by omega)⟩
  rw [Nat.mod_eq_of_lt (Nat.lt_of_lt_of_le HA.out (Nat.pow_le_pow_right (by decide) (by omega)))]
  simp [extN]
 ·have b3:wa<=wd:=hz (by decide)
  clear hz hc
  go_wp2_with (first | ((with_reducible show Jl 69);refine Jm 69 (hD1) agg_Bits rfl ?_) | (go_at_call 99;refine (HM.out _).mono ?_;rintro r w1 ⟨rfl,hx1⟩;have g0:=(HD.out.ext hx1).has 0 _ rfl;have g1:=(HD.out.ext hx1).has 1 _ rfl))
  obtain ⟨k,hk,hk2⟩:∃ k:Nat,(64-wa)=(k:Int)/\wa.toNat+k=64:=⟨(64-wa).toNat,by omega,by omega⟩
  obtain ⟨s,q,n,e1,e2,e3,e4,hn,hfin⟩:=sext_val a1 b3 h64 HA.out hk2
  have E1:=Jh e1
  have E2:=Jh e2
  have E3:=Jh e3
  have E4:=Jh e4
  have HF:=Jh hfin
  have HK:=Jh hk
  have hkb:(k:Int)<=64:=by omega
  clear e1 e2 e3 e4 hfin
  rw [hk]
  clear hk
  refine wp_region_held_drew (S:=fun W=>Ext w W/\Blk W w.heap.size (Bt.cells ⟨wa,v⟩).toArray 69) (by kernel_rfl) ⟨(HX.out.trans hx1).drew,(HD.out.ext hx1).drew⟩ (fun hH=>?_)
  try simp only [J]
  (refine Jt 0 (_) rfl (yif_load1 rfl fun _ _=>rfl) hH ?_;try simp only [J])
  (refine Jt 1 (_) rfl (yif_load1 rfl fun _ _=>rfl) hH ?_;try simp only [J])
  (refine Jt 2 (_) rfl (yif_load1 rfl fun _ _=>rfl) hH ?_;try simp only [J])
  (refine Jt 3 (_) rfl (yif_load1 rfl fun _ _=>rfl) hH ?_;try simp only [J])
  (refine Jt 4 (.int .i64 wa) rfl (yif_load1 rfl (by intro W hW;have y:=hW.2.has 0 _ rfl;clear hW;go_simp)) hH ?_;try simp only [J])
  (refine Jt 5 (.bool true) rfl (yif_load1 rfl (by intro W hW;clear hW;go_simp)) hH ?_;try simp only [J])
  (refine Jt 6 (.bool true) rfl (yif_load1 rfl (by intro W hW;clear hW;go_simp)) hH ?_;try simp only [J])
  (refine Jt 7 (_) rfl (yif_load1 rfl fun _ _=>rfl) hH ?_;try simp only [J])
  (refine Jt 8 (_) rfl (yif_load1 rfl fun _ _=>rfl) hH ?_;try simp only [J])
  (refine Jt 9 (.int .u64 (v:Int)) rfl (yif_load1 rfl (by intro W hW;have y:=hW.2.has 1 _ rfl;clear hW;go_simp)) hH ?_;try simp only [J])
  (refine Jt 10 (_) rfl (yif_load1 rfl fun _ _=>rfl) hH ?_;try simp only [J])
  (refine Jt 11 (.int .u64 (s:Int)) rfl (yif_load1 rfl (by intro W hW;clear hW;go_simp;exact E1.out)) hH ?_;try simp only [J])
  (refine Jt 12 (.int .i64 q) rfl (yif_load1 rfl (by intro W hW;clear hW;go_simp;exact E2.out)) hH ?_;try simp only [J])
  (refine Jt 13 (_) rfl (yif_load1 rfl fun _ _=>rfl) hH ?_;try simp only [J])
  (refine Jt 14 (.int .i64 (q / 2^k)) rfl (yif_load1 rfl (by intro W hW;clear hW;go_simp)) hH ?_;try simp only [J])
  (refine Jt 15 (.int .u64 (n:Int)) rfl (yif_load1 rfl (by intro W hW;clear hW;go_simp;exact E3.out)) hH ?_;try simp only [J])
  (refine Jr 16 rfl fun K hK=>?_)
  go_simp
  refine (HMD wd n hn (by omega) (by omega) _).mono ?_
  rintro r w3 ⟨rfl,hx2⟩
  refine hK.out _ _ ⟨hH.1.trans hx2,hH.2.ext hx2⟩ (fun hH=>?_)
  clear hK K
  try simp only [J]
  (refine Jt 17 (.agg (Bt.cells ⟨wd,n%2^wd.toNat⟩).toArray) rfl (yif_load1 rfl (by intro W hW;clear hW;go_simp)) hH ?_;try simp only [J])
  (refine Jt 18 (.int .i64 0) rfl (yif_load1 rfl (by intro W hW;clear hW;go_simp)) hH ?_;try simp only [J])
  (refine Jr 19 rfl fun K hK=>?_)
  refine step_store_blk' rfl 69 _ _ rfl ((HR.out.ext hx1).drew.ext hx2) rfl (cs:=Bt.cells ⟨wd,n%2^wd.toNat⟩) rfl agg_Bits rfl rfl rfl ?_
  intro w4 hb4 hg4
  refine hK.out _ _ ⟨hH.1.grown hg4 (by omega),hH.2.grown hg4 (by omega)⟩ (fun hH=>?_)
  clear hK K
  try simp only [J]
  (refine Jt 20 (.int .i64 0) rfl (yif_load1 rfl (by intro W hW;clear hW;go_simp)) hH ?_;try simp only [J])
  refine Jz ?_
  go_wp2_with ((with_reducible show bodyPost _ _ _ _ _ _);refine Hid.out ?_)
  refine Jh ?_
  refine post_ret_blk2' rfl rfl rfl hb4.has agg_Bits rfl rfl ⟨?_,hH.1⟩
  rw [HF.out];rfl
 ·have b3:wd<=wa:=hc rfl
  clear hz hc
  go_wp2_with (first | ((with_reducible show Jl 69);refine Jm 69 (hD1) agg_Bits rfl ?_) | (go_at_call 99;refine (HM.out _).mono ?_;rintro r w1 ⟨rfl,hx1⟩;have g0:=(HD.out.ext hx1).has 0 _ rfl;have g1:=(HD.out.ext hx1).has 1 _ rfl) | (go_at_call 98;refine (HMD wd v hv64 (by omega) (by omega) _).mono ?_;rintro r w3 ⟨rfl,hx2⟩) | ((with_reducible show Js 69);refine wpList_store_blk rfl 69 _ _ rfl (HR.out.ext (hx1.trans hx2)) rfl (cs:=Bt.cells ⟨wd,v%2^wd.toNat⟩) (rfl) agg_Bits (rfl) rfl (rfl) ?_;intro w4 hb4 hg4))
  refine post_ret_blk2' rfl rfl rfl hb4.has agg_Bits rfl rfl ⟨?_,(HX.out.trans (hx1.trans hx2)).grown hg4 (by omega)⟩
  simp [extN]
def Does (w:World) (F:Value) (g:Nat->Nat->Value):Prop :=
 ∃ k lb,F=.func (.func k) #[] lb/\Leads Tryz.prog k/\∀ W,Ext w W->∀ x y:Nat,x<2^64->y<2^64 ->
  Calls Tryz.prog k (#[.int .u64 (x:Int),.int .u64 (y:Int)]++lb) W fun r W'=>r=.returned (g x y)/\Ext W W'
theorem Does.ext {w w':World} {F:Value} {g:Nat->Nat->Value} (h:Does w F g) (hx:Ext w w'):Does w' F g:=by
 obtain ⟨k,lb,h1,h2,h3⟩:=h
 exact ⟨k,lb,h1,h2,fun W hW=>h3 W (hx.trans hW)⟩
abbrev vN (g:Nat->Nat->Nat):Nat->Nat->Value:=fun x y=>.int .u64 (g x y:Int)
abbrev vB (g:Nat->Nat->Bool):Nat->Nat->Value:=fun x y=>.bool (g x y)
def fLt (x y:Nat):Bool:=decide (x<y)
def fEq (x y:Nat):Bool:=decide (x=y)
def fNe (x y:Nat):Bool:=decide (x≠y)
def fGe (x y:Nat):Bool:=decide (y<=x)
def fLe (x y:Nat):Bool:=decide (x<=y)
def fGt (x y:Nat):Bool:=decide (y<x)
def fAnd (x y:Nat):Nat:=x &&& y
def fOr (x y:Nat):Nat:=x ||| y
def fXor (x y:Nat):Nat:=x ^^^ y
def fAdd (x y:Nat):Nat:=(x+y)%18446744073709551616
def fSub (x y:Nat):Nat:=(x+18446744073709551616-y)%18446744073709551616
def fMul (x y:Nat):Nat:=x*y%18446744073709551616
theorem leads_p1:Leads Tryz.prog 121:=leads_of Tryz.func121 (by kernel_rfl) rfl
theorem does_less (w:World):Does w (.func (.func 121) #[] #[]) (vB fLt):=by
 refine ⟨_,_,rfl,leads_p1,fun W _ x y hx hy=>?_⟩
 show Calls Tryz.prog 121 #[.int .u64 (x:Int),.int .u64 (y:Int)] W _
 go_enter Tryz.func121,Tryz.ntmps121
 go_wp2_with fail
 go_ret
 refine ⟨congrArg (fun b=>Ending.returned (.bool b)) ?_,Below.refl _ _⟩
 unfold fLt
 rw [Bool.eq_iff_iff]
 try simp
 all_goals omega
theorem leads_p8:Leads Tryz.prog 129:=leads_of Tryz.func129 (by kernel_rfl) rfl
theorem does_eq (w:World):Does w (.func (.func 129) #[] #[]) (vB fEq):=by
 refine ⟨_,_,rfl,leads_p8,fun W _ x y hx hy=>?_⟩
 show Calls Tryz.prog 129 #[.int .u64 (x:Int),.int .u64 (y:Int)] W _
 go_enter Tryz.func129,Tryz.ntmps129
 go_wp2_with fail
 go_ret
 refine ⟨congrArg (fun b=>Ending.returned (.bool b)) ?_,Below.refl _ _⟩
 unfold fEq
 rw [Bool.eq_iff_iff]
 try simp
 all_goals omega
theorem leads_p9:Leads Tryz.prog 130:=leads_of Tryz.func130 (by kernel_rfl) rfl
theorem does_ne (w:World):Does w (.func (.func 130) #[] #[]) (vB fNe):=by
 refine ⟨_,_,rfl,leads_p9,fun W _ x y hx hy=>?_⟩
 show Calls Tryz.prog 130 #[.int .u64 (x:Int),.int .u64 (y:Int)] W _
 go_enter Tryz.func130,Tryz.ntmps130
 go_wp2_with fail
 go_ret
 refine ⟨congrArg (fun b=>Ending.returned (.bool b)) ?_,Below.refl _ _⟩
 unfold fNe
 rw [Bool.eq_iff_iff]
 try simp
 all_goals omega
theorem leads_p2:Leads Tryz.prog 122:=leads_of Tryz.func122 (by kernel_rfl) rfl
theorem does_and (w:World):Does w (.func (.func 122) #[] #[]) (vN fAnd):=by
 refine ⟨_,_,rfl,leads_p2,fun W _ x y hx hy=>?_⟩
 show Calls Tryz.prog 122 #[.int .u64 (x:Int),.int .u64 (y:Int)] W _
 go_enter Tryz.func122,Tryz.ntmps122
 go_wp2_with fail
 go_ret
 refine ⟨congrArg (fun n=>Ending.returned (.int .u64 n)) ?_,Below.refl _ _⟩
 unfold fAnd
 first | exact n_and hx hy | exact n_or' hx hy | exact n_xor hx hy | (rw [IntKind.wrap_u64];omega) | (rw [IntKind.wrap_u64,<-Int.natCast_mul];omega)
theorem leads_p3:Leads Tryz.prog 123:=leads_of Tryz.func123 (by kernel_rfl) rfl
theorem does_or (w:World):Does w (.func (.func 123) #[] #[]) (vN fOr):=by
 refine ⟨_,_,rfl,leads_p3,fun W _ x y hx hy=>?_⟩
 show Calls Tryz.prog 123 #[.int .u64 (x:Int),.int .u64 (y:Int)] W _
 go_enter Tryz.func123,Tryz.ntmps123
 go_wp2_with fail
 go_ret
 refine ⟨congrArg (fun n=>Ending.returned (.int .u64 n)) ?_,Below.refl _ _⟩
 unfold fOr
 first | exact n_and hx hy | exact n_or' hx hy | exact n_xor hx hy | (rw [IntKind.wrap_u64];omega) | (rw [IntKind.wrap_u64,<-Int.natCast_mul];omega)
theorem leads_p4:Leads Tryz.prog 124:=leads_of Tryz.func124 (by kernel_rfl) rfl
theorem does_xor (w:World):Does w (.func (.func 124) #[] #[]) (vN fXor):=by
 refine ⟨_,_,rfl,leads_p4,fun W _ x y hx hy=>?_⟩
 show Calls Tryz.prog 124 #[.int .u64 (x:Int),.int .u64 (y:Int)] W _
 go_enter Tryz.func124,Tryz.ntmps124
 go_wp2_with fail
 go_ret
 refine ⟨congrArg (fun n=>Ending.returned (.int .u64 n)) ?_,Below.refl _ _⟩
 unfold fXor
 first | exact n_and hx hy | exact n_or' hx hy | exact n_xor hx hy | (rw [IntKind.wrap_u64];omega) | (rw [IntKind.wrap_u64,<-Int.natCast_mul];omega)
theorem leads_p5:Leads Tryz.prog 125:=leads_of Tryz.func125 (by kernel_rfl) rfl
theorem does_add (w:World):Does w (.func (.func 125) #[] #[]) (vN fAdd):=by
 refine ⟨_,_,rfl,leads_p5,fun W _ x y hx hy=>?_⟩
 show Calls Tryz.prog 125 #[.int .u64 (x:Int),.int .u64 (y:Int)] W _
 go_enter Tryz.func125,Tryz.ntmps125
 go_wp2_with fail
 go_ret
 refine ⟨congrArg (fun n=>Ending.returned (.int .u64 n)) ?_,Below.refl _ _⟩
 unfold fAdd
 first | exact n_and hx hy | exact n_or' hx hy | exact n_xor hx hy | (rw [IntKind.wrap_u64];omega) | (rw [IntKind.wrap_u64,<-Int.natCast_mul];omega)
theorem leads_p6:Leads Tryz.prog 126:=leads_of Tryz.func126 (by kernel_rfl) rfl
theorem does_sub (w:World):Does w (.func (.func 126) #[] #[]) (vN fSub):=by
 refine ⟨_,_,rfl,leads_p6,fun W _ x y hx hy=>?_⟩
 show Calls Tryz.prog 126 #[.int .u64 (x:Int),.int .u64 (y:Int)] W _
 go_enter Tryz.func126,Tryz.ntmps126
 go_wp2_with fail
 go_ret
 refine ⟨congrArg (fun n=>Ending.returned (.int .u64 n)) ?_,Below.refl _ _⟩
 unfold fSub
 first | exact n_and hx hy | exact n_or' hx hy | exact n_xor hx hy | (rw [IntKind.wrap_u64];omega) | (rw [IntKind.wrap_u64,<-Int.natCast_mul];omega)
theorem leads_p7:Leads Tryz.prog 127:=leads_of Tryz.func127 (by kernel_rfl) rfl
theorem does_mul (w:World):Does w (.func (.func 127) #[] #[]) (vN fMul):=by
 refine ⟨_,_,rfl,leads_p7,fun W _ x y hx hy=>?_⟩
 show Calls Tryz.prog 127 #[.int .u64 (x:Int),.int .u64 (y:Int)] W _
 go_enter Tryz.func127,Tryz.ntmps127
 go_wp2_with fail
 go_ret
 refine ⟨congrArg (fun n=>Ending.returned (.int .u64 n)) ?_,Below.refl _ _⟩
 unfold fMul
 first | exact n_and hx hy | exact n_or' hx hy | exact n_xor hx hy | (rw [IntKind.wrap_u64];omega) | (rw [IntKind.wrap_u64,<-Int.natCast_mul];omega)
theorem leads_p13:Leads Tryz.prog 134:=leads_of Tryz.func134 (by kernel_rfl) rfl
theorem does_both (w:World):Does w (.func (.func 134) #[] #[]) (vN fAnd):=by
 refine ⟨_,_,rfl,leads_p13,fun W _ x y hx hy=>?_⟩
 show Calls Tryz.prog 134 #[.int .u64 (x:Int),.int .u64 (y:Int)] W _
 go_enter Tryz.func134,Tryz.ntmps134
 go_wp2_with fail
 go_ret
 refine ⟨congrArg (fun n=>Ending.returned (.int .u64 n)) ?_,Below.refl _ _⟩
 unfold fAnd
 first | exact n_and hx hy | exact n_or' hx hy | exact n_xor hx hy | (rw [IntKind.wrap_u64];omega) | (rw [IntKind.wrap_u64,<-Int.natCast_mul];omega)
theorem leads_p14:Leads Tryz.prog 135:=leads_of Tryz.func135 (by kernel_rfl) rfl
theorem does_oneof (w:World):Does w (.func (.func 135) #[] #[]) (vN fOr):=by
 refine ⟨_,_,rfl,leads_p14,fun W _ x y hx hy=>?_⟩
 show Calls Tryz.prog 135 #[.int .u64 (x:Int),.int .u64 (y:Int)] W _
 go_enter Tryz.func135,Tryz.ntmps135
 go_wp2_with fail
 go_ret
 refine ⟨congrArg (fun n=>Ending.returned (.int .u64 n)) ?_,Below.refl _ _⟩
 unfold fOr
 first | exact n_and hx hy | exact n_or' hx hy | exact n_xor hx hy | (rw [IntKind.wrap_u64];omega) | (rw [IntKind.wrap_u64,<-Int.natCast_mul];omega)
theorem leads_p10:Leads Tryz.prog 131:=leads_of Tryz.func131 (by kernel_rfl) rfl
theorem leads_p11:Leads Tryz.prog 132:=leads_of Tryz.func132 (by kernel_rfl) rfl
theorem leads_p12:Leads Tryz.prog 133:=leads_of Tryz.func133 (by kernel_rfl) rfl
theorem leads_cmp1:Leads Tryz.prog 152:=leads_of Tryz.func152 (by kernel_rfl) rfl
theorem does_le (w:World) (D:Nat) (hD:Blk w D #[.func (.func 121) #[] #[]] 174):Does w (.func (.func 131) #[] #[.pointer (some ⟨D,0,none⟩)]) (vB fLe):=by
 refine ⟨_,_,rfl,leads_p10,fun W hW x y hx hy=>?_⟩
 show Calls Tryz.prog 131 #[.int .u64 (x:Int),.int .u64 (y:Int),.pointer (some ⟨D,0,none⟩)] W _
 have g0:=(hD.ext hW).has 0 _ rfl
 obtain ⟨k,lb,e1,e2,e3⟩:=does_less W
 injection e1 with e1 _ e4
 injection e1 with e1
 subst e1
 subst e4
 have HC:=Jh (e3 W (Below.refl _ _) y x hy hx)
 clear e3
 go_enter Tryz.func131,Tryz.ntmps131
 go_wp2_with ((with_reducible show Jw (Op.call { callee:=.value (.tmp _),args:=_,argTypes:=_ }));refine wpList_call_fv rfl _ _ _ rfl rfl leads_p1 rfl HC.out ?_;intro w1 hx1)
 go_ret
 refine ⟨congrArg (fun b=>Ending.returned (.bool b)) ?_,hx1⟩
 unfold fLe fLt
 rw [Bool.eq_iff_iff]
 try simp
theorem does_gt (w:World) (D:Nat) (hD:Blk w D #[.func (.func 121) #[] #[]] 174):Does w (.func (.func 132) #[] #[.pointer (some ⟨D,0,none⟩)]) (vB fGt):=by
 refine ⟨_,_,rfl,leads_p11,fun W hW x y hx hy=>?_⟩
 show Calls Tryz.prog 132 #[.int .u64 (x:Int),.int .u64 (y:Int),.pointer (some ⟨D,0,none⟩)] W _
 have g0:=(hD.ext hW).has 0 _ rfl
 obtain ⟨k,lb,e1,e2,e3⟩:=does_less W
 injection e1 with e1 _ e4
 injection e1 with e1
 subst e1
 subst e4
 have HC:=Jh (e3 W (Below.refl _ _) y x hy hx)
 clear e3
 go_enter Tryz.func132,Tryz.ntmps132
 go_wp2_with ((with_reducible show Jw (Op.call { callee:=.value (.tmp _),args:=_,argTypes:=_ }));refine wpList_call_fv rfl _ _ _ rfl rfl leads_p1 rfl HC.out ?_;intro w1 hx1)
 go_ret
 refine ⟨congrArg (fun b=>Ending.returned (.bool b)) ?_,hx1⟩
 unfold fGt fLt
 rw [Bool.eq_iff_iff]
 try simp
theorem does_ge (w:World) (D:Nat) (hD:Blk w D #[.func (.func 121) #[] #[]] 174):Does w (.func (.func 133) #[] #[.pointer (some ⟨D,0,none⟩)]) (vB fGe):=by
 refine ⟨_,_,rfl,leads_p12,fun W hW x y hx hy=>?_⟩
 show Calls Tryz.prog 133 #[.int .u64 (x:Int),.int .u64 (y:Int),.pointer (some ⟨D,0,none⟩)] W _
 have g0:=(hD.ext hW).has 0 _ rfl
 obtain ⟨k,lb,e1,e2,e3⟩:=does_less W
 injection e1 with e1 _ e4
 injection e1 with e1
 subst e1
 subst e4
 have HC:=Jh (e3 W (Below.refl _ _) x y hx hy)
 clear e3
 go_enter Tryz.func133,Tryz.ntmps133
 go_wp2_with ((with_reducible show Jw (Op.call { callee:=.value (.tmp _),args:=_,argTypes:=_ }));refine wpList_call_fv rfl _ _ _ rfl rfl leads_p1 rfl HC.out ?_;intro w1 hx1)
 go_ret
 refine ⟨congrArg (fun b=>Ending.returned (.bool b)) ?_,hx1⟩
 unfold fGe fLt
 rw [Bool.eq_iff_iff]
 try simp
theorem does_cmp (w:World) (B:Nat) (F:Value) (g:Nat->Nat->Bool) (hB:Blk w B #[F] 174) (hF:Does w F (vB g)):Does w (.func (.func 152) #[] #[.pointer (some ⟨B,0,none⟩)]) (vN fun x y=>b2n (g x y)):=by
 refine ⟨_,_,rfl,leads_cmp1,fun W hW x y hx hy=>?_⟩
 show Calls Tryz.prog 152 #[.int .u64 (x:Int),.int .u64 (y:Int),.pointer (some ⟨B,0,none⟩)] W _
 have g0:=(hB.ext hW).has 0 _ rfl
 obtain ⟨k,lb,rfl,e2,e3⟩:=hF
 have HC:=Jh (e3 W hW x y hx hy)
 clear e3
 obtain ⟨c,hc⟩:∃ c,g x y=c:=⟨_,rfl⟩
 simp only [vB,vN,hc] at HC ⊢
 cases c
 all_goals go_enter Tryz.func152,Tryz.ntmps152
 all_goals go_wp2_with (first | ((with_reducible show Jw (Op.call { callee:=.value (.tmp _),args:=_,argTypes:=_ }));refine wpList_call_fv rfl _ _ _ rfl rfl e2 rfl HC.out ?_;intro w1 hx1) | (go_at_call 100;refine (one_calls _ _).mono ?_;rintro r w2 ⟨rfl,rfl⟩))
 all_goals go_ret
 all_goals exact ⟨rfl,hx1⟩
def left (n:Nat) (listed:Array Bool):Nat:=((List.range n).filter fun i=>!(listed.getD i true)).length
theorem filter_drop {l:List Nat} (hn:l.Nodup) {p q:Nat->Bool} {i:Nat} (hi:i∈l) (hp:p i=true) (hq:q i=false) (hpq:∀ j,j≠i->q j=p j):(l.filter q).length+1=(l.filter p).length:=by
 induction l with
 | nil=>cases hi
 | cons x l ih =>
  obtain ⟨hx,hl⟩:=List.nodup_cons.1 hn
  by_cases hxi:x=i
  ·subst hxi
   have e:l.filter q=l.filter p:=List.filter_congr fun j hj=>hpq j fun e=>hx (e ▸ hj)
   rw [List.filter_cons,List.filter_cons,hp,hq,e];simp
  ·have hi':i∈l:=by
    rcases List.mem_cons.1 hi with h | h
    ·exact absurd h.symm hxi
    ·exact h
   have:=ih hl hi'
   rw [List.filter_cons,List.filter_cons,hpq x hxi]
   split
   ·simp only [List.length_cons];omega
   ·exact this
theorem left_set {n i:Nat} {listed:Array Bool} (hs:listed.size=n) (hi:listed.getD i true=false):left n (listed.setIfInBounds i true)+1=left n listed:=by
 have hlt:i<listed.size:=by
  rcases Nat.lt_or_ge i listed.size with h | h
  ·exact h
  ·simp [Array.getD,show ¬ i<listed.size by omega] at hi
 refine filter_drop List.nodup_range (i:=i) (List.mem_range.2 (by omega)) (by rw [hi];rfl) ?_ ?_
 ·simp [Array.getD,hlt]
 ·intro j hj
  rw [getD_set_ne true (fun e=>hj e.symm)]
section
variable {P:Program} {md:Region.Mode} {ops:Array Oper} {Q:Exit->Act->World->Prop} {S:World->Prop}
def upward (md:Region.Mode) (ops:Array Oper):Bool:=(List.range ops.size).all fun i=>match ops[i]? with
 | some o=>o.after.toList.all fun e=>!(Region.binds md e)||decide (e.on<i)
 | none=>true
theorem ready_some (hu:upward md ops=true) {listed:Array Bool} (hs:listed.size=ops.size) (h:left ops.size listed≠0):Region.ready md ops listed≠[]:=by
 have hex:∃ i,listed.getD i true=false:=by
  have:(List.range ops.size).filter (fun i=>!(listed.getD i true))≠[]:=fun e=>h (by unfold left;rw [e];rfl)
  obtain ⟨i,hi⟩:=List.exists_mem_of_ne_nil _ this
  exact ⟨i,by simpa using (List.mem_filter.1 hi).2⟩
 have hmin:∀ n,listed.getD n true=false->∃ i,listed.getD i true=false/\∀ j,j<i->listed.getD j true=true:=by
  intro n
  induction n using Nat.strongRecOn with
  | ind n ih =>
   intro hn
   by_cases hc:∃ j,j<n/\listed.getD j true=false
   ·obtain ⟨j,hj,hjf⟩:=hc
    exact ih j hj hjf
   ·refine ⟨n,hn,fun j hj=>?_⟩
    cases he:listed.getD j true with
    | true=>rfl
    | false=>exact absurd ⟨j,hj,he⟩ hc
 obtain ⟨i0,hi0⟩:=hex
 obtain ⟨i,hi,hlow⟩:=hmin i0 hi0
 have hlt:i<listed.size:=by
  rcases Nat.lt_or_ge i listed.size with h | h
  ·exact h
  ·simp [Array.getD,show ¬ i<listed.size by omega] at hi
 intro e
 have hm:i∈Region.ready md ops listed:=by
  refine mem_ready.2 ⟨hi,ops[i]'(by omega),Array.getElem?_eq_getElem (by omega),fun e he hb=>?_⟩
  have h1:=List.all_eq_true.1 hu i (List.mem_range.2 (by omega))
  rw [Array.getElem?_eq_getElem (show i<ops.size by omega)] at h1
  have h2:=List.all_eq_true.1 h1 e (by simpa using he)
  simp [hb] at h2
  have h3:=hlow e.on h2
  have h4:e.on<listed.size:=by omega
  simp [Array.getD,h4] at h3 ⊢
  exact h3
 rw [e] at hm;cases hm
theorem held_inv (I:Array Bool->Act->World->Prop) (full:Array Bool) (stop:Nat) (hu:upward md ops=true)
  (hsize:∀ listed a w,I listed a w->listed.size=ops.size) (hsome:∀ listed a w,I listed a w->left ops.size listed≠0)
  (hfull:∀ listed a w,I listed a w->stop∈Region.ready md ops listed->listed=full)
  (hstep:∀ listed a w i,I listed a w->S w->i∈Region.ready md ops listed->i≠stop->wpOp P ops Q i (fun a' w'=>S w'/\I (listed.setIfInBounds i true) a' w') a w)
  (hend:∀ a w,I full a w->S w->wpAnyH P md ops Q S (left ops.size full) full a w) :
  ∀ n listed a w,left ops.size listed=n->I listed a w->S w->wpAnyH P md ops Q S n listed a w:=by
 intro n
 induction n with
 | zero=>intro listed a w hn hI _;exact absurd hn (hsome _ _ _ hI)
 | succ n ih =>
  intro listed a w hn hI hS
  by_cases hst:stop∈Region.ready md ops listed
  ·have e:=hfull _ _ _ hI hst
   rw [<-hn,e]
   exact hend a w (e ▸ hI) hS
  ·refine ⟨fun h0=>absurd h0 (ready_some hu (hsize _ _ _ hI) (by rw [hn];omega)),fun i hi=>?_⟩
   have hir:=(mem_ready.1 hi).1
   refine wpOp_mono (fun a' w' h=>⟨h.1,ih _ a' w' ?_ h.2 h.1⟩) (hstep _ _ _ i hI hS hi (fun e=>hst (e ▸ hi)))
   have:=left_set (hsize _ _ _ hI) hir
   omega
end
open Go.RowKit Go.Maps Go.WideElems
abbrev RV:Value->Option (DataW Value × List MemPlace):=fun v=>some (.held v,[])
def FM (w:World) (M n:Nat) (D:DataW Value):Prop:=w.ownsMap Tryz.prog 3 RV M n D/\IsMap D
theorem FM.made (w:World):FM (w.alloc (.map #[] 0)) w.heap.size 0 (.map []):=⟨World.ownsMap_made _ _ _ _,isMap_empty⟩
theorem FM.kept {w w':World} {M n:Nat} {D:DataW Value} {R:Option Nat} (h:FM w M n D) (hg:w.grownBy w' R) (hne:some M≠R):FM w' M n D:=⟨h.1.kept hg hne,h.2⟩
theorem FM.lt {w:World} {M n:Nat} {D:DataW Value} (h:FM w M n D):M<w.heap.size:=h.1.lt
theorem FM.blk {w:World} {M n B:Nat} {D:DataW Value} {cs:Array Value} {T:TypeId} (h:FM w M n D) (hb:Blk w B cs T):B≠M:=by
 rintro rfl
 obtain ⟨⟨es,clk,h1,-⟩,-⟩:=h
 have h2:w.heap[B]? = some (.cells cs T (0,0)):=hb
 rw [h1] at h2;cases h2
theorem wf64 {n:Int} (h:-9223372036854775808<=n/\n<=9223372036854775807):(Lit.int .i64 n).wf=true:=by
 simp [Lit.wf,IntKind.min,IntKind.max,IntKind.signed,IntKind.bits];omega
theorem keyed_int:Keyed Tryz.prog 3:=int_keyed Tryz.underlying3
theorem FM.put {w:World} {M n:Nat} {D:DataW Value} (h:FM w M n D) (hn:n<1000) {k:Int} (hk:-9223372036854775808<=k/\k<=9223372036854775807) (v:Value) :
  ∃ w',(Instr.mapUpdate 177 (.map (some M)) (.int .i64 k) v).run Tryz.prog w=.ok () w'/\FM w' M (n+1) (D.put (.int .i64 k) (.held v))/\w.grownBy w' (some M):=by
 obtain ⟨w',h1,h2,h3⟩:=h.1.update keyed_int Tryz.underlying177 (by simp only [maxLen];omega) (keyOf_int_mk Tryz.underlying3 (wf64 hk)) (show RV v=some (.held v,[]) from rfl)
 exact ⟨w',h1,⟨h2,h.2.put _ _⟩,h3⟩
def unheld:DataW Value->Value
 | .held v=>v
 | _=>.nilFunc
theorem FM.look {w:World} {M n:Nat} {D:DataW Value} (h:FM w M n D) {k:Int} (hk:-9223372036854775808<=k/\k<=9223372036854775807) {v:Value} (hv:D.atKey (.int .i64 k) .nil=.held v) :
  (Instr.lookup 177 (.map (some M)) (.int .i64 k) true).run Tryz.prog w=.ok (.tuple #[v,.bool true]) w:=by
 obtain ⟨⟨es,clk,hb,F,-,rfl⟩,-⟩:=h
 rcases fit_look true keyed_int Tryz.underlying177 (z:=.nilFunc) (by kernel_rfl) hb F (keyOf_int_mk Tryz.underlying3 (wf64 hk)) with ⟨-,-,hat⟩ | ⟨e0,y,-,-,hrun,hR,hat,-⟩
 ·rw [hat] at hv
  cases hv
 ·rw [hat] at hv
  have:y=(.held e0.val,[]):=(Option.some.inj hR).symm
  subst this
  have hv:e0.val=v:=congrArg unheld hv
  rw [if_pos rfl] at hrun
  rw [<-hv];exact hrun
def pairM (op:Int):Nat->Nat->Nat :=
 if op=11\/op=25 then fAnd else if op=12\/op=26 then fOr else if op=13 then fXor else if op=14 then fAdd else if op=15 then fSub else if op=16 then fMul
 else if op=19 then fun x y=>b2n (fEq x y) else if op=20 then fun x y=>b2n (fNe x y) else if op=21 then fun x y=>b2n (fLt x y) else if op=22 then fun x y=>b2n (fLe x y) else if op=23 then fun x y=>b2n (fGt x y) else fun x y=>b2n (fGe x y)
def pArg (D:Nat) (k:Int):Value :=
 if k=19 then .func (.func 129) #[] #[] else if k=20 then .func (.func 130) #[] #[] else if k=21 then .func (.func 121) #[] #[]
 else if k=22 then .func (.func 131) #[] #[.pointer (some ⟨D,0,none⟩)] else if k=23 then .func (.func 132) #[] #[.pointer (some ⟨D,0,none⟩)] else .func (.func 133) #[] #[.pointer (some ⟨D,0,none⟩)]
def PF (D:Nat) (w:World) (k:Int) (F:Value):Prop :=
 if 19<=k/\k<=24 then ∃ B,F=.func (.func 152) #[] #[.pointer (some ⟨B,0,none⟩)]/\Blk w B #[pArg D k] 174
 else F=.func (.func (if k=11 then 122 else if k=12 then 123 else if k=13 then 124 else if k=14 then 125 else if k=15 then 126 else if k=16 then 127 else if k=25 then 134 else 135)) #[] #[]
theorem PF.ext {D:Nat} {w w':World} {k:Int} {F:Value} (h:PF D w k F) (hx:Ext w w'):PF D w' k F:=by
 unfold PF at *
 split
 ·rename_i hk;rw [if_pos hk] at h;obtain ⟨B,h1,h2⟩:=h;exact ⟨B,h1,h2.ext hx⟩
 ·rename_i hk;rw [if_neg hk] at h;exact h
theorem PF.put {D M n:Nat} {DD:DataW Value} {w w':World} {k:Int} {F:Value} (h:PF D w k F) (hm:FM w M n DD) (hg:w.grownBy w' (some M)):PF D w' k F:=by
 unfold PF at *
 split
 ·rename_i hk;rw [if_pos hk] at h;obtain ⟨B,h1,h2⟩:=h;exact ⟨B,h1,h2.grown hg (hm.blk h2)⟩
 ·rename_i hk;rw [if_neg hk] at h;exact h
theorem PF.does {D:Nat} {w:World} {k:Int} {F:Value} (h1:11<=k) (h2:k<=26) (h3:k≠17) (h4:k≠18) (h:PF D w k F) (hD:Blk w D #[.func (.func 121) #[] #[]] 174):Does w F (vN (pairM k)):=by
 have hk:k=11\/k=12\/k=13\/k=14\/k=15\/k=16\/k=25\/k=26\/k=19\/k=20\/k=21\/k=22\/k=23\/k=24:=by omega
 rcases hk with rfl | rfl | rfl | rfl | rfl | rfl | rfl | rfl | rfl | rfl | rfl | rfl | rfl | rfl
 all_goals simp [PF,pArg] at h
 ·subst h;rw [show pairM 11=fAnd by simp [pairM]];exact does_and w
 ·subst h;rw [show pairM 12=fOr by simp [pairM]];exact does_or w
 ·subst h;rw [show pairM 13=fXor by simp [pairM]];exact does_xor w
 ·subst h;rw [show pairM 14=fAdd by simp [pairM]];exact does_add w
 ·subst h;rw [show pairM 15=fSub by simp [pairM]];exact does_sub w
 ·subst h;rw [show pairM 16=fMul by simp [pairM]];exact does_mul w
 ·subst h;rw [show pairM 25=fAnd by simp [pairM]];exact does_both w
 ·subst h;rw [show pairM 26=fOr by simp [pairM]];exact does_oneof w
 ·obtain ⟨B,rfl,hB⟩:=h;rw [show pairM 19=fun x y=>b2n (fEq x y) by simp [pairM]];exact does_cmp w B _ fEq hB (does_eq w)
 ·obtain ⟨B,rfl,hB⟩:=h;rw [show pairM 20=fun x y=>b2n (fNe x y) by simp [pairM]];exact does_cmp w B _ fNe hB (does_ne w)
 ·obtain ⟨B,rfl,hB⟩:=h;rw [show pairM 21=fun x y=>b2n (fLt x y) by simp [pairM]];exact does_cmp w B _ fLt hB (does_less w)
 ·obtain ⟨B,rfl,hB⟩:=h;rw [show pairM 22=fun x y=>b2n (fLe x y) by simp [pairM]];exact does_cmp w B _ fLe hB (does_le w D hD)
 ·obtain ⟨B,rfl,hB⟩:=h;rw [show pairM 23=fun x y=>b2n (fGt x y) by simp [pairM]];exact does_cmp w B _ fGt hB (does_gt w D hD)
 ·obtain ⟨B,rfl,hB⟩:=h;rw [show pairM 24=fun x y=>b2n (fGe x y) by simp [pairM]];exact does_cmp w B _ fGe hB (does_ge w D hD)
def pIns:List (Nat × Int):=[(1,11),(2,12),(3,13),(4,14),(5,15),(6,16),(8,19),(10,20),(13,21),(16,22),(19,23),(22,24),(23,25),(24,26)]
def pCall:List (Nat × Nat × Int):=[(7,8,19),(9,9,20),(12,11,21),(15,13,22),(18,15,23),(21,17,24)]
def pFr (op:Int) (D:Nat) (f:Nat->Value):Act :=
 ⟨#[.int .i64 op,undef,.nilFunc,.bool false,.bool false,.pointer (some ⟨D,0,none⟩),undef,f 7,f 8,f 9,pArg D 21,f 11,pArg D 22,f 13,pArg D 23,f 15,pArg D 24,f 17,undef,.int .i64 op,undef,undef,undef,undef,undef,undef,undef],[]⟩
structure PI (op:Int) (D N:Nat) (listed:Array Bool) (a:Act) (w:World):Prop where
 size:listed.size=33
 known:listed.getD 11 true=true/\listed.getD 14 true=true/\listed.getD 17 true=true/\listed.getD 20 true=true/\listed.getD 26 true=true
 later:∀ i,i=25\/(27<=i/\i<33)->listed.getD i true=false
 dep:∀ p∈pIns,listed.getD p.1 true=true->listed.getD 0 true=true
 frame:∃ f,a=pFr op D f /\
  (listed.getD 0 true=true->∃ M n DD,f 7=.map (some M)/\N<=M/\FM w M n DD/\n+left 33 listed<=40/\∀ p∈pIns,listed.getD p.1 true=true->∃ F,DD.atKey (.int .i64 p.2) .nil=.held F/\PF D w p.2 F) /\
  ∀ p∈pCall,listed.getD p.1 true=true->PF D w p.2.2 (f p.2.1)
theorem wpOp_of {P:Program} {ops:Array Oper} {Q:Exit->Act->World->Prop} {i:Nat} {o:Oper} {K:Act->World->Prop} {a:Act} {w:World} (hi:ops[i]? = some o) (hw:Region.wanted o (yielded ops a.tmps)=true) (h:Oper.wp P o a w K Q):wpOp P ops Q i K a w:=by
 unfold wpOp
 simp only [hi,hw,if_true]
 exact .inl h
theorem getD_tf {l:Array Bool} {i:Nat} (h:l.getD i false=true):l.getD i true=true:=by
 unfold Array.getD at *
 split<;>simp_all
theorem getD_set {l:Array Bool} {i j:Nat} (hi:i<l.size):(l.setIfInBounds i true).getD j true=true↔(j=i\/l.getD j true=true):=by
 by_cases h:j=i
 ·subst h;simp [Array.getD,hi]
 ·rw [getD_set_ne true (fun e=>h e.symm)];simp [h]
theorem PI.make {op:Int} {D N:Nat} {listed:Array Bool} {a:Act} {w:World} (h:PI op D N listed a w) (hN:N<=w.heap.size) (h0:listed.getD 0 true=false):PI op D N (listed.setIfInBounds 0 true) (a.put (some 7) (.map (some w.heap.size))) (w.alloc (.map #[] 0)):=by
 have hs:=h.size
 have hins:∀ p∈pIns,listed.getD p.1 true=false:=fun p hp=>by
  cases e:listed.getD p.1 true with
  | false=>rfl
  | true=>rw [h.dep p hp e] at h0;cases h0
 obtain ⟨f,rfl,h1,h2⟩:=h.frame
 have hl:=left_set hs h0
 have hll:left 33 listed<=33:=by
  have:=List.length_filter_le (fun i=>!(listed.getD i true)) (List.range 33)
  simpa [left] using this
 refine ⟨by simp [hs],?_,?_,fun _ _ _=>(getD_set (by omega)).2 (.inl rfl),fun s=>if s=7 then .map (some w.heap.size) else f s,rfl,fun _=>⟨_,0,_,rfl,hN,FM.made w,by omega,fun p hp hlp=>?_⟩,fun p hp hlp=>?_⟩
 ·obtain ⟨k1,k2,k3,k4,k5⟩:=h.known
  simp only [getD_set (show 0<listed.size by omega)]
  exact ⟨.inr k1,.inr k2,.inr k3,.inr k4,.inr k5⟩
 ·intro i hi
  rw [getD_set_ne true (by omega)];exact h.later i hi
 ·rw [getD_set (by omega)] at hlp
  rcases hlp with e | e
  ·have hne:p.1≠0:=by
    simp only [pIns,List.mem_cons,List.not_mem_nil,or_false] at hp
    rcases hp with rfl | rfl | rfl | rfl | rfl | rfl | rfl | rfl | rfl | rfl | rfl | rfl | rfl | rfl<;>decide
   exact absurd e hne
  ·rw [hins p hp] at e;cases e
 ·rw [getD_set (by omega)] at hlp
  have hne:p.2.1≠7/\p.1≠0:=by
   simp only [pCall,List.mem_cons,List.not_mem_nil,or_false] at hp
   rcases hp with rfl | rfl | rfl | rfl | rfl | rfl<;>decide
  show PF D _ p.2.2 (if p.2.1=7 then _ else f p.2.1)
  rw [if_neg hne.1]
  exact (h2 p hp (hlp.resolve_left hne.2)).ext (ext_alloc w _)
theorem pIns_inj:∀ p∈pIns,∀ q∈pIns,p.2=q.2->p=q:=by decide
theorem pCall_inj:∀ p∈pCall,∀ q∈pCall,p.2.1=q.2.1->p=q:=by decide
theorem pFr_put (op:Int) (D:Nat) (f:Nat->Value) (u:Value):∀ p∈pCall,(pFr op D f).put (some p.2.1) u=pFr op D (fun s=>if s=p.2.1 then u else f s):=by
 intro p hp
 simp only [pCall,List.mem_cons,List.not_mem_nil,or_false] at hp
 rcases hp with rfl | rfl | rfl | rfl | rfl | rfl<;>rfl
theorem PI.put {op:Int} {D N:Nat} {listed:Array Bool} {f:Nat->Value} {w:World} (h:PI op D N listed (pFr op D f) w) {p:Nat × Int} (hp:p∈pIns) (hi:listed.getD p.1 true=false) (h0:listed.getD 0 true=true)
  (hk:-9223372036854775808<=p.2/\p.2<=9223372036854775807) {val:Value} (hv:PF D w p.2 val) :
  ∃ M w',f 7=.map (some M)/\N<=M/\(Instr.mapUpdate 177 (.map (some M)) (.int .i64 p.2) val).run Tryz.prog w=.ok () w'/\w.grownBy w' (some M)/\PI op D N (listed.setIfInBounds p.1 true) (pFr op D f) w':=by
 have hs:=h.size
 have hlater:=h.later
 obtain ⟨k1,k2,k3,k4,k5⟩:=h.known
 obtain ⟨f',hf,h1,h2⟩:=h.frame
 have e:∀ q∈pCall,f' q.2.1=f q.2.1:=by
  intro q hq
  have:=congrArg (fun a:Act=>a.tmps) hf
  simp only [pFr,Array.mk.injEq,List.cons.injEq] at this
  simp only [pCall,List.mem_cons,List.not_mem_nil,or_false] at hq
  rcases hq with rfl | rfl | rfl | rfl | rfl | rfl<;>simp [this]
 have e7:f' 7=f 7:=by
  have:=congrArg (fun a:Act=>a.tmps) hf
  simp only [pFr,Array.mk.injEq,List.cons.injEq] at this
  simp [this]
 obtain ⟨M,n,DD,q1,q2,q3,q4,q5⟩:=h1 h0
 have hl:=left_set hs hi
 obtain ⟨w',r1,r2,r3⟩:=q3.put (by omega) hk val
 have hil:p.1<listed.size:=by
  rcases Nat.lt_or_ge p.1 listed.size with h | h
  ·exact h
  ·simp [Array.getD,show ¬ p.1<listed.size by omega] at hi
 refine ⟨M,w',by rw [<-e7];exact q1,q2,r1,r3,by simp [hs],?_,?_,fun _ _ _=>(getD_set hil).2 (.inr h0),f,rfl,fun _=>⟨M,n+1,_,by rw [<-e7];exact q1,q2,r2,by omega,fun q hq hlq=>?_⟩,fun q hq hlq=>?_⟩
 ·simp only [getD_set hil]
  exact ⟨.inr k1,.inr k2,.inr k3,.inr k4,.inr k5⟩
 ·intro j hj
  rw [getD_set_ne true]
  ·exact hlater j hj
  ·simp only [pIns,List.mem_cons,List.not_mem_nil,or_false] at hp
   rcases hp with rfl | rfl | rfl | rfl | rfl | rfl | rfl | rfl | rfl | rfl | rfl | rfl | rfl | rfl<;>simp only<;>omega
 ·by_cases hpq:q=p
  ·subst hpq
   exact ⟨val,atKey_put_same q3.2 (by trivial) _ _,hv.put q3 r3⟩
  ·rw [getD_set hil] at hlq
   have hne:q.1≠p.1:=by
    intro e1
    have:∀ p∈pIns,∀ q∈pIns,p.1=q.1->p=q:=by decide
    exact hpq (this q hq p hp e1)
   obtain ⟨F,g1,g2⟩:=q5 q hq (hlq.resolve_left hne)
   refine ⟨F,?_,g2.put q3 r3⟩
   rw [atKey_put_other,g1]
   intro e1
   injection e1 with _ e1
   exact hpq (pIns_inj q hq p hp e1)
 ·rw [getD_set hil] at hlq
  have hne:q.1≠p.1:=by
   have:∀ p∈pIns,∀ q∈pCall,q.1≠p.1:=by decide
   exact this p hp q hq
  rw [<-e q hq]
  exact (h2 q hq (hlq.resolve_left hne)).put q3 r3
theorem PI.called {op:Int} {D N:Nat} {listed:Array Bool} {f:Nat->Value} {w:World} (h:PI op D N listed (pFr op D f) w) {p:Nat × Nat × Int} (hp:p∈pCall) (hi:listed.getD p.1 true=false) :
  PI op D N (listed.setIfInBounds p.1 true) ((pFr op D f).put (some p.2.1) (.func (.func 152) #[] #[.pointer (some ⟨w.heap.size,0,none⟩)])) (w.alloc (.cells #[pArg D p.2.2] 174)):=by
 have hs:=h.size
 have hlater:=h.later
 obtain ⟨k1,k2,k3,k4,k5⟩:=h.known
 obtain ⟨f',hf,h1,h2⟩:=h.frame
 have e:∀ q∈pCall,f' q.2.1=f q.2.1:=by
  intro q hq
  have:=congrArg (fun a:Act=>a.tmps) hf
  simp only [pFr,Array.mk.injEq,List.cons.injEq] at this
  simp only [pCall,List.mem_cons,List.not_mem_nil,or_false] at hq
  rcases hq with rfl | rfl | rfl | rfl | rfl | rfl<;>simp [this]
 have e7:f' 7=f 7:=by
  have:=congrArg (fun a:Act=>a.tmps) hf
  simp only [pFr,Array.mk.injEq,List.cons.injEq] at this
  simp [this]
 have hl:=left_set hs hi
 have hx:=ext_alloc w (.cells #[pArg D p.2.2] 174)
 have hil:p.1<listed.size:=by
  rcases Nat.lt_or_ge p.1 listed.size with h | h
  ·exact h
  ·simp [Array.getD,show ¬ p.1<listed.size by omega] at hi
 have h7:p.2.1≠7/\p.1≠0:=by
  have:∀ p∈pCall,p.2.1≠7/\p.1≠0:=by decide
  exact this p hp
 refine ⟨by simp [hs],?_,?_,fun q hq hlq=>?_,_,pFr_put op D f _ p hp,fun h0=>?_,fun q hq hlq=>?_⟩
 ·simp only [getD_set hil]
  exact ⟨.inr k1,.inr k2,.inr k3,.inr k4,.inr k5⟩
 ·intro j hj
  rw [getD_set_ne true]
  ·exact hlater j hj
  ·simp only [pCall,List.mem_cons,List.not_mem_nil,or_false] at hp
   rcases hp with rfl | rfl | rfl | rfl | rfl | rfl<;>simp only<;>omega
 ·rw [getD_set hil] at hlq
  have hne:q.1≠p.1:=by
   have:∀ p∈pCall,∀ q∈pIns,q.1≠p.1:=by decide
   exact this p hp q hq
  exact (getD_set hil).2 (.inr (h.dep q hq (hlq.resolve_left hne)))
 ·rw [getD_set hil] at h0
  obtain ⟨M,n,DD,q1,q2,q3,q4,q5⟩:=h1 (h0.resolve_left (fun e=>h7.2 e.symm))
  refine ⟨M,n,DD,?_,q2,q3.kept (gb_ext hx w.heap.size) (by have:=q3.lt;intro e;injection e;omega),by omega,fun q hq hlq=>?_⟩
  ·show (if 7=p.2.1 then _ else f 7)=_
   rw [if_neg (fun e=>h7.1 e.symm),<-e7];exact q1
  ·rw [getD_set hil] at hlq
   have hne:q.1≠p.1:=by
    have:∀ p∈pCall,∀ q∈pIns,q.1≠p.1:=by decide
    exact this p hp q hq
   obtain ⟨F,g1,g2⟩:=q5 q hq (hlq.resolve_left hne)
   exact ⟨F,g1,g2.ext hx⟩
 ·by_cases hpq:q=p
  ·subst hpq
   show PF D _ q.2.2 (if q.2.1=q.2.1 then _ else _)
   rw [if_pos rfl]
   have hk:19<=q.2.2/\q.2.2<=24:=by
    have:∀ p∈pCall,19<=p.2.2/\p.2.2<=24:=by decide
    exact this q hq
   unfold PF
   rw [if_pos hk]
   exact ⟨_,rfl,Blk.new w _ _⟩
  ·rw [getD_set hil] at hlq
   have hne:q.1≠p.1:=by
    intro e1
    have:∀ p∈pCall,∀ q∈pCall,p.1=q.1->p=q:=by decide
    exact hpq (this q hq p hp e1)
   have hne2:q.2.1≠p.2.1:=fun e1=>hpq (pCall_inj q hq p hp e1)
   show PF D _ q.2.2 (if q.2.1=p.2.1 then _ else f q.2.1)
   rw [if_neg hne2,<-e q hq]
   exact (h2 q hq (hlq.resolve_left hne)).ext hx
theorem wp_ins {o:Oper} {a:Act} {w w':World} {K:Act->World->Prop} {Q:Exit->Act->World->Prop} {k:Int} {v:Operand} {M:Nat} {val:Value} (ho:o.op=.insert 177 (.tmp 7) (.const (.int .i64 k)) v) (hd:o.dst=none)
  (h7:a.eval (.tmp 7)=.map (some M)) (hv:a.eval v=val) (hrun:(Instr.mapUpdate 177 (.map (some M)) (.int .i64 k) val).run Tryz.prog w=.ok () w') (hK:K a w'):Oper.wp Tryz.prog o a w K Q:=by
 have hc:a.eval (.const (.int .i64 k))=.int .i64 k:=rfl
 unfold Oper.wp execOp
 simp only [ho,h7,hv,hc,Sem.run_bind,hrun,Result.andThen_ok,Sem.run_pure]
 show K (a.put o.dst undef) w'
 rw [hd];exact hK
theorem compared_calls (v:Value) (hv:v.oneCell'=true) (w:World):Calls Tryz.prog 128 #[v] w fun r w'=>r=.returned (.func (.func 152) #[] #[.pointer (some ⟨w.heap.size,0,none⟩)])/\w'=w.alloc (.cells #[v] 174):=by
 go_enter Tryz.func128,Tryz.ntmps128
 go_wp2_with fail
 go_ret
 exact ⟨rfl,rfl⟩
theorem pairs_calls (op:Int) (h1:11<=op) (h2:op<=26) (h3:op≠17) (h4:op≠18) (w:World) :
  Calls Tryz.prog 103 #[.int .i64 op] w fun r w'=>∃ F,r=.returned (.tuple #[F,.bool (decide (19<=op)),.bool true])/\Does w' F (vN (pairM op))/\Ext w w':=by
 have HX0:=ext_alloc w (.cells #[.nilFunc] 174)
 have hb0:=Blk.new w #[.nilFunc] 174
 have hs:=run_store Tryz.prog (w.alloc (.cells #[.nilFunc] 174)) ⟨w.heap.size,0,none⟩ (.func (.func 121) #[] #[]) .plain rfl
 rw [hb0.cell 0,hb0.frozen 0] at hs
 simp only [List.getElem?_cons_zero,List.getElem?_toArray,Bool.false_eq_true,if_false] at hs
 go_enter Tryz.func103,Tryz.ntmps103
 go_upto_region 2 with fail
 have HX:=ext_alloc w (.cells #[.func (.func 121) #[] #[]] 174)
 have hD:=Blk.new w #[.func (.func 121) #[] #[]] 174
 obtain ⟨D,hDe⟩:∃ D,w.heap.size=D:=⟨_,rfl⟩
 have HDE:=Jh hDe
 rw [hDe] at hD ⊢
 clear hs hb0 HX0 hDe
 generalize w.alloc _=w0 at *
 refine Jg w0 fun hH=>?_
 try simp only [J]
 (refine Jt 11 (.func (.func 121) #[] #[]) rfl (yif_load1 rfl (by intro W hW;have y:=(hD.ext hW).has 0 _ rfl;clear hW;go_simp)) hH ?_;try simp only [J])
 (refine Jt 14 (.func (.func 131) #[] #[.pointer (some ⟨D,0,none⟩)]) rfl (yif_load1 rfl (by intro W hW;clear hW;go_simp)) hH ?_;try simp only [J])
 (refine Jt 17 (.func (.func 132) #[] #[.pointer (some ⟨D,0,none⟩)]) rfl (yif_load1 rfl (by intro W hW;clear hW;go_simp)) hH ?_;try simp only [J])
 (refine Jt 20 (.func (.func 133) #[] #[.pointer (some ⟨D,0,none⟩)]) rfl (yif_load1 rfl (by intro W hW;clear hW;go_simp)) hH ?_;try simp only [J])
 (refine Jt 26 (.int .i64 op) rfl (yif_load1 rfl fun _ _=>rfl) hH ?_;try simp only [J])
 have HD:=Jh hD
 have HX2:=Jh HX
 clear hD HX
 refine held_inv (fun listed a W=>PI op D w0.heap.size listed a W) #[true,true,true,true,true,true,true,true,true,true,true,true,true,true,true,true,true,true,true,true,true,true,true,true,true,false,true,false,false,false,false,false,false] 25 ?hu ?hsize ?some ?full ?step ?fin _ _ _ _ ?cnt ?start hH
 case hu=>kernel_rfl
 case cnt=>kernel_rfl
 case hsize=>exact fun _ _ _ h=>h.size
 case some =>
  intro listed a W h e
  have h25:=h.later 25 (.inl rfl)
  have:25∈(List.range 33).filter fun i=>!(listed.getD i true):=List.mem_filter.2 ⟨List.mem_range.2 (by decide),by rw [h25];rfl⟩
  have e2:((List.range 33).filter fun i=>!(listed.getD i true)).length=0:=e
  rw [List.eq_nil_of_length_eq_zero e2] at this
  cases this
 case full =>
  intro listed a W h hr
  obtain ⟨h25,o,ho,hall⟩:=mem_ready.1 hr
  injection ho with ho
  subst ho
  have hj:∀ j,j<25->listed.getD j true=true:=by
   intro j hj
   have hc:j=0\/j=1\/j=2\/j=3\/j=4\/j=5\/j=6\/j=7\/j=8\/j=9\/j=10\/j=11\/j=12\/j=13\/j=14\/j=15\/j=16\/j=17\/j=18\/j=19\/j=20\/j=21\/j=22\/j=23\/j=24:=by omega
   rcases hc with rfl | rfl | rfl | rfl | rfl | rfl | rfl | rfl | rfl | rfl | rfl | rfl | rfl | rfl | rfl | rfl | rfl | rfl | rfl | rfl | rfl | rfl | rfl | rfl | rfl
   ·exact getD_tf (hall ⟨0,.data⟩ (by simp) rfl)
   ·exact getD_tf (hall ⟨1,.data⟩ (by simp) rfl)
   ·exact getD_tf (hall ⟨2,.data⟩ (by simp) rfl)
   ·exact getD_tf (hall ⟨3,.data⟩ (by simp) rfl)
   ·exact getD_tf (hall ⟨4,.data⟩ (by simp) rfl)
   ·exact getD_tf (hall ⟨5,.data⟩ (by simp) rfl)
   ·exact getD_tf (hall ⟨6,.data⟩ (by simp) rfl)
   ·exact getD_tf (hall ⟨7,.data⟩ (by simp) rfl)
   ·exact getD_tf (hall ⟨8,.data⟩ (by simp) rfl)
   ·exact getD_tf (hall ⟨9,.data⟩ (by simp) rfl)
   ·exact getD_tf (hall ⟨10,.data⟩ (by simp) rfl)
   ·exact getD_tf (hall ⟨11,.data⟩ (by simp) rfl)
   ·exact getD_tf (hall ⟨12,.data⟩ (by simp) rfl)
   ·exact getD_tf (hall ⟨13,.data⟩ (by simp) rfl)
   ·exact getD_tf (hall ⟨14,.data⟩ (by simp) rfl)
   ·exact getD_tf (hall ⟨15,.data⟩ (by simp) rfl)
   ·exact getD_tf (hall ⟨16,.data⟩ (by simp) rfl)
   ·exact getD_tf (hall ⟨17,.data⟩ (by simp) rfl)
   ·exact getD_tf (hall ⟨18,.data⟩ (by simp) rfl)
   ·exact getD_tf (hall ⟨19,.data⟩ (by simp) rfl)
   ·exact getD_tf (hall ⟨20,.data⟩ (by simp) rfl)
   ·exact getD_tf (hall ⟨21,.data⟩ (by simp) rfl)
   ·exact getD_tf (hall ⟨22,.data⟩ (by simp) rfl)
   ·exact getD_tf (hall ⟨23,.data⟩ (by simp) rfl)
   ·exact getD_tf (hall ⟨24,.data⟩ (by simp) rfl)
  have hl:=h.later
  have hk:=h.known.2.2.2.2
  refine Array.ext (by rw [h.size];rfl) fun i i1 i2=>?_
  have hget:listed[i]=listed.getD i true:=by simp [Array.getD,i1]
  rw [hget]
  have hs:=h.size
  have hc:i<25\/i=25\/i=26\/i=27\/i=28\/i=29\/i=30\/i=31\/i=32:=by omega
  rcases hc with h0 | rfl | rfl | rfl | rfl | rfl | rfl | rfl | rfl
  ·rw [hj i h0]
   have:∀ q:Fin 25,(#[true,true,true,true,true,true,true,true,true,true,true,true,true,true,true,true,true,true,true,true,true,true,true,true,true,false,true,false,false,false,false,false,false]:Array Bool)[q.val]? = some true:=by decide
   have:=this ⟨i,h0⟩
   simp only at this
   rw [Array.getElem?_eq_getElem i2] at this
   exact (Option.some.inj this).symm
  ·exact hl 25 (by decide)
  ·exact hk
  ·exact hl 27 (by decide)
  ·exact hl 28 (by decide)
  ·exact hl 29 (by decide)
  ·exact hl 30 (by decide)
  ·exact hl 31 (by decide)
  ·exact hl 32 (by decide)
 case start =>
  refine ⟨rfl,⟨rfl,rfl,rfl,rfl,rfl⟩,?_,?_,fun _=>undef,rfl,fun h=>absurd (show false=true from h) Bool.false_ne_true,?_⟩
  ·intro i hi
   have hc:i=25\/i=27\/i=28\/i=29\/i=30\/i=31\/i=32:=by omega
   rcases hc with rfl | rfl | rfl | rfl | rfl | rfl | rfl<;>rfl
  ·intro p hp
   simp only [pIns,List.mem_cons,List.not_mem_nil,or_false] at hp
   rcases hp with rfl | rfl | rfl | rfl | rfl | rfl | rfl | rfl | rfl | rfl | rfl | rfl | rfl | rfl<;>exact fun h=>absurd (show false=true from h) Bool.false_ne_true
  ·intro p hp
   simp only [pCall,List.mem_cons,List.not_mem_nil,or_false] at hp
   rcases hp with rfl | rfl | rfl | rfl | rfl | rfl<;>exact fun h=>absurd (show false=true from h) Bool.false_ne_true
 case step =>
  intro listed a W i h hS hr hne
  obtain ⟨hi,o,ho,hall⟩:=mem_ready.1 hr
  have hlt:=(Array.getElem?_eq_some_iff.1 ho).1
  obtain ⟨k1,k2,k3,k4,k5⟩:=h.known
  have hl:=h.later
  have n1:i≠11:=by rintro rfl;rw [k1] at hi;cases hi
  have n2:i≠14:=by rintro rfl;rw [k2] at hi;cases hi
  have n3:i≠17:=by rintro rfl;rw [k3] at hi;cases hi
  have n4:i≠20:=by rintro rfl;rw [k4] at hi;cases hi
  have n5:i≠26:=by rintro rfl;rw [k5] at hi;cases hi
  have hsz:i<33:=hlt
  have hw0:=hS.size
  clear hlt k1 k2 k3 k4 k5
  obtain ⟨f,hf,-,hcall⟩:=h.frame
  subst hf
  have hc:i=0\/i=1\/i=2\/i=3\/i=4\/i=5\/i=6\/i=7\/i=8\/i=9\/i=10\/i=12\/i=13\/i=15\/i=16\/i=18\/i=19\/i=21\/i=22\/i=23\/i=24\/i=27\/i=28\/i=29\/i=30\/i=31\/i=32:=by omega
  clear n1 n2 n3 n4 n5 hsz hne
  rcases hc with rfl | rfl | rfl | rfl | rfl | rfl | rfl | rfl | rfl | rfl | rfl | rfl | rfl | rfl | rfl | rfl | rfl | rfl | rfl | rfl | rfl | rfl | rfl | rfl | rfl | rfl | rfl
  all_goals (injection ho with ho;subst ho)
  ·refine wpOp_of rfl rfl ?_
   have hmk:(Instr.makeMap 177 none).run Tryz.prog W=.ok (.map (some W.heap.size)) (W.alloc (.map #[] 0)):=rfl
   unfold Oper.wp execOp
   simp only [Option.map_none,Sem.run_bind,hmk,Result.andThen_ok,Sem.run_pure]
   exact ⟨hS.alloc _,h.make hw0 hi⟩
  ·obtain ⟨M,w',q1,qN,hrun,hg,hPI⟩:=h.put (p:=(1,11)) (by decide) hi (getD_tf (hall ⟨0,.data⟩ (by simp) rfl)) (by decide) (val:=.func (.func 122) #[] #[]) (by simp [PF])
   refine wpOp_of rfl rfl (wp_ins rfl rfl q1 rfl hrun ⟨hS.grown hg qN,hPI⟩)
  ·obtain ⟨M,w',q1,qN,hrun,hg,hPI⟩:=h.put (p:=(2,12)) (by decide) hi (getD_tf (hall ⟨0,.data⟩ (by simp) rfl)) (by decide) (val:=.func (.func 123) #[] #[]) (by simp [PF])
   refine wpOp_of rfl rfl (wp_ins rfl rfl q1 rfl hrun ⟨hS.grown hg qN,hPI⟩)
  ·obtain ⟨M,w',q1,qN,hrun,hg,hPI⟩:=h.put (p:=(3,13)) (by decide) hi (getD_tf (hall ⟨0,.data⟩ (by simp) rfl)) (by decide) (val:=.func (.func 124) #[] #[]) (by simp [PF])
   refine wpOp_of rfl rfl (wp_ins rfl rfl q1 rfl hrun ⟨hS.grown hg qN,hPI⟩)
  ·obtain ⟨M,w',q1,qN,hrun,hg,hPI⟩:=h.put (p:=(4,14)) (by decide) hi (getD_tf (hall ⟨0,.data⟩ (by simp) rfl)) (by decide) (val:=.func (.func 125) #[] #[]) (by simp [PF])
   refine wpOp_of rfl rfl (wp_ins rfl rfl q1 rfl hrun ⟨hS.grown hg qN,hPI⟩)
  ·obtain ⟨M,w',q1,qN,hrun,hg,hPI⟩:=h.put (p:=(5,15)) (by decide) hi (getD_tf (hall ⟨0,.data⟩ (by simp) rfl)) (by decide) (val:=.func (.func 126) #[] #[]) (by simp [PF])
   refine wpOp_of rfl rfl (wp_ins rfl rfl q1 rfl hrun ⟨hS.grown hg qN,hPI⟩)
  ·obtain ⟨M,w',q1,qN,hrun,hg,hPI⟩:=h.put (p:=(6,16)) (by decide) hi (getD_tf (hall ⟨0,.data⟩ (by simp) rfl)) (by decide) (val:=.func (.func 127) #[] #[]) (by simp [PF])
   refine wpOp_of rfl rfl (wp_ins rfl rfl q1 rfl hrun ⟨hS.grown hg qN,hPI⟩)
  ·refine wpOp_of rfl rfl ?_
   have hcc:=h.called (p:=(7,8,19)) (by decide) hi
   go_simp
   refine (compared_calls (pArg D 19) rfl W).mono ?_
   rintro r w' ⟨rfl,rfl⟩
   exact ⟨hS.alloc _,hcc⟩
  ·obtain ⟨M,w',q1,qN,hrun,hg,hPI⟩:=h.put (p:=(8,19)) (by decide) hi (getD_tf (hall ⟨0,.data⟩ (by simp) rfl)) (by decide) (val:=f 8) (hcall (7,8,19) (by decide) (getD_tf (hall ⟨7,.data⟩ (by simp) rfl)))
   refine wpOp_of rfl rfl (wp_ins rfl rfl q1 rfl hrun ⟨hS.grown hg qN,hPI⟩)
  ·refine wpOp_of rfl rfl ?_
   have hcc:=h.called (p:=(9,9,20)) (by decide) hi
   go_simp
   refine (compared_calls (pArg D 20) rfl W).mono ?_
   rintro r w' ⟨rfl,rfl⟩
   exact ⟨hS.alloc _,hcc⟩
  ·obtain ⟨M,w',q1,qN,hrun,hg,hPI⟩:=h.put (p:=(10,20)) (by decide) hi (getD_tf (hall ⟨0,.data⟩ (by simp) rfl)) (by decide) (val:=f 9) (hcall (9,9,20) (by decide) (getD_tf (hall ⟨9,.data⟩ (by simp) rfl)))
   refine wpOp_of rfl rfl (wp_ins rfl rfl q1 rfl hrun ⟨hS.grown hg qN,hPI⟩)
  ·refine wpOp_of rfl rfl ?_
   have hcc:=h.called (p:=(12,11,21)) (by decide) hi
   go_simp
   refine (compared_calls (pArg D 21) rfl W).mono ?_
   rintro r w' ⟨rfl,rfl⟩
   exact ⟨hS.alloc _,hcc⟩
  ·obtain ⟨M,w',q1,qN,hrun,hg,hPI⟩:=h.put (p:=(13,21)) (by decide) hi (getD_tf (hall ⟨0,.data⟩ (by simp) rfl)) (by decide) (val:=f 11) (hcall (12,11,21) (by decide) (getD_tf (hall ⟨12,.data⟩ (by simp) rfl)))
   refine wpOp_of rfl rfl (wp_ins rfl rfl q1 rfl hrun ⟨hS.grown hg qN,hPI⟩)
  ·refine wpOp_of rfl rfl ?_
   have hcc:=h.called (p:=(15,13,22)) (by decide) hi
   go_simp
   refine (compared_calls (pArg D 22) rfl W).mono ?_
   rintro r w' ⟨rfl,rfl⟩
   exact ⟨hS.alloc _,hcc⟩
  ·obtain ⟨M,w',q1,qN,hrun,hg,hPI⟩:=h.put (p:=(16,22)) (by decide) hi (getD_tf (hall ⟨0,.data⟩ (by simp) rfl)) (by decide) (val:=f 13) (hcall (15,13,22) (by decide) (getD_tf (hall ⟨15,.data⟩ (by simp) rfl)))
   refine wpOp_of rfl rfl (wp_ins rfl rfl q1 rfl hrun ⟨hS.grown hg qN,hPI⟩)
  ·refine wpOp_of rfl rfl ?_
   have hcc:=h.called (p:=(18,15,23)) (by decide) hi
   go_simp
   refine (compared_calls (pArg D 23) rfl W).mono ?_
   rintro r w' ⟨rfl,rfl⟩
   exact ⟨hS.alloc _,hcc⟩
  ·obtain ⟨M,w',q1,qN,hrun,hg,hPI⟩:=h.put (p:=(19,23)) (by decide) hi (getD_tf (hall ⟨0,.data⟩ (by simp) rfl)) (by decide) (val:=f 15) (hcall (18,15,23) (by decide) (getD_tf (hall ⟨18,.data⟩ (by simp) rfl)))
   refine wpOp_of rfl rfl (wp_ins rfl rfl q1 rfl hrun ⟨hS.grown hg qN,hPI⟩)
  ·refine wpOp_of rfl rfl ?_
   have hcc:=h.called (p:=(21,17,24)) (by decide) hi
   go_simp
   refine (compared_calls (pArg D 24) rfl W).mono ?_
   rintro r w' ⟨rfl,rfl⟩
   exact ⟨hS.alloc _,hcc⟩
  ·obtain ⟨M,w',q1,qN,hrun,hg,hPI⟩:=h.put (p:=(22,24)) (by decide) hi (getD_tf (hall ⟨0,.data⟩ (by simp) rfl)) (by decide) (val:=f 17) (hcall (21,17,24) (by decide) (getD_tf (hall ⟨21,.data⟩ (by simp) rfl)))
   refine wpOp_of rfl rfl (wp_ins rfl rfl q1 rfl hrun ⟨hS.grown hg qN,hPI⟩)
  ·obtain ⟨M,w',q1,qN,hrun,hg,hPI⟩:=h.put (p:=(23,25)) (by decide) hi (getD_tf (hall ⟨0,.data⟩ (by simp) rfl)) (by decide) (val:=.func (.func 134) #[] #[]) (by simp [PF])
   refine wpOp_of rfl rfl (wp_ins rfl rfl q1 rfl hrun ⟨hS.grown hg qN,hPI⟩)
  ·obtain ⟨M,w',q1,qN,hrun,hg,hPI⟩:=h.put (p:=(24,26)) (by decide) hi (getD_tf (hall ⟨0,.data⟩ (by simp) rfl)) (by decide) (val:=.func (.func 135) #[] #[]) (by simp [PF])
   refine wpOp_of rfl rfl (wp_ins rfl rfl q1 rfl hrun ⟨hS.grown hg qN,hPI⟩)
  ·have e1:=getD_tf (hall ⟨25,.data⟩ (by simp) rfl)
   rw [hl 25 (by decide)] at e1;cases e1
  ·have e1:=getD_tf (hall ⟨27,.data⟩ (by simp) rfl)
   rw [hl 27 (by decide)] at e1;cases e1
  ·have e1:=getD_tf (hall ⟨28,.data⟩ (by simp) rfl)
   rw [hl 28 (by decide)] at e1;cases e1
  ·have e1:=getD_tf (hall ⟨28,.data⟩ (by simp) rfl)
   rw [hl 28 (by decide)] at e1;cases e1
  ·have e1:=getD_tf (hall ⟨29,.data⟩ (by simp) rfl)
   rw [hl 29 (by decide)] at e1;cases e1
  ·have e1:=getD_tf (hall ⟨30,.data⟩ (by simp) rfl)
   rw [hl 30 (by decide)] at e1;cases e1
 case fin =>
  intro a W h hH
  obtain ⟨f,hf,hmap,hcall⟩:=h.frame
  subst hf
  obtain ⟨M,n,DD,q1,q2,q3,q4,q5⟩:=hmap rfl
  obtain ⟨F,g1,g2⟩:∃ F,DD.atKey (.int .i64 op) .nil=.held F/\PF D W op F:=by
   have hk:op=11\/op=12\/op=13\/op=14\/op=15\/op=16\/op=25\/op=26\/op=19\/op=20\/op=21\/op=22\/op=23\/op=24:=by omega
   rcases hk with rfl | rfl | rfl | rfl | rfl | rfl | rfl | rfl | rfl | rfl | rfl | rfl | rfl | rfl
   ·exact q5 (1,11) (by decide) rfl
   ·exact q5 (2,12) (by decide) rfl
   ·exact q5 (3,13) (by decide) rfl
   ·exact q5 (4,14) (by decide) rfl
   ·exact q5 (5,15) (by decide) rfl
   ·exact q5 (6,16) (by decide) rfl
   ·exact q5 (23,25) (by decide) rfl
   ·exact q5 (24,26) (by decide) rfl
   ·exact q5 (8,19) (by decide) rfl
   ·exact q5 (10,20) (by decide) rfl
   ·exact q5 (13,21) (by decide) rfl
   ·exact q5 (16,22) (by decide) rfl
   ·exact q5 (19,23) (by decide) rfl
   ·exact q5 (22,24) (by decide) rfl
  have hdo:=g2.does h1 h2 h3 h4 (HD.out.ext hH)
  have hlook:=q3.look (k:=op) (by omega) g1
  have HDO:=Jh hdo
  clear h g1 g2 q5 q4 q3 hmap hcall hdo
  unfold pFr
  rw [q1]
  show wpAnyH _ _ _ _ _ 7 _ _ _
  (refine Jt 25 (.map (some M)) rfl (yif_load1 rfl fun _ _=>rfl) hH ?_;try simp only [J])
  (refine Jr 27 rfl fun K hK=>?_)
  go_simp
  refine hK.out _ _ hH (fun hH=>?_)
  clear hK K
  (refine Jt 28 (.tuple #[F,.bool true]) rfl (yif_load1 rfl fun _ _=>rfl) hH ?_;try simp only [J])
  (refine Jt 29 (F) rfl (yif_load1 rfl (by intro W hW;clear hW;go_simp)) hH ?_;try simp only [J])
  (refine Jt 30 (.bool true) rfl (yif_load1 rfl (by intro W hW;clear hW;go_simp)) hH ?_;try simp only [J])
  (refine Jt 31 (F) rfl (yif_load1 rfl fun _ _=>rfl) hH ?_;try simp only [J])
  (refine Jt 32 (.bool true) rfl (yif_load1 rfl fun _ _=>rfl) hH ?_;try simp only [J])
  refine Jz ?_
  go_wp2_with fail
  refine bodyPost_ret (v:=.tuple #[F,.bool (decide (19<=op)),.bool true]) (by simp [results,Tryz.results103,go_sem]) rfl ?_
  exact ⟨F,rfl,HDO.out,HX2.out.trans hH⟩
end Go.Proofs.YtpngepnfinbaoaaGreat
