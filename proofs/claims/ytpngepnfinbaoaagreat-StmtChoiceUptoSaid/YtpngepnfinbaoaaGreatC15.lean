/- Laws and walks that a claim of this seat leans on: EvalM, U64, Post, Bitv1, PopL, Bitv2, Bitv3. -/
import Derived.Test.YtpngepnfinbaoaaGreatC01
import Derived.Deep.DeepCutAuto
import Derived.Deep.CutBlock
import Derived.Deep.QuietTactic
import Derived.BigQuiet
import Derived.Test.YtpngepnfinbaoaaGreatC03
import Derived.Test.YtpngepnfinbaoaaGreatC00
set_option maxRecDepth 100000
set_option maxHeartbeats 8000000
set_option linter.all false
namespace Go.Proofs.YtpngepnfinbaoaaGreat
open Go.RowKit
def b2n (b:Bool):Nat:=if b=true then 1 else 0
def popN (v:Nat):Nat:=((List.range 64).filter fun i=>v.testBit i).length
def unM (op:Int) (w v:Nat):Nat :=
 if op=1 then 2^w-1-v
 else if op=2 then (2^w-v)%2^w
 else if op=3 then b2n (decide (v=2^w-1))
 else if op=4 then b2n (decide (v≠0))
 else if op=5 then popN v%2
 else b2n (decide (v=0))
def binM (op:Int) (w a b:Nat):Nat :=
 if op=11\/op=25 then a &&& b
 else if op=12\/op=26 then a ||| b
 else if op=13 then a ^^^ b
 else if op=14 then (a+b)%2^w
 else if op=15 then (a+2^w-b)%2^w
 else if op=16 then a*b%2^w
 else if op=17 then a*2^b%2^w
 else if op=18 then a / 2^b
 else if op=19 then b2n (decide (a=b))
 else if op=20 then b2n (decide (a≠b))
 else if op=21 then b2n (decide (a<b))
 else if op=22 then b2n (decide (a<=b))
 else if op=23 then b2n (decide (b<a))
 else b2n (decide (b<=a))
def extN (op:Int) (w wa a:Nat):Nat :=
 if op=32/\2^(wa-1)<=a then a+(2^w-2^wa) else if op=33 then a%2^w else a
def catM:List (Int × Nat)->Nat->Nat
 | [],acc=>acc
 | p::l,acc=>catM l (acc*2^p.1.toNat+p.2)
def evNode (vs:List Nat) (op w v sig hi lo n:Int) (ws:List Int) (xs:List Nat):Nat :=
 if op=1 then v.toNat
 else if op=2 then vs.getD sig.toNat 0 / 2^lo.toNat%2^(hi-lo+1).toNat
 else if op=3 then vs.getD sig.toNat 0 / 2^xs.getD 0 0%2
 else if op=4 then unM n (ws.getD 0 0).toNat (xs.getD 0 0)
 else if op=5 then binM n (ws.getD 0 0).toNat (xs.getD 0 0) (xs.getD 1 0)
 else if op=6 then if xs.getD 0 0=1 then xs.getD 1 0 else xs.getD 2 0
 else if op=7 then catM (ws.zip xs) 0
 else extN n w.toNat (ws.getD 0 0).toNat (xs.getD 0 0)
def evM (vs:List Nat):E->Nat
 | ⟨op,w,v,sig,hi,lo,n,l⟩=>evNode vs op w v sig hi lo n (l.map (·.w)) (evs l)
where evs:List E->List Nat
 | []=>[]
 | e::l=>evM vs e::evs l
theorem evM_eq (vs:List Nat) (e:E):evM vs e=evNode vs e.op e.w e.v e.sig e.hi e.lo e.n (e.l.map (·.w)) (e.l.map (evM vs)):=by
 have h:∀ l,evM.evs vs l=l.map (evM vs):=by
  intro l
  induction l with
  | nil=>rfl
  | cons x l ih=>rw [evM.evs,ih];rfl
 cases e
 rw [evM,h]
theorem b2n_lt (b:Bool):b2n b<2:=by cases b<;>decide
theorem unM_lt {op:Int} {w v:Nat} (hv:v<2^w) (h:op≠1->op≠2->1<=w):unM op w v<2^w:=by
 have h0:=Nat.two_pow_pos w
 have h2:op≠1->op≠2->2<=2^w:=fun ho hp=>Nat.le_trans (by decide:2<=2^1) (Nat.pow_le_pow_right (by decide) (h ho hp))
 unfold unM
 by_cases o1:op=1
 ·rw [if_pos o1];omega
 ·rw [if_neg o1]
  by_cases o2:op=2
  ·rw [if_pos o2];exact Nat.mod_lt _ h0
  ·rw [if_neg o2]
   have:=h2 o1 o2
   repeat' split
   all_goals first | (have:=b2n_lt (decide (v=2^w-1));omega) | (have:=b2n_lt (decide (v≠0));omega) | (have:=Nat.mod_lt (popN v) (by decide:0<2);omega) | (have:=b2n_lt (decide (v=0));omega)
theorem binM_lt {op:Int} {w a b:Nat} (ha:a<2^w) (hb:op≠17->op≠18->b<2^w) (hw:1<=w):binM op w a b<2^w:=by
 have h0:=Nat.two_pow_pos w
 have h2:2<=2^w:=Nat.le_trans (by decide:2<=2^1) (Nat.pow_le_pow_right (by decide) hw)
 have hc:∀ c:Bool,b2n c<2^w:=fun c=>Nat.lt_of_lt_of_le (b2n_lt c) h2
 unfold binM
 by_cases c0:op=11\/op=25
 ·rw [if_pos c0];exact Nat.and_lt_two_pow _ (hb (by omega) (by omega))
 rw [if_neg c0]
 by_cases c1:op=12\/op=26
 ·rw [if_pos c1];exact Nat.or_lt_two_pow ha (hb (by omega) (by omega))
 rw [if_neg c1]
 by_cases c2:op=13
 ·rw [if_pos c2];exact Nat.xor_lt_two_pow ha (hb (by omega) (by omega))
 rw [if_neg c2]
 by_cases c3:op=14
 ·rw [if_pos c3];exact Nat.mod_lt _ h0
 rw [if_neg c3]
 by_cases c4:op=15
 ·rw [if_pos c4];exact Nat.mod_lt _ h0
 rw [if_neg c4]
 by_cases c5:op=16
 ·rw [if_pos c5];exact Nat.mod_lt _ h0
 rw [if_neg c5]
 by_cases c6:op=17
 ·rw [if_pos c6];exact Nat.mod_lt _ h0
 rw [if_neg c6]
 by_cases c7:op=18
 ·rw [if_pos c7];exact Nat.lt_of_le_of_lt (Nat.div_le_self _ _) ha
 rw [if_neg c7]
 by_cases c8:op=19
 ·rw [if_pos c8];exact hc _
 rw [if_neg c8]
 by_cases c9:op=20
 ·rw [if_pos c9];exact hc _
 rw [if_neg c9]
 by_cases c10:op=21
 ·rw [if_pos c10];exact hc _
 rw [if_neg c10]
 by_cases c11:op=22
 ·rw [if_pos c11];exact hc _
 rw [if_neg c11]
 by_cases c12:op=23
 ·rw [if_pos c12];exact hc _
 rw [if_neg c12]
 exact hc _
theorem extN_lt {op:Int} {w wa a:Nat} (ha:a<2^wa) (h0:1<=wa) (h:op≠33->wa<=w):extN op w wa a<2^w:=by
 unfold extN
 by_cases c0:op=32/\2^(wa-1)<=a
 ·rw [if_pos c0]
  have:=Nat.pow_le_pow_right (n:=2) (by decide) (h (by omega))
  omega
 rw [if_neg c0]
 by_cases c1:op=33
 ·rw [if_pos c1];exact Nat.mod_lt _ (Nat.two_pow_pos w)
 rw [if_neg c1]
 exact Nat.lt_of_lt_of_le ha (Nat.pow_le_pow_right (by decide) (h c1))
theorem catM_lt (l:List (Int × Nat)):∀ acc k,acc<2^k->(∀ p∈l,p.2<2^p.1.toNat)->catM l acc<2^(k+(l.map fun p=>p.1.toNat).sum):=by
 induction l with
 | nil=>intro acc k h _;simpa [catM] using h
 | cons p l ih =>
  intro acc k h hp
  rw [catM]
  have h1:=hp p (by simp)
  have h2:acc*2^p.1.toNat+p.2<2^(k+p.1.toNat):=by
   rw [Nat.pow_add]
   have:(acc+1)*2^p.1.toNat<=2^k*2^p.1.toNat:=Nat.mul_le_mul_right _ h
   rw [Nat.add_mul] at this
   omega
  have:=ih _ _ h2 (fun q hq=>hp q (by simp [hq]))
  rw [List.map_cons,List.sum_cons,<-Nat.add_assoc]
  exact this
abbrev U (x:BitVec 64):Value:=.int .u64 (x.toNat:Int)
theorem u_of (x:BitVec 64):BitVec.ofInt 64 (x.toNat:Int)=x:=by
 rw [BitVec.ofInt_natCast,BitVec.ofNat_toNat,BitVec.setWidth_eq]
theorem u_wrap (x:BitVec 64):IntKind.u64.wrap (x.toNat:Int)=x.toNat:=by
 rw [IntKind.wrap_u64];have:=x.isLt;omega
theorem u_shl (x:BitVec 64) (n:Nat):IntKind.u64.wrap ((x.toNat:Int)*2^n)=(x <<< n).toNat:=by
 rw [IntKind.wrap_u64,BitVec.toNat_shiftLeft,Nat.shiftLeft_eq];simp
theorem u_shr (x:BitVec 64) (n:Nat):(x.toNat:Int).fdiv (2^n)=(x >>> n).toNat:=by
 rw [BitVec.toNat_ushiftRight,Nat.shiftRight_eq_div_pow,Int.fdiv_eq_ediv_of_nonneg _ (by exact Int.le_of_lt (Int.pow_pos (by decide)))]
 norm_cast
theorem u_nat {n:Nat} (h:n<18446744073709551616):∃ x:BitVec 64,x.toNat=n:=⟨BitVec.ofNat 64 n,by rw [BitVec.toNat_ofNat];omega⟩
theorem u_and (x y:BitVec 64):bits .and .u64 (x.toNat:Int) (y.toNat:Int)=((x &&& y).toNat:Int):=by
 unfold bits;simp only [IntKind.bits];rw [u_of,u_of];exact u_wrap _
theorem u_or (x y:BitVec 64):bits .or .u64 (x.toNat:Int) (y.toNat:Int)=((x ||| y).toNat:Int):=by
 unfold bits;simp only [IntKind.bits];rw [u_of,u_of];exact u_wrap _
theorem u_xor (x y:BitVec 64):bits .xor .u64 (x.toNat:Int) (y.toNat:Int)=((x ^^^ y).toNat:Int):=by
 unfold bits;simp only [IntKind.bits];rw [u_of,u_of];exact u_wrap _
theorem u_andNot (x y:BitVec 64):bits .andNot .u64 (x.toNat:Int) (y.toNat:Int)=((x &&& ~~~y).toNat:Int):=by
 unfold bits;simp only [IntKind.bits];rw [u_of,u_of];exact u_wrap _
theorem U_and (x y:BitVec 64):U (x &&& y)=.int .u64 (bits .and .u64 (x.toNat:Int) (y.toNat:Int)):=by rw [u_and]
theorem u_max:IntKind.u64.max=((18446744073709551615#64).toNat:Int):=by decide
theorem u_not (x:BitVec 64):bits .xor .u64 IntKind.u64.max (x.toNat:Int)=((~~~x).toNat:Int):=by
 rw [u_max,u_xor,show 18446744073709551615#64=BitVec.allOnes 64 by decide,BitVec.allOnes_xor]
theorem n_not {v:Nat} (hv:v<18446744073709551616):bits .xor .u64 IntKind.u64.max (v:Int)=((18446744073709551615-v:Nat):Int):=by
 obtain ⟨x,rfl⟩:=u_nat hv
 rw [u_not,BitVec.toNat_not]
theorem n_or' {a b:Nat} (ha:a<18446744073709551616) (hb:b<18446744073709551616):bits .or .u64 (a:Int) (b:Int)=((a ||| b:Nat):Int):=by
 obtain ⟨x,rfl⟩:=u_nat ha
 obtain ⟨y,rfl⟩:=u_nat hb
 rw [u_or,BitVec.toNat_or]
theorem n_xor {a b:Nat} (ha:a<18446744073709551616) (hb:b<18446744073709551616):bits .xor .u64 (a:Int) (b:Int)=((a ^^^ b:Nat):Int):=by
 obtain ⟨x,rfl⟩:=u_nat ha
 obtain ⟨y,rfl⟩:=u_nat hb
 rw [u_xor,BitVec.toNat_xor]
theorem post_ret_blk2' {P:Program} {fn:Func} {R:Ending->World->Prop} {a:Act} {w:World} {p q:Tmp} {ty:TypeId} {B:Nat} {cs:List Value} {v:Value} {n:Nat} (hf:fn.results = #[.cell p ty,.tmp q])
  (hp:a.tmps.getD p undef=.pointer (some ⟨B,0,none⟩)) (hq:a.tmps.getD q undef=v) (hb:Has w B 0 cs) (hu:Agg P ty n) (hn:cs.length=n) (hd:a.defers=[]) (h:R (.returned (.tuple #[.agg cs.toArray,v])) w):bodyPost P fn R .ret a w:=by
 subst hn
 subst hq
 refine bodyPost_ret ?_ hd h
 have hp':a.tmps[p]?.getD undef=.pointer (some ⟨B,0,none⟩):=by simpa using hp
 simp [results,hf,hp',asAddr,run_loadVar_has w B 0 ty cs hb hu]
structure Bt where
 w:Int
 v:Nat
abbrev Bt.cells (x:Bt):List Value:=[.int .i64 x.w,.int .u64 (x.v:Int)]
def Bt.ok (x:Bt):Prop:=1<=x.w/\x.w<=64/\x.v<2^x.w.toNat
theorem agg_Bits:Agg Tryz.prog 69 2:=by unfold Agg;exact ⟨by kernel_rfl,by kernel_rfl⟩
def maskB (w:Int):BitVec 64:=if w<=0 then 0#64 else if w<64 then ~~~(18446744073709551615#64 <<< w.toNat) else 18446744073709551615#64
theorem maskB_nat (w:Int) (h:0<=w) (h2:w<=64):(maskB w).toNat=2^w.toNat-1:=by
 obtain ⟨k,rfl⟩:=Int.eq_ofNat_of_zero_le h
 have hk:k<=64:=by omega
 clear h h2
 revert k
 decide +kernel
theorem and_maskB (x:BitVec 64) (w:Int) (h:0<=w) (h2:w<=64):(x &&& maskB w).toNat=x.toNat%2^w.toNat:=by
 rw [BitVec.toNat_and,maskB_nat w h h2,Nat.and_two_pow_sub_one_eq_mod]
theorem may_maskB (x:BitVec 64) (w:Int) (h:0<=w) (h2:w<=64) (hx:x.toNat<2^w.toNat):x &&& ~~~maskB w=0#64:=by
 have h1:x &&& maskB w=x:=BitVec.eq_of_toNat_eq (by rw [and_maskB x w h h2,Nat.mod_eq_of_lt hx])
 rw [<-h1,BitVec.and_assoc]
 simp
theorem Mask_calls (wd:Int) (w:World):Calls Tryz.prog 55 #[.int .i64 wd] w fun r w'=>r=.returned (U (maskB wd))/\w'=w:=by
 go_enter Tryz.func55,Tryz.ntmps55
 by_cases h1:wd<=0
 ·go_wp2_with fail
  all_goals go_ret
  all_goals exact ⟨by unfold maskB;rw [if_pos h1];rfl,rfl⟩
 ·by_cases h2:wd<64
  ·go_wp2_with fail
   all_goals go_ret
   all_goals refine ⟨?_,rfl⟩
   all_goals unfold maskB
   all_goals rw [if_neg (by omega),if_pos h2]
   all_goals exact congrArg (fun n=>Ending.returned (.int .u64 n)) (by rw [show (18446744073709551615:Int)=((18446744073709551615#64).toNat:Int) from rfl,u_shl,u_not])
  ·go_wp2_with fail
   all_goals go_ret
   all_goals exact ⟨by unfold maskB;rw [if_neg (by omega),if_neg (by omega)];rfl,rfl⟩
theorem Bt.bv {a:Bt} (h:a.ok):∃ x:BitVec 64,a.v=x.toNat/\x &&& ~~~maskB a.w=0#64:=by
 obtain ⟨h1,h2,h3⟩:=h
 have h4:a.v<2^64:=Nat.lt_of_lt_of_le h3 (Nat.pow_le_pow_right (by decide) (by omega))
 obtain ⟨x,hx⟩:=u_nat (show a.v<18446744073709551616 from h4)
 exact ⟨x,hx.symm,may_maskB x a.w (by omega) h2 (by rw [hx];exact h3)⟩
theorem Ext.drewNB {w w':World} (h:Ext w w') (n:Nat):Ext w (w'.drewN n):=⟨h.os,h.tape,h.output,h.size,h.block⟩
theorem Blk.drewN {w:World} {B:Nat} {cs:Array Value} {T:TypeId} (h:Blk w B cs T) (n:Nat):Blk (w.drewN n) B cs T:=h
theorem Has.drewN {w:World} {b o:Nat} {cs:List Value} (h:Has w b o cs) (n:Nat):Has (w.drewN n) b o cs:=h
theorem may_calls (a:Bt) (ha:a.ok) (w:World):Calls Tryz.prog 99 #[.agg a.cells.toArray] w fun r w'=>r=.returned (.bool true)/\Ext w w':=by
 obtain ⟨x,hx,h0⟩:=Bt.bv ha
 obtain ⟨h1,h2,-⟩:=ha
 obtain ⟨wd,v⟩:=a
 simp only at hx h0 h1 h2
 subst hx
 have HX:=ext_alloc w (.cells (Bt.cells ⟨wd,x.toNat⟩).toArray 69)
 have hb:=Blk.new w (Bt.cells ⟨wd,x.toNat⟩).toArray 69
 have H0:=Jh h0
 clear h0
 go_enter Tryz.func99,Tryz.ntmps99
 go_upto_region 1 with fail
 generalize w.alloc _=w0 at *
 have g0:=hb.has 0 _ rfl
 have g1:=hb.has 1 _ rfl
 have b1:(decide (0<wd))=true:=by simp;omega
 have b2:(decide (wd<=64))=true:=by simp;omega
 have hm:=fun W=>Mask_calls wd W
 have HM:=Jh hm
 clear hm
 go_quiet (first | (go_at_call 55;refine Calls.quiet_of_same (HM.out _)))
 go_wp2_with fail
 go_ret
 exact ⟨congrArg (fun b=>Ending.returned (.bool b)) (by rw [u_andNot,H0.out];rfl),HX.drewNB nq⟩
theorem made_calls (wd:Int) (x:BitVec 64) (w:World):Calls Tryz.prog 98 #[.bool true,.int .i64 wd,U x] w fun r w' =>
  r=.returned (.tuple #[.agg #[.int .i64 wd,U (x &&& maskB wd)],.int .i64 0])/\Ext w w':=by
 have HX:=ext_alloc w (.cells #[.int .i64 0,.int .u64 0] 69)
 have hb:=Blk.new w #[.int .i64 0,.int .u64 0] 69
 go_enter Tryz.func98,Tryz.ntmps98
 go_upto_region 1 with fail
 generalize w.alloc _=w0 at *
 go_wp2_with (first | (go_at_call 55;refine (Mask_calls _ _).mono ?_;rintro r w1 ⟨rfl,rfl⟩) | ((with_reducible show Js 69);refine wpList_store_blk rfl 69 _ _ rfl (hb) rfl (cs:=[.int .i64 wd,U (x &&& maskB wd)]) (by (rw [U_and];rfl)) agg_Bits (rfl) rfl (rfl) ?_;intro w4 hb4 hg4))
 refine post_ret_blk2' rfl rfl rfl hb4.has agg_Bits rfl rfl ⟨rfl,HX.grown hg4 (by omega)⟩
theorem one_calls (b:Bool) (w:World):Calls Tryz.prog 100 #[.bool b] w fun r w'=>r=.returned (.int .u64 (if b=true then 1 else 0))/\w'=w:=by
 go_enter Tryz.func100,Tryz.ntmps100
 cases b
 ·go_wp2_with fail
  go_ret
  exact ⟨rfl,rfl⟩
 ·go_wp2_with fail
  go_ret
  exact ⟨rfl,rfl⟩
def pop:Nat->Nat->Nat
 | 0,_=>0
 | k+1,v=>v%2+pop k (v / 2)
theorem pop_add (j k v:Nat):pop (j+k) v=pop j v+pop k (v / 2^j):=by
 induction j generalizing v with
 | zero=>simp [pop]
 | succ j ih =>
  rw [show j+1+k=(j+k)+1 by omega,pop,pop,ih,Nat.div_div_eq_div_mul,show 2*2^j=2^(j+1) by rw [Nat.pow_succ];omega]
  omega
theorem pop_mod (k v:Nat):pop k (v%2^k)=pop k v:=by
 induction k generalizing v with
 | zero=>rfl
 | succ k ih =>
  rw [pop,pop]
  have h1:v%2^(k+1)%2=v%2:=by
   rw [Nat.pow_succ,Nat.mul_comm];exact Nat.mod_mul_right_mod v 2 (2^k)
  have h2:v%2^(k+1) / 2=v / 2%2^k:=by
   rw [Nat.pow_succ,Nat.mul_comm];exact Nat.mod_mul_right_div_self v 2 (2^k)
  rw [h1,h2,ih]
theorem pop_le (k v:Nat):pop k v<=k:=by
 induction k generalizing v with
 | zero=>simp [pop]
 | succ k ih=>rw [pop];have:=ih (v / 2);omega
theorem popN_pop (v:Nat):popN v=pop 64 v:=by
 have h:∀ k v,((List.range k).filter fun i=>v.testBit i).length=pop k v:=by
  intro k
  induction k with
  | zero=>intro v;rfl
  | succ k ih =>
   intro v
   rw [List.range_succ_eq_map,List.filter_cons,pop,<-ih]
   have e:((List.map Nat.succ (List.range k)).filter fun i=>v.testBit i).length=((List.range k).filter fun i=>(v / 2).testBit i).length:=by
    rw [List.filter_map,List.length_map]
    congr 1
    apply List.filter_congr
    intro i _
    simp [Nat.testBit_succ]
   by_cases h0:v.testBit 0=true
   ·rw [if_pos h0,List.length_cons,e]
    have:v%2=1:=by simpa [Nat.testBit_zero] using h0
    omega
   ·rw [if_neg h0,e]
    have:v%2=0:=by
     have:¬ v%2=1:=by simpa [Nat.testBit_zero] using h0
     omega
    omega
 exact h 64 v
/-! ### eight bytes at once -/
def Mk (m:Nat):Nat->Nat
 | 0=>0
 | n+1=>m+256*Mk m n
theorem and_byte (x m M:Nat) (hm:m<256):x &&& (m+256*M)=(x%256 &&& m)+256*(x / 256 &&& M):=by
 have hlt:(x%256 &&& m)<2^8:=Nat.and_lt_two_pow _ hm
 refine Nat.eq_of_testBit_eq fun i=>?_
 have hx:x=x%2^8+2^8*(x / 2^8):=(Nat.mod_add_div x (2^8)).symm
 rw [Nat.testBit_and,show m+256*M=2^8*M+m by omega,show (x%256 &&& m)+256*(x / 256 &&& M)=2^8*(x / 256 &&& M)+(x%256 &&& m) by omega,
  Nat.testBit_two_pow_mul_add _ hm,Nat.testBit_two_pow_mul_add _ hlt]
 by_cases hi:i<8
 ·rw [if_pos hi,if_pos hi,Nat.testBit_and,show (256:Nat)=2^8 from rfl,Nat.testBit_mod_two_pow]
  simp [hi]
 ·rw [if_neg hi,if_neg hi,Nat.testBit_and,show (256:Nat)=2^8 from rfl,Nat.testBit_div_two_pow]
  rw [show i-8+8=i by omega]
def p1 (n v:Nat):Nat:=(v / 2 &&& Mk 85 n)+(v &&& Mk 85 n)
def p2 (n v:Nat):Nat:=(p1 n v / 4 &&& Mk 51 n)+(p1 n v &&& Mk 51 n)
def p3 (n v:Nat):Nat:=(p2 n v / 16+p2 n v) &&& Mk 15 n
def q1 (b:Nat):Nat:=(b / 2 &&& 85)+(b &&& 85)
def q2 (b:Nat):Nat:=(q1 b / 4 &&& 51)+(q1 b &&& 51)
theorem bytes:∀ b,b<256->q1 b<256/\q2 b<256/\q2 b%16<=4/\q2 b / 16<=4/\q2 b%16+q2 b / 16=pop 8 b/\((b / 2+128) &&& 85)=(b / 2 &&& 85) /\
  (∀ r,r<4->((q1 b / 4+64*r) &&& 51)=(q1 b / 4 &&& 51)):=by decide +kernel
theorem p1_step (n b y:Nat) (hb:b<256):p1 (n+1) (b+256*y)=q1 b+256*p1 n y:=by
 obtain ⟨-,-,-,-,-,h,-⟩:=bytes b hb
 unfold p1 q1
 rw [Mk,and_byte _ _ _ (by decide),and_byte _ _ _ (by decide)]
 rw [show (b+256*y) / 256=y by omega,show (b+256*y)%256=b by omega,show (b+256*y) / 2 / 256=y / 2 by omega]
 have:(b+256*y) / 2%256=b / 2\/(b+256*y) / 2%256=b / 2+128:=by omega
 rcases this with e | e<;>rw [e]
 ·omega
 ·rw [h];omega
theorem p2_step (n b y:Nat) (hb:b<256):p2 (n+1) (b+256*y)=q2 b+256*p2 n y:=by
 obtain ⟨h1,-,-,-,-,-,h⟩:=bytes b hb
 unfold p2
 rw [p1_step n b y hb,Mk,and_byte _ _ _ (by decide),and_byte _ _ _ (by decide)]
 generalize p1 n y=s
 unfold q2
 generalize q1 b=q at *
 rw [show (q+256*s) / 256=s by omega,show (q+256*s)%256=q by omega,show (q+256*s) / 4 / 256=s / 4 by omega,
  show (q+256*s) / 4%256=q / 4+64*(s%4) by omega,h _ (by omega)]
 omega
theorem p2_low (n v:Nat) (hv:v<256^n):p2 n v%16<=4:=by
 cases n with
 | zero=>simp [p2,p1,Mk]
 | succ n =>
  have hb:v%256<256:=Nat.mod_lt _ (by decide)
  rw [show v=v%256+256*(v / 256) by omega,p2_step n _ _ hb]
  have:=(bytes _ hb).2.2.1
  omega
theorem p3_step (n b y:Nat) (hb:b<256) (hy:y<256^n):p3 (n+1) (b+256*y)=pop 8 b+256*p3 n y:=by
 obtain ⟨-,h1,h2,h3,h4,-⟩:=bytes b hb
 have h5:=p2_low n y hy
 unfold p3
 rw [p2_step n b y hb,Mk,and_byte _ _ _ (by decide)]
 generalize p2 n y=s at *
 generalize q2 b=q at *
 rw [show ((q+256*s) / 16+(q+256*s)) / 256=s / 16+s by omega]
 congr 1
 rw [show (15:Nat)=2^4-1 from rfl,Nat.and_two_pow_sub_one_eq_mod]
 omega
theorem p3_bytes (v:Nat) (hv:v<2^64):∃ c0 c1 c2 c3 c4 c5 c6 c7,p3 8 v=c0+256*(c1+256*(c2+256*(c3+256*(c4+256*(c5+256*(c6+256*c7)))))) /\
  c0<=8/\c1<=8/\c2<=8/\c3<=8/\c4<=8/\c5<=8/\c6<=8/\c7<=8/\c0+c1+c2+c3+c4+c5+c6+c7=pop 64 v:=by
 have hs:∀ n v,v<256^(n+1)->p3 (n+1) v=pop 8 (v%256)+256*p3 n (v / 256):=by
  intro n v h
  have hy:v / 256<256^n:=by rw [Nat.pow_succ] at h;omega
  have:=p3_step n (v%256) (v / 256) (Nat.mod_lt _ (by decide)) hy
  rwa [Nat.mod_add_div] at this
 have hp:∀ k v,pop (8+k) v=pop 8 (v%256)+pop k (v / 256):=by
  intro k v
  rw [pop_add,show (256:Nat)=2^8 from rfl,pop_mod]
 have h0:p3 0 (v / 256 / 256 / 256 / 256 / 256 / 256 / 256 / 256)=0:=by simp [p3,p2,p1,Mk]
 refine ⟨pop 8 (v%256),pop 8 (v / 256%256),pop 8 (v / 256 / 256%256),pop 8 (v / 256 / 256 / 256%256),pop 8 (v / 256 / 256 / 256 / 256%256),pop 8 (v / 256 / 256 / 256 / 256 / 256%256),
  pop 8 (v / 256 / 256 / 256 / 256 / 256 / 256%256),pop 8 (v / 256 / 256 / 256 / 256 / 256 / 256 / 256%256),?_,pop_le _ _,pop_le _ _,pop_le _ _,pop_le _ _,pop_le _ _,pop_le _ _,pop_le _ _,pop_le _ _,?_⟩
 ·rw [hs 7 v (by omega),hs 6 _ (by omega),hs 5 _ (by omega),hs 4 _ (by omega),hs 3 _ (by omega),hs 2 _ (by omega),hs 1 _ (by omega),hs 0 _ (by omega),h0]
  omega
 ·rw [show (64:Nat)=8+(8+(8+(8+(8+(8+(8+(8+0))))))) from rfl,hp,hp,hp,hp,hp,hp,hp,hp]
  simp only [pop]
  omega
def cnt (v:Nat):Nat :=
 let s:=p3 8 v
 let t:=s+s / 256
 let u:=t+t / 65536
 u+u / 4294967296
theorem cnt_pop (v:Nat) (hv:v<2^64):cnt v%128=pop 64 v/\cnt v<2^63/\p3 8 v+p3 8 v / 256<2^64/\(p3 8 v+p3 8 v / 256)+(p3 8 v+p3 8 v / 256) / 65536<2^64:=by
 obtain ⟨c0,c1,c2,c3,c4,c5,c6,c7,h,h0,h1,h2,h3,h4,h5,h6,h7,hs⟩:=p3_bytes v hv
 unfold cnt
 rw [h,<-hs]
 simp only
 clear h hs
 generalize hs:c0+256*(c1+256*(c2+256*(c3+256*(c4+256*(c5+256*(c6+256*c7))))))=s
 have e1:s / 256=c1+256*(c2+256*(c3+256*(c4+256*(c5+256*(c6+256*c7))))):=by omega
 generalize ht:s+s / 256=t
 have e2:t=(c0+c1)+256*((c1+c2)+256*((c2+c3)+256*((c3+c4)+256*((c4+c5)+256*((c5+c6)+256*((c6+c7)+256*c7)))))):=by omega
 have e3:t / 65536=(c2+c3)+256*((c3+c4)+256*((c4+c5)+256*((c5+c6)+256*((c6+c7)+256*c7)))):=by clear ht e1 hs;omega
 generalize hu:t+t / 65536=u
 have e4:u=(c0+c1+c2+c3)+256*((c1+c2+c3+c4)+256*((c2+c3+c4+c5)+256*((c3+c4+c5+c6)+256*((c4+c5+c6+c7)+256*((c5+c6+c7)+256*((c6+c7)+256*c7)))))):=by clear ht e1 hs;omega
 have e5:u / 4294967296=(c4+c5+c6+c7)+256*((c5+c6+c7)+256*((c6+c7)+256*c7)):=by clear hu e3 e2 ht e1 hs;omega
 have e6:u+u / 4294967296=(c0+c1+c2+c3+c4+c5+c6+c7)+256*((c1+c2+c3+c4+c5+c6+c7)+256*((c2+c3+c4+c5+c6+c7)+256*((c3+c4+c5+c6+c7)+256*((c4+c5+c6+c7)+256*((c5+c6+c7)+256*((c6+c7)+256*c7)))))):=by clear hu e3 e2 ht e1 hs;omega
 refine ⟨?_,?_,?_,?_⟩
 ·rw [e6];clear e6 e5 e4 hu e3 e2 ht e1 hs;omega
 ·rw [e6];clear e6 e5 e4 hu e3 e2 ht e1 hs;omega
 ·rw [e2];clear e6 e5 e4 hu e3 e2 ht e1 hs;omega
 ·rw [e4];clear e6 e5 e4 hu e3 e2 ht e1 hs;omega
theorem masks:Mk 85 8=6148914691236517205/\Mk 51 8=3689348814741910323/\Mk 15 8=1085102592571150095:=by decide +kernel
abbrev BtAt (w:World) (x:Bt) (b o:Nat):Prop:=Has w b o x.cells
abbrev Bts (w:World) (s:Value) (l:List Bt):Prop:=Sl 2 (BtAt w) s l
theorem Bts.ext {w w':World} {s:Value} {l:List Bt} (h:Bts w s l) (hx:Ext w w'):Bts w' s l:=h.mono fun _ _ _ _ h=>Has.ext h hx
theorem Bts.get {w:World} {l:List Bt} {b o k:Nat} (h:Rows 2 (BtAt w) l b o) (hk:k<l.length):Has w b (o+k*2) l[k].cells:=h.get (List.getElem?_eq_getElem hk)
theorem leads_may:Leads Tryz.prog 99:=leads_of Tryz.func99 (by kernel_rfl) rfl
theorem all_calls (l:List Bt) (hok:∀ x∈l,x.ok) (s:Value) (w:World) (h:Bts w s l) :
  Calls Tryz.prog 102 #[.func (.func 99) #[] #[],s] w fun r w'=>r=.returned (.bool true)/\Ext w w':=by
 have HOK:=Jh hok
 clear hok
 obtain ⟨a,b,o,cap,hs,hc1,hc2,ha,hr⟩:=h.open
 subst hs
 go_enter Tryz.func102,Tryz.ntmps102
 go_wp2_with fail
 go_loopw [6,9] (fun _ i wr=>∃ k:Nat,k<=l.length/\i=.int .i64 k/\Ext w wr) (fun _ i _=>l.length-(intOf i).toNat)
 case atStart=>exact ⟨0,Nat.zero_le _,rfl,Below.refl _ _⟩
 case round =>
  obtain ⟨k,hk,rfl,hB⟩:=hrel
  by_cases hlt:k<l.length
  ·obtain rfl:=ha (by omega)
   have he:=(Bts.get hr hlt).ext hB
   have HC:=fun W=>may_calls l[k] (HOK.out _ (List.getElem_mem hlt)) W
   generalize l[k]=x at *
   go_wp2_with (first | ((with_reducible show Jl 69);refine Jm 69 (he) agg_Bits rfl ?_) | ((with_reducible show Js 69);refine wpList_store_new rfl 69 _ _ rfl rfl (by first | rfl | simp) rfl agg_Bits (rfl) rfl (rfl) ?_) | ((with_reducible show Jw (Op.call { callee:=.value (.tmp _),args:=_,argTypes:=_ }));refine wpList_call_fv rfl _ _ _ rfl rfl leads_may rfl (HC _) ?_;intro w1 hx1))
   go_roundw
   case rel=>exact ⟨k+1,by omega,by go_num,(hB.alloc _).trans hx1⟩
   case measure=>simp [intOf];omega
  ·go_wp2_with fail
   go_ret
   exact ⟨rfl,hB⟩
theorem withinB_calls (a:Bt) (ha:a.ok) (hi lo:Int) (h1:0<=lo) (h2:lo<=hi) (h3:hi<a.w) (w:World) :
  Calls Tryz.prog 97 #[.agg a.cells.toArray,.int .i64 hi,.int .i64 lo] w fun r w'=>r=.returned (.bool true)/\Ext w w':=by
 have HX:=ext_alloc w (.cells a.cells.toArray 69)
 have hb:=Blk.new w a.cells.toArray 69
 have hm:=fun W=>may_calls a ha W
 have HM:=Jh hm
 clear hm
 have b1:decide (0<=lo)=true:=by simpa using h1
 have b2:decide (lo<=hi)=true:=by simpa using h2
 have b3:decide (hi<a.w)=true:=by simpa using h3
 go_enter Tryz.func97,Tryz.ntmps97
 go_upto_region 1 with fail
 generalize w.alloc _=w0 at *
 go_wp2_with (first | ((with_reducible show Jl 69);refine Jm 69 (hb.has) agg_Bits rfl ?_) | (go_at_call 99;refine (HM.out _).mono ?_;rintro r w1 ⟨rfl,hx1⟩;have g0:=(hb.ext hx1).has 0 _ rfl))
 go_ret
 exact ⟨rfl,HX.trans hx1⟩
theorem n_and {a b:Nat} (ha:a<2^64) (hb:b<2^64):bits .and .u64 (a:Int) (b:Int)=((a &&& b:Nat):Int) :=
 (bits_nat .u64 64 (by decide) (fun n h0 h1=>by rw [IntKind.wrap_u64];omega) a b ha hb).1
theorem n_wrap {n:Nat} (h:n<2^64):IntKind.u64.wrap (n:Int)=n:=by rw [IntKind.wrap_u64];omega
theorem pops (v:Nat) (hv:v<2^64) :
  IntKind.u64.wrap (bits .and .u64 ((v:Int) / 2) 6148914691236517205+bits .and .u64 (v:Int) 6148914691236517205)=(p1 8 v:Nat) /\
  IntKind.u64.wrap (bits .and .u64 (((p1 8 v:Nat):Int) / 4) 3689348814741910323+bits .and .u64 ((p1 8 v:Nat):Int) 3689348814741910323)=(p2 8 v:Nat) /\
  bits .and .u64 (IntKind.u64.wrap (((p2 8 v:Nat):Int) / 16+((p2 8 v:Nat):Int))) 1085102592571150095=(p3 8 v:Nat):=by
 obtain ⟨m1,m2,m3⟩:=masks
 have l1:p1 8 v<=12297829382473034410:=by
  unfold p1;rw [m1]
  have:=Nat.and_le_right (n:=v / 2) (m:=6148914691236517205)
  have:=Nat.and_le_right (n:=v) (m:=6148914691236517205)
  omega
 have l2:p2 8 v<=7378697629483820646:=by
  unfold p2;rw [m2]
  have:=Nat.and_le_right (n:=p1 8 v / 4) (m:=3689348814741910323)
  have:=Nat.and_le_right (n:=p1 8 v) (m:=3689348814741910323)
  omega
 refine ⟨?_,?_,?_⟩
 ·rw [show ((v:Int) / 2)=((v / 2:Nat):Int) by omega,show (6148914691236517205:Int)=((6148914691236517205:Nat):Int) from rfl,n_and (by omega) (by omega),n_and hv (by omega)]
  rw [show p1 8 v=(v / 2 &&& 6148914691236517205)+(v &&& 6148914691236517205) by unfold p1;rw [m1]] at l1 ⊢
  rw [<-Int.natCast_add,n_wrap (by omega)]
 ·have hq:p2 8 v=(p1 8 v / 4 &&& 3689348814741910323)+(p1 8 v &&& 3689348814741910323):=by unfold p2;rw [m2]
  generalize p1 8 v=q at *
  rw [show ((q:Int) / 4)=((q / 4:Nat):Int) by omega,show (3689348814741910323:Int)=((3689348814741910323:Nat):Int) from rfl,n_and (by omega) (by omega),n_and (by omega) (by omega)]
  rw [show p2 8 v=(q / 4 &&& 3689348814741910323)+(q &&& 3689348814741910323) from hq] at l2 ⊢
  rw [<-Int.natCast_add,n_wrap (by omega)]
 ·rw [show p3 8 v=(p2 8 v / 16+p2 8 v) &&& 1085102592571150095 by unfold p3;rw [m3]]
  generalize p2 8 v=q at *
  rw [show ((q:Int) / 16+(q:Int))=((q / 16+q:Nat):Int) by omega,n_wrap (by omega),show (1085102592571150095:Int)=((1085102592571150095:Nat):Int) from rfl,n_and (by omega) (by omega)]
theorem OnesCount_calls (v:Nat) (hv:v<2^64) (w:World):Calls Tryz.prog 101 #[.int .u64 (v:Int)] w fun r w'=>r=.returned (.int .i64 (pop 64 v:Nat))/\w'=w:=by
 obtain ⟨e1,e2,e3⟩:=pops v hv
 obtain ⟨c1,c2,c3,c4⟩:=cnt_pop v hv
 unfold cnt at c1 c2
 simp only at c1 c2
 have E1:=Jh e1
 have E2:=Jh e2
 have E3:=Jh e3
 clear e1 e2 e3
 go_enter Tryz.func101,Tryz.ntmps101
 go_upto_region 2 with fail
 rw [E1.out]
 go_upto_region 3 with fail
 rw [E2.out]
 go_upto_region 4 with fail
 rw [E3.out]
 generalize p3 8 v=s at *
 go_upto_region 5 with fail
 rw [show ((s:Int)+(s:Int) / 256)=((s+s / 256:Nat):Int) by omega]
 try rw [n_wrap c3]
 generalize s+s / 256=t at *
 go_upto_region 6 with fail
 rw [show ((t:Int)+(t:Int) / 65536)=((t+t / 65536:Nat):Int) by omega]
 try rw [n_wrap c4]
 generalize t+t / 65536=u at *
 have c5:u+u / 4294967296<2^64:=by omega
 go_upto_region 7 with fail
 rw [show ((u:Int)+(u:Int) / 4294967296)=((u+u / 4294967296:Nat):Int) by omega]
 try rw [n_wrap c5]
 generalize u+u / 4294967296=c at *
 go_wp2_with fail
 go_ret
 have hm:bits .and .i64 (c:Int) 127=(c:Int)%2^7 :=
  bits_mask .i64 63 (by decide) (fun n h0 h1=>by rw [IntKind.wrap_i64];omega) 7 (by decide) c (by omega) (by omega)
 exact ⟨congrArg (fun n=>Ending.returned (.int .i64 n)) (by rw [hm,<-c1];omega),rfl⟩
def BtPost (w:World) (b:Bt) (r:Ending) (w':World):Prop:=r=.returned (.tuple #[.agg b.cells.toArray,.int .i64 0])/\Ext w w'
theorem made_callsN (wd:Int) (n:Nat) (hn:n<2^64) (h0:0<=wd) (h1:wd<=64) (w:World) :
  Calls Tryz.prog 98 #[.bool true,.int .i64 wd,.int .u64 (n:Int)] w (BtPost w ⟨wd,n%2^wd.toNat⟩):=by
 obtain ⟨x,rfl⟩:=u_nat hn
 refine (made_calls wd x w).mono ?_
 rintro r w' ⟨rfl,hx⟩
 refine ⟨?_,hx⟩
 rw [<-and_maskB x wd h0 h1]
theorem step_store_blk' {P:Program} {ops:Array Oper} {o:Oper} {a:Act} {w:World} {Q:Exit->Act->World->Prop} {K:Act->World->Prop} {E:Prop} (hw:Region.wanted o (yielded ops a.tmps)=true)
  (ty:TypeId) (x y:Operand) (ho:o.op=.store ty x y) {c:Array Value} {B:Nat} (hb:Blk w B c ty) (hx:a.eval x=.pointer (some ⟨B,0,none⟩)) {cs:List Value} (hy:a.eval y=.agg cs.toArray) {n:Nat}
  (hu:Agg P ty n) (hn:cs.length=n) (hc:c.size=n) (h1:cs.all (·.oneCell')=true)
  (h:∀ w',Blk w' B cs.toArray ty->w.grownBy w' (some B)->K (a.put o.dst undef) w'):if Region.wanted o (yielded ops a.tmps)=true then Oper.wp P o a w K Q else E:=by
 rw [if_pos hw]
 unfold Oper.wp execOp
 simp only [ho,hx,hy]
 have:=run_storeVar_row (P:=P) w B ty ty c cs.toArray hb (by rw [hu.2];simp [hn]) (by simp [hn,hc]) (by simpa using h1)
 simp only [Instr.storeAt,Instr.sureAddr,Sem.run_bind,Sem.run_pure,Result.andThen_ok,this]
 exact h _ (setRow_blk hb) (gb_setRow w B _)
theorem Bt.lt64 {a:Bt} (h:a.ok):a.v<2^64:=by
 obtain ⟨h1,h2,h3⟩:=h
 exact Nat.lt_of_lt_of_le h3 (Nat.pow_le_pow_right (by decide) (by omega))
theorem n_shr (n k:Nat):(n:Int) / 2^k=((n / 2^k:Nat):Int):=by norm_cast
/-! ### Nat's side of Un -/
theorem pop_full (k v:Nat) (hv:v<2^k):pop k v=k↔v=2^k-1:=by
 induction k generalizing v with
 | zero=>simp [pop];omega
 | succ k ih =>
  have h0:=Nat.two_pow_pos k
  rw [Nat.pow_succ] at hv ⊢
  have:=ih (v / 2) (by omega)
  have hle:=pop_le k (v / 2)
  rw [pop]
  constructor
  ·intro h
   have h2:=this.1 (by omega)
   omega
  ·intro h
   have h2:=this.2 (by omega)
   omega
theorem pop_zero (k v:Nat) (hv:v<2^k):pop k v=0↔v=0:=by
 induction k generalizing v with
 | zero=>simp [pop];omega
 | succ k ih =>
  rw [Nat.pow_succ] at hv
  have:=ih (v / 2) (by omega)
  rw [pop]
  constructor
  ·intro h
   have h2:=this.1 (by omega)
   omega
  ·intro h
   subst h
   have h2:=this.2 rfl
   simp at h2 ⊢
   exact h2
theorem pop_z (k:Nat):pop k 0=0:=by
 induction k with
 | zero=>rfl
 | succ k ih=>rw [pop,Nat.zero_div,ih]
theorem pop_small (j k v:Nat) (hv:v<2^j):pop (j+k) v=pop j v:=by
 rw [pop_add,Nat.div_eq_of_lt hv,pop_z,Nat.add_zero]
theorem pow64 {w:Nat} (hw:w<=64):2^w*2^(64-w)=18446744073709551616:=by
 rw [<-Nat.pow_add,show w+(64-w)=64 by omega]
theorem un_not {w v:Nat} (hw:w<=64) (hv:v<2^w):(18446744073709551615-v)%2^w=2^w-1-v:=by
 have e:=pow64 hw
 have hk:=Nat.two_pow_pos (64-w)
 generalize 2^w=M at *
 generalize 2^(64-w)=K at *
 have h2:18446744073709551615-v=M*(K-1)+(M-1-v):=by
  have:M*(K-1)=M*K-M:=by rw [Nat.mul_sub,Nat.mul_one]
  have:M<=M*K:=Nat.le_mul_of_pos_right _ hk
  omega
 rw [h2,Nat.mul_add_mod,Nat.mod_eq_of_lt (by omega)]
theorem un_neg {w v:Nat} (hw:w<=64) (hv:v<2^w):(18446744073709551616-v)%18446744073709551616%2^w=(2^w-v)%2^w:=by
 have e:=pow64 hw
 have hk:=Nat.two_pow_pos (64-w)
 rw [Nat.mod_mod_of_dvd _ ⟨_,e.symm⟩]
 generalize 2^w=M at *
 generalize 2^(64-w)=K at *
 have h2:18446744073709551616-v=M*(K-1)+(M-v):=by
  have:M*(K-1)=M*K-M:=by rw [Nat.mul_sub,Nat.mul_one]
  have:M<=M*K:=Nat.le_mul_of_pos_right _ hk
  omega
 rw [h2,Nat.mul_add_mod]
theorem Slice_calls (a:Bt) (ha:a.ok) (hi lo:Int) (h1:0<=lo) (h2:lo<=hi) (h3:hi<a.w) (w:World) :
  Calls Tryz.prog 60 #[.agg a.cells.toArray,.int .i64 hi,.int .i64 lo] w (BtPost w ⟨hi-lo+1,a.v / 2^lo.toNat%2^(hi-lo+1).toNat⟩):=by
 have HX:=(ext_alloc w (.cells a.cells.toArray 69)).trans (ext_alloc _ (.cells #[.int .i64 0,.int .u64 0] 69))
 have hD:=(Blk.new w a.cells.toArray 69).ext (ext_alloc _ (.cells #[.int .i64 0,.int .u64 0] 69))
 have hR:=Blk.new (w.alloc (.cells a.cells.toArray 69)) #[.int .i64 0,.int .u64 0] 69
 rw [show (w.alloc (.cells a.cells.toArray 69)).heap.size=w.heap.size+1 by simp] at hR
 have hm:=fun W=>withinB_calls a ha hi lo h1 h2 h3 W
 have HM:=Jh hm
 have h64:=Bt.lt64 ha
 have hl64:a.v / 2^lo.toNat<2^64:=Nat.lt_of_le_of_lt (Nat.div_le_self _ _) h64
 have HL:=Jh (made_callsN (hi-lo+1) (a.v / 2^lo.toNat) hl64 (by omega) (by have:=ha.2.1;omega))
 have b4:(hi:Int)<=64:=by have:=ha.2.1;omega
 clear hm
 go_enter Tryz.func60,Tryz.ntmps60
 go_upto_region 1 with fail
 generalize (w.alloc _).alloc _=w0 at *
 have hD1:=hD.has
 have HD:=Jh hD
 have HR:=Jh hR
 clear hD hR
 go_wp2_with (first | ((with_reducible show Jl 69);refine Jm 69 (hD1) agg_Bits rfl ?_) | (go_at_call 97;refine (HM.out _).mono ?_;rintro r w1 ⟨rfl,hx1⟩;have g1:=(HD.out.ext hx1).has 1 _ rfl) | (go_at_call 98;rw [n_shr];refine (HL.out _).mono ?_;rintro r w2 ⟨rfl,hx2⟩) | ((with_reducible show Js 69);refine wpList_store_blk rfl 69 _ _ rfl (HR.out.ext (hx1.trans hx2)) rfl (cs:=Bt.cells ⟨hi-lo+1,a.v / 2^lo.toNat%2^(hi-lo+1).toNat⟩) (rfl) agg_Bits (rfl) rfl (rfl) ?_;intro w4 hb4 hg4))
 refine post_ret_blk2' rfl rfl rfl hb4.has agg_Bits rfl rfl ⟨rfl,(HX.trans (hx1.trans hx2)).grown hg4 (by omega)⟩
def unW (op w:Int):Int:=if op<=2 then w else 1
theorem Un_calls (op:Int) (h1:1<=op) (h6:op<=6) (a:Bt) (ha:a.ok) (hw:op=6->a.w=1) (w:World) :
  Calls Tryz.prog 61 #[.int .i64 op,.agg a.cells.toArray] w (BtPost w ⟨unW op a.w,unM op a.w.toNat a.v⟩):=by
 have HX:=Jh ((ext_alloc w (.cells a.cells.toArray 69)).trans (ext_alloc _ (.cells #[.int .i64 0,.int .u64 0] 69)))
 have hD:=(Blk.new w a.cells.toArray 69).ext (ext_alloc _ (.cells #[.int .i64 0,.int .u64 0] 69))
 have hR:=Blk.new (w.alloc (.cells a.cells.toArray 69)) #[.int .i64 0,.int .u64 0] 69
 rw [show (w.alloc (.cells a.cells.toArray 69)).heap.size=w.heap.size+1 by simp] at hR
 have hm:=fun W=>may_calls a ha W
 have HM:=Jh hm
 have h64:=Bt.lt64 ha
 have a1:=ha.1
 have a2:=ha.2.1
 have a3:=ha.2.2
 have HMD:=fun (wd:Int) (n:Nat) (hn:n<2^64) (h0:0<=wd) (h1:wd<=64) (w:World)=>made_callsN wd n hn h0 h1 w
 clear hm
 obtain ⟨wd,v⟩:=a
 simp only at a1 a2 a3 hw h64
 have HA:=Jh a3
 have HW:=Jh hw
 clear a3 hw
 have hD1:=hD.has
 have HD:=Jh hD
 have HR:=Jh hR
 clear hD hR
 have hop:op=1\/op=2\/op=3\/op=4\/op=5\/op=6:=by omega
 have HK:=Jh (show wd.toNat<=64 by omega)
 clear h1 h6
 go_enter Tryz.func61,Tryz.ntmps61
 go_upto_region 1 with fail
 generalize (w.alloc _).alloc _=w0 at *
 rcases hop with rfl | rfl | rfl | rfl | rfl | rfl
 ·obtain ⟨n,hn0⟩:∃ n,n=18446744073709551615-v:=⟨_,rfl⟩
  have hn:n<2^64:=by omega
  have E:=Jh (show bits .xor .u64 IntKind.u64.max (v:Int)=(n:Int) by rw [n_not h64,hn0])
  have H0:=Jh hn0
  clear hn0
  go_wp2_with (first | ((with_reducible show Jl 69);refine Jm 69 (hD1) agg_Bits rfl ?_) | (go_at_call 99;refine (HM.out _).mono ?_;rintro r w1 ⟨rfl,hx1⟩;have g0:=(HD.out.ext hx1).has 0 _ rfl;have g1:=(HD.out.ext hx1).has 1 _ rfl) | (go_at_call 98;rw [E.out];refine (HMD _ n hn (by omega) (by omega) _).mono ?_;rintro r w3 ⟨rfl,hx2⟩) | ((with_reducible show Js 69);refine wpList_store_blk rfl 69 _ _ rfl (HR.out.ext (hx1.trans hx2)) rfl (cs:=Bt.cells ⟨wd,n%2^(wd:Int).toNat⟩) (rfl) agg_Bits (rfl) rfl (rfl) ?_;intro w4 hb4 hg4))
  refine post_ret_blk2' rfl rfl rfl hb4.has agg_Bits rfl rfl ⟨?_,(HX.out.trans (hx1.trans hx2)).grown hg4 (by omega)⟩
  rw [H0.out,un_not HK.out HA.out]
  simp [unW,unM]
 ·obtain ⟨n,hn0⟩:∃ n,n=(18446744073709551616-v)%18446744073709551616:=⟨_,rfl⟩
  have hn:n<2^64:=by omega
  have E:=Jh (show IntKind.u64.wrap (bits .xor .u64 IntKind.u64.max (v:Int)+1)=(n:Int) by rw [n_not h64,hn0,IntKind.wrap_u64];omega)
  have H0:=Jh hn0
  clear hn0
  go_wp2_with (first | ((with_reducible show Jl 69);refine Jm 69 (hD1) agg_Bits rfl ?_) | (go_at_call 99;refine (HM.out _).mono ?_;rintro r w1 ⟨rfl,hx1⟩;have g0:=(HD.out.ext hx1).has 0 _ rfl;have g1:=(HD.out.ext hx1).has 1 _ rfl) | (go_at_call 98;rw [E.out];refine (HMD _ n hn (by omega) (by omega) _).mono ?_;rintro r w3 ⟨rfl,hx2⟩) | ((with_reducible show Js 69);refine wpList_store_blk rfl 69 _ _ rfl (HR.out.ext (hx1.trans hx2)) rfl (cs:=Bt.cells ⟨wd,n%2^(wd:Int).toNat⟩) (rfl) agg_Bits (rfl) rfl (rfl) ?_;intro w4 hb4 hg4))
  refine post_ret_blk2' rfl rfl rfl hb4.has agg_Bits rfl rfl ⟨?_,(HX.out.trans (hx1.trans hx2)).grown hg4 (by omega)⟩
  rw [H0.out,un_neg HK.out HA.out]
  simp [unW,unM]
 ·obtain ⟨p,hp⟩:∃ p,pop 64 v=p:=⟨_,rfl⟩
  have HC:=Jh (show ∀ W,Calls Tryz.prog 101 #[.int .u64 (v:Int)] W (fun r w'=>r=.returned (.int .i64 (p:Nat))/\w'=W) from fun W=>by have:=OnesCount_calls v h64 W;rwa [hp] at this)
  have HP:=Jh hp
  obtain ⟨c,hc⟩:∃ c,((p:Int)==wd)=c:=⟨_,rfl⟩
  have HCC:=Jh hc
  clear hp hc
  go_wp2_with (first | ((with_reducible show Jl 69);refine Jm 69 (hD1) agg_Bits rfl ?_) | (go_at_call 99;refine (HM.out _).mono ?_;rintro r w1 ⟨rfl,hx1⟩;refine Hid.out ?_))
  refine Jh ?_
  go_upto_region 8 with fail
  refine wp_region_held_drew (S:=fun W=>Ext w W/\Blk W w.heap.size (Bt.cells ⟨wd,v⟩).toArray 69) (by kernel_rfl) ⟨(HX.out.trans hx1).drew,(HD.out.ext hx1).drew⟩ (fun hH=>?_)
  try simp only [J]
  (refine Jt 0 (_) rfl (yif_load1 rfl fun _ _=>rfl) hH ?_;try simp only [J])
  (refine Jt 1 (_) rfl (yif_load1 rfl fun _ _=>rfl) hH ?_;try simp only [J])
  (refine Jt 2 (.int .u64 (v:Int)) rfl (yif_load1 rfl (by intro W hW;have y:=hW.2.has 1 _ rfl;clear hW;go_simp)) hH ?_;try simp only [J])
  (refine Jt 4 (_) rfl (yif_load1 rfl fun _ _=>rfl) hH ?_;try simp only [J])
  (refine Jt 5 (.int .i64 wd) rfl (yif_load1 rfl (by intro W hW;have y:=hW.2.has 0 _ rfl;clear hW;go_simp)) hH ?_;try simp only [J])
  (refine Jr 3 rfl fun K hK=>?_)
  go_simp
  refine (HC.out _).mono ?_
  rintro r w2 ⟨rfl,rfl⟩
  refine hK.out _ _ hH (fun hH=>?_)
  clear hK K
  try simp only [J]
  (refine Jt 6 (.bool c) rfl (yif_load1 rfl (by intro W hW;clear hW;go_simp;exact HCC.out)) hH ?_;try simp only [J])
  (refine Jr 7 rfl fun K hK=>?_)
  go_simp
  refine (one_calls _ _).mono ?_
  rintro r w2 ⟨rfl,rfl⟩
  refine hK.out _ _ hH (fun hH=>?_)
  clear hK K
  try simp only [J]
  (refine Jr 8 rfl fun K hK=>?_)
  go_simp
  obtain ⟨n,hn0,hn⟩:∃ n:Nat,(if c=true then (1:Int) else 0)=(n:Int)/\n<=1:=by
   cases c
   ·exact ⟨0,rfl,by omega⟩
   ·exact ⟨1,rfl,by omega⟩
  rw [hn0]
  refine (HMD 1 n (by omega) (by omega) (by omega) _).mono ?_
  rintro r w3 ⟨rfl,hx2⟩
  refine hK.out _ _ ⟨hH.1.trans hx2,hH.2.ext hx2⟩ (fun hH=>?_)
  clear hK K
  try simp only [J]
  (refine Jt 9 (.agg (Bt.cells ⟨1,n%2^(1:Int).toNat⟩).toArray) rfl (yif_load1 rfl (by intro W hW;clear hW;go_simp)) hH ?_;try simp only [J])
  (refine Jt 10 (.int .i64 0) rfl (yif_load1 rfl (by intro W hW;clear hW;go_simp)) hH ?_;try simp only [J])
  (refine Jr 11 rfl fun K hK=>?_)
  refine step_store_blk' rfl 69 _ _ rfl ((HR.out.ext hx1).drew.ext hx2) rfl (cs:=Bt.cells ⟨1,n%2^(1:Int).toNat⟩) rfl agg_Bits rfl rfl rfl ?_
  intro w4 hb4 hg4
  refine hK.out _ _ ⟨hH.1.grown hg4 (by omega),hH.2.grown hg4 (by omega)⟩ (fun hH=>?_)
  clear hK K
  try simp only [J]
  (refine Jt 12 (.int .i64 0) rfl (yif_load1 rfl (by intro W hW;clear hW;go_simp)) hH ?_;try simp only [J])
  refine Jz ?_
  go_wp2_with ((with_reducible show bodyPost _ _ _ _ _ _);refine Hid.out ?_)
  refine Jh ?_
  refine post_ret_blk2' rfl rfl rfl hb4.has agg_Bits rfl rfl ⟨?_,hH.1⟩
  have hpf:p=wd.toNat↔v=2^wd.toNat-1:=by
   rw [<-HP.out,show (64:Nat)=wd.toNat+(64-wd.toNat) by omega,pop_small _ _ _ HA.out]
   exact pop_full _ _ HA.out
  have hcc:c=decide (v=2^wd.toNat-1):=by
   rw [<-HCC.out,Bool.eq_iff_iff,decide_eq_true_iff,<-hpf,beq_iff_eq]
   omega
  have hn1:n=b2n c:=by cases c<;>simp at hn0<;>simp [b2n]<;>omega
  rw [hn1,show b2n c%2^(1:Int).toNat=b2n c from Nat.mod_eq_of_lt (b2n_lt c),hcc]
  simp [unW,unM]
 ·obtain ⟨p,hp⟩:∃ p,pop 64 v=p:=⟨_,rfl⟩
  have HC:=Jh (show ∀ W,Calls Tryz.prog 101 #[.int .u64 (v:Int)] W (fun r w'=>r=.returned (.int .i64 (p:Nat))/\w'=W) from fun W=>by have:=OnesCount_calls v h64 W;rwa [hp] at this)
  have HP:=Jh (show p=0↔v=0 by rw [<-hp];exact pop_zero 64 v h64)
  clear hp
  by_cases hp0:p=0
  ·obtain rfl:=hp0
   have HV:=Jh (HP.out.1 rfl)
   go_wp2_with (first | ((with_reducible show Jl 69);refine Jm 69 (hD1) agg_Bits rfl ?_) | (go_at_call 99;refine (HM.out _).mono ?_;rintro r w1 ⟨rfl,hx1⟩;have g0:=(HD.out.ext hx1).has 0 _ rfl;have g1:=(HD.out.ext hx1).has 1 _ rfl) | (go_at_call 101;refine (HC.out _).mono ?_;rintro r w2 ⟨rfl,rfl⟩) | (go_at_call 100;refine (one_calls _ _).mono ?_;rintro r w2 ⟨rfl,rfl⟩) | (go_at_call 98;refine (HMD 1 0 (by decide) (by omega) (by omega) _).mono ?_;rintro r w3 ⟨rfl,hx2⟩) | ((with_reducible show Js 69);refine wpList_store_blk rfl 69 _ _ rfl (HR.out.ext (hx1.trans hx2)) rfl (cs:=Bt.cells ⟨1,0%2^(1:Int).toNat⟩) (rfl) agg_Bits (rfl) rfl (rfl) ?_;intro w4 hb4 hg4))
   refine post_ret_blk2' rfl rfl rfl hb4.has agg_Bits rfl rfl ⟨?_,(HX.out.trans (hx1.trans hx2)).grown hg4 (by omega)⟩
   rw [HV.out]
   simp [unW,unM,b2n]
  ·have HV:=Jh (fun h=>hp0 (HP.out.2 h))
   have hp1:(0:Int)<(p:Int):=by omega
   clear hp0
   go_wp2_with (first | ((with_reducible show Jl 69);refine Jm 69 (hD1) agg_Bits rfl ?_) | (go_at_call 99;refine (HM.out _).mono ?_;rintro r w1 ⟨rfl,hx1⟩;have g0:=(HD.out.ext hx1).has 0 _ rfl;have g1:=(HD.out.ext hx1).has 1 _ rfl) | (go_at_call 101;refine (HC.out _).mono ?_;rintro r w2 ⟨rfl,rfl⟩) | (go_at_call 100;refine (one_calls _ _).mono ?_;rintro r w2 ⟨rfl,rfl⟩) | (go_at_call 98;refine (HMD 1 1 (by decide) (by omega) (by omega) _).mono ?_;rintro r w3 ⟨rfl,hx2⟩) | ((with_reducible show Js 69);refine wpList_store_blk rfl 69 _ _ rfl (HR.out.ext (hx1.trans hx2)) rfl (cs:=Bt.cells ⟨1,1%2^(1:Int).toNat⟩) (rfl) agg_Bits (rfl) rfl (rfl) ?_;intro w4 hb4 hg4))
   refine post_ret_blk2' rfl rfl rfl hb4.has agg_Bits rfl rfl ⟨?_,(HX.out.trans (hx1.trans hx2)).grown hg4 (by omega)⟩
   simp [unW,unM,b2n]
   rw [if_neg HV.out];rfl
 ·obtain ⟨p,hp⟩:∃ p,pop 64 v=p:=⟨_,rfl⟩
  have HC:=Jh (show ∀ W,Calls Tryz.prog 101 #[.int .u64 (v:Int)] W (fun r w'=>r=.returned (.int .i64 (p:Nat))/\w'=W) from fun W=>by have:=OnesCount_calls v h64 W;rwa [hp] at this)
  have HP:=Jh hp
  have hp64:p<=64:=by rw [<-hp];exact pop_le _ _
  clear hp
  have hp2:p<2^64:=by omega
  have hp3:(p:Int)<=64:=by omega
  go_wp2_with (first | ((with_reducible show Jl 69);refine Jm 69 (hD1) agg_Bits rfl ?_) | (go_at_call 99;refine (HM.out _).mono ?_;rintro r w1 ⟨rfl,hx1⟩;have g0:=(HD.out.ext hx1).has 0 _ rfl;have g1:=(HD.out.ext hx1).has 1 _ rfl) | (go_at_call 101;refine (HC.out _).mono ?_;rintro r w2 ⟨rfl,rfl⟩) | (go_at_call 100;refine (one_calls _ _).mono ?_;rintro r w2 ⟨rfl,rfl⟩) | (go_at_call 98;refine (HMD 1 p hp2 (by omega) (by omega) _).mono ?_;rintro r w3 ⟨rfl,hx2⟩) | ((with_reducible show Js 69);refine wpList_store_blk rfl 69 _ _ rfl (HR.out.ext (hx1.trans hx2)) rfl (cs:=Bt.cells ⟨1,p%2^(1:Int).toNat⟩) (rfl) agg_Bits (rfl) rfl (rfl) ?_;intro w4 hb4 hg4))
  refine post_ret_blk2' rfl rfl rfl hb4.has agg_Bits rfl rfl ⟨?_,(HX.out.trans (hx1.trans hx2)).grown hg4 (by omega)⟩
  rw [<-HP.out]
  simp [unW,unM,popN_pop]
 ·obtain rfl:=HW.out rfl
  obtain ⟨n,hn0⟩:∃ n,n=18446744073709551615-v:=⟨_,rfl⟩
  have hn:n<2^64:=by omega
  have E:=Jh (show bits .xor .u64 IntKind.u64.max (v:Int)=(n:Int) by rw [n_not h64,hn0])
  have H0:=Jh hn0
  clear hn0
  go_wp2_with (first | ((with_reducible show Jl 69);refine Jm 69 (hD1) agg_Bits rfl ?_) | (go_at_call 99;refine (HM.out _).mono ?_;rintro r w1 ⟨rfl,hx1⟩;have g0:=(HD.out.ext hx1).has 0 _ rfl;have g1:=(HD.out.ext hx1).has 1 _ rfl) | (go_at_call 98;rw [E.out];refine (HMD 1 n hn (by omega) (by omega) _).mono ?_;rintro r w3 ⟨rfl,hx2⟩) | ((with_reducible show Js 69);refine wpList_store_blk rfl 69 _ _ rfl (HR.out.ext (hx1.trans hx2)) rfl (cs:=Bt.cells ⟨1,n%2^(1:Int).toNat⟩) (rfl) agg_Bits (rfl) rfl (rfl) ?_;intro w4 hb4 hg4))
  refine post_ret_blk2' rfl rfl rfl hb4.has agg_Bits rfl rfl ⟨?_,(HX.out.trans (hx1.trans hx2)).grown hg4 (by omega)⟩
  have hv2:=HA.out
  have:v=0\/v=1:=by simp at hv2;omega
  rw [H0.out]
  rcases this with rfl | rfl<;>simp [unW,unM,b2n]
end Go.Proofs.YtpngepnfinbaoaaGreat
