/- Laws and walks that a claim of this seat leans on: EvalM, U64, Post, Bitv1, PopL, Bitv2, Bitv3. -/
import Derived.Test.YtbliplladmamoaaGreatS01
import Derived.Deep.DeepCutAuto
import Derived.Deep.CutBlock
import Derived.Deep.QuietTactic
import Derived.BigQuiet
import Derived.Test.YtbliplladmamoaaGreatS03
import Derived.Test.YtbliplladmamoaaGreatS00
set_option maxRecDepth 100000
set_option maxHeartbeats 8000000
set_option linter.all false
namespace Go.Proofs.YtbliplladmamoaaGreat
open Go.RowKit
def b2n (b:Bool):Nat:=if b=true then 1 else 0
def Ae6 (v:Nat):Nat:=((List.range 64).filter fun i=>v.testBit i).length
def unM (op:Int) (w v:Nat):Nat :=
 if op=1 then 2^w-1-v
 else if op=2 then (2^w-v)%2^w
 else if op=3 then b2n (decide (v=2^w-1))
 else if op=4 then b2n (decide (v≠0))
 else if op=5 then Ae6 v%2
 else b2n (decide (v=0))
def D4 (op:Int) (w a b:Nat):Nat :=
 if op=11\/op=25 then a &&& b
 else if op=12\/op=26 then a ||| b
 else if op=13 then a ^^^ b
 else if op=14 then (a+b)%2^w
 else if op=15 then (a+2^w-b)%2^w
 else if op=16 then a*b%2^w
 else if op=17 then a*2^b%2^w
 else if op=18 then a / 2^b
 else if op=19 then b2n (decide (a=b))
 else if op=20 then b2n (decide (a≠b))
 else if op=21 then b2n (decide (a<b))
 else if op=22 then b2n (decide (a<=b))
 else if op=23 then b2n (decide (b<a))
 else b2n (decide (b<=a))
def Ir (op:Int) (w wa a:Nat):Nat :=
 if op=32/\2^(wa-1)<=a then a+(2^w-2^wa) else if op=33 then a%2^w else a
def catM:List (Int × Nat)->Nat->Nat
 | [],acc=>acc
 | p::l,acc=>catM l (acc*2^p.1.toNat+p.2)
def Gn (vs:List Nat) (op w v sig hi lo n:Int) (ws:List Int) (xs:List Nat):Nat :=
 if op=1 then v.toNat
 else if op=2 then vs.getD sig.toNat 0 / 2^lo.toNat%2^(hi-lo+1).toNat
 else if op=3 then vs.getD sig.toNat 0 / 2^xs.getD 0 0%2
 else if op=4 then unM n (ws.getD 0 0).toNat (xs.getD 0 0)
 else if op=5 then D4 n (ws.getD 0 0).toNat (xs.getD 0 0) (xs.getD 1 0)
 else if op=6 then if xs.getD 0 0=1 then xs.getD 1 0 else xs.getD 2 0
 else if op=7 then catM (ws.zip xs) 0
 else Ir n w.toNat (ws.getD 0 0).toNat (xs.getD 0 0)
def evM (vs:List Nat):E->Nat
 | ⟨op,w,v,sig,hi,lo,n,l⟩=>Gn vs op w v sig hi lo n (l.map (·.w)) (evs l)
where evs:List E->List Nat
 | []=>[]
 | e::l=>evM vs e::evs l
theorem Z2 (vs:List Nat) (e:E):evM vs e=Gn vs e.op e.w e.v e.sig e.hi e.lo e.n (e.l.map (·.w)) (e.l.map (evM vs)):=by
 have h:∀ l,evM.evs vs l=l.map (evM vs):=by
  intro l
  induction l with
  | nil=>rfl
  | cons x l ih=>rw [evM.evs,ih];rfl
 cases e
 rw [evM,h]
theorem Ko (b:Bool):b2n b<2:=by cases b<;>decide
theorem Ahn {op:Int} {w v:Nat} (hv:v<2^w) (h:op≠1->op≠2->1<=w):unM op w v<2^w:=by
 have h0:=Nat.two_pow_pos w
 have h2:op≠1->op≠2->2<=2^w:=fun ho hp=>Nat.le_trans (by decide:2<=2^1) (Nat.pow_le_pow_right (by decide) (h ho hp))
 unfold unM
 by_cases o1:op=1
 ·rw [if_pos o1];omega
 ·rw [if_neg o1]
  by_cases o2:op=2
  ·rw [if_pos o2];exact Nat.mod_lt _ h0
  ·rw [if_neg o2]
   have:=h2 o1 o2
   repeat' split
   all_goals first | (have:=Ko (decide (v=2^w-1));omega) | (have:=Ko (decide (v≠0));omega) | (have:=Nat.mod_lt (Ae6 v) (by decide:0<2);omega) | (have:=Ko (decide (v=0));omega)
theorem U6 {op:Int} {w a b:Nat} (ha:a<2^w) (hb:op≠17->op≠18->b<2^w) (hw:1<=w):D4 op w a b<2^w:=by
 have h0:=Nat.two_pow_pos w
 have h2:2<=2^w:=Nat.le_trans (by decide:2<=2^1) (Nat.pow_le_pow_right (by decide) hw)
 have hc:∀ c:Bool,b2n c<2^w:=fun c=>Nat.lt_of_lt_of_le (Ko c) h2
 unfold D4
 by_cases c0:op=11\/op=25
 ·rw [if_pos c0];exact Nat.and_lt_two_pow _ (hb (by omega) (by omega))
 rw [if_neg c0]
 by_cases c1:op=12\/op=26
 ·rw [if_pos c1];exact Nat.or_lt_two_pow ha (hb (by omega) (by omega))
 rw [if_neg c1]
 by_cases c2:op=13
 ·rw [if_pos c2];exact Nat.xor_lt_two_pow ha (hb (by omega) (by omega))
 rw [if_neg c2]
 by_cases c3:op=14
 ·rw [if_pos c3];exact Nat.mod_lt _ h0
 rw [if_neg c3]
 by_cases c4:op=15
 ·rw [if_pos c4];exact Nat.mod_lt _ h0
 rw [if_neg c4]
 by_cases c5:op=16
 ·rw [if_pos c5];exact Nat.mod_lt _ h0
 rw [if_neg c5]
 by_cases c6:op=17
 ·rw [if_pos c6];exact Nat.mod_lt _ h0
 rw [if_neg c6]
 by_cases c7:op=18
 ·rw [if_pos c7];exact Nat.lt_of_le_of_lt (Nat.div_le_self _ _) ha
 rw [if_neg c7]
 by_cases c8:op=19
 ·rw [if_pos c8];exact hc _
 rw [if_neg c8]
 by_cases c9:op=20
 ·rw [if_pos c9];exact hc _
 rw [if_neg c9]
 by_cases j:op=21
 ·rw [if_pos j];exact hc _
 rw [if_neg j]
 by_cases u:op=22
 ·rw [if_pos u];exact hc _
 rw [if_neg u]
 by_cases aa:op=23
 ·rw [if_pos aa];exact hc _
 rw [if_neg aa]
 exact hc _
theorem Age {op:Int} {w wa a:Nat} (ha:a<2^wa) (h0:1<=wa) (h:op≠33->wa<=w):Ir op w wa a<2^w:=by
 unfold Ir
 by_cases c0:op=32/\2^(wa-1)<=a
 ·rw [if_pos c0]
  have:=Nat.pow_le_pow_right (n:=2) (by decide) (h (by omega))
  omega
 rw [if_neg c0]
 by_cases c1:op=33
 ·rw [if_pos c1];exact Nat.mod_lt _ (Nat.two_pow_pos w)
 rw [if_neg c1]
 exact Nat.lt_of_lt_of_le ha (Nat.pow_le_pow_right (by decide) (h c1))
theorem Af4 (l:List (Int × Nat)):∀ j k,j<2^k->(∀ p∈l,p.2<2^p.1.toNat)->catM l j<2^(k+(l.map fun p=>p.1.toNat).sum):=by
 induction l with
 | nil=>intro j k h _;simpa [catM] using h
 | cons p l ih =>
  intro j k h hp
  rw [catM]
  have h1:=hp p (by simp)
  have h2:j*2^p.1.toNat+p.2<2^(k+p.1.toNat):=by
   rw [Nat.pow_add]
   have:(j+1)*2^p.1.toNat<=2^k*2^p.1.toNat:=Nat.mul_le_mul_right _ h
   rw [Nat.add_mul] at this
   omega
  have:=ih _ _ h2 (fun q hq=>hp q (by simp [hq]))
  rw [List.map_cons,List.sum_cons,<-Nat.add_assoc]
  exact this
abbrev U (x:BitVec 64):Value:=.int .u64 (x.toNat:Int)
theorem Zb (x:BitVec 64):BitVec.ofInt 64 (x.toNat:Int)=x:=by
 rw [BitVec.ofInt_natCast,BitVec.ofNat_toNat,BitVec.setWidth_eq]
theorem Ma (x:BitVec 64):IntKind.u64.wrap (x.toNat:Int)=x.toNat:=by
 rw [IntKind.wrap_u64];have:=x.isLt;omega
theorem Ag7 (x:BitVec 64) (n:Nat):IntKind.u64.wrap ((x.toNat:Int)*2^n)=(x <<< n).toNat:=by
 rw [IntKind.wrap_u64,BitVec.toNat_shiftLeft,Nat.shiftLeft_eq];simp
theorem Aig (x:BitVec 64) (n:Nat):(x.toNat:Int).fdiv (2^n)=(x >>> n).toNat:=by
 rw [BitVec.toNat_ushiftRight,Nat.shiftRight_eq_div_pow,Int.fdiv_eq_ediv_of_nonneg _ (by exact Int.le_of_lt (Int.pow_pos (by decide)))]
 norm_cast
theorem L9 {n:Nat} (h:n<18446744073709551616):∃ x:BitVec 64,x.toNat=n:=⟨BitVec.ofNat 64 n,by rw [BitVec.toNat_ofNat];omega⟩
theorem Aie (x y:BitVec 64):bits .and .u64 (x.toNat:Int) (y.toNat:Int)=((x &&& y).toNat:Int):=by
 unfold bits;simp only [IntKind.bits];rw [Zb,Zb];exact Ma _
theorem Aiw (x y:BitVec 64):bits .or .u64 (x.toNat:Int) (y.toNat:Int)=((x ||| y).toNat:Int):=by
 unfold bits;simp only [IntKind.bits];rw [Zb,Zb];exact Ma _
theorem Ag8 (x y:BitVec 64):bits .xor .u64 (x.toNat:Int) (y.toNat:Int)=((x ^^^ y).toNat:Int):=by
 unfold bits;simp only [IntKind.bits];rw [Zb,Zb];exact Ma _
theorem Za (x y:BitVec 64):bits .andNot .u64 (x.toNat:Int) (y.toNat:Int)=((x &&& ~~~y).toNat:Int):=by
 unfold bits;simp only [IntKind.bits];rw [Zb,Zb];exact Ma _
theorem Ahz (x y:BitVec 64):U (x &&& y)=.int .u64 (bits .and .u64 (x.toNat:Int) (y.toNat:Int)):=by rw [Aie]
theorem Aif:IntKind.u64.max=((18446744073709551615#64).toNat:Int):=by decide
theorem Ag6 (x:BitVec 64):bits .xor .u64 IntKind.u64.max (x.toNat:Int)=((~~~x).toNat:Int):=by
 rw [Aif,Ag8,show 18446744073709551615#64=BitVec.allOnes 64 by decide,BitVec.allOnes_xor]
theorem Abb {v:Nat} (hv:v<18446744073709551616):bits .xor .u64 IntKind.u64.max (v:Int)=((18446744073709551615-v:Nat):Int):=by
 obtain ⟨x,rfl⟩:=L9 hv
 rw [Ag6,BitVec.toNat_not]
theorem Lc {a b:Nat} (ha:a<18446744073709551616) (hb:b<18446744073709551616):bits .or .u64 (a:Int) (b:Int)=((a ||| b:Nat):Int):=by
 obtain ⟨x,rfl⟩:=L9 ha
 obtain ⟨y,rfl⟩:=L9 hb
 rw [Aiw,BitVec.toNat_or]
theorem Of {a b:Nat} (ha:a<18446744073709551616) (hb:b<18446744073709551616):bits .xor .u64 (a:Int) (b:Int)=((a ^^^ b:Nat):Int):=by
 obtain ⟨x,rfl⟩:=L9 ha
 obtain ⟨y,rfl⟩:=L9 hb
 rw [Ag8,BitVec.toNat_xor]
theorem Am {P:Program} {fn:Func} {R:Ending->World->Prop} {a:Act} {w:World} {p q:Tmp} {ty:TypeId} {B:Nat} {cs:List Value} {v:Value} {n:Nat} (hf:fn.results = #[.cell p ty,.tmp q])
  (hp:a.tmps.getD p undef=.pointer (some ⟨B,0,none⟩)) (hq:a.tmps.getD q undef=v) (hb:Has w B 0 cs) (hu:Agg P ty n) (hn:cs.length=n) (hd:a.defers=[]) (h:R (.returned (.tuple #[.agg cs.toArray,v])) w):bodyPost P fn R .ret a w:=by
 subst hn
 subst hq
 refine bodyPost_ret ?_ hd h
 have j:a.tmps[p]?.getD undef=.pointer (some ⟨B,0,none⟩):=by simpa using hp
 simp [results,hf,j,asAddr,Dj w B 0 ty cs hb hu]
structure Bt where
 w:Int
 v:Nat
abbrev Bt.cells (x:Bt):List Value:=[.int .i64 x.w,.int .u64 (x.v:Int)]
def Bt.ok (x:Bt):Prop:=1<=x.w/\x.w<=64/\x.v<2^x.w.toNat
theorem Ae:Agg Tryz.prog 151 2:=by unfold Agg;exact ⟨by kernel_rfl,by kernel_rfl⟩
def I9 (w:Int):BitVec 64:=if w<=0 then 0#64 else if w<64 then ~~~(18446744073709551615#64 <<< w.toNat) else 18446744073709551615#64
theorem Ub (w:Int) (h:0<=w) (h2:w<=64):(I9 w).toNat=2^w.toNat-1:=by
 obtain ⟨k,rfl⟩:=Int.eq_ofNat_of_zero_le h
 have hk:k<=64:=by omega
 clear h h2
 revert k
 decide +kernel
theorem S4 (x:BitVec 64) (w:Int) (h:0<=w) (h2:w<=64):(x &&& I9 w).toNat=x.toNat%2^w.toNat:=by
 rw [BitVec.toNat_and,Ub w h h2,Nat.and_two_pow_sub_one_eq_mod]
theorem Acb (x:BitVec 64) (w:Int) (h:0<=w) (h2:w<=64) (hx:x.toNat<2^w.toNat):x &&& ~~~I9 w=0#64:=by
 have h1:x &&& I9 w=x:=BitVec.eq_of_toNat_eq (by rw [S4 x w h h2,Nat.mod_eq_of_lt hx])
 rw [<-h1,BitVec.and_assoc]
 simp
theorem M8 (wd:Int) (w:World):Calls Tryz.prog 37 #[.int .i64 wd] w fun r w'=>r=.returned (U (I9 wd))/\w'=w:=by
 go_enter Tryz.func37,Tryz.ntmps37
 by_cases h1:wd<=0
 ·go_wp2_with fail
  all_goals go_ret
  all_goals exact ⟨by unfold I9;rw [if_pos h1];rfl,rfl⟩
 ·by_cases h2:wd<64
  ·go_wp2_with fail
   all_goals go_ret
   all_goals refine ⟨?_,rfl⟩
   all_goals unfold I9
   all_goals rw [if_neg (by omega),if_pos h2]
   all_goals exact congrArg (fun n=>Ending.returned (.int .u64 n)) (by rw [show (18446744073709551615:Int)=((18446744073709551615#64).toNat:Int) from rfl,Ag7,Ag6])
  ·go_wp2_with fail
   all_goals go_ret
   all_goals exact ⟨by unfold I9;rw [if_neg (by omega),if_neg (by omega)];rfl,rfl⟩
theorem Bt.bv {a:Bt} (h:a.ok):∃ x:BitVec 64,a.v=x.toNat/\x &&& ~~~I9 a.w=0#64:=by
 obtain ⟨h1,h2,h3⟩:=h
 have h4:a.v<2^64:=Nat.lt_of_lt_of_le h3 (Nat.pow_le_pow_right (by decide) (by omega))
 obtain ⟨x,hx⟩:=L9 (show a.v<18446744073709551616 from h4)
 exact ⟨x,hx.symm,Acb x a.w (by omega) h2 (by rw [hx];exact h3)⟩
theorem Ext.drewNB {w w':World} (h:Ext w w') (n:Nat):Ext w (w'.drewN n):=⟨h.os,h.tape,h.output,h.size,h.block⟩
theorem Blk.drewN {w:World} {B:Nat} {cs:Array Value} {T:TypeId} (h:Blk w B cs T) (n:Nat):Blk (w.drewN n) B cs T:=h
theorem Has.drewN {w:World} {b o:Nat} {cs:List Value} (h:Has w b o cs) (n:Nat):Has (w.drewN n) b o cs:=h
theorem Mm (a:Bt) (ha:a.ok) (w:World):Calls Tryz.prog 188 #[.agg a.cells.toArray] w fun r w'=>r=.returned (.bool true)/\Ext w w':=by
 obtain ⟨x,hx,h0⟩:=Bt.bv ha
 obtain ⟨h1,h2,-⟩:=ha
 obtain ⟨wd,v⟩:=a
 simp only at hx h0 h1 h2
 subst hx
 have HX:=Ab w (.cells (Bt.cells ⟨wd,x.toNat⟩).toArray 151)
 have hb:=Blk.new w (Bt.cells ⟨wd,x.toNat⟩).toArray 151
 have H0:=Jh h0
 clear h0
 go_enter Tryz.func188,Tryz.ntmps188
 go_upto_region 1 with fail
 generalize w.alloc _=w0 at *
 have g0:=hb.has 0 _ rfl
 have g1:=hb.has 1 _ rfl
 have b1:(decide (0<wd))=true:=by simp;omega
 have b2:(decide (wd<=64))=true:=by simp;omega
 have hm:=fun W=>M8 wd W
 have HM:=Jh hm
 clear hm
 go_quiet (first | (go_at_call 37;refine Calls.quiet_of_same (HM.out _)))
 go_wp2_with fail
 go_ret
 exact ⟨congrArg (fun b=>Ending.returned (.bool b)) (by rw [Za,H0.out];rfl),HX.drewNB nq⟩
theorem Z7 (wd:Int) (x:BitVec 64) (w:World):Calls Tryz.prog 187 #[.bool true,.int .i64 wd,U x] w fun r w' =>
  r=.returned (.tuple #[.agg #[.int .i64 wd,U (x &&& I9 wd)],.int .i64 0])/\Ext w w':=by
 have HX:=Ab w (.cells #[.int .i64 0,.int .u64 0] 151)
 have hb:=Blk.new w #[.int .i64 0,.int .u64 0] 151
 go_enter Tryz.func187,Tryz.ntmps187
 go_upto_region 1 with fail
 generalize w.alloc _=w0 at *
 go_wp2_with (first | (go_at_call 37;refine (M8 _ _).mono ?_;rintro r w1 ⟨rfl,rfl⟩) | ((with_reducible show Js 151);refine Ac rfl 151 _ _ rfl (hb) rfl (cs:=[.int .i64 wd,U (x &&& I9 wd)]) (by (rw [Ahz];rfl)) Ae (rfl) rfl (rfl) ?_;intro w4 j u))
 refine Am rfl rfl rfl j.has Ae rfl rfl ⟨rfl,HX.grown u (by omega)⟩
theorem Ka (b:Bool) (w:World):Calls Tryz.prog 189 #[.bool b] w fun r w'=>r=.returned (.int .u64 (if b=true then 1 else 0))/\w'=w:=by
 go_enter Tryz.func189,Tryz.ntmps189
 cases b
 ·go_wp2_with fail
  go_ret
  exact ⟨rfl,rfl⟩
 ·go_wp2_with fail
  go_ret
  exact ⟨rfl,rfl⟩
def pop:Nat->Nat->Nat
 | 0,_=>0
 | k+1,v=>v%2+pop k (v / 2)
theorem Vo (j k v:Nat):pop (j+k) v=pop j v+pop k (v / 2^j):=by
 induction j generalizing v with
 | zero=>simp [pop]
 | succ j ih =>
  rw [show j+1+k=(j+k)+1 by omega,pop,pop,ih,Nat.div_div_eq_div_mul,show 2*2^j=2^(j+1) by rw [Nat.pow_succ];omega]
  omega
theorem Agm (k v:Nat):pop k (v%2^k)=pop k v:=by
 induction k generalizing v with
 | zero=>rfl
 | succ k ih =>
  rw [pop,pop]
  have h1:v%2^(k+1)%2=v%2:=by
   rw [Nat.pow_succ,Nat.mul_comm];exact Nat.mod_mul_right_mod v 2 (2^k)
  have h2:v%2^(k+1) / 2=v / 2%2^k:=by
   rw [Nat.pow_succ,Nat.mul_comm];exact Nat.mod_mul_right_div_self v 2 (2^k)
  rw [h1,h2,ih]
theorem Iv (k v:Nat):pop k v<=k:=by
 induction k generalizing v with
 | zero=>simp [pop]
 | succ k ih=>rw [pop];have:=ih (v / 2);omega
theorem Yy (v:Nat):Ae6 v=pop 64 v:=by
 have h:∀ k v,((List.range k).filter fun i=>v.testBit i).length=pop k v:=by
  intro k
  induction k with
  | zero=>intro v;rfl
  | succ k ih =>
   intro v
   rw [List.range_succ_eq_map,List.filter_cons,pop,<-ih]
   have e:((List.map Nat.succ (List.range k)).filter fun i=>v.testBit i).length=((List.range k).filter fun i=>(v / 2).testBit i).length:=by
    rw [List.filter_map,List.length_map]
    congr 1
    apply List.filter_congr
    intro i _
    simp [Nat.testBit_succ]
   by_cases h0:v.testBit 0=true
   ·rw [if_pos h0,List.length_cons,e]
    have:v%2=1:=by simpa [Nat.testBit_zero] using h0
    omega
   ·rw [if_neg h0,e]
    have:v%2=0:=by
     have:¬ v%2=1:=by simpa [Nat.testBit_zero] using h0
     omega
    omega
 exact h 64 v
/-! ### eight bytes at once -/
def Mk (m:Nat):Nat->Nat
 | 0=>0
 | n+1=>m+256*Mk m n
theorem Ln (x m M:Nat) (hm:m<256):x &&& (m+256*M)=(x%256 &&& m)+256*(x / 256 &&& M):=by
 have j:(x%256 &&& m)<2^8:=Nat.and_lt_two_pow _ hm
 refine Nat.eq_of_testBit_eq fun i=>?_
 have hx:x=x%2^8+2^8*(x / 2^8):=(Nat.mod_add_div x (2^8)).symm
 rw [Nat.testBit_and,show m+256*M=2^8*M+m by omega,show (x%256 &&& m)+256*(x / 256 &&& M)=2^8*(x / 256 &&& M)+(x%256 &&& m) by omega,
  Nat.testBit_two_pow_mul_add _ hm,Nat.testBit_two_pow_mul_add _ j]
 by_cases hi:i<8
 ·rw [if_pos hi,if_pos hi,Nat.testBit_and,show (256:Nat)=2^8 from rfl,Nat.testBit_mod_two_pow]
  simp [hi]
 ·rw [if_neg hi,if_neg hi,Nat.testBit_and,show (256:Nat)=2^8 from rfl,Nat.testBit_div_two_pow]
  rw [show i-8+8=i by omega]
def p1 (n v:Nat):Nat:=(v / 2 &&& Mk 85 n)+(v &&& Mk 85 n)
def p2 (n v:Nat):Nat:=(p1 n v / 4 &&& Mk 51 n)+(p1 n v &&& Mk 51 n)
def p3 (n v:Nat):Nat:=(p2 n v / 16+p2 n v) &&& Mk 15 n
def q1 (b:Nat):Nat:=(b / 2 &&& 85)+(b &&& 85)
def q2 (b:Nat):Nat:=(q1 b / 4 &&& 51)+(q1 b &&& 51)
theorem bytes:∀ b,b<256->q1 b<256/\q2 b<256/\q2 b%16<=4/\q2 b / 16<=4/\q2 b%16+q2 b / 16=pop 8 b/\((b / 2+128) &&& 85)=(b / 2 &&& 85) /\
  (∀ r,r<4->((q1 b / 4+64*r) &&& 51)=(q1 b / 4 &&& 51)):=by decide +kernel
theorem Agh (n b y:Nat) (hb:b<256):p1 (n+1) (b+256*y)=q1 b+256*p1 n y:=by
 obtain ⟨-,-,-,-,-,h,-⟩:=bytes b hb
 unfold p1 q1
 rw [Mk,Ln _ _ _ (by decide),Ln _ _ _ (by decide)]
 rw [show (b+256*y) / 256=y by omega,show (b+256*y)%256=b by omega,show (b+256*y) / 2 / 256=y / 2 by omega]
 have:(b+256*y) / 2%256=b / 2\/(b+256*y) / 2%256=b / 2+128:=by omega
 rcases this with e | e<;>rw [e]
 ·omega
 ·rw [h];omega
theorem Abd (n b y:Nat) (hb:b<256):p2 (n+1) (b+256*y)=q2 b+256*p2 n y:=by
 obtain ⟨h1,-,-,-,-,-,h⟩:=bytes b hb
 unfold p2
 rw [Agh n b y hb,Mk,Ln _ _ _ (by decide),Ln _ _ _ (by decide)]
 generalize p1 n y=s
 unfold q2
 generalize q1 b=q at *
 rw [show (q+256*s) / 256=s by omega,show (q+256*s)%256=q by omega,show (q+256*s) / 4 / 256=s / 4 by omega,
  show (q+256*s) / 4%256=q / 4+64*(s%4) by omega,h _ (by omega)]
 omega
theorem Ahk (n v:Nat) (hv:v<256^n):p2 n v%16<=4:=by
 cases n with
 | zero=>simp [p2,p1,Mk]
 | succ n =>
  have hb:v%256<256:=Nat.mod_lt _ (by decide)
  rw [show v=v%256+256*(v / 256) by omega,Abd n _ _ hb]
  have:=(bytes _ hb).2.2.1
  omega
theorem Agi (n b y:Nat) (hb:b<256) (hy:y<256^n):p3 (n+1) (b+256*y)=pop 8 b+256*p3 n y:=by
 obtain ⟨-,h1,h2,h3,h4,-⟩:=bytes b hb
 have h5:=Ahk n y hy
 unfold p3
 rw [Abd n b y hb,Mk,Ln _ _ _ (by decide)]
 generalize p2 n y=s at *
 generalize q2 b=q at *
 rw [show ((q+256*s) / 16+(q+256*s)) / 256=s / 16+s by omega]
 congr 1
 rw [show (15:Nat)=2^4-1 from rfl,Nat.and_two_pow_sub_one_eq_mod]
 omega
theorem Ae0 (v:Nat) (hv:v<2^64):∃ c0 c1 c2 c3 c4 c5 c6 c7,p3 8 v=c0+256*(c1+256*(c2+256*(c3+256*(c4+256*(c5+256*(c6+256*c7)))))) /\
  c0<=8/\c1<=8/\c2<=8/\c3<=8/\c4<=8/\c5<=8/\c6<=8/\c7<=8/\c0+c1+c2+c3+c4+c5+c6+c7=pop 64 v:=by
 have hs:∀ n v,v<256^(n+1)->p3 (n+1) v=pop 8 (v%256)+256*p3 n (v / 256):=by
  intro n v h
  have hy:v / 256<256^n:=by rw [Nat.pow_succ] at h;omega
  have:=Agi n (v%256) (v / 256) (Nat.mod_lt _ (by decide)) hy
  rwa [Nat.mod_add_div] at this
 have hp:∀ k v,pop (8+k) v=pop 8 (v%256)+pop k (v / 256):=by
  intro k v
  rw [Vo,show (256:Nat)=2^8 from rfl,Agm]
 have h0:p3 0 (v / 256 / 256 / 256 / 256 / 256 / 256 / 256 / 256)=0:=by simp [p3,p2,p1,Mk]
 refine ⟨pop 8 (v%256),pop 8 (v / 256%256),pop 8 (v / 256 / 256%256),pop 8 (v / 256 / 256 / 256%256),pop 8 (v / 256 / 256 / 256 / 256%256),pop 8 (v / 256 / 256 / 256 / 256 / 256%256),
  pop 8 (v / 256 / 256 / 256 / 256 / 256 / 256%256),pop 8 (v / 256 / 256 / 256 / 256 / 256 / 256 / 256%256),?_,Iv _ _,Iv _ _,Iv _ _,Iv _ _,Iv _ _,Iv _ _,Iv _ _,Iv _ _,?_⟩
 ·rw [hs 7 v (by omega),hs 6 _ (by omega),hs 5 _ (by omega),hs 4 _ (by omega),hs 3 _ (by omega),hs 2 _ (by omega),hs 1 _ (by omega),hs 0 _ (by omega),h0]
  omega
 ·rw [show (64:Nat)=8+(8+(8+(8+(8+(8+(8+(8+0))))))) from rfl,hp,hp,hp,hp,hp,hp,hp,hp]
  simp only [pop]
  omega
def cnt (v:Nat):Nat :=
 let s:=p3 8 v
 let t:=s+s / 256
 let u:=t+t / 65536
 u+u / 4294967296
theorem Af6 (v:Nat) (hv:v<2^64):cnt v%128=pop 64 v/\cnt v<2^63/\p3 8 v+p3 8 v / 256<2^64/\(p3 8 v+p3 8 v / 256)+(p3 8 v+p3 8 v / 256) / 65536<2^64:=by
 obtain ⟨c0,c1,c2,c3,c4,c5,c6,c7,h,h0,h1,h2,h3,h4,h5,h6,h7,hs⟩:=Ae0 v hv
 unfold cnt
 rw [h,<-hs]
 simp only
 clear h hs
 generalize hs:c0+256*(c1+256*(c2+256*(c3+256*(c4+256*(c5+256*(c6+256*c7))))))=s
 have e1:s / 256=c1+256*(c2+256*(c3+256*(c4+256*(c5+256*(c6+256*c7))))):=by omega
 generalize ht:s+s / 256=t
 have e2:t=(c0+c1)+256*((c1+c2)+256*((c2+c3)+256*((c3+c4)+256*((c4+c5)+256*((c5+c6)+256*((c6+c7)+256*c7)))))):=by omega
 have e3:t / 65536=(c2+c3)+256*((c3+c4)+256*((c4+c5)+256*((c5+c6)+256*((c6+c7)+256*c7)))):=by clear ht e1 hs;omega
 generalize hu:t+t / 65536=u
 have e4:u=(c0+c1+c2+c3)+256*((c1+c2+c3+c4)+256*((c2+c3+c4+c5)+256*((c3+c4+c5+c6)+256*((c4+c5+c6+c7)+256*((c5+c6+c7)+256*((c6+c7)+256*c7)))))):=by clear ht e1 hs;omega
 have e5:u / 4294967296=(c4+c5+c6+c7)+256*((c5+c6+c7)+256*((c6+c7)+256*c7)):=by clear hu e3 e2 ht e1 hs;omega
 have e6:u+u / 4294967296=(c0+c1+c2+c3+c4+c5+c6+c7)+256*((c1+c2+c3+c4+c5+c6+c7)+256*((c2+c3+c4+c5+c6+c7)+256*((c3+c4+c5+c6+c7)+256*((c4+c5+c6+c7)+256*((c5+c6+c7)+256*((c6+c7)+256*c7)))))):=by clear hu e3 e2 ht e1 hs;omega
 refine ⟨?_,?_,?_,?_⟩
 ·rw [e6];clear e6 e5 e4 hu e3 e2 ht e1 hs;omega
 ·rw [e6];clear e6 e5 e4 hu e3 e2 ht e1 hs;omega
 ·rw [e2];clear e6 e5 e4 hu e3 e2 ht e1 hs;omega
 ·rw [e4];clear e6 e5 e4 hu e3 e2 ht e1 hs;omega
theorem Ah9:Mk 85 8=6148914691236517205/\Mk 51 8=3689348814741910323/\Mk 15 8=1085102592571150095:=by decide +kernel
abbrev Nv (w:World) (x:Bt) (b o:Nat):Prop:=Has w b o x.cells
abbrev Bts (w:World) (s:Value) (l:List Bt):Prop:=Sl 2 (Nv w) s l
theorem Bts.ext {w w':World} {s:Value} {l:List Bt} (h:Bts w s l) (hx:Ext w w'):Bts w' s l:=h.mono fun _ _ _ _ h=>Has.ext h hx
theorem Bts.get {w:World} {l:List Bt} {b o k:Nat} (h:Rows 2 (Nv w) l b o) (hk:k<l.length):Has w b (o+k*2) l[k].cells:=h.get (List.getElem?_eq_getElem hk)
theorem Abz:Bj Tryz.prog 188:=A9 Tryz.func188 (by kernel_rfl) rfl
theorem Ox (l:List Bt) (u:∀ x∈l,x.ok) (s:Value) (w:World) (h:Bts w s l) :
  Calls Tryz.prog 191 #[.func (.func 188) #[] #[],s] w fun r w'=>r=.returned (.bool true)/\Ext w w':=by
 have aa:=Jh u
 clear u
 obtain ⟨a,b,o,cap,hs,ac,ae,ha,hr⟩:=h.open
 subst hs
 go_enter Tryz.func191,Tryz.ntmps191
 go_wp2_with fail
 go_loopw [6,9] (fun _ i wr=>∃ k:Nat,k<=l.length/\i=.int .i64 k/\Ext w wr) (fun _ i _=>l.length-(intOf i).toNat)
 case atStart=>exact ⟨0,Nat.zero_le _,rfl,Below.refl _ _⟩
 case round =>
  obtain ⟨k,hk,rfl,hB⟩:=hrel
  by_cases j:k<l.length
  ·obtain rfl:=ha (by omega)
   have he:=(Bts.get hr j).ext hB
   have HC:=fun W=>Mm l[k] (aa.out _ (List.getElem_mem j)) W
   generalize l[k]=x at *
   go_wp2_with (first | ((with_reducible show Jl 151);refine Aa rfl 151 _ rfl rfl (he) Ae rfl ?_) | ((with_reducible show Js 151);refine Ad rfl 151 _ _ rfl rfl (by first | rfl | simp) rfl Ae (rfl) rfl (rfl) ?_) | ((with_reducible show Jw (Op.call { callee:=.value (.tmp _),args:=_,argTypes:=_ }));refine As rfl _ _ _ rfl rfl Abz rfl (HC _) ?_;intro w1 ab))
   go_roundw
   case rel=>exact ⟨k+1,by omega,by go_num,(hB.alloc _).trans ab⟩
   case measure=>simp [intOf];omega
  ·go_wp2_with fail
   go_ret
   exact ⟨rfl,hB⟩
theorem Sw (a:Bt) (ha:a.ok) (hi lo:Int) (h1:0<=lo) (h2:lo<=hi) (h3:hi<a.w) (w:World) :
  Calls Tryz.prog 186 #[.agg a.cells.toArray,.int .i64 hi,.int .i64 lo] w fun r w'=>r=.returned (.bool true)/\Ext w w':=by
 have HX:=Ab w (.cells a.cells.toArray 151)
 have hb:=Blk.new w a.cells.toArray 151
 have hm:=fun W=>Mm a ha W
 have HM:=Jh hm
 clear hm
 have b1:decide (0<=lo)=true:=by simpa using h1
 have b2:decide (lo<=hi)=true:=by simpa using h2
 have b3:decide (hi<a.w)=true:=by simpa using h3
 go_enter Tryz.func186,Tryz.ntmps186
 go_upto_region 1 with fail
 generalize w.alloc _=w0 at *
 go_wp2_with (first | ((with_reducible show Jl 151);refine Aa rfl 151 _ rfl rfl (hb.has) Ae rfl ?_) | (go_at_call 188;refine (HM.out _).mono ?_;rintro r w1 ⟨rfl,j⟩;have g0:=(hb.ext j).has 0 _ rfl))
 go_ret
 exact ⟨rfl,HX.trans j⟩
theorem Gr {a b:Nat} (ha:a<2^64) (hb:b<2^64):bits .and .u64 (a:Int) (b:Int)=((a &&& b:Nat):Int) :=
 (bits_nat .u64 64 (by decide) (fun n h0 h1=>by rw [IntKind.wrap_u64];omega) a b ha hb).1
theorem O7 {n:Nat} (h:n<2^64):IntKind.u64.wrap (n:Int)=n:=by rw [IntKind.wrap_u64];omega
theorem Aiu (v:Nat) (hv:v<2^64) :
  IntKind.u64.wrap (bits .and .u64 ((v:Int) / 2) 6148914691236517205+bits .and .u64 (v:Int) 6148914691236517205)=(p1 8 v:Nat) /\
  IntKind.u64.wrap (bits .and .u64 (((p1 8 v:Nat):Int) / 4) 3689348814741910323+bits .and .u64 ((p1 8 v:Nat):Int) 3689348814741910323)=(p2 8 v:Nat) /\
  bits .and .u64 (IntKind.u64.wrap (((p2 8 v:Nat):Int) / 16+((p2 8 v:Nat):Int))) 1085102592571150095=(p3 8 v:Nat):=by
 obtain ⟨m1,m2,m3⟩:=Ah9
 have l1:p1 8 v<=12297829382473034410:=by
  unfold p1;rw [m1]
  have:=Nat.and_le_right (n:=v / 2) (m:=6148914691236517205)
  have:=Nat.and_le_right (n:=v) (m:=6148914691236517205)
  omega
 have l2:p2 8 v<=7378697629483820646:=by
  unfold p2;rw [m2]
  have:=Nat.and_le_right (n:=p1 8 v / 4) (m:=3689348814741910323)
  have:=Nat.and_le_right (n:=p1 8 v) (m:=3689348814741910323)
  omega
 refine ⟨?_,?_,?_⟩
 ·rw [show ((v:Int) / 2)=((v / 2:Nat):Int) by omega,show (6148914691236517205:Int)=((6148914691236517205:Nat):Int) from rfl,Gr (by omega) (by omega),Gr hv (by omega)]
  rw [show p1 8 v=(v / 2 &&& 6148914691236517205)+(v &&& 6148914691236517205) by unfold p1;rw [m1]] at l1 ⊢
  rw [<-Int.natCast_add,O7 (by omega)]
 ·have hq:p2 8 v=(p1 8 v / 4 &&& 3689348814741910323)+(p1 8 v &&& 3689348814741910323):=by unfold p2;rw [m2]
  generalize p1 8 v=q at *
  rw [show ((q:Int) / 4)=((q / 4:Nat):Int) by omega,show (3689348814741910323:Int)=((3689348814741910323:Nat):Int) from rfl,Gr (by omega) (by omega),Gr (by omega) (by omega)]
  rw [show p2 8 v=(q / 4 &&& 3689348814741910323)+(q &&& 3689348814741910323) from hq] at l2 ⊢
  rw [<-Int.natCast_add,O7 (by omega)]
 ·rw [show p3 8 v=(p2 8 v / 16+p2 8 v) &&& 1085102592571150095 by unfold p3;rw [m3]]
  generalize p2 8 v=q at *
  rw [show ((q:Int) / 16+(q:Int))=((q / 16+q:Nat):Int) by omega,O7 (by omega),show (1085102592571150095:Int)=((1085102592571150095:Nat):Int) from rfl,Gr (by omega) (by omega)]
theorem He (v:Nat) (hv:v<2^64) (w:World):Calls Tryz.prog 190 #[.int .u64 (v:Int)] w fun r w'=>r=.returned (.int .i64 (pop 64 v:Nat))/\w'=w:=by
 obtain ⟨e1,e2,e3⟩:=Aiu v hv
 obtain ⟨c1,c2,c3,c4⟩:=Af6 v hv
 unfold cnt at c1 c2
 simp only at c1 c2
 have E1:=Jh e1
 have E2:=Jh e2
 have E3:=Jh e3
 clear e1 e2 e3
 go_enter Tryz.func190,Tryz.ntmps190
 go_upto_region 2 with fail
 rw [E1.out]
 go_upto_region 3 with fail
 rw [E2.out]
 go_upto_region 4 with fail
 rw [E3.out]
 generalize p3 8 v=s at *
 go_upto_region 5 with fail
 rw [show ((s:Int)+(s:Int) / 256)=((s+s / 256:Nat):Int) by omega]
 try rw [O7 c3]
 generalize s+s / 256=t at *
 go_upto_region 6 with fail
 rw [show ((t:Int)+(t:Int) / 65536)=((t+t / 65536:Nat):Int) by omega]
 try rw [O7 c4]
 generalize t+t / 65536=u at *
 have c5:u+u / 4294967296<2^64:=by omega
 go_upto_region 7 with fail
 rw [show ((u:Int)+(u:Int) / 4294967296)=((u+u / 4294967296:Nat):Int) by omega]
 try rw [O7 c5]
 generalize u+u / 4294967296=c at *
 go_wp2_with fail
 go_ret
 have hm:bits .and .i64 (c:Int) 127=(c:Int)%2^7 :=
  bits_mask .i64 63 (by decide) (fun n h0 h1=>by rw [IntKind.wrap_i64];omega) 7 (by decide) c (by omega) (by omega)
 exact ⟨congrArg (fun n=>Ending.returned (.int .i64 n)) (by rw [hm,<-c1];omega),rfl⟩
def Gk (w:World) (b:Bt) (r:Ending) (w':World):Prop:=r=.returned (.tuple #[.agg b.cells.toArray,.int .i64 0])/\Ext w w'
theorem Hb (wd:Int) (n:Nat) (hn:n<2^64) (h0:0<=wd) (h1:wd<=64) (w:World) :
  Calls Tryz.prog 187 #[.bool true,.int .i64 wd,.int .u64 (n:Int)] w (Gk w ⟨wd,n%2^wd.toNat⟩):=by
 obtain ⟨x,rfl⟩:=L9 hn
 refine (Z7 wd x w).mono ?_
 rintro r w' ⟨rfl,hx⟩
 refine ⟨?_,hx⟩
 rw [<-S4 x wd h0 h1]
theorem Az {P:Program} {j:Array Oper} {o:Oper} {a:Act} {w:World} {Q:Exit->Act->World->Prop} {K:Act->World->Prop} {E:Prop} (hw:Region.wanted o (yielded j a.tmps)=true)
  (ty:TypeId) (x y:Operand) (ho:o.op=.store ty x y) {c:Array Value} {B:Nat} (hb:Blk w B c ty) (hx:a.eval x=.pointer (some ⟨B,0,none⟩)) {cs:List Value} (hy:a.eval y=.agg cs.toArray) {n:Nat}
  (hu:Agg P ty n) (hn:cs.length=n) (hc:c.size=n) (h1:cs.all (·.oneCell')=true)
  (h:∀ w',Blk w' B cs.toArray ty->w.grownBy w' (some B)->K (a.put o.dst undef) w'):if Region.wanted o (yielded j a.tmps)=true then Oper.wp P o a w K Q else E:=by
 rw [if_pos hw]
 unfold Oper.wp execOp
 simp only [ho,hx,hy]
 have:=run_storeVar_row (P:=P) w B ty ty c cs.toArray hb (by rw [hu.2];simp [hn]) (by simp [hn,hc]) (by simpa using h1)
 simp only [Instr.storeAt,Instr.sureAddr,Sem.run_bind,Sem.run_pure,Result.andThen_ok,this]
 exact h _ (Kw hb) (Ml w B _)
theorem Bt.lt64 {a:Bt} (h:a.ok):a.v<2^64:=by
 obtain ⟨h1,h2,h3⟩:=h
 exact Nat.lt_of_lt_of_le h3 (Nat.pow_le_pow_right (by decide) (by omega))
theorem Abc (n k:Nat):(n:Int) / 2^k=((n / 2^k:Nat):Int):=by norm_cast
/-! ### Nat's side of Un -/
theorem Ae7 (k v:Nat) (hv:v<2^k):pop k v=k↔v=2^k-1:=by
 induction k generalizing v with
 | zero=>simp [pop];omega
 | succ k ih =>
  have h0:=Nat.two_pow_pos k
  rw [Nat.pow_succ] at hv ⊢
  have:=ih (v / 2) (by omega)
  have j:=Iv k (v / 2)
  rw [pop]
  constructor
  ·intro h
   have h2:=this.1 (by omega)
   omega
  ·intro h
   have h2:=this.2 (by omega)
   omega
theorem Ae8 (k v:Nat) (hv:v<2^k):pop k v=0↔v=0:=by
 induction k generalizing v with
 | zero=>simp [pop];omega
 | succ k ih =>
  rw [Nat.pow_succ] at hv
  have:=ih (v / 2) (by omega)
  rw [pop]
  constructor
  ·intro h
   have h2:=this.1 (by omega)
   omega
  ·intro h
   subst h
   have h2:=this.2 rfl
   simp at h2 ⊢
   exact h2
theorem Aic (k:Nat):pop k 0=0:=by
 induction k with
 | zero=>rfl
 | succ k ih=>rw [pop,Nat.zero_div,ih]
theorem Acg (j k v:Nat) (hv:v<2^j):pop (j+k) v=pop j v:=by
 rw [Vo,Nat.div_eq_of_lt hv,Aic,Nat.add_zero]
theorem Rm {w:Nat} (hw:w<=64):2^w*2^(64-w)=18446744073709551616:=by
 rw [<-Nat.pow_add,show w+(64-w)=64 by omega]
theorem Aho {w v:Nat} (hw:w<=64) (hv:v<2^w):(18446744073709551615-v)%2^w=2^w-1-v:=by
 have e:=Rm hw
 have hk:=Nat.two_pow_pos (64-w)
 generalize 2^w=M at *
 generalize 2^(64-w)=K at *
 have h2:18446744073709551615-v=M*(K-1)+(M-1-v):=by
  have:M*(K-1)=M*K-M:=by rw [Nat.mul_sub,Nat.mul_one]
  have:M<=M*K:=Nat.le_mul_of_pos_right _ hk
  omega
 rw [h2,Nat.mul_add_mod,Nat.mod_eq_of_lt (by omega)]
theorem Afq {w v:Nat} (hw:w<=64) (hv:v<2^w):(18446744073709551616-v)%18446744073709551616%2^w=(2^w-v)%2^w:=by
 have e:=Rm hw
 have hk:=Nat.two_pow_pos (64-w)
 rw [Nat.mod_mod_of_dvd _ ⟨_,e.symm⟩]
 generalize 2^w=M at *
 generalize 2^(64-w)=K at *
 have h2:18446744073709551616-v=M*(K-1)+(M-v):=by
  have:M*(K-1)=M*K-M:=by rw [Nat.mul_sub,Nat.mul_one]
  have:M<=M*K:=Nat.le_mul_of_pos_right _ hk
  omega
 rw [h2,Nat.mul_add_mod]
theorem Xl (a:Bt) (ha:a.ok) (hi lo:Int) (h1:0<=lo) (h2:lo<=hi) (h3:hi<a.w) (w:World) :
  Calls Tryz.prog 165 #[.agg a.cells.toArray,.int .i64 hi,.int .i64 lo] w (Gk w ⟨hi-lo+1,a.v / 2^lo.toNat%2^(hi-lo+1).toNat⟩):=by
 have HX:=(Ab w (.cells a.cells.toArray 151)).trans (Ab _ (.cells #[.int .i64 0,.int .u64 0] 151))
 have hD:=(Blk.new w a.cells.toArray 151).ext (Ab _ (.cells #[.int .i64 0,.int .u64 0] 151))
 have hR:=Blk.new (w.alloc (.cells a.cells.toArray 151)) #[.int .i64 0,.int .u64 0] 151
 rw [show (w.alloc (.cells a.cells.toArray 151)).heap.size=w.heap.size+1 by simp] at hR
 have hm:=fun W=>Sw a ha hi lo h1 h2 h3 W
 have HM:=Jh hm
 have ab:=Bt.lt64 ha
 have u:a.v / 2^lo.toNat<2^64:=Nat.lt_of_le_of_lt (Nat.div_le_self _ _) ab
 have HL:=Jh (Hb (hi-lo+1) (a.v / 2^lo.toNat) u (by omega) (by have:=ha.2.1;omega))
 have b4:(hi:Int)<=64:=by have:=ha.2.1;omega
 clear hm
 go_enter Tryz.func165,Tryz.ntmps165
 go_upto_region 1 with fail
 generalize (w.alloc _).alloc _=w0 at *
 have ac:=hD.has
 have HD:=Jh hD
 have HR:=Jh hR
 clear hD hR
 go_wp2_with (first | ((with_reducible show Jl 151);refine Aa rfl 151 _ rfl rfl (ac) Ae rfl ?_) | (go_at_call 186;refine (HM.out _).mono ?_;rintro r w1 ⟨rfl,j⟩;have g1:=(HD.out.ext j).has 1 _ rfl) | (go_at_call 187;rw [Abc];refine (HL.out _).mono ?_;rintro r w2 ⟨rfl,aa⟩) | ((with_reducible show Js 151);refine Ac rfl 151 _ _ rfl (HR.out.ext (j.trans aa)) rfl (cs:=Bt.cells ⟨hi-lo+1,a.v / 2^lo.toNat%2^(hi-lo+1).toNat⟩) (rfl) Ae (rfl) rfl (rfl) ?_;intro w4 ae af))
 refine Am rfl rfl rfl ae.has Ae rfl rfl ⟨rfl,(HX.trans (j.trans aa)).grown af (by omega)⟩
def unW (op w:Int):Int:=if op<=2 then w else 1
theorem Ada (op:Int) (h1:1<=op) (h6:op<=6) (a:Bt) (ha:a.ok) (hw:op=6->a.w=1) (w:World) :
  Calls Tryz.prog 166 #[.int .i64 op,.agg a.cells.toArray] w (Gk w ⟨unW op a.w,unM op a.w.toNat a.v⟩):=by
 have HX:=Jh ((Ab w (.cells a.cells.toArray 151)).trans (Ab _ (.cells #[.int .i64 0,.int .u64 0] 151)))
 have hD:=(Blk.new w a.cells.toArray 151).ext (Ab _ (.cells #[.int .i64 0,.int .u64 0] 151))
 have hR:=Blk.new (w.alloc (.cells a.cells.toArray 151)) #[.int .i64 0,.int .u64 0] 151
 rw [show (w.alloc (.cells a.cells.toArray 151)).heap.size=w.heap.size+1 by simp] at hR
 have hm:=fun W=>Mm a ha W
 have HM:=Jh hm
 have ae:=Bt.lt64 ha
 have a1:=ha.1
 have a2:=ha.2.1
 have a3:=ha.2.2
 have af:=fun (wd:Int) (n:Nat) (hn:n<2^64) (h0:0<=wd) (h1:wd<=64) (w:World)=>Hb wd n hn h0 h1 w
 clear hm
 obtain ⟨wd,v⟩:=a
 simp only at a1 a2 a3 hw ae
 have HA:=Jh a3
 have HW:=Jh hw
 clear a3 hw
 have ag:=hD.has
 have HD:=Jh hD
 have HR:=Jh hR
 clear hD hR
 have am:op=1\/op=2\/op=3\/op=4\/op=5\/op=6:=by omega
 have HK:=Jh (show wd.toNat<=64 by omega)
 clear h1 h6
 go_enter Tryz.func166,Tryz.ntmps166
 go_upto_region 1 with fail
 generalize (w.alloc _).alloc _=w0 at *
 rcases am with rfl | rfl | rfl | rfl | rfl | rfl
 ·obtain ⟨n,ab⟩:∃ n,n=18446744073709551615-v:=⟨_,rfl⟩
  have hn:n<2^64:=by omega
  have E:=Jh (show bits .xor .u64 IntKind.u64.max (v:Int)=(n:Int) by rw [Abb ae,ab])
  have H0:=Jh ab
  clear ab
  go_wp2_with (first | ((with_reducible show Jl 151);refine Aa rfl 151 _ rfl rfl (ag) Ae rfl ?_) | (go_at_call 188;refine (HM.out _).mono ?_;rintro r w1 ⟨rfl,j⟩;have g0:=(HD.out.ext j).has 0 _ rfl;have g1:=(HD.out.ext j).has 1 _ rfl) | (go_at_call 187;rw [E.out];refine (af _ n hn (by omega) (by omega) _).mono ?_;rintro r w3 ⟨rfl,u⟩) | ((with_reducible show Js 151);refine Ac rfl 151 _ _ rfl (HR.out.ext (j.trans u)) rfl (cs:=Bt.cells ⟨wd,n%2^(wd:Int).toNat⟩) (rfl) Ae (rfl) rfl (rfl) ?_;intro w4 ac aa))
  refine Am rfl rfl rfl ac.has Ae rfl rfl ⟨?_,(HX.out.trans (j.trans u)).grown aa (by omega)⟩
  rw [H0.out,Aho HK.out HA.out]
  simp [unW,unM]
 ·obtain ⟨n,ab⟩:∃ n,n=(18446744073709551616-v)%18446744073709551616:=⟨_,rfl⟩
  have hn:n<2^64:=by omega
  have E:=Jh (show IntKind.u64.wrap (bits .xor .u64 IntKind.u64.max (v:Int)+1)=(n:Int) by rw [Abb ae,ab,IntKind.wrap_u64];omega)
  have H0:=Jh ab
  clear ab
  go_wp2_with (first | ((with_reducible show Jl 151);refine Aa rfl 151 _ rfl rfl (ag) Ae rfl ?_) | (go_at_call 188;refine (HM.out _).mono ?_;rintro r w1 ⟨rfl,j⟩;have g0:=(HD.out.ext j).has 0 _ rfl;have g1:=(HD.out.ext j).has 1 _ rfl) | (go_at_call 187;rw [E.out];refine (af _ n hn (by omega) (by omega) _).mono ?_;rintro r w3 ⟨rfl,u⟩) | ((with_reducible show Js 151);refine Ac rfl 151 _ _ rfl (HR.out.ext (j.trans u)) rfl (cs:=Bt.cells ⟨wd,n%2^(wd:Int).toNat⟩) (rfl) Ae (rfl) rfl (rfl) ?_;intro w4 ac aa))
  refine Am rfl rfl rfl ac.has Ae rfl rfl ⟨?_,(HX.out.trans (j.trans u)).grown aa (by omega)⟩
  rw [H0.out,Afq HK.out HA.out]
  simp [unW,unM]
 ·obtain ⟨p,hp⟩:∃ p,pop 64 v=p:=⟨_,rfl⟩
  have HC:=Jh (show ∀ W,Calls Tryz.prog 190 #[.int .u64 (v:Int)] W (fun r w'=>r=.returned (.int .i64 (p:Nat))/\w'=W) from fun W=>by have:=He v ae W;rwa [hp] at this)
  have HP:=Jh hp
  obtain ⟨c,hc⟩:∃ c,((p:Int)==wd)=c:=⟨_,rfl⟩
  have aj:=Jh hc
  clear hp hc
  go_wp2_with (first | ((with_reducible show Jl 151);refine Aa rfl 151 _ rfl rfl (ag) Ae rfl ?_) | (go_at_call 188;refine (HM.out _).mono ?_;rintro r w1 ⟨rfl,j⟩;refine Hid.out ?_))
  refine Jh ?_
  go_upto_region 8 with fail
  refine wp_region_held_drew (S:=fun W=>Ext w W/\Blk W w.heap.size (Bt.cells ⟨wd,v⟩).toArray 151) (by kernel_rfl) ⟨(HX.out.trans j).drew,(HD.out.ext j).drew⟩ (fun hH=>?_)
  try simp only [J]
  (refine Ji 0 _ rfl hH ?_;try simp only [J])
  (refine Ji 1 _ rfl hH ?_;try simp only [J])
  (refine Jt 2 (.int .u64 (v:Int)) rfl (yif_load1 rfl (by intro W hW;have y:=hW.2.has 1 _ rfl;clear hW;go_simp)) hH ?_;try simp only [J])
  (refine Ji 4 _ rfl hH ?_;try simp only [J])
  (refine Jt 5 (.int .i64 wd) rfl (yif_load1 rfl (by intro W hW;have y:=hW.2.has 0 _ rfl;clear hW;go_simp)) hH ?_;try simp only [J])
  (refine Jr 3 rfl fun K hK=>?_)
  go_simp
  refine (HC.out _).mono ?_
  rintro r w2 ⟨rfl,rfl⟩
  refine hK.out _ _ hH (fun hH=>?_)
  clear hK K
  try simp only [J]
  (refine Jt 6 (.bool c) rfl (yif_load1 rfl (by intro W hW;clear hW;go_simp;exact aj.out)) hH ?_;try simp only [J])
  (refine Jr 7 rfl fun K hK=>?_)
  go_simp
  refine (Ka _ _).mono ?_
  rintro r w2 ⟨rfl,rfl⟩
  refine hK.out _ _ hH (fun hH=>?_)
  clear hK K
  try simp only [J]
  (refine Jr 8 rfl fun K hK=>?_)
  go_simp
  obtain ⟨n,ab,hn⟩:∃ n:Nat,(if c=true then (1:Int) else 0)=(n:Int)/\n<=1:=by
   cases c
   ·exact ⟨0,rfl,by omega⟩
   ·exact ⟨1,rfl,by omega⟩
  rw [ab]
  refine (af 1 n (by omega) (by omega) (by omega) _).mono ?_
  rintro r w3 ⟨rfl,u⟩
  refine hK.out _ _ ⟨hH.1.trans u,hH.2.ext u⟩ (fun hH=>?_)
  clear hK K
  try simp only [J]
  (refine Jk 9 (.agg (Bt.cells ⟨1,n%2^(1:Int).toNat⟩).toArray) rfl hH ?_;try simp only [J])
  (refine Jk 10 (.int .i64 0) rfl hH ?_;try simp only [J])
  (refine Jr 11 rfl fun K hK=>?_)
  refine Az rfl 151 _ _ rfl ((HR.out.ext j).drew.ext u) rfl (cs:=Bt.cells ⟨1,n%2^(1:Int).toNat⟩) rfl Ae rfl rfl rfl ?_
  intro w4 ac aa
  refine hK.out _ _ ⟨hH.1.grown aa (by omega),hH.2.grown aa (by omega)⟩ (fun hH=>?_)
  clear hK K
  try simp only [J]
  (refine Jk 12 (.int .i64 0) rfl hH ?_;try simp only [J])
  refine Jz ?_
  go_wp2_with ((with_reducible show bodyPost _ _ _ _ _ _);refine Hid.out ?_)
  refine Jh ?_
  refine Am rfl rfl rfl ac.has Ae rfl rfl ⟨?_,hH.1⟩
  have ao:p=wd.toNat↔v=2^wd.toNat-1:=by
   rw [<-HP.out,show (64:Nat)=wd.toNat+(64-wd.toNat) by omega,Acg _ _ _ HA.out]
   exact Ae7 _ _ HA.out
  have ak:c=decide (v=2^wd.toNat-1):=by
   rw [<-aj.out,Bool.eq_iff_iff,decide_eq_true_iff,<-ao,beq_iff_eq]
   omega
  have al:n=b2n c:=by cases c<;>simp at ab<;>simp [b2n]<;>omega
  rw [al,show b2n c%2^(1:Int).toNat=b2n c from Nat.mod_eq_of_lt (Ko c),ak]
  simp [unW,unM]
 ·obtain ⟨p,hp⟩:∃ p,pop 64 v=p:=⟨_,rfl⟩
  have HC:=Jh (show ∀ W,Calls Tryz.prog 190 #[.int .u64 (v:Int)] W (fun r w'=>r=.returned (.int .i64 (p:Nat))/\w'=W) from fun W=>by have:=He v ae W;rwa [hp] at this)
  have HP:=Jh (show p=0↔v=0 by rw [<-hp];exact Ae8 64 v ae)
  clear hp
  by_cases ai:p=0
  ·obtain rfl:=ai
   have HV:=Jh (HP.out.1 rfl)
   go_wp2_with (first | ((with_reducible show Jl 151);refine Aa rfl 151 _ rfl rfl (ag) Ae rfl ?_) | (go_at_call 188;refine (HM.out _).mono ?_;rintro r w1 ⟨rfl,j⟩;have g0:=(HD.out.ext j).has 0 _ rfl;have g1:=(HD.out.ext j).has 1 _ rfl) | (go_at_call 190;refine (HC.out _).mono ?_;rintro r w2 ⟨rfl,rfl⟩) | (go_at_call 189;refine (Ka _ _).mono ?_;rintro r w2 ⟨rfl,rfl⟩) | (go_at_call 187;refine (af 1 0 (by decide) (by omega) (by omega) _).mono ?_;rintro r w3 ⟨rfl,u⟩) | ((with_reducible show Js 151);refine Ac rfl 151 _ _ rfl (HR.out.ext (j.trans u)) rfl (cs:=Bt.cells ⟨1,0%2^(1:Int).toNat⟩) (rfl) Ae (rfl) rfl (rfl) ?_;intro w4 ac aa))
   refine Am rfl rfl rfl ac.has Ae rfl rfl ⟨?_,(HX.out.trans (j.trans u)).grown aa (by omega)⟩
   rw [HV.out]
   simp [unW,unM,b2n]
  ·have HV:=Jh (fun h=>ai (HP.out.2 h))
   have ar:(0:Int)<(p:Int):=by omega
   clear ai
   go_wp2_with (first | ((with_reducible show Jl 151);refine Aa rfl 151 _ rfl rfl (ag) Ae rfl ?_) | (go_at_call 188;refine (HM.out _).mono ?_;rintro r w1 ⟨rfl,j⟩;have g0:=(HD.out.ext j).has 0 _ rfl;have g1:=(HD.out.ext j).has 1 _ rfl) | (go_at_call 190;refine (HC.out _).mono ?_;rintro r w2 ⟨rfl,rfl⟩) | (go_at_call 189;refine (Ka _ _).mono ?_;rintro r w2 ⟨rfl,rfl⟩) | (go_at_call 187;refine (af 1 1 (by decide) (by omega) (by omega) _).mono ?_;rintro r w3 ⟨rfl,u⟩) | ((with_reducible show Js 151);refine Ac rfl 151 _ _ rfl (HR.out.ext (j.trans u)) rfl (cs:=Bt.cells ⟨1,1%2^(1:Int).toNat⟩) (rfl) Ae (rfl) rfl (rfl) ?_;intro w4 ac aa))
   refine Am rfl rfl rfl ac.has Ae rfl rfl ⟨?_,(HX.out.trans (j.trans u)).grown aa (by omega)⟩
   simp [unW,unM,b2n]
   rw [if_neg HV.out];rfl
 ·obtain ⟨p,hp⟩:∃ p,pop 64 v=p:=⟨_,rfl⟩
  have HC:=Jh (show ∀ W,Calls Tryz.prog 190 #[.int .u64 (v:Int)] W (fun r w'=>r=.returned (.int .i64 (p:Nat))/\w'=W) from fun W=>by have:=He v ae W;rwa [hp] at this)
  have HP:=Jh hp
  have aq:p<=64:=by rw [<-hp];exact Iv _ _
  clear hp
  have an:p<2^64:=by omega
  have au:(p:Int)<=64:=by omega
  go_wp2_with (first | ((with_reducible show Jl 151);refine Aa rfl 151 _ rfl rfl (ag) Ae rfl ?_) | (go_at_call 188;refine (HM.out _).mono ?_;rintro r w1 ⟨rfl,j⟩;have g0:=(HD.out.ext j).has 0 _ rfl;have g1:=(HD.out.ext j).has 1 _ rfl) | (go_at_call 190;refine (HC.out _).mono ?_;rintro r w2 ⟨rfl,rfl⟩) | (go_at_call 189;refine (Ka _ _).mono ?_;rintro r w2 ⟨rfl,rfl⟩) | (go_at_call 187;refine (af 1 p an (by omega) (by omega) _).mono ?_;rintro r w3 ⟨rfl,u⟩) | ((with_reducible show Js 151);refine Ac rfl 151 _ _ rfl (HR.out.ext (j.trans u)) rfl (cs:=Bt.cells ⟨1,p%2^(1:Int).toNat⟩) (rfl) Ae (rfl) rfl (rfl) ?_;intro w4 ac aa))
  refine Am rfl rfl rfl ac.has Ae rfl rfl ⟨?_,(HX.out.trans (j.trans u)).grown aa (by omega)⟩
  rw [<-HP.out]
  simp [unW,unM,Yy]
 ·obtain rfl:=HW.out rfl
  obtain ⟨n,ab⟩:∃ n,n=18446744073709551615-v:=⟨_,rfl⟩
  have hn:n<2^64:=by omega
  have E:=Jh (show bits .xor .u64 IntKind.u64.max (v:Int)=(n:Int) by rw [Abb ae,ab])
  have H0:=Jh ab
  clear ab
  go_wp2_with (first | ((with_reducible show Jl 151);refine Aa rfl 151 _ rfl rfl (ag) Ae rfl ?_) | (go_at_call 188;refine (HM.out _).mono ?_;rintro r w1 ⟨rfl,j⟩;have g0:=(HD.out.ext j).has 0 _ rfl;have g1:=(HD.out.ext j).has 1 _ rfl) | (go_at_call 187;rw [E.out];refine (af 1 n hn (by omega) (by omega) _).mono ?_;rintro r w3 ⟨rfl,u⟩) | ((with_reducible show Js 151);refine Ac rfl 151 _ _ rfl (HR.out.ext (j.trans u)) rfl (cs:=Bt.cells ⟨1,n%2^(1:Int).toNat⟩) (rfl) Ae (rfl) rfl (rfl) ?_;intro w4 ac aa))
  refine Am rfl rfl rfl ac.has Ae rfl rfl ⟨?_,(HX.out.trans (j.trans u)).grown aa (by omega)⟩
  have ap:=HA.out
  have:v=0\/v=1:=by simp at ap;omega
  rw [H0.out]
  rcases this with rfl | rfl<;>simp [unW,unM,b2n]
end Go.Proofs.YtbliplladmamoaaGreat
