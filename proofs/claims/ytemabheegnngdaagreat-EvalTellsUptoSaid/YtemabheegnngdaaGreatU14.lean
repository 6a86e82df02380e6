/- Laws and walks that a claim of this seat leans on: Bitv2, Bitv3, BsN, Bitv5. -/
import Derived.Test.YtemabheegnngdaaGreatU13
import Derived.Test.YtemabheegnngdaaGreatU03
import Derived.Test.YtemabheegnngdaaGreatU06
import Derived.Test.YtemabheegnngdaaGreatU00
set_option linter.all false
namespace Go.Proofs.YtemabheegnngdaaGreat
open Go.RowKit
abbrev BtAt (w:World) (x:Bt) (b o:Nat):Prop:=Has w b o x.cells
abbrev Bts (w:World) (s:Value) (l:List Bt):Prop:=Sl 2 (BtAt w) s l
theorem Bts.ext {w w':World} {s:Value} {l:List Bt} (h:Bts w s l) (hx:Ext w w'):Bts w' s l:=h.mono fun _ _ _ _ h=>Has.ext h hx
theorem Bts.get {w:World} {l:List Bt} {b o k:Nat} (h:Rows 2 (BtAt w) l b o) (hk:k < l.length):Has w b (o + k * 2) l[k].cells:=h.get (List.getElem?_eq_getElem hk)
theorem leads_may:Leads Tryz.prog 144:=leads_of Tryz.func144 (by kernel_rfl) rfl
set_option maxHeartbeats 400000 in
theorem all_calls (l:List Bt) (hok:∀ x ∈ l,x.ok) (s:Value) (w:World) (h:Bts w s l) :
  Calls Tryz.prog 147 #[.func (.func 144) #[] #[],s] w fun r w'=>r=.returned (.bool true)∧Ext w w':=by
 have HOK:=Lib.hid hok
 clear hok
 obtain ⟨a,b,o,cap,hs,hc1,hc2,ha,hr⟩:=h.open
 subst hs
 go_enter Tryz.func147,Tryz.ntmps147
 go_wp2_with fail
 go_loopw [6,9] (fun _ i wr=>∃ k:Nat,k ≤ l.length∧i=.int .i64 k∧Ext w wr) (fun _ i _=>l.length - (intOf i).toNat)
 case atStart=>exact ⟨0,Nat.zero_le _,rfl,Below.refl _ _⟩
 case round =>
  obtain ⟨k,hk,rfl,hB⟩:=hrel
  by_cases hlt:k < l.length
  ·obtain rfl:=ha (by omega)
   have he:=(Bts.get hr hlt).ext hB
   have HC:=fun W=>may_calls l[k] (HOK.out _ (List.getElem_mem hlt)) W
   generalize l[k]=x at *
   go_wp2_with (first | ((with_reducible show wpList _ _ _ (⟨_,Op.load 60 _,_,_,_,_⟩ :: _) _ _);refine wpList_load_has rfl 60 _ rfl rfl (he) agg_Bits rfl ?_) | ((with_reducible show wpList _ _ _ (⟨_,Op.store 60 _ _,_,_,_,_⟩ :: _) _ _);refine wpList_store_new rfl 60 _ _ rfl rfl (by first | rfl | simp) rfl agg_Bits (rfl) rfl (rfl) ?_) | ((with_reducible show wpList _ _ _ (⟨_,Op.call { callee:=.value (.tmp _),args:=_,argTypes:=_ },_,_,_,_⟩ :: _) _ _);refine wpList_call_fv rfl _ _ _ rfl rfl leads_may rfl (HC _) ?_;intro w1 hx1))
   go_roundw
   case rel=>exact ⟨k + 1,by omega,by go_num,(hB.alloc _).trans hx1⟩
   case measure=>simp [intOf];omega
  ·go_wp2_with fail
   go_ret
   exact ⟨rfl,hB⟩
set_option maxHeartbeats 400000 in
theorem withinB_calls (a:Bt) (ha:a.ok) (hi lo:Int) (h1:0 ≤ lo) (h2:lo ≤ hi) (h3:hi < a.w) (w:World) :
  Calls Tryz.prog 142 #[.agg a.cells.toArray,.int .i64 hi,.int .i64 lo] w fun r w'=>r=.returned (.bool true)∧Ext w w':=by
 have HX:=ext_alloc w (.cells a.cells.toArray 60)
 have hb:=Blk.new w a.cells.toArray 60
 have hm:=fun W=>may_calls a ha W
 have HM:=Lib.hid hm
 clear hm
 have b1:decide (0 ≤ lo)=true:=by simpa using h1
 have b2:decide (lo ≤ hi)=true:=by simpa using h2
 have b3:decide (hi < a.w)=true:=by simpa using h3
 go_enter Tryz.func142,Tryz.ntmps142
 go_upto_region 1 with fail
 generalize w.alloc _=w0 at *
 go_wp2_with (first | ((with_reducible show wpList _ _ _ (⟨_,Op.load 60 _,_,_,_,_⟩ :: _) _ _);refine wpList_load_has rfl 60 _ rfl rfl (hb.has) agg_Bits rfl ?_) | (go_at_call 144;refine (HM.out _).mono ?_;rintro r w1 ⟨rfl,hx1⟩;have g0:=(hb.ext hx1).has 0 _ rfl))
 go_ret
 exact ⟨rfl,HX.trans hx1⟩
theorem n_and {a b:Nat} (ha:a < 2 ^ 64) (hb:b < 2 ^ 64):bits .and .u64 (a:Int) (b:Int)=((a &&& b:Nat):Int) :=
 (bits_nat .u64 64 (by decide) (fun n h0 h1=>by rw [IntKind.wrap_u64];omega) a b ha hb).1
theorem n_wrap {n:Nat} (h:n < 2 ^ 64):IntKind.u64.wrap (n:Int)=n:=by rw [IntKind.wrap_u64];omega
theorem pops (v:Nat) (hv:v < 2 ^ 64) :
  IntKind.u64.wrap (bits .and .u64 ((v:Int) / 2) 6148914691236517205 + bits .and .u64 (v:Int) 6148914691236517205)=(p1 8 v:Nat) ∧
  IntKind.u64.wrap (bits .and .u64 (((p1 8 v:Nat):Int) / 4) 3689348814741910323 + bits .and .u64 ((p1 8 v:Nat):Int) 3689348814741910323)=(p2 8 v:Nat) ∧
  bits .and .u64 (IntKind.u64.wrap (((p2 8 v:Nat):Int) / 16 + ((p2 8 v:Nat):Int))) 1085102592571150095=(p3 8 v:Nat):=by
 obtain ⟨m1,m2,m3⟩:=masks
 have l1:p1 8 v ≤ 12297829382473034410:=by
  unfold p1;rw [m1]
  have:=Nat.and_le_right (n:=v / 2) (m:=6148914691236517205)
  have:=Nat.and_le_right (n:=v) (m:=6148914691236517205)
  omega
 have l2:p2 8 v ≤ 7378697629483820646:=by
  unfold p2;rw [m2]
  have:=Nat.and_le_right (n:=p1 8 v / 4) (m:=3689348814741910323)
  have:=Nat.and_le_right (n:=p1 8 v) (m:=3689348814741910323)
  omega
 refine ⟨?_,?_,?_⟩
 ·rw [show ((v:Int) / 2)=((v / 2:Nat):Int) by omega,show (6148914691236517205:Int)=((6148914691236517205:Nat):Int) from rfl,n_and (by omega) (by omega),n_and hv (by omega)]
  rw [show p1 8 v=(v / 2 &&& 6148914691236517205) + (v &&& 6148914691236517205) by unfold p1;rw [m1]] at l1 ⊢
  rw [← Int.natCast_add,n_wrap (by omega)]
 ·have hq:p2 8 v=(p1 8 v / 4 &&& 3689348814741910323) + (p1 8 v &&& 3689348814741910323):=by unfold p2;rw [m2]
  generalize p1 8 v=q at *
  rw [show ((q:Int) / 4)=((q / 4:Nat):Int) by omega,show (3689348814741910323:Int)=((3689348814741910323:Nat):Int) from rfl,n_and (by omega) (by omega),n_and (by omega) (by omega)]
  rw [show p2 8 v=(q / 4 &&& 3689348814741910323) + (q &&& 3689348814741910323) from hq] at l2 ⊢
  rw [← Int.natCast_add,n_wrap (by omega)]
 ·rw [show p3 8 v=(p2 8 v / 16 + p2 8 v) &&& 1085102592571150095 by unfold p3;rw [m3]]
  generalize p2 8 v=q at *
  rw [show ((q:Int) / 16 + (q:Int))=((q / 16 + q:Nat):Int) by omega,n_wrap (by omega),show (1085102592571150095:Int)=((1085102592571150095:Nat):Int) from rfl,n_and (by omega) (by omega)]
set_option maxHeartbeats 400000 in
theorem OnesCount_calls (v:Nat) (hv:v < 2 ^ 64) (w:World):Calls Tryz.prog 146 #[.int .u64 (v:Int)] w fun r w'=>r=.returned (.int .i64 (pop 64 v:Nat))∧w'=w:=by
 obtain ⟨e1,e2,e3⟩:=pops v hv
 obtain ⟨c1,c2,c3,c4⟩:=cnt_pop v hv
 unfold cnt at c1 c2
 simp only at c1 c2
 have E1:=Lib.hid e1
 have E2:=Lib.hid e2
 have E3:=Lib.hid e3
 clear e1 e2 e3
 go_enter Tryz.func146,Tryz.ntmps146
 go_upto_region 2 with fail
 rw [E1.out]
 go_upto_region 3 with fail
 rw [E2.out]
 go_upto_region 4 with fail
 rw [E3.out]
 generalize p3 8 v=s at *
 go_upto_region 5 with fail
 rw [show ((s:Int) + (s:Int) / 256)=((s + s / 256:Nat):Int) by omega]
 try rw [n_wrap c3]
 generalize s + s / 256=t at *
 go_upto_region 6 with fail
 rw [show ((t:Int) + (t:Int) / 65536)=((t + t / 65536:Nat):Int) by omega]
 try rw [n_wrap c4]
 generalize t + t / 65536=u at *
 have c5:u + u / 4294967296 < 2 ^ 64:=by omega
 go_upto_region 7 with fail
 rw [show ((u:Int) + (u:Int) / 4294967296)=((u + u / 4294967296:Nat):Int) by omega]
 try rw [n_wrap c5]
 generalize u + u / 4294967296=c at *
 go_wp2_with fail
 go_ret
 have hm:bits .and .i64 (c:Int) 127=(c:Int) % 2 ^ 7 :=
  bits_mask .i64 63 (by decide) (fun n h0 h1=>by rw [IntKind.wrap_i64];omega) 7 (by decide) c (by omega) (by omega)
 exact ⟨congrArg (fun n=>Ending.returned (.int .i64 n)) (by rw [hm,← c1];omega),rfl⟩
open Go.RowKit
def BtPost (w:World) (b:Bt) (r:Ending) (w':World):Prop:=r=.returned (.tuple #[.agg b.cells.toArray,.int .i64 0])∧Ext w w'
theorem made_callsN (wd:Int) (n:Nat) (hn:n < 2 ^ 64) (h0:0 ≤ wd) (h1:wd ≤ 64) (w:World) :
  Calls Tryz.prog 143 #[.bool true,.int .i64 wd,.int .u64 (n:Int)] w (BtPost w ⟨wd,n % 2 ^ wd.toNat⟩):=by
 obtain ⟨x,rfl⟩:=u_nat hn
 refine (made_calls wd x w).mono ?_
 rintro r w' ⟨rfl,hx⟩
 refine ⟨?_,hx⟩
 rw [← and_maskB x wd h0 h1]
theorem step_store_blk' {P:Program} {ops:Array Oper} {o:Oper} {a:Act} {w:World} {Q:Exit→Act→World→Prop} {K:Act→World→Prop} {E:Prop} (hw:Region.wanted o (yielded ops a.tmps)=true)
  (ty:TypeId) (x y:Operand) (ho:o.op=.store ty x y) {c:Array Value} {B:Nat} (hb:Blk w B c ty) (hx:a.eval x=.pointer (some ⟨B,0,none⟩)) {cs:List Value} (hy:a.eval y=.agg cs.toArray) {n:Nat}
  (hu:Agg P ty n) (hn:cs.length=n) (hc:c.size=n) (h1:cs.all (·.oneCell')=true)
  (h:∀ w',Blk w' B cs.toArray ty→w.grownBy w' (some B)→K (a.put o.dst undef) w'):if Region.wanted o (yielded ops a.tmps)=true then Oper.wp P o a w K Q else E:=by
 rw [if_pos hw]
 unfold Oper.wp execOp
 simp only [ho,hx,hy]
 have:=run_storeVar_row (P:=P) w B ty ty c cs.toArray hb (by rw [hu.2];simp [hn]) (by simp [hn,hc]) (by simpa using h1)
 simp only [Instr.storeAt,Instr.sureAddr,Sem.run_bind,Sem.run_pure,Result.andThen_ok,this]
 exact h _ (setRow_blk hb) (gb_setRow w B _)
theorem Bt.lt64 {a:Bt} (h:a.ok):a.v < 2 ^ 64:=by
 obtain ⟨h1,h2,h3⟩:=h
 exact Nat.lt_of_lt_of_le h3 (Nat.pow_le_pow_right (by decide) (by omega))
theorem n_shr (n k:Nat):(n:Int) / 2 ^ k=((n / 2 ^ k:Nat):Int):=by norm_cast
/-! ### Nat's side of Un -/
theorem pop_full (k v:Nat) (hv:v < 2 ^ k):pop k v=k ↔ v=2 ^ k - 1:=by
 induction k generalizing v with
 | zero=>simp [pop];omega
 | succ k ih =>
  have h0:=Nat.two_pow_pos k
  rw [Nat.pow_succ] at hv ⊢
  have:=ih (v / 2) (by omega)
  have hle:=pop_le k (v / 2)
  rw [pop]
  constructor
  ·intro h
   have h2:=this.1 (by omega)
   omega
  ·intro h
   have h2:=this.2 (by omega)
   omega
theorem pop_zero (k v:Nat) (hv:v < 2 ^ k):pop k v=0 ↔ v=0:=by
 induction k generalizing v with
 | zero=>simp [pop];omega
 | succ k ih =>
  rw [Nat.pow_succ] at hv
  have:=ih (v / 2) (by omega)
  rw [pop]
  constructor
  ·intro h
   have h2:=this.1 (by omega)
   omega
  ·intro h
   subst h
   have h2:=this.2 rfl
   simp at h2 ⊢
   exact h2
theorem pop_z (k:Nat):pop k 0=0:=by
 induction k with
 | zero=>rfl
 | succ k ih=>rw [pop,Nat.zero_div,ih]
theorem pop_small (j k v:Nat) (hv:v < 2 ^ j):pop (j + k) v=pop j v:=by
 rw [pop_add,Nat.div_eq_of_lt hv,pop_z,Nat.add_zero]
theorem pow64 {w:Nat} (hw:w ≤ 64):2 ^ w * 2 ^ (64 - w)=18446744073709551616:=by
 rw [← Nat.pow_add,show w + (64 - w)=64 by omega]
theorem un_not {w v:Nat} (hw:w ≤ 64) (hv:v < 2 ^ w):(18446744073709551615 - v) % 2 ^ w=2 ^ w - 1 - v:=by
 have e:=pow64 hw
 have hk:=Nat.two_pow_pos (64 - w)
 generalize 2 ^ w=M at *
 generalize 2 ^ (64 - w)=K at *
 have h2:18446744073709551615 - v=M * (K - 1) + (M - 1 - v):=by
  have:M * (K - 1)=M * K - M:=by rw [Nat.mul_sub,Nat.mul_one]
  have:M ≤ M * K:=Nat.le_mul_of_pos_right _ hk
  omega
 rw [h2,Nat.mul_add_mod,Nat.mod_eq_of_lt (by omega)]
theorem un_neg {w v:Nat} (hw:w ≤ 64) (hv:v < 2 ^ w):(18446744073709551616 - v) % 18446744073709551616 % 2 ^ w=(2 ^ w - v) % 2 ^ w:=by
 have e:=pow64 hw
 have hk:=Nat.two_pow_pos (64 - w)
 rw [Nat.mod_mod_of_dvd _ ⟨_,e.symm⟩]
 generalize 2 ^ w=M at *
 generalize 2 ^ (64 - w)=K at *
 have h2:18446744073709551616 - v=M * (K - 1) + (M - v):=by
  have:M * (K - 1)=M * K - M:=by rw [Nat.mul_sub,Nat.mul_one]
  have:M ≤ M * K:=Nat.le_mul_of_pos_right _ hk
  omega
 rw [h2,Nat.mul_add_mod]
set_option maxHeartbeats 400000 in
theorem Slice_calls (a:Bt) (ha:a.ok) (hi lo:Int) (h1:0 ≤ lo) (h2:lo ≤ hi) (h3:hi < a.w) (w:World) :
  Calls Tryz.prog 86 #[.agg a.cells.toArray,.int .i64 hi,.int .i64 lo] w (BtPost w ⟨hi - lo + 1,a.v / 2 ^ lo.toNat % 2 ^ (hi - lo + 1).toNat⟩):=by
 have HX:=(ext_alloc w (.cells a.cells.toArray 60)).trans (ext_alloc _ (.cells #[.int .i64 0,.int .u64 0] 60))
 have hD:=(Blk.new w a.cells.toArray 60).ext (ext_alloc _ (.cells #[.int .i64 0,.int .u64 0] 60))
 have hR:=Blk.new (w.alloc (.cells a.cells.toArray 60)) #[.int .i64 0,.int .u64 0] 60
 rw [show (w.alloc (.cells a.cells.toArray 60)).heap.size=w.heap.size + 1 by simp] at hR
 have hm:=fun W=>withinB_calls a ha hi lo h1 h2 h3 W
 have HM:=Lib.hid hm
 have h64:=Bt.lt64 ha
 have hl64:a.v / 2 ^ lo.toNat < 2 ^ 64:=Nat.lt_of_le_of_lt (Nat.div_le_self _ _) h64
 have HL:=Lib.hid (made_callsN (hi - lo + 1) (a.v / 2 ^ lo.toNat) hl64 (by omega) (by have:=ha.2.1;omega))
 have b4:(hi:Int) ≤ 64:=by have:=ha.2.1;omega
 clear hm
 go_enter Tryz.func86,Tryz.ntmps86
 go_upto_region 1 with fail
 generalize (w.alloc _).alloc _=w0 at *
 have hD1:=hD.has
 have HD:=Lib.hid hD
 have HR:=Lib.hid hR
 clear hD hR
 go_wp2_with (first | ((with_reducible show wpList _ _ _ (⟨_,Op.load 60 _,_,_,_,_⟩ :: _) _ _);refine wpList_load_has rfl 60 _ rfl rfl (hD1) agg_Bits rfl ?_) | (go_at_call 142;refine (HM.out _).mono ?_;rintro r w1 ⟨rfl,hx1⟩;have g1:=(HD.out.ext hx1).has 1 _ rfl) | (go_at_call 143;rw [n_shr];refine (HL.out _).mono ?_;rintro r w2 ⟨rfl,hx2⟩) | ((with_reducible show wpList _ _ _ (⟨_,Op.store 60 _ _,_,_,_,_⟩ :: _) _ _);refine wpList_store_blk rfl 60 _ _ rfl (HR.out.ext (hx1.trans hx2)) rfl (cs:=Bt.cells ⟨hi - lo + 1,a.v / 2 ^ lo.toNat % 2 ^ (hi - lo + 1).toNat⟩) (rfl) agg_Bits (rfl) rfl (rfl) ?_;intro w4 hb4 hg4))
 refine post_ret_blk2' rfl rfl rfl hb4.has agg_Bits rfl rfl ⟨rfl,(HX.trans (hx1.trans hx2)).grown hg4 (by omega)⟩
def unW (op w:Int):Int:=if op ≤ 2 then w else 1
set_option maxRecDepth 100000 in
set_option maxHeartbeats 1000000 in
theorem Un_calls (op:Int) (h1:1 ≤ op) (h6:op ≤ 6) (a:Bt) (ha:a.ok) (hw:op=6→a.w=1) (w:World) :
  Calls Tryz.prog 87 #[.int .i64 op,.agg a.cells.toArray] w (BtPost w ⟨unW op a.w,unM op a.w.toNat a.v⟩):=by
 have HX:=Lib.hid ((ext_alloc w (.cells a.cells.toArray 60)).trans (ext_alloc _ (.cells #[.int .i64 0,.int .u64 0] 60)))
 have hD:=(Blk.new w a.cells.toArray 60).ext (ext_alloc _ (.cells #[.int .i64 0,.int .u64 0] 60))
 have hR:=Blk.new (w.alloc (.cells a.cells.toArray 60)) #[.int .i64 0,.int .u64 0] 60
 rw [show (w.alloc (.cells a.cells.toArray 60)).heap.size=w.heap.size + 1 by simp] at hR
 have hm:=fun W=>may_calls a ha W
 have HM:=Lib.hid hm
 have h64:=Bt.lt64 ha
 have a1:=ha.1
 have a2:=ha.2.1
 have a3:=ha.2.2
 have HMD:=fun (wd:Int) (n:Nat) (hn:n < 2 ^ 64) (h0:0 ≤ wd) (h1:wd ≤ 64) (w:World)=>made_callsN wd n hn h0 h1 w
 clear hm
 obtain ⟨wd,v⟩:=a
 simp only at a1 a2 a3 hw h64
 have HA:=Lib.hid a3
 have HW:=Lib.hid hw
 clear a3 hw
 have hD1:=hD.has
 have HD:=Lib.hid hD
 have HR:=Lib.hid hR
 clear hD hR
 have hop:op=1 ∨ op=2 ∨ op=3 ∨ op=4 ∨ op=5 ∨ op=6:=by omega
 have HK:=Lib.hid (show wd.toNat ≤ 64 by omega)
 clear h1 h6
 go_enter Tryz.func87,Tryz.ntmps87
 go_upto_region 1 with fail
 generalize (w.alloc _).alloc _=w0 at *
 rcases hop with rfl | rfl | rfl | rfl | rfl | rfl
 ·obtain ⟨n,hn0⟩ : ∃ n,n=18446744073709551615 - v:=⟨_,rfl⟩
  have hn:n < 2 ^ 64:=by omega
  have E:=Lib.hid (show bits .xor .u64 IntKind.u64.max (v:Int)=(n:Int) by rw [n_not h64,hn0])
  have H0:=Lib.hid hn0
  clear hn0
  go_wp2_with (first | ((with_reducible show wpList _ _ _ (⟨_,Op.load 60 _,_,_,_,_⟩ :: _) _ _);refine wpList_load_has rfl 60 _ rfl rfl (hD1) agg_Bits rfl ?_) | (go_at_call 144;refine (HM.out _).mono ?_;rintro r w1 ⟨rfl,hx1⟩;have g0:=(HD.out.ext hx1).has 0 _ rfl;have g1:=(HD.out.ext hx1).has 1 _ rfl) | (go_at_call 143;rw [E.out];refine (HMD _ n hn (by omega) (by omega) _).mono ?_;rintro r w3 ⟨rfl,hx2⟩) | ((with_reducible show wpList _ _ _ (⟨_,Op.store 60 _ _,_,_,_,_⟩ :: _) _ _);refine wpList_store_blk rfl 60 _ _ rfl (HR.out.ext (hx1.trans hx2)) rfl (cs:=Bt.cells ⟨wd,n % 2 ^ (wd:Int).toNat⟩) (rfl) agg_Bits (rfl) rfl (rfl) ?_;intro w4 hb4 hg4))
  refine post_ret_blk2' rfl rfl rfl hb4.has agg_Bits rfl rfl ⟨?_,(HX.out.trans (hx1.trans hx2)).grown hg4 (by omega)⟩
  rw [H0.out,un_not HK.out HA.out]
  simp [unW,unM]
 ·obtain ⟨n,hn0⟩ : ∃ n,n=(18446744073709551616 - v) % 18446744073709551616:=⟨_,rfl⟩
  have hn:n < 2 ^ 64:=by omega
  have E:=Lib.hid (show IntKind.u64.wrap (bits .xor .u64 IntKind.u64.max (v:Int) + 1)=(n:Int) by rw [n_not h64,hn0,IntKind.wrap_u64];omega)
  have H0:=Lib.hid hn0
  clear hn0
  go_wp2_with (first | ((with_reducible show wpList _ _ _ (⟨_,Op.load 60 _,_,_,_,_⟩ :: _) _ _);refine wpList_load_has rfl 60 _ rfl rfl (hD1) agg_Bits rfl ?_) | (go_at_call 144;refine (HM.out _).mono ?_;rintro r w1 ⟨rfl,hx1⟩;have g0:=(HD.out.ext hx1).has 0 _ rfl;have g1:=(HD.out.ext hx1).has 1 _ rfl) | (go_at_call 143;rw [E.out];refine (HMD _ n hn (by omega) (by omega) _).mono ?_;rintro r w3 ⟨rfl,hx2⟩) | ((with_reducible show wpList _ _ _ (⟨_,Op.store 60 _ _,_,_,_,_⟩ :: _) _ _);refine wpList_store_blk rfl 60 _ _ rfl (HR.out.ext (hx1.trans hx2)) rfl (cs:=Bt.cells ⟨wd,n % 2 ^ (wd:Int).toNat⟩) (rfl) agg_Bits (rfl) rfl (rfl) ?_;intro w4 hb4 hg4))
  refine post_ret_blk2' rfl rfl rfl hb4.has agg_Bits rfl rfl ⟨?_,(HX.out.trans (hx1.trans hx2)).grown hg4 (by omega)⟩
  rw [H0.out,un_neg HK.out HA.out]
  simp [unW,unM]
 ·obtain ⟨p,hp⟩ : ∃ p,pop 64 v=p:=⟨_,rfl⟩
  have HC:=Lib.hid (show ∀ W,Calls Tryz.prog 146 #[.int .u64 (v:Int)] W (fun r w'=>r=.returned (.int .i64 (p:Nat))∧w'=W) from fun W=>by have:=OnesCount_calls v h64 W;rwa [hp] at this)
  have HP:=Lib.hid hp
  obtain ⟨c,hc⟩ : ∃ c,((p:Int) == wd)=c:=⟨_,rfl⟩
  have HCC:=Lib.hid hc
  clear hp hc
  go_wp2_with (first | ((with_reducible show wpList _ _ _ (⟨_,Op.load 60 _,_,_,_,_⟩ :: _) _ _);refine wpList_load_has rfl 60 _ rfl rfl (hD1) agg_Bits rfl ?_) | (go_at_call 144;refine (HM.out _).mono ?_;rintro r w1 ⟨rfl,hx1⟩;refine Hid.out ?_))
  refine Lib.hid ?_
  go_upto_region 8 with fail
  refine wp_region_held_drew (S:=fun W=>Ext w W∧Blk W w.heap.size (Bt.cells ⟨wd,v⟩).toArray 60) (by kernel_rfl) ⟨(HX.out.trans hx1).drew,(HD.out.ext hx1).drew⟩ (fun hHeld=>?_)
  try simp only [J]
  (refine Jt 0 (_) rfl (yif_load1 rfl fun _ _=>rfl) hHeld ?_;try simp only [J])
  (refine Jt 1 (_) rfl (yif_load1 rfl fun _ _=>rfl) hHeld ?_;try simp only [J])
  (refine Jt 2 (.int .u64 (v:Int)) rfl (yif_load1 rfl (by intro W hW;have y:=hW.2.has 1 _ rfl;clear hW;go_simp)) hHeld ?_;try simp only [J])
  (refine Jt 4 (_) rfl (yif_load1 rfl fun _ _=>rfl) hHeld ?_;try simp only [J])
  (refine Jt 5 (.int .i64 wd) rfl (yif_load1 rfl (by intro W hW;have y:=hW.2.has 0 _ rfl;clear hW;go_simp)) hHeld ?_;try simp only [J])
  (refine wpAnyH_ready (rs:=[3]) (by kernel_rfl) (by simp) ?_;refine AllReadyH.cons rfl (fun K hK=>?_) AllReadyH.nil)
  go_simp
  refine (HC.out _).mono ?_
  rintro r w2 ⟨rfl,rfl⟩
  refine hK.out _ _ hHeld (fun hHeld=>?_)
  clear hK K
  try simp only [J]
  (refine Jt 6 (.bool c) rfl (yif_load1 rfl (by intro W hW;clear hW;go_simp;exact HCC.out)) hHeld ?_;try simp only [J])
  (refine wpAnyH_ready (rs:=[7]) (by kernel_rfl) (by simp) ?_;refine AllReadyH.cons rfl (fun K hK=>?_) AllReadyH.nil)
  go_simp
  refine (one_calls _ _).mono ?_
  rintro r w2 ⟨rfl,rfl⟩
  refine hK.out _ _ hHeld (fun hHeld=>?_)
  clear hK K
  try simp only [J]
  (refine wpAnyH_ready (rs:=[8]) (by kernel_rfl) (by simp) ?_;refine AllReadyH.cons rfl (fun K hK=>?_) AllReadyH.nil)
  go_simp
  obtain ⟨n,hn0,hn⟩ : ∃ n:Nat,(if c=true then (1:Int) else 0)=(n:Int)∧n ≤ 1:=by
   cases c
   ·exact ⟨0,rfl,by omega⟩
   ·exact ⟨1,rfl,by omega⟩
  rw [hn0]
  refine (HMD 1 n (by omega) (by omega) (by omega) _).mono ?_
  rintro r w3 ⟨rfl,hx2⟩
  refine hK.out _ _ ⟨hHeld.1.trans hx2,hHeld.2.ext hx2⟩ (fun hHeld=>?_)
  clear hK K
  try simp only [J]
  (refine Jt 9 (.agg (Bt.cells ⟨1,n % 2 ^ (1:Int).toNat⟩).toArray) rfl (yif_load1 rfl (by intro W hW;clear hW;go_simp)) hHeld ?_;try simp only [J])
  (refine Jt 10 (.int .i64 0) rfl (yif_load1 rfl (by intro W hW;clear hW;go_simp)) hHeld ?_;try simp only [J])
  (refine wpAnyH_ready (rs:=[11]) (by kernel_rfl) (by simp) ?_;refine AllReadyH.cons rfl (fun K hK=>?_) AllReadyH.nil)
  refine step_store_blk' rfl 60 _ _ rfl ((HR.out.ext hx1).drew.ext hx2) rfl (cs:=Bt.cells ⟨1,n % 2 ^ (1:Int).toNat⟩) rfl agg_Bits rfl rfl rfl ?_
  intro w4 hb4 hg4
  refine hK.out _ _ ⟨hHeld.1.grown hg4 (by omega),hHeld.2.grown hg4 (by omega)⟩ (fun hHeld=>?_)
  clear hK K
  try simp only [J]
  (refine Jt 12 (.int .i64 0) rfl (yif_load1 rfl (by intro W hW;clear hW;go_simp)) hHeld ?_;try simp only [J])
  refine wpAnyH_done (by kernel_rfl) ?_ _
  go_wp2_with ((with_reducible show bodyPost _ _ _ _ _ _);refine Hid.out ?_)
  refine Lib.hid ?_
  refine post_ret_blk2' rfl rfl rfl hb4.has agg_Bits rfl rfl ⟨?_,hHeld.1⟩
  have hpf:p=wd.toNat ↔ v=2 ^ wd.toNat - 1:=by
   rw [← HP.out,show (64:Nat)=wd.toNat + (64 - wd.toNat) by omega,pop_small _ _ _ HA.out]
   exact pop_full _ _ HA.out
  have hcc:c=decide (v=2 ^ wd.toNat - 1):=by
   rw [← HCC.out,Bool.eq_iff_iff,decide_eq_true_iff,← hpf,beq_iff_eq]
   omega
  have hn1:n=b2n c:=by cases c <;> simp at hn0 <;> simp [b2n] <;> omega
  rw [hn1,show b2n c % 2 ^ (1:Int).toNat=b2n c from Nat.mod_eq_of_lt (b2n_lt c),hcc]
  simp [unW,unM]
 ·obtain ⟨p,hp⟩ : ∃ p,pop 64 v=p:=⟨_,rfl⟩
  have HC:=Lib.hid (show ∀ W,Calls Tryz.prog 146 #[.int .u64 (v:Int)] W (fun r w'=>r=.returned (.int .i64 (p:Nat))∧w'=W) from fun W=>by have:=OnesCount_calls v h64 W;rwa [hp] at this)
  have HP:=Lib.hid (show p=0 ↔ v=0 by rw [← hp];exact pop_zero 64 v h64)
  clear hp
  by_cases hp0:p=0
  ·obtain rfl:=hp0
   have HV:=Lib.hid (HP.out.1 rfl)
   go_wp2_with (first | ((with_reducible show wpList _ _ _ (⟨_,Op.load 60 _,_,_,_,_⟩ :: _) _ _);refine wpList_load_has rfl 60 _ rfl rfl (hD1) agg_Bits rfl ?_) | (go_at_call 144;refine (HM.out _).mono ?_;rintro r w1 ⟨rfl,hx1⟩;have g0:=(HD.out.ext hx1).has 0 _ rfl;have g1:=(HD.out.ext hx1).has 1 _ rfl) | (go_at_call 146;refine (HC.out _).mono ?_;rintro r w2 ⟨rfl,rfl⟩) | (go_at_call 145;refine (one_calls _ _).mono ?_;rintro r w2 ⟨rfl,rfl⟩) | (go_at_call 143;refine (HMD 1 0 (by decide) (by omega) (by omega) _).mono ?_;rintro r w3 ⟨rfl,hx2⟩) | ((with_reducible show wpList _ _ _ (⟨_,Op.store 60 _ _,_,_,_,_⟩ :: _) _ _);refine wpList_store_blk rfl 60 _ _ rfl (HR.out.ext (hx1.trans hx2)) rfl (cs:=Bt.cells ⟨1,0 % 2 ^ (1:Int).toNat⟩) (rfl) agg_Bits (rfl) rfl (rfl) ?_;intro w4 hb4 hg4))
   refine post_ret_blk2' rfl rfl rfl hb4.has agg_Bits rfl rfl ⟨?_,(HX.out.trans (hx1.trans hx2)).grown hg4 (by omega)⟩
   rw [HV.out]
   simp [unW,unM,b2n]
  ·have HV:=Lib.hid (fun h=>hp0 (HP.out.2 h))
   have hp1:(0:Int) < (p:Int):=by omega
   clear hp0
   go_wp2_with (first | ((with_reducible show wpList _ _ _ (⟨_,Op.load 60 _,_,_,_,_⟩ :: _) _ _);refine wpList_load_has rfl 60 _ rfl rfl (hD1) agg_Bits rfl ?_) | (go_at_call 144;refine (HM.out _).mono ?_;rintro r w1 ⟨rfl,hx1⟩;have g0:=(HD.out.ext hx1).has 0 _ rfl;have g1:=(HD.out.ext hx1).has 1 _ rfl) | (go_at_call 146;refine (HC.out _).mono ?_;rintro r w2 ⟨rfl,rfl⟩) | (go_at_call 145;refine (one_calls _ _).mono ?_;rintro r w2 ⟨rfl,rfl⟩) | (go_at_call 143;refine (HMD 1 1 (by decide) (by omega) (by omega) _).mono ?_;rintro r w3 ⟨rfl,hx2⟩) | ((with_reducible show wpList _ _ _ (⟨_,Op.store 60 _ _,_,_,_,_⟩ :: _) _ _);refine wpList_store_blk rfl 60 _ _ rfl (HR.out.ext (hx1.trans hx2)) rfl (cs:=Bt.cells ⟨1,1 % 2 ^ (1:Int).toNat⟩) (rfl) agg_Bits (rfl) rfl (rfl) ?_;intro w4 hb4 hg4))
   refine post_ret_blk2' rfl rfl rfl hb4.has agg_Bits rfl rfl ⟨?_,(HX.out.trans (hx1.trans hx2)).grown hg4 (by omega)⟩
   simp [unW,unM,b2n]
   rw [if_neg HV.out];rfl
 ·obtain ⟨p,hp⟩ : ∃ p,pop 64 v=p:=⟨_,rfl⟩
  have HC:=Lib.hid (show ∀ W,Calls Tryz.prog 146 #[.int .u64 (v:Int)] W (fun r w'=>r=.returned (.int .i64 (p:Nat))∧w'=W) from fun W=>by have:=OnesCount_calls v h64 W;rwa [hp] at this)
  have HP:=Lib.hid hp
  have hp64:p ≤ 64:=by rw [← hp];exact pop_le _ _
  clear hp
  have hp2:p < 2 ^ 64:=by omega
  have hp3:(p:Int) ≤ 64:=by omega
  go_wp2_with (first | ((with_reducible show wpList _ _ _ (⟨_,Op.load 60 _,_,_,_,_⟩ :: _) _ _);refine wpList_load_has rfl 60 _ rfl rfl (hD1) agg_Bits rfl ?_) | (go_at_call 144;refine (HM.out _).mono ?_;rintro r w1 ⟨rfl,hx1⟩;have g0:=(HD.out.ext hx1).has 0 _ rfl;have g1:=(HD.out.ext hx1).has 1 _ rfl) | (go_at_call 146;refine (HC.out _).mono ?_;rintro r w2 ⟨rfl,rfl⟩) | (go_at_call 145;refine (one_calls _ _).mono ?_;rintro r w2 ⟨rfl,rfl⟩) | (go_at_call 143;refine (HMD 1 p hp2 (by omega) (by omega) _).mono ?_;rintro r w3 ⟨rfl,hx2⟩) | ((with_reducible show wpList _ _ _ (⟨_,Op.store 60 _ _,_,_,_,_⟩ :: _) _ _);refine wpList_store_blk rfl 60 _ _ rfl (HR.out.ext (hx1.trans hx2)) rfl (cs:=Bt.cells ⟨1,p % 2 ^ (1:Int).toNat⟩) (rfl) agg_Bits (rfl) rfl (rfl) ?_;intro w4 hb4 hg4))
  refine post_ret_blk2' rfl rfl rfl hb4.has agg_Bits rfl rfl ⟨?_,(HX.out.trans (hx1.trans hx2)).grown hg4 (by omega)⟩
  rw [← HP.out]
  simp [unW,unM,popN_pop]
 ·obtain rfl:=HW.out rfl
  obtain ⟨n,hn0⟩ : ∃ n,n=18446744073709551615 - v:=⟨_,rfl⟩
  have hn:n < 2 ^ 64:=by omega
  have E:=Lib.hid (show bits .xor .u64 IntKind.u64.max (v:Int)=(n:Int) by rw [n_not h64,hn0])
  have H0:=Lib.hid hn0
  clear hn0
  go_wp2_with (first | ((with_reducible show wpList _ _ _ (⟨_,Op.load 60 _,_,_,_,_⟩ :: _) _ _);refine wpList_load_has rfl 60 _ rfl rfl (hD1) agg_Bits rfl ?_) | (go_at_call 144;refine (HM.out _).mono ?_;rintro r w1 ⟨rfl,hx1⟩;have g0:=(HD.out.ext hx1).has 0 _ rfl;have g1:=(HD.out.ext hx1).has 1 _ rfl) | (go_at_call 143;rw [E.out];refine (HMD 1 n hn (by omega) (by omega) _).mono ?_;rintro r w3 ⟨rfl,hx2⟩) | ((with_reducible show wpList _ _ _ (⟨_,Op.store 60 _ _,_,_,_,_⟩ :: _) _ _);refine wpList_store_blk rfl 60 _ _ rfl (HR.out.ext (hx1.trans hx2)) rfl (cs:=Bt.cells ⟨1,n % 2 ^ (1:Int).toNat⟩) (rfl) agg_Bits (rfl) rfl (rfl) ?_;intro w4 hb4 hg4))
  refine post_ret_blk2' rfl rfl rfl hb4.has agg_Bits rfl rfl ⟨?_,(HX.out.trans (hx1.trans hx2)).grown hg4 (by omega)⟩
  have hv2:=HA.out
  have:v=0 ∨ v=1:=by simp at hv2;omega
  rw [H0.out]
  rcases this with rfl | rfl <;> simp [unW,unM,b2n]
open Go.RowKit
theorem bsN_run {P:Program} {w:World} {t:TypeId} {e:TypeId} {size bytes:Nat} (hT:AppT P t e size bytes) (vs:List Value) (css:List (List Value)) (h:vs.map (·.cells)=css.map List.toArray) (hl:∀ cs ∈ css,cs.length=size) (h0:0 < vs.length) (hn:vs.length * size ≤ 16777216) :
  (Instr.buildSlice t vs.length ((vs.zipIdx 0).map fun x=>(x.2,x.1)).toArray).run P w=.ok (.slice (some ⟨w.heap.size,0,none⟩) vs.length vs.length) (w.alloc (.cells css.flatten.toArray e)):=by
 obtain ⟨ht,hinfo,hsz,hby⟩:=hT
 cases hi:P.info? e with
 | none=>simp [hi] at hinfo
 | some i =>
  simp only [hi,Option.map_some,Option.some.injEq,Prod.mk.injEq] at hinfo
  obtain ⟨hz0,hsi,hb⟩:=hinfo
  cases hz:i.zero with
  | none=>simp [hz] at hz0
  | some z =>
   have hv2:∀ v ∈ vs,v.cells.size=size:=by
    intro v hv
    have:v.cells ∈ css.map List.toArray:=by rw [← h];exact List.mem_map_of_mem hv
    obtain ⟨cs,hc,he⟩:=List.mem_map.1 this
    rw [← he];simp [hl cs hc]
   have hf:=Great.fill_whole (s:=size) hsz vs ((Array.range (vs.length * size)).map (z.cells[· % z.cells.size]!)) hv2 (by simp)
   have hflat:(vs.flatMap fun v=>v.cells.toList)=css.flatten:=by
    rw [List.flatMap_def]
    have:vs.map (fun v=>v.cells.toList)=css:=by
     have:=congrArg (List.map Array.toList) h
     simpa [List.map_map,Function.comp_def] using this
    rw [this]
   rw [hflat] at hf
   refine run_buildSlice (P:=P) w t e vs.length _ css.flatten.toArray i z ht hi hz (by rw [hsi];omega) (by rw [hsi];have:=Nat.mul_pos h0 hsz;omega) ?_
   rw [hsi];exact hf
theorem wpList_bsN {P:Program} {ops:Array Oper} {rest:List Oper} {o:Oper} {a:Act} {w:World} {Q:Exit→Act→World→Prop} (hw:Region.wanted o (yielded ops a.tmps)=true) (t:TypeId) (n:Nat) (ps:Array (Nat × Operand))
  (ho:o.op=.buildSlice t n ps) {e:TypeId} {size bytes:Nat} (hT:AppT P t e size bytes) {vs:List Value} (hx:ps.toList.map (fun p=>(p.1,a.eval p.2))=(vs.zipIdx 0).map fun x=>(x.2,x.1)) (hvn:vs.length=n) {css:List (List Value)} (hv:vs.map (·.cells)=css.map List.toArray)
  (hl:∀ cs ∈ css,cs.length=size) (h0:0 < n) (hn:n * size ≤ 16777216)
  (h:wpList P ops Q rest (a.put o.dst (.slice (some ⟨w.heap.size,0,none⟩) n n)) (w.alloc (.cells css.flatten.toArray e))):wpList P ops Q (o :: rest) a w :=
 BigFrame.wpList_want hw fun _ hK=>by
  subst hvn
  have hr:=bsN_run (w:=w) hT vs css hv hl h0 hn
  unfold Oper.wp execOp
  simp only [ho]
  have hx':(ps.map fun p=>(p.1,a.eval p.2))=((vs.zipIdx 0).map fun x=>(x.2,x.1)).toArray:=by
   apply Array.ext'
   rw [Array.toList_map,hx]
  rw [hx']
  simp only [Sem.run_bind,hr,Result.andThen_ok,Sem.run_pure]
  exact hK _ _ h
theorem step_bsN {P:Program} {ops:Array Oper} {o:Oper} {a:Act} {w:World} {K:Act→World→Prop} {Q:Exit→Act→World→Prop} {E:Prop} (hw:Region.wanted o (yielded ops a.tmps)=true) (t:TypeId) (n:Nat) (ps:Array (Nat × Operand))
  (ho:o.op=.buildSlice t n ps) {e:TypeId} {size bytes:Nat} (hT:AppT P t e size bytes) {vs:List Value} (hx:ps.toList.map (fun p=>(p.1,a.eval p.2))=(vs.zipIdx 0).map fun x=>(x.2,x.1)) (hvn:vs.length=n) {css:List (List Value)} (hv:vs.map (·.cells)=css.map List.toArray)
  (hl:∀ cs ∈ css,cs.length=size) (h0:0 < n) (hn:n * size ≤ 16777216)
  (h:K (a.put o.dst (.slice (some ⟨w.heap.size,0,none⟩) n n)) (w.alloc (.cells css.flatten.toArray e))):if Region.wanted o (yielded ops a.tmps)=true then Oper.wp P o a w K Q else E:=by
 rw [if_pos hw]
 subst hvn
 have hr:=bsN_run (w:=w) hT vs css hv hl h0 hn
 unfold Oper.wp execOp
 simp only [ho]
 have hx':(ps.map fun p=>(p.1,a.eval p.2))=((vs.zipIdx 0).map fun x=>(x.2,x.1)).toArray:=by
  apply Array.ext'
  rw [Array.toList_map,hx]
 rw [hx']
 simp only [Sem.run_bind,hr,Result.andThen_ok,Sem.run_pure]
 exact h
open Go.RowKit
theorem appBits:AppT Tryz.prog 118 60 2 16:=⟨Tryz.underlying118,by kernel_rfl,by decide,by decide⟩
theorem Bts.of_blk {w:World} {B:Nat} (l:List Bt) {T:TypeId} (cap:Nat) (h:Blk w B (l.map Bt.cells).flatten.toArray T) (hc:l.length ≤ cap) (hm:cap ≤ maxLen):Bts w (.slice (some ⟨B,0,none⟩) l.length cap) l :=
 ⟨B,0,⟨_,cap,rfl,hc,hm,fun _=>rfl⟩,rows_flat (f:=Bt.cells) (fun _=>rfl) l 0 h.has⟩
set_option maxRecDepth 100000 in
set_option maxHeartbeats 1000000 in
theorem Cond_calls (c a b:Bt) (hc:c.ok) (ha:a.ok) (hb:b.ok) (hc1:c.w=1) (hab:a.w=b.w) (w:World) :
  Calls Tryz.prog 89 #[.agg c.cells.toArray,.agg a.cells.toArray,.agg b.cells.toArray] w (BtPost w ⟨a.w,if c.v=1 then a.v else b.v⟩):=by
 have x1:=ext_alloc w (.cells c.cells.toArray 60)
 have x2:=ext_alloc (w.alloc (.cells c.cells.toArray 60)) (.cells a.cells.toArray 60)
 have x3:=ext_alloc ((w.alloc (.cells c.cells.toArray 60)).alloc (.cells a.cells.toArray 60)) (.cells b.cells.toArray 60)
 have x4:=ext_alloc (((w.alloc (.cells c.cells.toArray 60)).alloc (.cells a.cells.toArray 60)).alloc (.cells b.cells.toArray 60)) (.cells #[.int .i64 0,.int .u64 0] 60)
 have hC:=(((Blk.new w c.cells.toArray 60).ext x2).ext x3).ext x4
 have hA:=((Blk.new (w.alloc (.cells c.cells.toArray 60)) a.cells.toArray 60).ext x3).ext x4
 have hB:=(Blk.new ((w.alloc (.cells c.cells.toArray 60)).alloc (.cells a.cells.toArray 60)) b.cells.toArray 60).ext x4
 have hR:=Blk.new (((w.alloc (.cells c.cells.toArray 60)).alloc (.cells a.cells.toArray 60)).alloc (.cells b.cells.toArray 60)) #[.int .i64 0,.int .u64 0] 60
 have HX:=((x1.trans x2).trans x3).trans x4
 simp only [World.size_alloc] at hA hB hR
 clear x1 x2 x3 x4
 have HAL:=Lib.hid (fun (s:Value) (W:World) (h:Bts W s [c,a,b])=>all_calls [c,a,b] (by simp;exact ⟨hc,ha,hb⟩) s W h)
 have HMD:=fun (wd:Int) (n:Nat) (hn:n < 2 ^ 64) (h0:0 ≤ wd) (h1:wd ≤ 64) (w:World)=>made_callsN wd n hn h0 h1 w
 have ha64:=Bt.lt64 ha
 have hb64:=Bt.lt64 hb
 have a1:=ha.1
 have a2:=ha.2.1
 have a3:=Lib.hid ha.2.2
 have b3:=Lib.hid hb.2.2
 clear hc ha hb
 obtain ⟨cw,cv⟩:=c
 obtain ⟨wd,av⟩:=a
 obtain ⟨bw,bv⟩:=b
 simp only at hc1 hab ha64 hb64 a1 a2 a3 b3
 subst hc1
 subst hab
 obtain ⟨tv,htv⟩ : ∃ tv,(if cv=1 then av else bv)=tv:=⟨_,rfl⟩
 have HTV:=Lib.hid htv
 rw [htv]
 have htb:tv < 2 ^ 64:=by rw [← htv];split <;> assumption
 have htw:=Lib.hid (show tv < 2 ^ wd.toNat by rw [← htv];(split;exact a3.out;exact b3.out))
 clear htv
 go_enter Tryz.func89,Tryz.ntmps89
 go_upto_region 1 with fail
 have hsz:((((w.alloc (.cells (Bt.cells ⟨1,cv⟩).toArray 60)).alloc (.cells (Bt.cells ⟨wd,av⟩).toArray 60)).alloc (.cells (Bt.cells ⟨wd,bv⟩).toArray 60)).alloc (.cells #[.int .i64 0,.int .u64 0] 60)).heap.size=w.heap.size + 1 + 1 + 1 + 1:=by simp
 generalize (((w.alloc _).alloc _).alloc _).alloc _=w0 at *
 have hB1:=hB.has
 have HC:=Lib.hid hC
 have HA:=Lib.hid hA
 have HB:=Lib.hid hB
 have HR:=Lib.hid hR
 clear hC hA hB hR
 go_upto_region 2 with (first | ((with_reducible show wpList _ _ _ (⟨_,Op.load 60 _,_,_,_,_⟩ :: _) _ _);refine wpList_load_has rfl 60 _ rfl rfl (hB1) agg_Bits rfl ?_) | ((with_reducible show wpList _ _ _ (⟨_,Op.store 60 _ _,_,_,_,_⟩ :: _) _ _);refine wpList_store_new rfl 60 _ _ rfl rfl (by first | rfl | simp) rfl agg_Bits (rfl) rfl (rfl) ?_))
 have hx5:=ext_alloc w0 (.cells (Bt.cells ⟨wd,bv⟩).toArray 60)
 have hT5:=Blk.new w0 (Bt.cells ⟨wd,bv⟩).toArray 60
 generalize w0.alloc _=w5 at *
 rw [hsz] at hT5
 have g1:=(HC.out.ext hx5).has 1 _ rfl
 go_upto_if 12 with fail
 go_cut [7] from 12 to 14 (fun u wx=>u=.int .i64 0∧Ext w wx∧Blk wx w.heap.size (Bt.cells ⟨1,cv⟩).toArray 60∧Blk wx (w.heap.size + 1) (Bt.cells ⟨wd,av⟩).toArray 60∧Blk wx (w.heap.size + 1 + 1) (Bt.cells ⟨wd,bv⟩).toArray 60∧Blk wx (w.heap.size + 1 + 1 + 1) #[.int .i64 0,.int .u64 0] 60∧Blk wx (w.heap.size + 1 + 1 + 1 + 1) (Bt.cells ⟨wd,tv⟩).toArray 60)
 case first =>
  by_cases h1:cv=1
  ·have b1:((cv:Int) == 1)=true:=by rw [beq_iff_eq];omega
   have ht:=HTV.out
   rw [if_pos h1] at ht
   subst ht
   clear h1
   have hA1:=(HA.out.ext hx5).has
   go_wp2_with (first | ((with_reducible show wpList _ _ _ (⟨_,Op.load 60 _,_,_,_,_⟩ :: _) _ _);refine wpList_load_has rfl 60 _ rfl rfl (hA1) agg_Bits rfl ?_) | ((with_reducible show wpList _ _ _ (⟨_,Op.store 60 _ _,_,_,_,_⟩ :: _) _ _);refine wpList_store_blk rfl 60 _ _ rfl (hT5) rfl (cs:=Bt.cells ⟨wd,av⟩) (rfl) agg_Bits (rfl) rfl (rfl) ?_;intro w4 hb4 hg4))
   go_meet
   exact ⟨rfl,(HX.trans hx5).grown hg4 (by omega),(HC.out.ext hx5).grown hg4 (by omega),(HA.out.ext hx5).grown hg4 (by omega),(HB.out.ext hx5).grown hg4 (by omega),(HR.out.ext hx5).grown hg4 (by omega),hb4⟩
  ·have b1:((cv:Int) == 1)=false:=by rw [beq_eq_false_iff_ne];omega
   have ht:=HTV.out
   rw [if_neg h1] at ht
   subst ht
   clear h1
   go_wp2_with fail
   go_meet
   exact ⟨rfl,HX.trans hx5,HC.out.ext hx5,HA.out.ext hx5,HB.out.ext hx5,HR.out.ext hx5,hT5⟩
 case rest =>
  obtain ⟨rfl,k1,k2,k3,k4,k5,k6⟩:=hcut
  have HK5:=Lib.hid k5
  clear HTV HC HA HB HR hx5 hT5 g1
  go_upto_region 4 with fail
  refine wp_region_held_drew (S:=fun W=>Ext w W∧Blk W w.heap.size (Bt.cells ⟨1,cv⟩).toArray 60∧Blk W (w.heap.size + 1) (Bt.cells ⟨wd,av⟩).toArray 60∧Blk W (w.heap.size + 1 + 1) (Bt.cells ⟨wd,bv⟩).toArray 60∧Blk W (w.heap.size + 1 + 1 + 1 + 1) (Bt.cells ⟨wd,tv⟩).toArray 60) (by kernel_rfl) ⟨k1.drew,k2.drew,k3.drew,k4.drew,k6.drew⟩ (fun hHeld=>?_)
  clear k1 k2 k3 k4 k5 k6
  try simp only [J]
  (refine Jt 0 (.agg (Bt.cells ⟨1,cv⟩).toArray) rfl (yif_load rfl 60 _ rfl rfl (fun W hW=>hW.2.1.has) agg_Bits rfl) hHeld ?_;try simp only [J])
  (refine Jt 1 (.agg (Bt.cells ⟨wd,av⟩).toArray) rfl (yif_load rfl 60 _ rfl rfl (fun W hW=>hW.2.2.1.has) agg_Bits rfl) hHeld ?_;try simp only [J])
  (refine Jt 2 (.agg (Bt.cells ⟨wd,bv⟩).toArray) rfl (yif_load rfl 60 _ rfl rfl (fun W hW=>hW.2.2.2.1.has) agg_Bits rfl) hHeld ?_;try simp only [J])
  (refine Jt 17 (_) rfl (yif_load1 rfl fun _ _=>rfl) hHeld ?_;try simp only [J])
  (refine Jt 18 (.int .i64 wd) rfl (yif_load1 rfl (by intro W hW;have y:=hW.2.2.2.2.has 0 _ rfl;clear hW;go_simp)) hHeld ?_;try simp only [J])
  (refine Jt 19 (_) rfl (yif_load1 rfl fun _ _=>rfl) hHeld ?_;try simp only [J])
  (refine Jt 20 (.int .u64 (tv:Int)) rfl (yif_load1 rfl (by intro W hW;have y:=hW.2.2.2.2.has 1 _ rfl;clear hW;go_simp)) hHeld ?_;try simp only [J])
  (refine wpAnyH_ready (rs:=[3]) (by kernel_rfl) (by simp) ?_;refine AllReadyH.cons rfl (fun K hK=>?_) AllReadyH.nil)
  refine step_bsN rfl _ 3 _ rfl appBits (vs:=[.agg (Bt.cells ⟨1,cv⟩).toArray,.agg (Bt.cells ⟨wd,av⟩).toArray,.agg (Bt.cells ⟨wd,bv⟩).toArray]) rfl rfl (css:=[Bt.cells ⟨1,cv⟩,Bt.cells ⟨wd,av⟩,Bt.cells ⟨wd,bv⟩]) rfl (by simp) (by decide) (by decide) ?_
  have hxb:=ext_alloc wc.drew (.cells ([Bt.cells ⟨1,cv⟩,Bt.cells ⟨wd,av⟩,Bt.cells ⟨wd,bv⟩].flatten.toArray) 60)
  have hbs:=Bts.of_blk [⟨1,cv⟩,⟨wd,av⟩,⟨wd,bv⟩] 3 (Blk.new wc.drew ([Bt.cells ⟨1,cv⟩,Bt.cells ⟨wd,av⟩,Bt.cells ⟨wd,bv⟩].flatten.toArray) 60) (by simp) (by decide)
  have HAC:=Lib.hid (HAL.out _ _ hbs)
  have HK6:=Lib.hid (HK5.out.drew.ext hxb)
  refine hK.out _ _ ⟨hHeld.1.trans hxb,hHeld.2.1.ext hxb,hHeld.2.2.1.ext hxb,hHeld.2.2.2.1.ext hxb,hHeld.2.2.2.2.ext hxb⟩ (fun hHeld=>?_)
  clear hK K hbs hxb HAL HK5
  generalize wc.drew.alloc _=w6 at *
  generalize wc.drew.heap.size=B6 at *
  try simp only [J]
  (refine wpAnyH_ready (rs:=[4]) (by kernel_rfl) (by simp) ?_;refine AllReadyH.cons rfl (fun K hK=>?_) AllReadyH.nil)
  go_simp
  refine HAC.out.mono ?_
  rintro r w7 ⟨rfl,hx7⟩
  refine hK.out _ _ ⟨hHeld.1.trans hx7,hHeld.2.1.ext hx7,hHeld.2.2.1.ext hx7,hHeld.2.2.2.1.ext hx7,hHeld.2.2.2.2.ext hx7⟩ (fun hHeld=>?_)
  clear hK K HAC
  try simp only [J]
  (refine Jt 5 (_) rfl (yif_load1 rfl fun _ _=>rfl) hHeld ?_;try simp only [J])
  (refine Jt 6 (_) rfl (yif_load1 rfl fun _ _=>rfl) hHeld ?_;try simp only [J])
  (refine Jt 7 (.int .i64 1) rfl (yif_load1 rfl (by intro W hW;have y:=hW.2.1.has 0 _ rfl;clear hW;go_simp)) hHeld ?_;try simp only [J])
  (refine Jt 8 (.bool true) rfl (yif_load1 rfl (by intro W hW;clear hW;go_simp)) hHeld ?_;try simp only [J])
  (refine Jt 9 (.bool true) rfl (yif_load1 rfl (by intro W hW;clear hW;go_simp)) hHeld ?_;try simp only [J])
  (refine Jt 10 (_) rfl (yif_load1 rfl fun _ _=>rfl) hHeld ?_;try simp only [J])
  (refine Jt 11 (_) rfl (yif_load1 rfl fun _ _=>rfl) hHeld ?_;try simp only [J])
  (refine Jt 12 (.int .i64 wd) rfl (yif_load1 rfl (by intro W hW;have y:=hW.2.2.1.has 0 _ rfl;clear hW;go_simp)) hHeld ?_;try simp only [J])
  (refine Jt 13 (_) rfl (yif_load1 rfl fun _ _=>rfl) hHeld ?_;try simp only [J])
  (refine Jt 14 (.int .i64 wd) rfl (yif_load1 rfl (by intro W hW;have y:=hW.2.2.2.1.has 0 _ rfl;clear hW;go_simp)) hHeld ?_;try simp only [J])
  (refine Jt 15 (.bool true) rfl (yif_load1 rfl (by intro W hW;clear hW;go_simp)) hHeld ?_;try simp only [J])
  (refine Jt 16 (.bool true) rfl (yif_load1 rfl (by intro W hW;clear hW;go_simp)) hHeld ?_;try simp only [J])
  (refine wpAnyH_ready (rs:=[21]) (by kernel_rfl) (by simp) ?_;refine AllReadyH.cons rfl (fun K hK=>?_) AllReadyH.nil)
  go_simp
  refine (HMD wd tv htb (by omega) (by omega) _).mono ?_
  rintro r w8 ⟨rfl,hx8⟩
  refine hK.out _ _ ⟨hHeld.1.trans hx8,hHeld.2.1.ext hx8,hHeld.2.2.1.ext hx8,hHeld.2.2.2.1.ext hx8,hHeld.2.2.2.2.ext hx8⟩ (fun hHeld=>?_)
  clear hK K
  try simp only [J]
  (refine Jt 22 (.agg (Bt.cells ⟨wd,tv % 2 ^ wd.toNat⟩).toArray) rfl (yif_load1 rfl (by intro W hW;clear hW;go_simp)) hHeld ?_;try simp only [J])
  (refine Jt 23 (.int .i64 0) rfl (yif_load1 rfl (by intro W hW;clear hW;go_simp)) hHeld ?_;try simp only [J])
  (refine wpAnyH_ready (rs:=[24]) (by kernel_rfl) (by simp) ?_;refine AllReadyH.cons rfl (fun K hK=>?_) AllReadyH.nil)
  refine step_store_blk' rfl 60 _ _ rfl ((HK6.out.ext hx7).ext hx8) rfl (cs:=Bt.cells ⟨wd,tv % 2 ^ wd.toNat⟩) rfl agg_Bits rfl rfl rfl ?_
  intro w9 hb9 hg9
  refine hK.out _ _ ⟨hHeld.1.grown hg9 (by omega),hHeld.2.1.grown hg9 (by omega),hHeld.2.2.1.grown hg9 (by omega),hHeld.2.2.2.1.grown hg9 (by omega),hHeld.2.2.2.2.grown hg9 (by omega)⟩ (fun hHeld=>?_)
  clear hK K
  try simp only [J]
  (refine Jt 25 (.int .i64 0) rfl (yif_load1 rfl (by intro W hW;clear hW;go_simp)) hHeld ?_;try simp only [J])
  refine wpAnyH_done (by kernel_rfl) ?_ _
  go_wp2_with ((with_reducible show bodyPost _ _ _ _ _ _);refine Hid.out ?_)
  refine Lib.hid ?_
  refine post_ret_blk2' rfl rfl rfl hb9.has agg_Bits rfl rfl ⟨?_,hHeld.1⟩
  rw [Nat.mod_eq_of_lt htw.out];rfl
end Go.Proofs.YtemabheegnngdaaGreat
