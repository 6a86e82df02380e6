/- Laws and walks that a claim of this seat leans on: R01a, R01b, R01c, R01d. -/
import Derived.Test.YtemabheegnngdaaGreatV16
import Derived.Test.YtemabheegnngdaaGreatV15
import Derived.Test.YtemabheegnngdaaGreatV00
set_option linter.all false
namespace Go.Proofs.YtemabheegnngdaaGreat
open Go.RowKit
theorem mask_val {k:Nat} (h:k ≤ 63):IntKind.u64.wrap (IntKind.u64.wrap (2 ^ k) - 1)=((2 ^ k - 1:Nat):Int):=by
 revert k
 decide +kernel
set_option maxHeartbeats 400000 in
theorem MaskR_calls (wd:Int) (h1:1 ≤ wd) (h2:wd ≤ 64) (w:World):Calls Tryz.prog 31 #[.int .i64 wd] w fun r w'=>r=.returned (.int .u64 ((2 ^ wd.toNat - 1:Nat):Int))∧w'=w:=by
 obtain ⟨k,rfl⟩:=Int.eq_ofNat_of_zero_le (show 0 ≤ wd by omega)
 rw [Int.toNat_natCast]
 have c1:decide ((k:Int) < 1)=false:=decide_eq_false (by omega)
 go_enter Tryz.func31,Tryz.ntmps31
 by_cases h3:(63:Int) < (k:Int)
 ·have c2:decide ((63:Int) < (k:Int))=true:=decide_eq_true h3
  obtain rfl:k=64:=by omega
  clear h3
  go_wp2_with fail
  go_ret
  exact ⟨rfl,rfl⟩
 ·have c2:decide ((63:Int) < (k:Int))=false:=decide_eq_false h3
  have hm:=mask_val (show k ≤ 63 by omega)
  have HM:=Lib.hid hm
  clear h3 hm
  go_wp2_with fail
  go_ret
  refine ⟨?_,rfl⟩
  rw [← HM.out]
  first | rfl | (trace_state;simp)
set_option maxHeartbeats 400000 in
theorem CheckR_calls (a:Bt) (ha:a.ok) (w:World):Calls Tryz.prog 65 #[.agg a.cells.toArray] w fun r w'=>r=.returned (.int .i64 0)∧Ext w w':=by
 obtain ⟨h1,h2,h3⟩:=ha
 have HM:=Lib.hid (fun W=>MaskR_calls a.w h1 h2 W)
 obtain ⟨wd,v⟩:=a
 simp only at h1 h2 h3 HM
 have hv:v ≤ 2 ^ wd.toNat - 1:=by omega
 generalize 2 ^ wd.toNat - 1=M at *
 have c1:decide (wd < 1)=false:=decide_eq_false (by omega)
 have c2:decide (64 < wd)=false:=decide_eq_false (by omega)
 have c3:decide (M < v)=false:=decide_eq_false (by omega)
 clear h1 h2 h3 hv
 have HX:=ext_alloc w (.cells (Bt.cells ⟨wd,v⟩).toArray 60)
 have hb:=Blk.new w (Bt.cells ⟨wd,v⟩).toArray 60
 go_enter Tryz.func65,Tryz.ntmps65
 go_upto_region 1 with fail
 generalize w.alloc _=w0 at *
 have g0:=hb.has 0 _ rfl
 have g1:=hb.has 1 _ rfl
 go_quiet (first | (go_at_call 31;refine Calls.quiet_of_same (HM.out _)))
 go_wp2_with fail
 go_ret
 exact ⟨rfl,HX.drewNB nq⟩
set_option maxHeartbeats 400000 in
theorem bitR_calls (b:Bool) (w:World):Calls Tryz.prog 68 #[.bool b] w fun r w'=>r=.returned (.agg (Bt.cells ⟨1,b2n b⟩).toArray)∧Ext w w':=by
 have HX:=ext_alloc w (.cells #[.int .i64 0,.int .u64 0] 60)
 have hb:=Blk.new w #[.int .i64 0,.int .u64 0] 60
 go_enter Tryz.func68,Tryz.ntmps68
 go_upto_region 1 with fail
 generalize w.alloc _=w0 at *
 cases b
 ·go_wp2_with (first | ((with_reducible show Jw (Op.store 60 _ _));refine wpList_store_blk rfl 60 _ _ rfl (hb) rfl (cs:=Bt.cells ⟨1,b2n false⟩) (rfl) agg_Bits (rfl) rfl (rfl) ?_;intro w4 hb4 hg4) | ((with_reducible show bodyPost _ _ _ _ _ _);refine Hid.out ?_))
  refine Lib.hid ?_
  exact post_ret_blk rfl rfl hb4.has agg_Bits rfl rfl ⟨rfl,HX.grown hg4 (by omega)⟩
 ·go_wp2_with (first | ((with_reducible show Jw (Op.store 60 _ _));refine wpList_store_blk rfl 60 _ _ rfl (hb) rfl (cs:=Bt.cells ⟨1,b2n true⟩) (rfl) agg_Bits (rfl) rfl (rfl) ?_;intro w4 hb4 hg4) | ((with_reducible show bodyPost _ _ _ _ _ _);refine Hid.out ?_))
  refine Lib.hid ?_
  exact post_ret_blk rfl rfl hb4.has agg_Bits rfl rfl ⟨rfl,HX.grown hg4 (by omega)⟩
def par (k v:Nat):Bool:=decide (pop k v % 2=1)
theorem par_succ (k v:Nat):par (k + 1) v=if v / 2 ^ k % 2=1 then !par k v else par k v:=by
 have h:=pop_add k 1 v
 rw [show pop 1 (v / 2 ^ k)=v / 2 ^ k % 2 by simp [pop]] at h
 unfold par
 rw [h]
 by_cases c:v / 2 ^ k % 2=1
 ·rw [if_pos c,c]
  by_cases p:pop k v % 2=1
  ·rw [decide_eq_true p,decide_eq_false (by omega)];rfl
  ·rw [decide_eq_false p,decide_eq_true (by omega)];rfl
 ·rw [if_neg c,show v / 2 ^ k % 2=0 by omega,Nat.add_zero]
theorem and_one (n:Nat) (h:n < 2 ^ 64):bits .and .u64 (n:Int) 1=((n % 2:Nat):Int):=by
 rw [show (1:Int)=((1:Nat):Int) from rfl,n_and h (by decide),show (1:Nat)=2 ^ 1 - 1 from rfl,Nat.and_two_pow_sub_one_eq_mod]
set_option maxHeartbeats 400000 in
theorem oddR_calls (v:Nat) (hv:v < 2 ^ 64) (w:World):Calls Tryz.prog 149 #[.int .u64 (v:Int)] w fun r w'=>r=.returned (.bool (par 64 v))∧w'=w:=by
 go_enter Tryz.func149,Tryz.ntmps149
 go_wp2_with fail
 go_loopw [3,4] (fun b i wr=>∃ k:Nat,k ≤ 64∧i=.int .i64 k∧b=.bool (par k v)∧wr=w) (fun _ i _=>64 - (intOf i).toNat)
 case atStart=>exact ⟨0,Nat.zero_le _,rfl,rfl,rfl⟩
 case round =>
  obtain ⟨k,hk,rfl,rfl,rfl⟩:=hrel
  by_cases hlt:k < 64
  ·have hp:=par_succ k v
   have hn:v / 2 ^ k < 2 ^ 64:=Nat.lt_of_le_of_lt (Nat.div_le_self _ _) hv
   have h1:(v:Int) / 2 ^ k=((v / 2 ^ k:Nat):Int):=n_shr v k
   have h2:=and_one _ hn
   generalize v / 2 ^ k=n at *
   have H1:=Lib.hid h1
   have H2:=Lib.hid h2
   have HP:=Lib.hid hp
   clear h1 h2 hp
   by_cases c:n % 2=1
   ·have bt:(bits .and .u64 ((v:Int) / 2 ^ k) 1 == 1)=true:=by rw [H1.out,H2.out,beq_iff_eq];omega
    rw [if_pos c] at HP
    go_wp2_with fail
    go_roundw
    case rel=>exact ⟨k + 1,by omega,by go_num,by rw [HP.out],trivial⟩
    case measure=>simp [intOf];omega
   ·have bt:(bits .and .u64 ((v:Int) / 2 ^ k) 1 == 1)=false:=by rw [H1.out,H2.out,beq_eq_false_iff_ne];omega
    rw [if_neg c] at HP
    go_wp2_with fail
    go_roundw
    case rel=>exact ⟨k + 1,by omega,by go_num,by rw [HP.out],trivial⟩
    case measure=>simp [intOf];omega
  ·obtain rfl:k=64:=by omega
   go_wp2_with fail
   go_ret
   exact ⟨rfl,rfl⟩
open Go.RowKit
theorem and_maskN {q w:Nat} (hq:q < 2 ^ 64) (hw:w ≤ 64):bits .and .u64 (q:Int) ((2 ^ w - 1:Nat):Int)=((q % 2 ^ w:Nat):Int):=by
 have h:=Nat.pow_le_pow_right (n:=2) (by decide) hw
 rw [n_and hq (by have:=Nat.two_pow_pos w;omega),Nat.and_two_pow_sub_one_eq_mod]
set_option maxRecDepth 100000 in
set_option maxHeartbeats 1000000 in
theorem SliceR_calls (a:Bt) (ha:a.ok) (hi lo:Int) (h1:0 ≤ lo) (h2:lo ≤ hi) (h3:hi < a.w) (w:World) :
  Calls Tryz.prog 92 #[.agg a.cells.toArray,.int .i64 hi,.int .i64 lo] w (BtPost w ⟨hi - lo + 1,a.v / 2 ^ lo.toNat % 2 ^ (hi - lo + 1).toNat⟩):=by
 have HX:=(ext_alloc w (.cells a.cells.toArray 60)).trans (ext_alloc _ (.cells #[.int .i64 0,.int .u64 0] 60))
 have hD:=(Blk.new w a.cells.toArray 60).ext (ext_alloc _ (.cells #[.int .i64 0,.int .u64 0] 60))
 have hR:=Blk.new (w.alloc (.cells a.cells.toArray 60)) #[.int .i64 0,.int .u64 0] 60
 rw [show (w.alloc (.cells a.cells.toArray 60)).heap.size=w.heap.size + 1 by simp] at hR
 have HCK:=Lib.hid (fun W=>CheckR_calls a ha W)
 have h64:=Bt.lt64 ha
 have hw64:=ha.2.1
 clear ha
 obtain ⟨wd,v⟩:=a
 simp only at h3 h64 hw64
 obtain ⟨l,rfl⟩:=Int.eq_ofNat_of_zero_le h1
 rw [Int.toNat_natCast]
 have hl64:v / 2 ^ l < 2 ^ 64:=Nat.lt_of_le_of_lt (Nat.div_le_self _ _) h64
 have HM:=Lib.hid (fun W=>MaskR_calls (hi - (l:Int) + 1) (by omega) (by omega) W)
 have he:=and_maskN hl64 (show (hi - (l:Int) + 1).toNat ≤ 64 by omega)
 have hs:=n_shr v l
 obtain ⟨q,hq⟩ : ∃ q,v / 2 ^ l=q:=⟨_,rfl⟩
 obtain ⟨M,hM⟩ : ∃ M,2 ^ (hi - (l:Int) + 1).toNat - 1=M:=⟨_,rfl⟩
 obtain ⟨R,hR'⟩ : ∃ R,v / 2 ^ l % 2 ^ (hi - (l:Int) + 1).toNat=R:=⟨_,rfl⟩
 rw [hR',hM,hq] at he
 rw [hq] at hs
 rw [hM] at HM
 rw [hR']
 have E:=Lib.hid he
 have S:=Lib.hid hs
 clear he hs hq hM hR' hl64 h64
 have c1:decide ((l:Int) < 0)=false:=decide_eq_false (by omega)
 have c2:decide (hi < (l:Int))=false:=decide_eq_false (by omega)
 have c3:decide (wd ≤ hi)=false:=decide_eq_false (by omega)
 go_enter Tryz.func92,Tryz.ntmps92
 go_upto_region 1 with fail
 generalize (w.alloc _).alloc _=w0 at *
 have hD1:=hD.has
 go_upto_region 4 with (first | ((with_reducible show Jw (Op.load 60 _));refine wpList_load_has rfl 60 _ rfl rfl (hD1) agg_Bits rfl ?_) | (go_at_call 65;refine (HCK.out _).mono ?_;rintro r w1 ⟨rfl,hx1⟩;have g0:=(hD.ext hx1).has 0 _ rfl))
 have hD2:=hD.ext hx1
 have hR2:=hR.ext hx1
 have hX2:=HX.trans hx1
 clear hD hR HX hx1 g0 hD1
 refine wp_region_held_drew (S:=fun W=>Ext w W∧Blk W w.heap.size (Bt.cells ⟨wd,v⟩).toArray 60) (by kernel_rfl) ⟨hX2.drew,hD2.drew⟩ (fun hHeld=>?_)
 try simp only [J]
 (refine Jt 0 (.int .i64 (hi - (l:Int) + 1)) rfl (yif_load1 rfl fun _ _=>rfl) hHeld ?_;try simp only [J])
 (refine Jt 1 (.pointer (some ⟨w.heap.size,1,none⟩)) rfl (yif_load1 rfl (by intro W hW;clear hW;go_simp)) hHeld ?_;try simp only [J])
 (refine Jt 2 (.int .u64 (v:Int)) rfl (yif_load1 rfl (by intro W hW;have y:=hW.2.has 1 _ rfl;clear hW;go_simp)) hHeld ?_;try simp only [J])
 (refine Jt 3 (.int .i64 (l:Int)) rfl (yif_load1 rfl fun _ _=>rfl) hHeld ?_;try simp only [J])
 (refine Jt 4 (.int .u64 (q:Int)) rfl (yif_load1 rfl (by intro W hW;clear hW;go_simp;exact S.out)) hHeld ?_;try simp only [J])
 (refine Jt 5 (.int .i64 (hi - (l:Int) + 1)) rfl (yif_load1 rfl fun _ _=>rfl) hHeld ?_;try simp only [J])
 (refine wpAnyH_ready (rs:=[6]) (by kernel_rfl) (by simp) ?_;refine AllReadyH.cons rfl (fun K hK=>?_) AllReadyH.nil)
 go_simp
 refine (HM.out _).mono ?_
 rintro r w3 ⟨rfl,rfl⟩
 refine hK.out _ _ hHeld (fun hHeld=>?_)
 clear hK K
 try simp only [J]
 (refine Jt 7 (.int .u64 (R:Int)) rfl (yif_load1 rfl (by intro W hW;clear hW;go_simp;exact E.out)) hHeld ?_;try simp only [J])
 (refine Jt 8 (.agg (Bt.cells ⟨hi - (l:Int) + 1,R⟩).toArray) rfl (yif_load1 rfl (by intro W hW;clear hW;go_simp)) hHeld ?_;try simp only [J])
 (refine wpAnyH_ready (rs:=[9]) (by kernel_rfl) (by simp) ?_;refine AllReadyH.cons rfl (fun K hK=>?_) AllReadyH.nil)
 refine step_store_blk' rfl 60 _ _ rfl hR2.drew rfl (cs:=Bt.cells ⟨hi - (l:Int) + 1,R⟩) rfl agg_Bits rfl rfl rfl ?_
 intro w4 hb4 hg4
 refine hK.out _ _ ⟨hHeld.1.grown hg4 (by omega),hHeld.2.grown hg4 (by omega)⟩ (fun hHeld=>?_)
 clear hK K
 try simp only [J]
 (refine Jt 10 (.int .i64 0) rfl (yif_load1 rfl fun _ _=>rfl) hHeld ?_;try simp only [J])
 refine wpAnyH_done (by kernel_rfl) ?_ _
 go_wp2_with ((with_reducible show bodyPost _ _ _ _ _ _);refine Hid.out ?_)
 refine Lib.hid ?_
 exact post_ret_blk2' rfl rfl rfl hb4.has agg_Bits rfl rfl ⟨rfl,hHeld.1⟩
theorem un_negR {w v:Nat} (hw:w ≤ 64) (hv:v < 2 ^ w):bits .and .u64 (IntKind.u64.wrap (-(v:Int))) ((2 ^ w - 1:Nat):Int)=(((2 ^ w - v) % 2 ^ w:Nat):Int):=by
 have e:IntKind.u64.wrap (-(v:Int))=(((18446744073709551616 - v) % 18446744073709551616:Nat):Int):=by
  have:=Nat.pow_le_pow_right (n:=2) (by decide) hw
  rw [IntKind.wrap_u64]
  omega
 rw [e,and_maskN (by omega) hw,un_neg hw hv]
theorem par_odd (v:Nat):b2n (par 64 v)=popN v % 2:=by
 rw [popN_pop]
 unfold par b2n
 by_cases c:pop 64 v % 2=1
 ·rw [if_pos (decide_eq_true c)];omega
 ·rw [if_neg (by simp [c])];omega
theorem beq_nat (a b:Nat):((a:Int) == (b:Int))=decide (a=b):=by
 rw [Bool.eq_iff_iff]
 simp
 omega
set_option maxRecDepth 100000 in
set_option maxHeartbeats 1000000 in
theorem UnR_calls (op:Int) (h1:1 ≤ op) (h6:op ≤ 6) (a:Bt) (ha:a.ok) (hw:op=6→a.w=1) (w:World) :
  Calls Tryz.prog 93 #[.int .i64 op,.agg a.cells.toArray] w (BtPost w ⟨unW op a.w,unM op a.w.toNat a.v⟩):=by
 have HX:=Lib.hid ((ext_alloc w (.cells a.cells.toArray 60)).trans (ext_alloc _ (.cells #[.int .i64 0,.int .u64 0] 60)))
 have hD:=(Blk.new w a.cells.toArray 60).ext (ext_alloc _ (.cells #[.int .i64 0,.int .u64 0] 60))
 have hR:=Blk.new (w.alloc (.cells a.cells.toArray 60)) #[.int .i64 0,.int .u64 0] 60
 rw [show (w.alloc (.cells a.cells.toArray 60)).heap.size=w.heap.size + 1 by simp] at hR
 have HCK:=Lib.hid (fun W=>CheckR_calls a ha W)
 have h64:=Bt.lt64 ha
 have HM:=Lib.hid (fun W=>MaskR_calls a.w ha.1 ha.2.1 W)
 have HOD:=Lib.hid (fun W=>oddR_calls a.v h64 W)
 have HBT:=Lib.hid bitR_calls
 have hv:=ha.2.2
 have hw1:=ha.1
 have hw2:=ha.2.1
 clear ha
 obtain ⟨wd,v⟩:=a
 simp only at h64 hv hw hw1 hw2 HM HOD
 have HE2:=Lib.hid (un_negR (show wd.toNat ≤ 64 by omega) hv)
 have hvM:v ≤ 2 ^ wd.toNat - 1:=by omega
 have hM64:2 ^ wd.toNat - 1 < 18446744073709551616:=by
  have:=Nat.pow_le_pow_right (n:=2) (by decide) (show wd.toNat ≤ 64 by omega)
  omega
 obtain ⟨RES,hres⟩ : ∃ r,unM op wd.toNat v=r:=⟨_,rfl⟩
 have HRES:=Lib.hid hres
 rw [hres]
 clear hres
 obtain ⟨M,hM⟩ : ∃ M,2 ^ wd.toNat - 1=M:=⟨_,rfl⟩
 rw [hM] at HM HE2 hvM hM64
 have HMM:=Lib.hid hM
 clear hM
 go_enter Tryz.func93,Tryz.ntmps93
 go_upto_region 1 with fail
 generalize (w.alloc _).alloc _=w0 at *
 have hD1:=hD.has
 have HD:=Lib.hid hD
 have HR:=Lib.hid hR
 clear hD hR
 go_upto_region 4 with (first | ((with_reducible show Jw (Op.load 60 _));refine wpList_load_has rfl 60 _ rfl rfl (hD1) agg_Bits rfl ?_) | (go_at_call 65;refine (HCK.out _).mono ?_;rintro r w1 ⟨rfl,hx1⟩;have g0:=(HD.out.ext hx1).has 0 _ rfl;have g1:=(HD.out.ext hx1).has 1 _ rfl) | (go_at_call 31;refine (HM.out _).mono ?_;rintro r w2 ⟨rfl,rfl⟩))
 have HR1:=Lib.hid (HR.out.ext hx1)
 have HX1:=Lib.hid (HX.out.trans hx1)
 clear hx1 hD1 HD HR HX
 have hop:op=1 ∨ op=2 ∨ op=3 ∨ op=4 ∨ op=5 ∨ op=6:=by omega
 clear h1 h6
 rcases hop with rfl | rfl | rfl | rfl | rfl | rfl
 ·go_wp2_with (first | ((with_reducible show Jw (Op.store 60 _ _));refine wpList_store_blk rfl 60 _ _ rfl (HR1.out) rfl (cs:=[.int .i64 wd,.int .u64 _]) (rfl) agg_Bits (rfl) rfl (rfl) ?_;intro w4 hb4 hg4) | ((with_reducible show bodyPost _ _ _ _ _ _);refine Hid.out ?_))
  refine Lib.hid ?_
  refine post_ret_blk2' rfl rfl rfl hb4.has agg_Bits rfl rfl ⟨?_,HX1.out.grown hg4 (by omega)⟩
  rw [← HRES.out,show unM 1 wd.toNat v=M - v by rw [← HMM.out];rfl,show ((M:Int) - (v:Int))=((M - v:Nat):Int) by omega]
  rfl
 ·go_wp2_with (first | ((with_reducible show Jw (Op.store 60 _ _));refine wpList_store_blk rfl 60 _ _ rfl (HR1.out) rfl (cs:=[.int .i64 wd,.int .u64 _]) (rfl) agg_Bits (rfl) rfl (rfl) ?_;intro w4 hb4 hg4) | ((with_reducible show bodyPost _ _ _ _ _ _);refine Hid.out ?_))
  refine Lib.hid ?_
  refine post_ret_blk2' rfl rfl rfl hb4.has agg_Bits rfl rfl ⟨?_,HX1.out.grown hg4 (by omega)⟩
  rw [← HRES.out,HE2.out]
  rfl
 ·go_wp2_with (first | (go_at_call 68;refine (HBT.out _ _).mono ?_;rintro r w5 ⟨rfl,hx5⟩) | ((with_reducible show Jw (Op.store 60 _ _));refine wpList_store_blk rfl 60 _ _ rfl (HR1.out.ext hx5) rfl (cs:=Bt.cells ⟨1,b2n _⟩) (rfl) agg_Bits (rfl) rfl (rfl) ?_;intro w4 hb4 hg4) | ((with_reducible show bodyPost _ _ _ _ _ _);refine Hid.out ?_))
  refine Lib.hid ?_
  refine post_ret_blk2' rfl rfl rfl hb4.has agg_Bits rfl rfl ⟨?_,(HX1.out.trans hx5).grown hg4 (by omega)⟩
  rw [← HRES.out,show unM 3 wd.toNat v=b2n (decide (v=M)) by rw [← HMM.out];rfl,← beq_nat]
  rfl
 ·go_wp2_with (first | (go_at_call 68;refine (HBT.out _ _).mono ?_;rintro r w5 ⟨rfl,hx5⟩) | ((with_reducible show Jw (Op.store 60 _ _));refine wpList_store_blk rfl 60 _ _ rfl (HR1.out.ext hx5) rfl (cs:=Bt.cells ⟨1,b2n _⟩) (rfl) agg_Bits (rfl) rfl (rfl) ?_;intro w4 hb4 hg4) | ((with_reducible show bodyPost _ _ _ _ _ _);refine Hid.out ?_))
  refine Lib.hid ?_
  refine post_ret_blk2' rfl rfl rfl hb4.has agg_Bits rfl rfl ⟨?_,(HX1.out.trans hx5).grown hg4 (by omega)⟩
  rw [← HRES.out,show unM 4 wd.toNat v=b2n (decide (v ≠ 0)) from rfl,show decide (v ≠ 0)=((v:Int) != 0) by (rw [Bool.eq_iff_iff];simp)]
  rfl
 ·go_wp2_with (first | (go_at_call 149;refine (HOD.out _).mono ?_;rintro r w6 ⟨rfl,rfl⟩) | (go_at_call 68;refine (HBT.out _ _).mono ?_;rintro r w5 ⟨rfl,hx5⟩) | ((with_reducible show Jw (Op.store 60 _ _));refine wpList_store_blk rfl 60 _ _ rfl (HR1.out.ext hx5) rfl (cs:=Bt.cells ⟨1,b2n _⟩) (rfl) agg_Bits (rfl) rfl (rfl) ?_;intro w4 hb4 hg4) | ((with_reducible show bodyPost _ _ _ _ _ _);refine Hid.out ?_))
  refine Lib.hid ?_
  refine post_ret_blk2' rfl rfl rfl hb4.has agg_Bits rfl rfl ⟨?_,(HX1.out.trans hx5).grown hg4 (by omega)⟩
  rw [← HRES.out,show unM 5 wd.toNat v=popN v % 2 from rfl,← par_odd]
  rfl
 ·obtain rfl:=hw rfl
  go_wp2_with (first | (go_at_call 68;refine (HBT.out _ _).mono ?_;rintro r w5 ⟨rfl,hx5⟩) | ((with_reducible show Jw (Op.store 60 _ _));refine wpList_store_blk rfl 60 _ _ rfl (HR1.out.ext hx5) rfl (cs:=Bt.cells ⟨1,b2n _⟩) (rfl) agg_Bits (rfl) rfl (rfl) ?_;intro w4 hb4 hg4) | ((with_reducible show bodyPost _ _ _ _ _ _);refine Hid.out ?_))
  refine Lib.hid ?_
  refine post_ret_blk2' rfl rfl rfl hb4.has agg_Bits rfl rfl ⟨?_,(HX1.out.trans hx5).grown hg4 (by omega)⟩
  rw [← HRES.out,show unM 6 (1:Int).toNat v=b2n (decide (v=0)) from rfl,show decide (v=0)=((v:Int) == 0) by (rw [Bool.eq_iff_iff];simp)]
  rfl
open Go.RowKit
set_option maxHeartbeats 400000 in
theorem upR_calls (v n:Nat) (hv:v < 2 ^ 64) (w:World):Calls Tryz.prog 66 #[.int .u64 (v:Int),.int .u64 (n:Int)] w fun r w'=>r=.returned (.int .u64 ((v * 2 ^ n % 18446744073709551616:Nat):Int))∧w'=w:=by
 obtain ⟨m,e1,hm,hmm⟩:=shl_val v n 64 (by decide)
 have hsh:=sh_shl v n
 rw [e1] at hsh
 rw [Nat.mod_eq_of_lt hm] at hmm
 rw [show (2:Nat) ^ 64=18446744073709551616 from rfl] at hmm
 rw [← hmm]
 have HM:=Lib.hid hmm
 clear e1 hmm hm
 go_enter Tryz.func66,Tryz.ntmps66
 by_cases h:(63:Int) < (n:Int)
 ·have c:decide ((63:Int) < (n:Int))=true:=decide_eq_true h
  have hz:m=0:=by
   rw [HM.out,show n=64 + (n - 64) by omega,Nat.pow_add,show (2:Nat) ^ 64=18446744073709551616 from rfl,← Nat.mul_assoc,Nat.mul_right_comm,Nat.mul_mod_left]
  subst hz
  clear h hsh
  go_wp2_with fail
  go_ret
  exact ⟨rfl,rfl⟩
 ·have c:decide ((63:Int) < (n:Int))=false:=decide_eq_false h
  clear h
  go_wp2_with fail
  go_ret
  exact ⟨rfl,rfl⟩
set_option maxHeartbeats 400000 in
theorem downR_calls (v n:Nat) (hv:v < 2 ^ 64) (w:World):Calls Tryz.prog 67 #[.int .u64 (v:Int),.int .u64 (n:Int)] w fun r w'=>r=.returned (.int .u64 ((v / 2 ^ n:Nat):Int))∧w'=w:=by
 have hsh:=sh_shr v n
 rw [shr_val v n hv] at hsh
 have hz:63 < n→v / 2 ^ n=0:=fun h=>Nat.div_eq_of_lt (Nat.lt_of_lt_of_le hv (Nat.pow_le_pow_right (by decide) (by omega)))
 generalize v / 2 ^ n=m at *
 go_enter Tryz.func67,Tryz.ntmps67
 by_cases h:(63:Int) < (n:Int)
 ·have c:decide ((63:Int) < (n:Int))=true:=decide_eq_true h
  have hz':=hz (by omega)
  subst hz'
  clear h hsh hz
  go_wp2_with fail
  go_ret
  exact ⟨rfl,rfl⟩
 ·have c:decide ((63:Int) < (n:Int))=false:=decide_eq_false h
  clear h hz
  go_wp2_with fail
  go_ret
  exact ⟨rfl,rfl⟩
theorem bne_nat (a b:Nat):decide (a ≠ b)=((a:Int) != (b:Int)):=by
 rw [Bool.eq_iff_iff]
 simp
 omega
theorem mod_mod64 {n w:Nat} (hw:w ≤ 64):n % 18446744073709551616 % 2 ^ w=n % 2 ^ w:=Nat.mod_mod_of_dvd _ ⟨_,(pow64 hw).symm⟩
theorem wrap_add (a b:Nat):IntKind.u64.wrap ((a:Int) + (b:Int))=(((a + b) % 18446744073709551616:Nat):Int):=by rw [IntKind.wrap_u64];omega
theorem wrap_mul (a b:Nat):IntKind.u64.wrap ((a:Int) * (b:Int))=((a * b % 18446744073709551616:Nat):Int):=by
 rw [IntKind.wrap_u64,← Int.natCast_mul];omega
theorem wrap_sub (a b:Nat) (hb:b ≤ 18446744073709551616):IntKind.u64.wrap ((a:Int) - (b:Int))=(((a + 18446744073709551616 - b) % 18446744073709551616:Nat):Int):=by
 rw [IntKind.wrap_u64];omega
theorem sub_mod {a b w:Nat} (hw:w ≤ 64) (hb:b < 2 ^ w):(a + 18446744073709551616 - b) % 2 ^ w=(a + 2 ^ w - b) % 2 ^ w:=by
 have e:=pow64 hw
 have hk:=Nat.two_pow_pos (64 - w)
 generalize 2 ^ w=M at *
 generalize 2 ^ (64 - w)=K at *
 have h6:a + 18446744073709551616 - b=M * (K - 1) + (a + M - b):=by
  have:M * (K - 1)=M * K - M:=by rw [Nat.mul_sub,Nat.mul_one]
  have:M ≤ M * K:=Nat.le_mul_of_pos_right _ hk
  omega
 rw [h6,Nat.mul_add_mod]
set_option maxRecDepth 100000 in
set_option maxHeartbeats 4000000 in
theorem BinR_calls (op:Int) (h1:11 ≤ op) (h2:op ≤ 26) (a b:Bt) (ha:a.ok) (hb:b.ok) (hab:op ≠ 17→op ≠ 18→a.w=b.w) (h25:25 ≤ op→a.w=1) (w:World) :
  Calls Tryz.prog 34 #[.int .i64 op,.agg a.cells.toArray,.agg b.cells.toArray] w (BtPost w ⟨binW op a.w,binM op a.w.toNat a.v b.v⟩):=by
 have x1:=ext_alloc w (.cells a.cells.toArray 60)
 have x2:=ext_alloc (w.alloc (.cells a.cells.toArray 60)) (.cells b.cells.toArray 60)
 have x3:=ext_alloc ((w.alloc (.cells a.cells.toArray 60)).alloc (.cells b.cells.toArray 60)) (.cells #[.int .i64 0,.int .u64 0] 60)
 have hA:=((Blk.new w a.cells.toArray 60).ext x2).ext x3
 have hB:=(Blk.new (w.alloc (.cells a.cells.toArray 60)) b.cells.toArray 60).ext x3
 have hR:=Blk.new ((w.alloc (.cells a.cells.toArray 60)).alloc (.cells b.cells.toArray 60)) #[.int .i64 0,.int .u64 0] 60
 have hX:=(x1.trans x2).trans x3
 simp only [World.size_alloc] at hB hR
 clear x1 x2 x3
 have HCA:=Lib.hid (fun W=>CheckR_calls a ha W)
 have HCB:=Lib.hid (fun W=>CheckR_calls b hb W)
 have HBT:=Lib.hid bitR_calls
 have ha64:=Bt.lt64 ha
 have hb64:=Bt.lt64 hb
 have HM:=Lib.hid (fun W=>MaskR_calls a.w ha.1 ha.2.1 W)
 have HUP:=Lib.hid (fun W=>upR_calls a.v b.v ha64 W)
 have HDN:=Lib.hid (fun W=>downR_calls a.v b.v ha64 W)
 have a3:=Lib.hid ha.2.2
 have b3:=Lib.hid hb.2.2
 have H25:=Lib.hid h25
 have HAB:=Lib.hid hab
 have HW64:=Lib.hid (show a.w.toNat ≤ 64 by have:=ha.2.1;omega)
 clear ha hb hab h25
 obtain ⟨wd,av⟩:=a
 obtain ⟨bw,bv⟩:=b
 simp only at ha64 hb64 a3 b3 HAB H25 HM HUP HDN HW64
 obtain ⟨RES,hres⟩ : ∃ r,binM op wd.toNat av bv=r:=⟨_,rfl⟩
 have HRES:=Lib.hid hres
 rw [hres]
 clear hres
 obtain ⟨M,hM⟩ : ∃ M,2 ^ wd.toNat - 1=M:=⟨_,rfl⟩
 have HAM:=Lib.hid (fun (q:Nat) (hq:q < 2 ^ 64)=>and_maskN hq HW64.out)
 rw [hM] at HM HAM
 clear hM
 go_enter Tryz.func34,Tryz.ntmps34
 go_upto_region 1 with fail
 generalize ((w.alloc _).alloc _).alloc _=w0 at *
 have hA1:=hA.has
 have HA:=Lib.hid hA
 have HB:=Lib.hid hB
 have HR:=Lib.hid hR
 have HX:=Lib.hid hX
 clear hA hB hR hX
 go_upto_region 4 with (first | ((with_reducible show Jw (Op.load 60 _));refine wpList_load_has rfl 60 _ rfl rfl (hA1) agg_Bits rfl ?_) | (go_at_call 65;refine (HCA.out _).mono ?_;rintro r w1 ⟨rfl,hx1⟩;have hB1:=(HB.out.ext hx1).has;clear HCA) | ((with_reducible show Jw (Op.load 60 _));refine wpList_load_has rfl 60 _ rfl rfl (hB1) agg_Bits rfl ?_) | (go_at_call 65;refine (HCB.out _).mono ?_;rintro r w2 ⟨rfl,hx2⟩;have g0:=(HA.out.ext (hx1.trans hx2)).has 0 _ rfl;have g1:=(HA.out.ext (hx1.trans hx2)).has 1 _ rfl;have k0:=(HB.out.ext (hx1.trans hx2)).has 0 _ rfl;have k1:=(HB.out.ext (hx1.trans hx2)).has 1 _ rfl) | (go_at_call 31;refine (HM.out _).mono ?_;rintro r w3 ⟨rfl,rfl⟩))
 have HA1:=Lib.hid (HA.out.ext (hx1.trans hx2))
 have HB1:=Lib.hid (HB.out.ext (hx1.trans hx2))
 have HR1:=Lib.hid (HR.out.ext (hx1.trans hx2))
 have HX1:=Lib.hid (HX.out.trans (hx1.trans hx2))
 clear hx1 hx2 hA1 hB1 HA HB HR HX HCB HM
 have hop:op=17 ∨ op=18 ∨ op=11 ∨ op=12 ∨ op=13 ∨ op=14 ∨ op=15 ∨ op=16 ∨ op=19 ∨ op=20 ∨ op=21 ∨ op=22 ∨ op=23 ∨ op=24 ∨ op=25 ∨ op=26:=by omega
 clear h1 h2
 by_cases o17:op=17
 ·subst o17
  clear g0 g1 k0 k1 HAB H25 hop
  have hR17:=HRES.out
  have hu:=HAM.out (av * 2 ^ bv % 18446744073709551616) (by omega)
  rw [mod_mod64 HW64.out] at hu
  rw [show binM 17 wd.toNat av bv=av * 2 ^ bv % 2 ^ wd.toNat from rfl] at hR17
  rw [hR17] at hu
  generalize av * 2 ^ bv % 18446744073709551616=u at *
  have HU:=Lib.hid hu
  clear hu hR17
  go_wp2_with fail
  refine wp_region_held_drew (S:=fun W=>Ext w W∧Blk W w.heap.size (Bt.cells ⟨wd,av⟩).toArray 60∧Blk W (w.heap.size + 1) (Bt.cells ⟨bw,bv⟩).toArray 60) (by kernel_rfl) ⟨HX1.out.drew,HA1.out.drew,HB1.out.drew⟩ (fun hHeld=>?_)
  try simp only [J]
  (refine Jt 0 (.pointer (some ⟨w.heap.size,0,none⟩)) rfl (yif_load1 rfl (by intro W hW;clear hW;go_simp)) hHeld ?_;try simp only [J])
  (refine Jt 1 (.int .i64 wd) rfl (yif_load1 rfl (by intro W hW;have y:=hW.2.1.has 0 _ rfl;clear hW;go_simp)) hHeld ?_;try simp only [J])
  (refine Jt 2 (.pointer (some ⟨w.heap.size,1,none⟩)) rfl (yif_load1 rfl (by intro W hW;clear hW;go_simp)) hHeld ?_;try simp only [J])
  (refine Jt 3 (.int .u64 (av:Int)) rfl (yif_load1 rfl (by intro W hW;have y:=hW.2.1.has 1 _ rfl;clear hW;go_simp)) hHeld ?_;try simp only [J])
  (refine Jt 4 (.pointer (some ⟨w.heap.size + 1,1,none⟩)) rfl (yif_load1 rfl (by intro W hW;clear hW;go_simp)) hHeld ?_;try simp only [J])
  (refine Jt 5 (.int .u64 (bv:Int)) rfl (yif_load1 rfl (by intro W hW;have y:=hW.2.2.has 1 _ rfl;clear hW;go_simp)) hHeld ?_;try simp only [J])
  (refine Jt 7 (.int .u64 (M:Int)) rfl (yif_load1 rfl fun _ _=>rfl) hHeld ?_;try simp only [J])
  (refine wpAnyH_ready (rs:=[6]) (by kernel_rfl) (by simp) ?_;refine AllReadyH.cons rfl (fun K hK=>?_) AllReadyH.nil)
  go_simp
  refine (HUP.out _).mono ?_
  rintro r w3 ⟨rfl,rfl⟩
  refine hK.out _ _ hHeld (fun hHeld=>?_)
  clear hK K
  try simp only [J]
  (refine Jt 8 (.int .u64 (RES:Int)) rfl (yif_load1 rfl (by intro W hW;clear hW;go_simp;exact HU.out)) hHeld ?_;try simp only [J])
  (refine Jt 9 (.agg (Bt.cells ⟨wd,RES⟩).toArray) rfl (yif_load1 rfl (by intro W hW;clear hW;go_simp)) hHeld ?_;try simp only [J])
  (refine wpAnyH_ready (rs:=[10]) (by kernel_rfl) (by simp) ?_;refine AllReadyH.cons rfl (fun K hK=>?_) AllReadyH.nil)
  refine step_store_blk' rfl 60 _ _ rfl HR1.out.drew rfl (cs:=Bt.cells ⟨wd,RES⟩) rfl agg_Bits rfl rfl rfl ?_
  intro w4 hb4 hg4
  refine hK.out _ _ ⟨hHeld.1.grown hg4 (by omega),hHeld.2.1.grown hg4 (by omega),hHeld.2.2.grown hg4 (by omega)⟩ (fun hHeld=>?_)
  clear hK K
  try simp only [J]
  (refine Jt 11 (.int .i64 0) rfl (yif_load1 rfl fun _ _=>rfl) hHeld ?_;try simp only [J])
  refine wpAnyH_done (by kernel_rfl) ?_ _
  go_wp2_with ((with_reducible show bodyPost _ _ _ _ _ _);refine Hid.out ?_)
  refine Lib.hid ?_
  exact post_ret_blk2' rfl rfl rfl hb4.has agg_Bits rfl rfl ⟨rfl,hHeld.1⟩
 by_cases o18:op=18
 ·subst o18
  clear g0 g1 k0 k1 HAB H25 hop
  have hR18:=HRES.out
  rw [show binM 18 wd.toNat av bv=av / 2 ^ bv from rfl] at hR18
  rw [hR18] at HDN
  clear hR18
  go_wp2_with fail
  refine wp_region_held_drew (S:=fun W=>Ext w W∧Blk W w.heap.size (Bt.cells ⟨wd,av⟩).toArray 60∧Blk W (w.heap.size + 1) (Bt.cells ⟨bw,bv⟩).toArray 60) (by kernel_rfl) ⟨HX1.out.drew,HA1.out.drew,HB1.out.drew⟩ (fun hHeld=>?_)
  try simp only [J]
  (refine Jt 0 (.pointer (some ⟨w.heap.size,0,none⟩)) rfl (yif_load1 rfl (by intro W hW;clear hW;go_simp)) hHeld ?_;try simp only [J])
  (refine Jt 1 (.int .i64 wd) rfl (yif_load1 rfl (by intro W hW;have y:=hW.2.1.has 0 _ rfl;clear hW;go_simp)) hHeld ?_;try simp only [J])
  (refine Jt 2 (.pointer (some ⟨w.heap.size,1,none⟩)) rfl (yif_load1 rfl (by intro W hW;clear hW;go_simp)) hHeld ?_;try simp only [J])
  (refine Jt 3 (.int .u64 (av:Int)) rfl (yif_load1 rfl (by intro W hW;have y:=hW.2.1.has 1 _ rfl;clear hW;go_simp)) hHeld ?_;try simp only [J])
  (refine Jt 4 (.pointer (some ⟨w.heap.size + 1,1,none⟩)) rfl (yif_load1 rfl (by intro W hW;clear hW;go_simp)) hHeld ?_;try simp only [J])
  (refine Jt 5 (.int .u64 (bv:Int)) rfl (yif_load1 rfl (by intro W hW;have y:=hW.2.2.has 1 _ rfl;clear hW;go_simp)) hHeld ?_;try simp only [J])
  (refine wpAnyH_ready (rs:=[6]) (by kernel_rfl) (by simp) ?_;refine AllReadyH.cons rfl (fun K hK=>?_) AllReadyH.nil)
  go_simp
  refine (HDN.out _).mono ?_
  rintro r w3 ⟨rfl,rfl⟩
  refine hK.out _ _ hHeld (fun hHeld=>?_)
  clear hK K
  try simp only [J]
  (refine Jt 7 (.agg (Bt.cells ⟨wd,RES⟩).toArray) rfl (yif_load1 rfl (by intro W hW;clear hW;go_simp)) hHeld ?_;try simp only [J])
  (refine wpAnyH_ready (rs:=[8]) (by kernel_rfl) (by simp) ?_;refine AllReadyH.cons rfl (fun K hK=>?_) AllReadyH.nil)
  refine step_store_blk' rfl 60 _ _ rfl HR1.out.drew rfl (cs:=Bt.cells ⟨wd,RES⟩) rfl agg_Bits rfl rfl rfl ?_
  intro w4 hb4 hg4
  refine hK.out _ _ ⟨hHeld.1.grown hg4 (by omega),hHeld.2.1.grown hg4 (by omega),hHeld.2.2.grown hg4 (by omega)⟩ (fun hHeld=>?_)
  clear hK K
  try simp only [J]
  (refine Jt 9 (.int .i64 0) rfl (yif_load1 rfl fun _ _=>rfl) hHeld ?_;try simp only [J])
  refine wpAnyH_done (by kernel_rfl) ?_ _
  go_wp2_with ((with_reducible show bodyPost _ _ _ _ _ _);refine Hid.out ?_)
  refine Lib.hid ?_
  exact post_ret_blk2' rfl rfl rfl hb4.has agg_Bits rfl rfl ⟨rfl,hHeld.1⟩
 have hbw:=HAB.out o17 o18
 subst hbw
 have cw:(wd != wd)=false:=by simp
 have hop2:op=11 ∨ op=12 ∨ op=13 ∨ op=14 ∨ op=15 ∨ op=16 ∨ op=19 ∨ op=20 ∨ op=21 ∨ op=22 ∨ op=23 ∨ op=24 ∨ op=25 ∨ op=26:=by omega
 clear hop o17 o18 HAB HA1 HB1 HUP HDN
 rcases hop2 with rfl | rfl | rfl | rfl | rfl | rfl | rfl | rfl | rfl | rfl | rfl | rfl | rfl | rfl
 ·go_wp2_with (first | ((with_reducible show Jw (Op.store 60 _ _));refine wpList_store_blk rfl 60 _ _ rfl (HR1.out) rfl (cs:=[.int .i64 wd,.int .u64 _]) (rfl) agg_Bits (rfl) rfl (rfl) ?_;intro w4 hb4 hg4) | ((with_reducible show bodyPost _ _ _ _ _ _);refine Hid.out ?_))
  refine Lib.hid ?_
  refine post_ret_blk2' rfl rfl rfl hb4.has agg_Bits rfl rfl ⟨?_,HX1.out.grown hg4 (by omega)⟩
  rw [← HRES.out,n_and ha64 hb64]
  rfl
 ·go_wp2_with (first | ((with_reducible show Jw (Op.store 60 _ _));refine wpList_store_blk rfl 60 _ _ rfl (HR1.out) rfl (cs:=[.int .i64 wd,.int .u64 _]) (rfl) agg_Bits (rfl) rfl (rfl) ?_;intro w4 hb4 hg4) | ((with_reducible show bodyPost _ _ _ _ _ _);refine Hid.out ?_))
  refine Lib.hid ?_
  refine post_ret_blk2' rfl rfl rfl hb4.has agg_Bits rfl rfl ⟨?_,HX1.out.grown hg4 (by omega)⟩
  rw [← HRES.out,n_or' ha64 hb64]
  rfl
 ·go_wp2_with (first | ((with_reducible show Jw (Op.store 60 _ _));refine wpList_store_blk rfl 60 _ _ rfl (HR1.out) rfl (cs:=[.int .i64 wd,.int .u64 _]) (rfl) agg_Bits (rfl) rfl (rfl) ?_;intro w4 hb4 hg4) | ((with_reducible show bodyPost _ _ _ _ _ _);refine Hid.out ?_))
  refine Lib.hid ?_
  refine post_ret_blk2' rfl rfl rfl hb4.has agg_Bits rfl rfl ⟨?_,HX1.out.grown hg4 (by omega)⟩
  rw [← HRES.out,n_xor ha64 hb64]
  rfl
 ·go_wp2_with (first | ((with_reducible show Jw (Op.store 60 _ _));refine wpList_store_blk rfl 60 _ _ rfl (HR1.out) rfl (cs:=[.int .i64 wd,.int .u64 _]) (rfl) agg_Bits (rfl) rfl (rfl) ?_;intro w4 hb4 hg4) | ((with_reducible show bodyPost _ _ _ _ _ _);refine Hid.out ?_))
  refine Lib.hid ?_
  refine post_ret_blk2' rfl rfl rfl hb4.has agg_Bits rfl rfl ⟨?_,HX1.out.grown hg4 (by omega)⟩
  rw [← HRES.out,wrap_add,HAM.out _ (Nat.mod_lt _ (by decide)),mod_mod64 HW64.out]
  rfl
 ·go_wp2_with (first | ((with_reducible show Jw (Op.store 60 _ _));refine wpList_store_blk rfl 60 _ _ rfl (HR1.out) rfl (cs:=[.int .i64 wd,.int .u64 _]) (rfl) agg_Bits (rfl) rfl (rfl) ?_;intro w4 hb4 hg4) | ((with_reducible show bodyPost _ _ _ _ _ _);refine Hid.out ?_))
  refine Lib.hid ?_
  refine post_ret_blk2' rfl rfl rfl hb4.has agg_Bits rfl rfl ⟨?_,HX1.out.grown hg4 (by omega)⟩
  rw [← HRES.out,wrap_sub _ _ (by omega),HAM.out _ (Nat.mod_lt _ (by decide)),mod_mod64 HW64.out,sub_mod HW64.out b3.out]
  rfl
 ·go_wp2_with (first | ((with_reducible show Jw (Op.store 60 _ _));refine wpList_store_blk rfl 60 _ _ rfl (HR1.out) rfl (cs:=[.int .i64 wd,.int .u64 _]) (rfl) agg_Bits (rfl) rfl (rfl) ?_;intro w4 hb4 hg4) | ((with_reducible show bodyPost _ _ _ _ _ _);refine Hid.out ?_))
  refine Lib.hid ?_
  refine post_ret_blk2' rfl rfl rfl hb4.has agg_Bits rfl rfl ⟨?_,HX1.out.grown hg4 (by omega)⟩
  rw [← HRES.out,wrap_mul,HAM.out _ (Nat.mod_lt _ (by decide)),mod_mod64 HW64.out]
  rfl
 ·go_wp2_with (first | (go_at_call 68;refine (HBT.out _ _).mono ?_;rintro r w5 ⟨rfl,hx5⟩) | ((with_reducible show Jw (Op.store 60 _ _));refine wpList_store_blk rfl 60 _ _ rfl (HR1.out.ext hx5) rfl (cs:=Bt.cells ⟨1,b2n _⟩) (rfl) agg_Bits (rfl) rfl (rfl) ?_;intro w4 hb4 hg4) | ((with_reducible show bodyPost _ _ _ _ _ _);refine Hid.out ?_))
  refine Lib.hid ?_
  refine post_ret_blk2' rfl rfl rfl hb4.has agg_Bits rfl rfl ⟨?_,(HX1.out.trans hx5).grown hg4 (by omega)⟩
  rw [← HRES.out,show binM 19 wd.toNat av bv=b2n (decide (av=bv)) from rfl,← beq_nat]
  rfl
 ·go_wp2_with (first | (go_at_call 68;refine (HBT.out _ _).mono ?_;rintro r w5 ⟨rfl,hx5⟩) | ((with_reducible show Jw (Op.store 60 _ _));refine wpList_store_blk rfl 60 _ _ rfl (HR1.out.ext hx5) rfl (cs:=Bt.cells ⟨1,b2n _⟩) (rfl) agg_Bits (rfl) rfl (rfl) ?_;intro w4 hb4 hg4) | ((with_reducible show bodyPost _ _ _ _ _ _);refine Hid.out ?_))
  refine Lib.hid ?_
  refine post_ret_blk2' rfl rfl rfl hb4.has agg_Bits rfl rfl ⟨?_,(HX1.out.trans hx5).grown hg4 (by omega)⟩
  rw [← HRES.out,show binM 20 wd.toNat av bv=b2n (decide (av ≠ bv)) from rfl,bne_nat]
  rfl
 ·go_wp2_with (first | (go_at_call 68;refine (HBT.out _ _).mono ?_;rintro r w5 ⟨rfl,hx5⟩) | ((with_reducible show Jw (Op.store 60 _ _));refine wpList_store_blk rfl 60 _ _ rfl (HR1.out.ext hx5) rfl (cs:=Bt.cells ⟨1,b2n _⟩) (rfl) agg_Bits (rfl) rfl (rfl) ?_;intro w4 hb4 hg4) | ((with_reducible show bodyPost _ _ _ _ _ _);refine Hid.out ?_))
  refine Lib.hid ?_
  refine post_ret_blk2' rfl rfl rfl hb4.has agg_Bits rfl rfl ⟨?_,(HX1.out.trans hx5).grown hg4 (by omega)⟩
  rw [← HRES.out,show binM 21 wd.toNat av bv=b2n (decide (av < bv)) from rfl]
  rfl
 ·go_wp2_with (first | (go_at_call 68;refine (HBT.out _ _).mono ?_;rintro r w5 ⟨rfl,hx5⟩) | ((with_reducible show Jw (Op.store 60 _ _));refine wpList_store_blk rfl 60 _ _ rfl (HR1.out.ext hx5) rfl (cs:=Bt.cells ⟨1,b2n _⟩) (rfl) agg_Bits (rfl) rfl (rfl) ?_;intro w4 hb4 hg4) | ((with_reducible show bodyPost _ _ _ _ _ _);refine Hid.out ?_))
  refine Lib.hid ?_
  refine post_ret_blk2' rfl rfl rfl hb4.has agg_Bits rfl rfl ⟨?_,(HX1.out.trans hx5).grown hg4 (by omega)⟩
  rw [← HRES.out,show binM 22 wd.toNat av bv=b2n (decide (av ≤ bv)) from rfl]
  rfl
 ·go_wp2_with (first | (go_at_call 68;refine (HBT.out _ _).mono ?_;rintro r w5 ⟨rfl,hx5⟩) | ((with_reducible show Jw (Op.store 60 _ _));refine wpList_store_blk rfl 60 _ _ rfl (HR1.out.ext hx5) rfl (cs:=Bt.cells ⟨1,b2n _⟩) (rfl) agg_Bits (rfl) rfl (rfl) ?_;intro w4 hb4 hg4) | ((with_reducible show bodyPost _ _ _ _ _ _);refine Hid.out ?_))
  refine Lib.hid ?_
  refine post_ret_blk2' rfl rfl rfl hb4.has agg_Bits rfl rfl ⟨?_,(HX1.out.trans hx5).grown hg4 (by omega)⟩
  rw [← HRES.out,show binM 23 wd.toNat av bv=b2n (decide (bv < av)) from rfl]
  rfl
 ·go_wp2_with (first | (go_at_call 68;refine (HBT.out _ _).mono ?_;rintro r w5 ⟨rfl,hx5⟩) | ((with_reducible show Jw (Op.store 60 _ _));refine wpList_store_blk rfl 60 _ _ rfl (HR1.out.ext hx5) rfl (cs:=Bt.cells ⟨1,b2n _⟩) (rfl) agg_Bits (rfl) rfl (rfl) ?_;intro w4 hb4 hg4) | ((with_reducible show bodyPost _ _ _ _ _ _);refine Hid.out ?_))
  refine Lib.hid ?_
  refine post_ret_blk2' rfl rfl rfl hb4.has agg_Bits rfl rfl ⟨?_,(HX1.out.trans hx5).grown hg4 (by omega)⟩
  rw [← HRES.out,show binM 24 wd.toNat av bv=b2n (decide (bv ≤ av)) from rfl]
  rfl
 ·obtain rfl:=H25.out (by decide)
  have h0:av=0 ∨ av=1:=by have:=a3.out;simp at this;omega
  have h1:bv=0 ∨ bv=1:=by have:=b3.out;simp at this;omega
  rcases h0 with rfl | rfl
  all_goals rcases h1 with rfl | rfl
  all_goals go_wp2_with (first | (go_at_call 68;refine (HBT.out _ _).mono ?_;rintro r w5 ⟨rfl,hx5⟩) | ((with_reducible show Jw (Op.store 60 _ _));refine wpList_store_blk rfl 60 _ _ rfl (HR1.out.ext hx5) rfl (cs:=Bt.cells ⟨1,b2n _⟩) (rfl) agg_Bits (rfl) rfl (rfl) ?_;intro w4 hb4 hg4) | ((with_reducible show bodyPost _ _ _ _ _ _);refine Hid.out ?_))
  all_goals refine Lib.hid ?_
  all_goals refine post_ret_blk2' rfl rfl rfl hb4.has agg_Bits rfl rfl ⟨?_,(HX1.out.trans hx5).grown hg4 (by omega)⟩
  all_goals rw [← HRES.out]
  all_goals rfl
 ·obtain rfl:=H25.out (by decide)
  have h0:av=0 ∨ av=1:=by have:=a3.out;simp at this;omega
  have h1:bv=0 ∨ bv=1:=by have:=b3.out;simp at this;omega
  rcases h0 with rfl | rfl
  all_goals rcases h1 with rfl | rfl
  all_goals go_wp2_with (first | (go_at_call 68;refine (HBT.out _ _).mono ?_;rintro r w5 ⟨rfl,hx5⟩) | ((with_reducible show Jw (Op.store 60 _ _));refine wpList_store_blk rfl 60 _ _ rfl (HR1.out.ext hx5) rfl (cs:=Bt.cells ⟨1,b2n _⟩) (rfl) agg_Bits (rfl) rfl (rfl) ?_;intro w4 hb4 hg4) | ((with_reducible show bodyPost _ _ _ _ _ _);refine Hid.out ?_))
  all_goals refine Lib.hid ?_
  all_goals refine post_ret_blk2' rfl rfl rfl hb4.has agg_Bits rfl rfl ⟨?_,(HX1.out.trans hx5).grown hg4 (by omega)⟩
  all_goals rw [← HRES.out]
  all_goals rfl
open Go.RowKit
set_option maxRecDepth 100000 in
set_option maxHeartbeats 1000000 in
theorem CondR_calls (c a b:Bt) (hc:c.ok) (ha:a.ok) (hb:b.ok) (hc1:c.w=1) (hab:a.w=b.w) (w:World) :
  Calls Tryz.prog 94 #[.agg c.cells.toArray,.agg a.cells.toArray,.agg b.cells.toArray] w (BtPost w ⟨a.w,if c.v=1 then a.v else b.v⟩):=by
 have x1:=ext_alloc w (.cells c.cells.toArray 60)
 have x2:=ext_alloc (w.alloc (.cells c.cells.toArray 60)) (.cells a.cells.toArray 60)
 have x3:=ext_alloc ((w.alloc (.cells c.cells.toArray 60)).alloc (.cells a.cells.toArray 60)) (.cells b.cells.toArray 60)
 have x4:=ext_alloc (((w.alloc (.cells c.cells.toArray 60)).alloc (.cells a.cells.toArray 60)).alloc (.cells b.cells.toArray 60)) (.cells #[.int .i64 0,.int .u64 0] 60)
 have hC:=(((Blk.new w c.cells.toArray 60).ext x2).ext x3).ext x4
 have hA:=((Blk.new (w.alloc (.cells c.cells.toArray 60)) a.cells.toArray 60).ext x3).ext x4
 have hB:=(Blk.new ((w.alloc (.cells c.cells.toArray 60)).alloc (.cells a.cells.toArray 60)) b.cells.toArray 60).ext x4
 have hR:=Blk.new (((w.alloc (.cells c.cells.toArray 60)).alloc (.cells a.cells.toArray 60)).alloc (.cells b.cells.toArray 60)) #[.int .i64 0,.int .u64 0] 60
 have hX:=((x1.trans x2).trans x3).trans x4
 simp only [World.size_alloc] at hA hB hR
 clear x1 x2 x3 x4
 have HCC:=Lib.hid (fun W=>CheckR_calls c hc W)
 have HCA:=Lib.hid (fun W=>CheckR_calls a ha W)
 have HCB:=Lib.hid (fun W=>CheckR_calls b hb W)
 clear hc ha hb
 obtain ⟨cw,cv⟩:=c
 obtain ⟨wd,av⟩:=a
 obtain ⟨bw,bv⟩:=b
 simp only at hc1 hab
 subst hc1
 subst hab
 have cw:(wd != wd)=false:=by simp
 obtain ⟨tv,htv⟩ : ∃ tv,(if cv=1 then av else bv)=tv:=⟨_,rfl⟩
 have HTV:=Lib.hid htv
 rw [htv]
 clear htv
 go_enter Tryz.func94,Tryz.ntmps94
 go_upto_region 1 with fail
 generalize (((w.alloc _).alloc _).alloc _).alloc _=w0 at *
 have c0:=hC.has
 have HA:=Lib.hid hA
 have HB:=Lib.hid hB
 have HC:=Lib.hid hC
 have HR:=Lib.hid hR
 have HX:=Lib.hid hX
 clear hA hB hC hR hX
 go_upto_region 3 with (first | ((with_reducible show Jw (Op.load 60 _));refine wpList_load_has rfl 60 _ rfl rfl (c0) agg_Bits rfl ?_) | (go_at_call 65;refine (HCC.out _).mono ?_;rintro r w1 ⟨rfl,hx1⟩;have a1:=(HA.out.ext hx1).has;clear HCC) | ((with_reducible show Jw (Op.load 60 _));refine wpList_load_has rfl 60 _ rfl rfl (a1) agg_Bits rfl ?_) | (go_at_call 65;refine (HCA.out _).mono ?_;rintro r w2 ⟨rfl,hx2⟩;have b2:=(HB.out.ext (hx1.trans hx2)).has;clear HCA) | ((with_reducible show Jw (Op.load 60 _));refine wpList_load_has rfl 60 _ rfl rfl (b2) agg_Bits rfl ?_) | (go_at_call 65;refine (HCB.out _).mono ?_;rintro r w3 ⟨rfl,hx3⟩;have z0:=(HC.out.ext ((hx1.trans hx2).trans hx3)).has 0 _ rfl;have z1:=(HC.out.ext ((hx1.trans hx2).trans hx3)).has 1 _ rfl;have z2:=(HA.out.ext ((hx1.trans hx2).trans hx3)).has 0 _ rfl;have z3:=(HB.out.ext ((hx1.trans hx2).trans hx3)).has 0 _ rfl))
 have HXX:=Lib.hid ((hx1.trans hx2).trans hx3)
 have a3:=(HA.out.ext HXX.out).has
 have b3:=(HB.out.ext HXX.out).has
 clear hx1 hx2 hx3 c0 a1 b2
 by_cases h1:cv=1
 ·have b1:((cv:Int) == 1)=true:=by rw [beq_iff_eq];omega
  obtain rfl:tv=av:=by rw [← HTV.out,if_pos h1]
  clear h1 HTV
  go_wp2_with (first | ((with_reducible show Jw (Op.load 60 _));refine wpList_load_has rfl 60 _ rfl rfl (a3) agg_Bits rfl ?_) | ((with_reducible show Jw (Op.store 60 _ _));refine wpList_store_blk rfl 60 _ _ rfl (HR.out.ext HXX.out) rfl (cs:=Bt.cells ⟨wd,tv⟩) (rfl) agg_Bits (rfl) rfl (rfl) ?_;intro w4 hb4 hg4) | ((with_reducible show bodyPost _ _ _ _ _ _);refine Hid.out ?_))
  refine Lib.hid ?_
  exact post_ret_blk2' rfl rfl rfl hb4.has agg_Bits rfl rfl ⟨rfl,(HX.out.trans HXX.out).grown hg4 (by omega)⟩
 ·have b1:((cv:Int) == 1)=false:=by rw [beq_eq_false_iff_ne];omega
  obtain rfl:tv=bv:=by rw [← HTV.out,if_neg h1]
  clear h1 HTV
  go_wp2_with (first | ((with_reducible show Jw (Op.load 60 _));refine wpList_load_has rfl 60 _ rfl rfl (b3) agg_Bits rfl ?_) | ((with_reducible show Jw (Op.store 60 _ _));refine wpList_store_blk rfl 60 _ _ rfl (HR.out.ext HXX.out) rfl (cs:=Bt.cells ⟨wd,tv⟩) (rfl) agg_Bits (rfl) rfl (rfl) ?_;intro w4 hb4 hg4) | ((with_reducible show bodyPost _ _ _ _ _ _);refine Hid.out ?_))
  refine Lib.hid ?_
  exact post_ret_blk2' rfl rfl rfl hb4.has agg_Bits rfl rfl ⟨rfl,(HX.out.trans HXX.out).grown hg4 (by omega)⟩
theorem top_bit {A v:Nat} (hv:v < 2 ^ (A + 1)):v / 2 ^ A=if 2 ^ A ≤ v then 1 else 0:=by
 have h0:=Nat.two_pow_pos A
 rw [Nat.pow_succ] at hv
 by_cases h:2 ^ A ≤ v
 ·rw [if_pos h]
  have h1:1 ≤ v / 2 ^ A:=(Nat.le_div_iff_mul_le h0).2 (by omega)
  have h2:v / 2 ^ A < 2:=(Nat.div_lt_iff_lt_mul h0).2 (by omega)
  omega
 ·rw [if_neg h,Nat.div_eq_of_lt (by omega)]
theorem or_top {v wa wd:Nat} (hv:v < 2 ^ wa) (h:wa ≤ wd):v ||| (2 ^ wd - 1 - (2 ^ wa - 1))=v + (2 ^ wd - 2 ^ wa):=by
 have h0:=Nat.two_pow_pos wa
 have h1:=Nat.pow_le_pow_right (n:=2) (by decide) h
 have e:2 ^ wd - 1 - (2 ^ wa - 1)=2 ^ wa * (2 ^ (wd - wa) - 1):=by
  rw [Nat.mul_sub,← Nat.pow_add,show wa + (wd - wa)=wd by omega]
  omega
 have e2:2 ^ wd - 2 ^ wa=2 ^ wa * (2 ^ (wd - wa) - 1):=by omega
 rw [e,e2,Nat.or_comm,← Nat.two_pow_add_eq_or_of_lt hv,Nat.add_comm]
set_option maxRecDepth 100000 in
set_option maxHeartbeats 2000000 in
theorem ExtR_calls (op wd:Int) (h1:31 ≤ op) (h3:op ≤ 33) (h0:1 ≤ wd) (h64:wd ≤ 64) (a:Bt) (ha:a.ok) (hz:op ≠ 33→a.w ≤ wd) (hc:op=33→wd ≤ a.w) (w:World) :
  Calls Tryz.prog 96 #[.int .i64 op,.int .i64 wd,.agg a.cells.toArray] w (BtPost w ⟨wd,extN op wd.toNat a.w.toNat a.v⟩):=by
 have HX:=Lib.hid ((ext_alloc w (.cells a.cells.toArray 60)).trans (ext_alloc _ (.cells #[.int .i64 0,.int .u64 0] 60)))
 have hD:=(Blk.new w a.cells.toArray 60).ext (ext_alloc _ (.cells #[.int .i64 0,.int .u64 0] 60))
 have hR:=Blk.new (w.alloc (.cells a.cells.toArray 60)) #[.int .i64 0,.int .u64 0] 60
 rw [show (w.alloc (.cells a.cells.toArray 60)).heap.size=w.heap.size + 1 by simp] at hR
 have HCK:=Lib.hid (fun W=>CheckR_calls a ha W)
 have HMA:=Lib.hid (fun W=>MaskR_calls a.w ha.1 ha.2.1 W)
 have HMW:=Lib.hid (fun W=>MaskR_calls wd h0 h64 W)
 have hv64:=Bt.lt64 ha
 have a1:=ha.1
 have a2:=ha.2.1
 have hv:=ha.2.2
 clear ha
 obtain ⟨wa,v⟩:=a
 simp only at a1 a2 hv hz hc hv64 HMA
 have c1:decide (wd < 1)=false:=decide_eq_false (by omega)
 have c2:decide (64 < wd)=false:=decide_eq_false (by omega)
 obtain ⟨RES,hres⟩ : ∃ r,extN op wd.toNat wa.toNat v=r:=⟨_,rfl⟩
 have HRES:=Lib.hid hres
 rw [hres]
 clear hres
 go_enter Tryz.func96,Tryz.ntmps96
 go_upto_region 1 with fail
 generalize (w.alloc _).alloc _=w0 at *
 have hD1:=hD.has
 have HD:=Lib.hid hD
 have HR:=Lib.hid hR
 clear hD hR
 go_upto_region 3 with (first | ((with_reducible show Jw (Op.load 60 _));refine wpList_load_has rfl 60 _ rfl rfl (hD1) agg_Bits rfl ?_) | (go_at_call 65;refine (HCK.out _).mono ?_;rintro r w1 ⟨rfl,hx1⟩;have g0:=(HD.out.ext hx1).has 0 _ rfl;have g1:=(HD.out.ext hx1).has 1 _ rfl))
 have HD1:=Lib.hid (HD.out.ext hx1)
 have HR1:=Lib.hid (HR.out.ext hx1)
 have HX1:=Lib.hid (HX.out.trans hx1)
 clear hx1 hD1 HD HR HX HCK c1 c2
 have hop:op=31 ∨ op=32 ∨ op=33:=by omega
 clear h1 h3
 rcases hop with rfl | rfl | rfl
 ·have b3:decide (wa ≤ wd)=true:=decide_eq_true (hz (by decide))
  clear hz hc
  go_wp2_with (first | ((with_reducible show Jw (Op.store 60 _ _));refine wpList_store_blk rfl 60 _ _ rfl (HR1.out) rfl (cs:=Bt.cells ⟨wd,v⟩) (rfl) agg_Bits (rfl) rfl (rfl) ?_;intro w4 hb4 hg4) | ((with_reducible show bodyPost _ _ _ _ _ _);refine Hid.out ?_))
  refine Lib.hid ?_
  exact post_ret_blk2' rfl rfl rfl hb4.has agg_Bits rfl rfl ⟨by rw [← HRES.out];rfl,HX1.out.grown hg4 (by omega)⟩
 ·have hle:=hz (by decide)
  have b3:decide (wa ≤ wd)=true:=decide_eq_true hle
  clear hz hc
  obtain ⟨A,rfl⟩ : ∃ A:Nat,wa=((A + 1:Nat):Int):=⟨(wa - 1).toNat,by omega⟩
  rw [Int.toNat_natCast] at hv HMA
  have ht:=top_bit hv
  have hs:=n_shr v A
  have ho:=or_top hv (show A + 1 ≤ wd.toNat by omega)
  have hRES:extN 32 wd.toNat (((A + 1:Nat):Int)).toNat v=if 2 ^ A ≤ v then v + (2 ^ wd.toNat - 2 ^ (A + 1)) else v:=by
   unfold extN
   rw [Int.toNat_natCast,Nat.add_sub_cancel]
   by_cases h:2 ^ A ≤ v
   ·rw [if_pos ⟨rfl,h⟩,if_pos h]
   ·rw [if_neg (fun hh=>h hh.2),if_neg (by decide),if_neg h]
  have HM1:2 ^ (A + 1) - 1 ≤ 2 ^ wd.toNat - 1:=by
   have:=Nat.pow_le_pow_right (n:=2) (by decide) (show A + 1 ≤ wd.toNat by omega)
   omega
  have HM2:2 ^ wd.toNat - 1 < 18446744073709551616:=by
   have:=Nat.pow_le_pow_right (n:=2) (by decide) (show wd.toNat ≤ 64 by omega)
   omega
  rw [HRES.out] at hRES
  clear HRES
  by_cases h:2 ^ A ≤ v
  ·rw [if_pos h] at ht
   rw [if_pos h,← ho] at hRES
   rw [ht] at hs
   obtain ⟨m1,hm1⟩ : ∃ m,2 ^ (A + 1) - 1=m:=⟨_,rfl⟩
   obtain ⟨m2,hm2⟩ : ∃ m,2 ^ wd.toNat - 1=m:=⟨_,rfl⟩
   rw [hm1] at HMA HM1
   rw [hm2] at HMW HM1 HM2
   rw [hm1,hm2] at hRES
   have E:=Lib.hid (n_or' hv64 (show m2 - m1 < 18446744073709551616 by omega))
   have HS:=Lib.hid (show IntKind.u64.wrap ((m2:Int) - (m1:Int))=((m2 - m1:Nat):Int) by rw [IntKind.wrap_u64];omega)
   rw [← hRES] at E
   clear hRES
   generalize m2 - m1=D at *
   clear ho hm1 hm2 ht h HM1 HM2 hv
   go_wp2_with fail
   refine wp_region_held_drew (S:=fun W=>Ext w W∧Blk W w.heap.size (Bt.cells ⟨((A + 1:Nat):Int),v⟩).toArray 60) (by kernel_rfl) ⟨HX1.out.drew,HD1.out.drew⟩ (fun hHeld=>?_)
   try simp only [J]
   (refine Jt 0 (.int .i64 wd) rfl (yif_load1 rfl fun _ _=>rfl) hHeld ?_;try simp only [J])
   (refine Jt 1 (.pointer (some ⟨w.heap.size,1,none⟩)) rfl (yif_load1 rfl (by intro W hW;clear hW;go_simp)) hHeld ?_;try simp only [J])
   (refine Jt 2 (.int .u64 (v:Int)) rfl (yif_load1 rfl (by intro W hW;have y:=hW.2.has 1 _ rfl;clear hW;go_simp)) hHeld ?_;try simp only [J])
   (refine Jt 3 (.int .i64 wd) rfl (yif_load1 rfl fun _ _=>rfl) hHeld ?_;try simp only [J])
   (refine Jt 5 (.pointer (some ⟨w.heap.size,0,none⟩)) rfl (yif_load1 rfl (by intro W hW;clear hW;go_simp)) hHeld ?_;try simp only [J])
   (refine Jt 6 (.int .i64 ((A + 1:Nat):Int)) rfl (yif_load1 rfl (by intro W hW;have y:=hW.2.has 0 _ rfl;clear hW;go_simp)) hHeld ?_;try simp only [J])
   (refine wpAnyH_ready (rs:=[4]) (by kernel_rfl) (by simp) ?_;refine AllReadyH.cons rfl (fun K hK=>?_) AllReadyH.nil)
   go_simp
   refine (HMW.out _).mono ?_
   rintro r w3 ⟨rfl,rfl⟩
   refine hK.out _ _ hHeld (fun hHeld=>?_)
   clear hK K
   try simp only [J]
   (refine wpAnyH_ready (rs:=[7]) (by kernel_rfl) (by simp) ?_;refine AllReadyH.cons rfl (fun K hK=>?_) AllReadyH.nil)
   go_simp
   refine (HMA.out _).mono ?_
   rintro r w3 ⟨rfl,rfl⟩
   refine hK.out _ _ hHeld (fun hHeld=>?_)
   clear hK K
   try simp only [J]
   (refine Jt 8 (.int .u64 (D:Int)) rfl (yif_load1 rfl (by intro W hW;clear hW;go_simp;exact HS.out)) hHeld ?_;try simp only [J])
   (refine Jt 9 (.int .u64 (RES:Int)) rfl (yif_load1 rfl (by intro W hW;clear hW;go_simp;exact E.out)) hHeld ?_;try simp only [J])
   (refine Jt 10 (.agg (Bt.cells ⟨wd,RES⟩).toArray) rfl (yif_load1 rfl (by intro W hW;clear hW;go_simp)) hHeld ?_;try simp only [J])
   (refine wpAnyH_ready (rs:=[11]) (by kernel_rfl) (by simp) ?_;refine AllReadyH.cons rfl (fun K hK=>?_) AllReadyH.nil)
   refine step_store_blk' rfl 60 _ _ rfl HR1.out.drew rfl (cs:=Bt.cells ⟨wd,RES⟩) rfl agg_Bits rfl rfl rfl ?_
   intro w4 hb4 hg4
   refine hK.out _ _ ⟨hHeld.1.grown hg4 (by omega),hHeld.2.grown hg4 (by omega)⟩ (fun hHeld=>?_)
   clear hK K
   try simp only [J]
   (refine Jt 12 (.int .i64 0) rfl (yif_load1 rfl fun _ _=>rfl) hHeld ?_;try simp only [J])
   refine wpAnyH_done (by kernel_rfl) ?_ _
   go_wp2_with ((with_reducible show bodyPost _ _ _ _ _ _);refine Hid.out ?_)
   refine Lib.hid ?_
   exact post_ret_blk2' rfl rfl rfl hb4.has agg_Bits rfl rfl ⟨rfl,hHeld.1⟩
  ·rw [if_neg h] at ht
   rw [if_neg h] at hRES
   subst hRES
   rw [ht] at hs
   clear ho ht h HM1 HM2 hv
   go_wp2_with (first | ((with_reducible show Jw (Op.store 60 _ _));refine wpList_store_blk rfl 60 _ _ rfl (HR1.out) rfl (cs:=Bt.cells ⟨wd,RES⟩) (rfl) agg_Bits (rfl) rfl (rfl) ?_;intro w4 hb4 hg4) | ((with_reducible show bodyPost _ _ _ _ _ _);refine Hid.out ?_))
   refine Lib.hid ?_
   exact post_ret_blk2' rfl rfl rfl hb4.has agg_Bits rfl rfl ⟨rfl,HX1.out.grown hg4 (by omega)⟩
 ·have b3:decide (wd ≤ wa)=true:=decide_eq_true (hc rfl)
  have he:=and_maskN hv64 (show wd.toNat ≤ 64 by omega)
  have hRES:=HRES.out
  rw [show extN 33 wd.toNat wa.toNat v=v % 2 ^ wd.toNat from by simp [extN]] at hRES
  clear HRES
  obtain ⟨M,hM⟩ : ∃ M,2 ^ wd.toNat - 1=M:=⟨_,rfl⟩
  rw [hM] at HMW he
  rw [hRES] at he
  clear hRES
  have E:=Lib.hid he
  clear he hM hz hc hv
  go_wp2_with fail
  refine wp_region_held_drew (S:=fun W=>Ext w W∧Blk W w.heap.size (Bt.cells ⟨wa,v⟩).toArray 60) (by kernel_rfl) ⟨HX1.out.drew,HD1.out.drew⟩ (fun hHeld=>?_)
  try simp only [J]
  (refine Jt 0 (.int .i64 wd) rfl (yif_load1 rfl fun _ _=>rfl) hHeld ?_;try simp only [J])
  (refine Jt 1 (.pointer (some ⟨w.heap.size,1,none⟩)) rfl (yif_load1 rfl (by intro W hW;clear hW;go_simp)) hHeld ?_;try simp only [J])
  (refine Jt 2 (.int .u64 (v:Int)) rfl (yif_load1 rfl (by intro W hW;have y:=hW.2.has 1 _ rfl;clear hW;go_simp)) hHeld ?_;try simp only [J])
  (refine Jt 3 (.int .i64 wd) rfl (yif_load1 rfl fun _ _=>rfl) hHeld ?_;try simp only [J])
  (refine wpAnyH_ready (rs:=[4]) (by kernel_rfl) (by simp) ?_;refine AllReadyH.cons rfl (fun K hK=>?_) AllReadyH.nil)
  go_simp
  refine (HMW.out _).mono ?_
  rintro r w3 ⟨rfl,rfl⟩
  refine hK.out _ _ hHeld (fun hHeld=>?_)
  clear hK K
  try simp only [J]
  (refine Jt 5 (.int .u64 (RES:Int)) rfl (yif_load1 rfl (by intro W hW;clear hW;go_simp;exact E.out)) hHeld ?_;try simp only [J])
  (refine Jt 6 (.agg (Bt.cells ⟨wd,RES⟩).toArray) rfl (yif_load1 rfl (by intro W hW;clear hW;go_simp)) hHeld ?_;try simp only [J])
  (refine wpAnyH_ready (rs:=[7]) (by kernel_rfl) (by simp) ?_;refine AllReadyH.cons rfl (fun K hK=>?_) AllReadyH.nil)
  refine step_store_blk' rfl 60 _ _ rfl HR1.out.drew rfl (cs:=Bt.cells ⟨wd,RES⟩) rfl agg_Bits rfl rfl rfl ?_
  intro w4 hb4 hg4
  refine hK.out _ _ ⟨hHeld.1.grown hg4 (by omega),hHeld.2.grown hg4 (by omega)⟩ (fun hHeld=>?_)
  clear hK K
  try simp only [J]
  (refine Jt 8 (.int .i64 0) rfl (yif_load1 rfl fun _ _=>rfl) hHeld ?_;try simp only [J])
  refine wpAnyH_done (by kernel_rfl) ?_ _
  go_wp2_with ((with_reducible show bodyPost _ _ _ _ _ _);refine Hid.out ?_)
  refine Lib.hid ?_
  exact post_ret_blk2' rfl rfl rfl hb4.has agg_Bits rfl rfl ⟨rfl,hHeld.1⟩
end Go.Proofs.YtemabheegnngdaaGreat
