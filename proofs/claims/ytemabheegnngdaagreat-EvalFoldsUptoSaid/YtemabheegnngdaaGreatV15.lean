/- Laws and walks that a claim of this seat leans on: Bitv6, EvL, Bitv4, Pair1, Inv. -/
import Derived.Test.YtemabheegnngdaaGreatV13
import Derived.Test.YtemabheegnngdaaGreatV14
import Derived.Test.YtemabheegnngdaaGreatV03
import Derived.Test.YtemabheegnngdaaGreatV00
set_option linter.all false
namespace Go.Proofs.YtemabheegnngdaaGreat
open Go.RowKit
def catP (l:List Bt):List (Int × Nat):=l.map fun b=>(b.w,b.v)
def catW (l:List Bt):Int:=(l.map (·.w)).sum
theorem catM_snoc (l:List (Int × Nat)) (p:Int × Nat):∀ acc,catM (l ++ [p]) acc=catM l acc * 2 ^ p.1.toNat + p.2:=by
 induction l with
 | nil=>intro acc;rfl
 | cons q l ih=>intro acc;exact ih _
theorem cat_lt (l:List Bt) (h:∀ x ∈ l,x.ok):0 ≤ catW l∧catM (catP l) 0 < 2 ^ (catW l).toNat:=by
 have hs:0 ≤ catW l∧(catW l).toNat=((catP l).map fun p=>p.1.toNat).sum:=by
  unfold catW catP
  induction l with
  | nil=>simp
  | cons x l ih =>
   have:=(h x (by simp)).1
   obtain ⟨h1,h2⟩:=ih fun y hy=>h y (by simp [hy])
   simp only [List.map_cons,List.sum_cons]
   simp only [List.map_map] at h2 ⊢
   omega
 refine ⟨hs.1,?_⟩
 have:=catM_lt (catP l) 0 0 (by decide) (by
  intro p hp
  obtain ⟨x,hx,rfl⟩:=List.mem_map.1 hp
  exact (h x hx).2.2)
 rw [hs.2];simpa using this
theorem n_or {a b:Nat} (ha:a < 2 ^ 64) (hb:b < 2 ^ 64):bits .or .u64 (a:Int) (b:Int)=((a ||| b:Nat):Int) :=
 (bits_nat .u64 64 (by decide) (fun n h0 h1=>by rw [IntKind.wrap_u64];omega) a b ha hb).2
theorem cat_step {acc j bw bv:Nat} (h1:acc < 2 ^ j) (h2:bv < 2 ^ bw) (h3:j + bw ≤ 64) :
  IntKind.u64.wrap ((acc:Int) * 2 ^ bw)=((acc * 2 ^ bw:Nat):Int)∧bits .or .u64 ((acc * 2 ^ bw:Nat):Int) (bv:Int)=((acc * 2 ^ bw + bv:Nat):Int):=by
 have h4:acc * 2 ^ bw + bv < 2 ^ (j + bw):=by
  rw [Nat.pow_add]
  have:(acc + 1) * 2 ^ bw ≤ 2 ^ j * 2 ^ bw:=Nat.mul_le_mul_right _ h1
  rw [Nat.add_mul] at this
  omega
 have h5:2 ^ (j + bw) ≤ 18446744073709551616:=Nat.pow_le_pow_right (n:=2) (by decide) h3
 constructor
 ·rw [IntKind.wrap_u64,show ((acc:Int) * 2 ^ bw)=((acc * 2 ^ bw:Nat):Int) by norm_cast]
  omega
 ·rw [n_or (by omega) (by omega)]
  congr 1
  rw [Nat.mul_comm,← Nat.two_pow_add_eq_or_of_lt h2]
theorem cat_take (l:List Bt) (h:∀ x ∈ l,x.ok) (k:Nat) (hk:k < l.length):catW (l.take (k + 1))=catW (l.take k) + l[k].w∧catM (catP (l.take (k + 1))) 0=catM (catP (l.take k)) 0 * 2 ^ l[k].w.toNat + l[k].v∧catW (l.take (k + 1)) ≤ catW l:=by
 have e:l.take (k + 1)=l.take k ++ [l[k]]:=by rw [List.take_succ,List.getElem?_eq_getElem hk];rfl
 refine ⟨by unfold catW;rw [e,List.map_append,List.sum_append,List.map_cons,List.map_nil,List.sum_cons,List.sum_nil,Int.add_zero],?_,?_⟩
 ·rw [e,catP,List.map_append,List.map_cons,List.map_nil,catM_snoc];rfl
 ·have h1:catW l=catW (l.take (k + 1)) + catW (l.drop (k + 1)):=by
   unfold catW
   rw [← List.sum_append,← List.map_append,List.take_append_drop]
  have h2:=(cat_lt (l.drop (k + 1)) (fun x hx=>h x (List.mem_of_mem_drop hx))).1
  omega
set_option maxRecDepth 100000 in
set_option maxHeartbeats 1000000 in
theorem Cat_calls (l:List Bt) (hok:∀ x ∈ l,x.ok) (hne:l ≠ []) (hw:catW l ≤ 64) (s:Value) (w:World) (h:Bts w s l) :
  Calls Tryz.prog 90 #[s] w (BtPost w ⟨catW l,catM (catP l) 0⟩):=by
 have HX:=ext_alloc w (.cells #[.int .i64 0,.int .u64 0] 60)
 have hR:=Blk.new w #[.int .i64 0,.int .u64 0] 60
 have HAL:=Lib.hid (fun (W:World) (h:Bts W s l)=>all_calls l hok s W h)
 have HOK:=Lib.hid hok
 have HW:=Lib.hid hw
 have HB:=Lib.hid h
 have hl0:0 < l.length:=List.length_pos_iff.2 hne
 obtain ⟨a,b,o,cap,hs,hc1,hc2,ha,hr⟩:=h.open
 subst hs
 clear hok hw hne h
 have b1:((l.length:Int) == 0)=false:=by rw [beq_eq_false_iff_ne];omega
 go_enter Tryz.func90,Tryz.ntmps90
 go_upto_region 1 with fail
 generalize w.alloc _=w0 at *
 obtain rfl:=ha hl0
 clear ha
 go_wp2_with (first | (go_at_call 147;refine (HAL.out _ (HB.out.ext HX)).mono ?_;rintro r w1 ⟨rfl,hx1⟩))
 have hR1:=hR.ext hx1
 go_loopw [5,17] (fun _ i wr=>∃ k:Nat,k ≤ l.length∧i=.int .i64 k∧Ext w wr∧Blk wr w.heap.size (Bt.cells ⟨catW (l.take k),catM (catP (l.take k)) 0⟩).toArray 60) (fun _ i _=>l.length - (intOf i).toNat)
 case atStart=>exact ⟨0,Nat.zero_le _,rfl,HX.trans hx1,hR1⟩
 case round =>
  obtain ⟨k,hk,rfl,hB,hRk⟩:=hrel
  by_cases hlt:k < l.length
  ·have he:=(Bts.get hr hlt).ext hB
   obtain ⟨t1,t2,t3⟩:=cat_take l HOK.out k hlt
   have hxo:=HOK.out _ (List.getElem_mem hlt)
   obtain ⟨z1,z2⟩:=cat_lt (l.take k) (fun x hx=>HOK.out x (List.mem_of_mem_take hx))
   have hw64:=HW.out
   generalize l[k]=x at *
   rw [t1] at t3
   obtain ⟨e1,e2⟩:=cat_step z2 hxo.2.2 (by have:=hxo.1;omega)
   have hxl:=Bt.lt64 hxo
   have hx1:=hxo.1
   have hx2:=hxo.2.1
   have T1:=Lib.hid t1
   have T2:=Lib.hid t2
   have E1:=Lib.hid e1
   have E2:=Lib.hid e2
   generalize catW (l.take k)=s0 at *
   generalize catM (catP (l.take k)) 0=a0 at *
   generalize a0 * 2 ^ x.w.toNat=m0 at *
   clear t1 t2 z2 e1 e2 hxo
   obtain ⟨xw,xv⟩:=x
   simp only at *
   have hex:=ext_alloc wr (.cells (Bt.cells ⟨xw,xv⟩).toArray 60)
   have hbx:=Blk.new wr (Bt.cells ⟨xw,xv⟩).toArray 60
   have hRx:=hRk.ext hex
   have hRlt:=hRk.lt
   go_upto_region 6 with (first | ((with_reducible show Jw (Op.load 60 _));refine wpList_load_has rfl 60 _ rfl rfl (he) agg_Bits rfl ?_) | ((with_reducible show Jw (Op.store 60 _ _));refine wpList_store_new rfl 60 _ _ rfl rfl (by first | rfl | simp) rfl agg_Bits (rfl) rfl (rfl) ?_))
   generalize wr.alloc _=w2 at *
   have HBX:=Lib.hid hbx
   have HEX:=Lib.hid hex
   have g0:=hRx.has 0 _ rfl
   have r0:=hRx.frozen 0
   have g1:=hbx.has 0 _ rfl
   clear hbx hex
   go_upto_region 7 with fail
   have hR3:=hRx.set 0 (.int .i64 (s0 + xw))
   have hg3:=gb_set w2 w.heap.size 0 (.int .i64 (s0 + xw))
   have hB3:=HBX.out.grown hg3 (by omega)
   have HX3:=Lib.hid ((hB.trans HEX.out).grown hg3 (Nat.le_refl _))
   clear hg3 g0 r0 g1 hRx
   generalize w2.setCell _ _=w3 at *
   have hR4:Blk w3 w.heap.size (Bt.cells ⟨s0 + xw,a0⟩).toArray 60:=hR3
   clear hR3
   have g0:=hR4.has 0 _ rfl
   have hle:s0 + xw ≤ 64:=by omega
   have hle2:decide (64 < s0 + xw)=false:=by simpa using hle
   go_wp2_with fail
   refine wp_region_held_drew (S:=fun W=>Blk W wr.heap.size (Bt.cells ⟨xw,xv⟩).toArray 60) (by kernel_rfl) hB3.drew (fun hHeld=>?_)
   try simp only [J]
   (refine Jt 0 (_) rfl (yif_load1 rfl fun _ _=>rfl) hHeld ?_;try simp only [J])
   (refine Jt 2 (_) rfl (yif_load1 rfl fun _ _=>rfl) hHeld ?_;try simp only [J])
   (refine Jt 3 (.int .i64 xw) rfl (yif_load1 rfl (by intro W hW;have y:=hW.has 0 _ rfl;clear hW;go_simp)) hHeld ?_;try simp only [J])
   (refine Jt 5 (_) rfl (yif_load1 rfl fun _ _=>rfl) hHeld ?_;try simp only [J])
   (refine Jt 6 (.int .u64 (xv:Int)) rfl (yif_load1 rfl (by intro W hW;have y:=hW.has 1 _ rfl;clear hW;go_simp)) hHeld ?_;try simp only [J])
   (refine wpAnyH_ready (rs:=[1]) (by kernel_rfl) (by simp) ?_;refine AllReadyH.cons rfl (fun K hK=>?_) AllReadyH.nil)
   have z1:=hR4.drew.has 1 _ rfl
   have y1:=hR4.drew.frozen 1
   go_simp
   refine hK.out _ _ hHeld (fun hHeld=>?_)
   clear hK K
   try simp only [J]
   (refine Jt 4 (.int .u64 (m0:Int)) rfl (yif_load1 rfl (by intro W hW;clear hW;go_simp;exact E1.out)) hHeld ?_;try simp only [J])
   (refine Jt 7 (.int .u64 ((m0 + xv:Nat):Int)) rfl (yif_load1 rfl (by intro W hW;clear hW;go_simp;exact E2.out)) hHeld ?_;try simp only [J])
   (refine Jt 8 (_) rfl (yif_load1 rfl fun _ _=>rfl) hHeld ?_;try simp only [J])
   (refine wpAnyH_ready (rs:=[9]) (by kernel_rfl) (by simp) ?_;refine AllReadyH.cons rfl (fun K hK=>?_) AllReadyH.nil)
   go_simp
   have hR5:=(hR4.set 1 (.int .u64 ((m0:Int) + (xv:Int)))).drew
   have hg5:=gb_drew (gb_set w3 w.heap.size 1 (.int .u64 ((m0:Int) + (xv:Int))))
   have hB5:=hB3.grown hg5 (by omega)
   have hX5:=HX3.out.grown hg5 (Nat.le_refl _)
   refine hK.out _ _ hB5 (fun hHeld=>?_)
   clear hK K
   refine wpAnyH_done (by kernel_rfl) ?_ _
   generalize (w3.setCell _ _).drew=w5 at *
   clear z1 y1
   go_wp2_with fail
   go_roundw
   case rel=>exact ⟨k + 1,by omega,by go_num,hX5,by rw [T1.out,T2.out];exact hR5⟩
   case measure=>simp [intOf];omega
  ·obtain rfl:k=l.length:=by omega
   rw [List.take_length] at hRk
   have hR2:=hRk.has
   go_wp2_with (first | ((with_reducible show Jw (Op.load 60 _));refine wpList_load_has rfl 60 _ rfl rfl (hR2) agg_Bits rfl ?_) | ((with_reducible show Jw (Op.store 60 _ _));refine wpList_store_blk rfl 60 _ _ rfl (hRk) rfl (cs:=Bt.cells ⟨catW l,catM (catP l) 0⟩) (rfl) agg_Bits (rfl) rfl (rfl) ?_;intro w4 hb4 hg4))
   refine post_ret_blk2' rfl rfl rfl hb4.has agg_Bits rfl rfl ⟨rfl,hB.grown hg4 (by omega)⟩
open Go.RowKit
def Vals (ls:List Signal) (vs:List Nat):Prop:=∀ sig:Int,0 ≤ sig→sig < ls.length→vs.getD sig.toNat 0 < 2 ^ (sigW ls sig).toNat
theorem holds_lt {w v:Int} (h0:0 ≤ v) (h1:v < 18446744073709551616) (hw:0 ≤ w):holds w v=true ↔ v.toNat < 2 ^ w.toNat:=by
 obtain ⟨x,rfl⟩:=Int.eq_ofNat_of_zero_le h0
 obtain ⟨k,rfl⟩:=Int.eq_ofNat_of_zero_le hw
 have hx:x < 2 ^ 64:=by omega
 unfold holds
 rw [decide_eq_true_eq]
 simp only [Int.toNat_natCast]
 by_cases hz:x=0
 ·subst hz
  simp [Lib.bitLen,Lib.bitLenAux_zero,Nat.two_pow_pos]
 ·obtain ⟨g1,g2,g3⟩:=Lib.bitLenAux_bounds 64 x hx hz
  change 1 ≤ Lib.bitLen x at g1
  change 2 ^ (Lib.bitLen x - 1) ≤ x at g2
  change x < 2 ^ Lib.bitLen x at g3
  constructor
  ·intro h
   exact Nat.lt_of_lt_of_le g3 (Nat.pow_le_pow_right (by decide) (by omega))
  ·intro h
   by_cases hc:Lib.bitLen x ≤ k
   ·omega
   ·have:=Nat.pow_le_pow_right (n:=2) (by decide) (show k ≤ Lib.bitLen x - 1 by omega)
    omega
def evB (vs:List Nat) (e:E):Bt:=⟨e.w,evM vs e⟩
theorem zip_cat (vs:List Nat) (l:List E):(l.map (·.w)).zip (l.map (evM vs))=catP (l.map (evB vs)):=by
 rw [List.zip_map']
 unfold catP
 rw [List.map_map];rfl
theorem catW_map (vs:List Nat) (l:List E):catW (l.map (evB vs))=(l.map (·.w)).sum:=by
 unfold catW;rw [List.map_map];rfl
theorem ev_lt {ls:List Signal} (hls:∀ x ∈ ls,x.w ≤ 64) {vs:List Nat} (e:E):WS ls e→e.wf→evM vs e < 2 ^ e.w.toNat:=by
 induction e using E.ind with
 | h e ih =>
  intro h hwf
  obtain ⟨h0,hp⟩:=(WS_iff ls e).1 h
  have hwp:=((E.wf_iff e).1 hwf).2.2.2.2.2.2.2
  have hv:=((E.wf_iff e).1 hwf).2.2.1
  have ih2:=fun x hx=>ih x hx (hp x hx) (hwp x hx)
  have hop:=fun x hx=>ws_own hls x (hp x hx)
  rw [evM_eq]
  clear ih hp h hwp hwf
  obtain ⟨op,w,v,sig,hi,lo,n,l⟩:=e
  simp only at h0 ih2 hop hv ⊢
  unfold evNode
  rcases h0 with ⟨rfl,-,h1,h2,h3,-⟩ | ⟨rfl,-,h1,h2,-⟩ | ⟨rfl,⟨k,hk⟩,-,-,rfl,-⟩ | ⟨rfl,⟨k,hk,h1⟩,-⟩ | ⟨rfl,⟨j,k,hk,h1⟩,-⟩ | ⟨rfl,hk,-⟩ | ⟨rfl,h1,h2,h3,-⟩ | ⟨rfl,⟨k,hk,h1⟩,h2,h3,-⟩
  ·simp only [if_pos]
   exact (holds_lt hv.1 (by have:=hv.2;omega) (by omega)).1 h3
  ·simp
   rw [h2];exact Nat.mod_lt _ (Nat.two_pow_pos _)
  ·simp;omega
  ·obtain ⟨x,rfl,rfl⟩:=map1 hk
   have hx:=ih2 x (by simp)
   have ox:=hop x (by simp)
   have hlt:=unM_lt (op:=n) hx (by omega)
   simp
   rcases h1 with ⟨a1,a2,a3⟩ | ⟨a1,a2,a3⟩ | ⟨a1,a2,a3⟩
   ·rw [← a3];exact hlt
   ·have:n=3 ∨ n=4 ∨ n=5:=by omega
    subst a3
    rcases this with rfl | rfl | rfl
    ·simpa [unM] using b2n_lt _
    ·have:=b2n_lt (decide (evM vs x ≠ 0));simpa [unM] using this
    ·simp [unM];omega
   ·subst a1;subst a2
    simpa [unM] using b2n_lt _
  ·obtain ⟨x,y,rfl,rfl,rfl⟩:=map2 hk
   have hx:=ih2 x (by simp)
   have hy:=ih2 y (by simp)
   have ox:=hop x (by simp)
   simp
   rcases h1 with ⟨a1,a2,a3,a4⟩ | ⟨a1,a2,a3⟩ | ⟨a1,a2,a3,a4⟩ | ⟨a1,a2,a3,a4,a5⟩
   ·rw [← a3];exact binM_lt hx (fun _ _=>by rw [a3,← a4];exact hy) (by omega)
   ·rw [← a3];exact binM_lt hx (fun h1 h2=>by omega) (by omega)
   ·have hq:n=19 ∨ n=20 ∨ n=21 ∨ n=22 ∨ n=23 ∨ n=24:=by omega
    subst a3
    rcases hq with rfl | rfl | rfl | rfl | rfl | rfl <;> simp [binM] <;> exact b2n_lt _
   ·subst a3
    have:=binM_lt (op:=n) hx (fun _ _=>by rw [a4,← a5];exact hy) (by omega)
    rw [a4] at this ⊢
    exact this
  ·obtain ⟨c,x,y,rfl,hc,hx,hy⟩:=map3 hk
   have ix:=ih2 x (by simp)
   have iy:=ih2 y (by simp)
   simp
   split
   ·rw [← hx];exact ix
   ·rw [← hy];exact iy
  ·simp
   rw [zip_cat,h2,← catW_map vs]
   exact (cat_lt _ (by
    intro b hb
    obtain ⟨x,hx,rfl⟩:=List.mem_map.1 hb
    exact ⟨(hop x hx).2.1,(hop x hx).2.2,ih2 x hx⟩)).2
  ·obtain ⟨x,rfl,rfl⟩:=map1 hk
   have hx:=ih2 x (by simp)
   have ox:=hop x (by simp)
   simp
   exact extN_lt hx (by omega) (by omega)
theorem evB_ok {ls:List Signal} (hls:∀ x ∈ ls,x.w ≤ 64) {vs:List Nat} {e:E} (h:WS ls e) (hwf:e.wf):(evB vs e).ok:=⟨(ws_own hls e h).2.1,(ws_own hls e h).2.2,ev_lt hls e h hwf⟩
open Go.RowKit
theorem sext_val {wa wd:Int} {v k:Nat} (h1:1 ≤ wa) (h2:wa ≤ wd) (h3:wd ≤ 64) (hv:v < 2 ^ wa.toNat) (hk:wa.toNat + k=64) :
  ∃ (s:Nat) (q:Int) (n:Nat),IntKind.u64.wrap ((v:Int) * 2 ^ k)=(s:Int)∧IntKind.i64.wrap (s:Int)=q∧IntKind.u64.wrap (q / 2 ^ k)=(n:Int)∧True∧n < 2 ^ 64∧n % 2 ^ wd.toNat=extN 32 wd.toNat wa.toNat v:=by
 obtain ⟨A,hA⟩ : ∃ A,wa.toNat=A + 1:=⟨wa.toNat - 1,by omega⟩
 obtain ⟨D,hD⟩ : ∃ D,wd.toNat=D:=⟨_,rfl⟩
 have hAD:A + 1 ≤ D:=by omega
 have hD64:D ≤ 64:=by omega
 rw [hA] at hv hk ⊢
 rw [hD]
 have e64:2 ^ (A + 1) * 2 ^ k=18446744073709551616:=by rw [← Nat.pow_add,hk]
 have hA2:2 ^ (A + 1)=2 * 2 ^ A:=by rw [Nat.pow_succ];omega
 have hAD2:2 ^ (A + 1) ≤ 2 ^ D:=Nat.pow_le_pow_right (by decide) hAD
 have hD2:2 ^ D * 2 ^ (64 - D)=18446744073709551616:=pow64 hD64
 have hM:2 ^ D ≤ 18446744073709551616:=Nat.pow_le_pow_right (n:=2) (by decide) hD64
 have hkp:=Nat.two_pow_pos k
 have hvk:v * 2 ^ k < 18446744073709551616:=by rw [← e64];exact (Nat.mul_lt_mul_right hkp).2 hv
 have hc:((2:Int) ^ k)=((2 ^ k:Nat):Int):=by norm_cast
 refine ⟨v * 2 ^ k,IntKind.i64.wrap ((v * 2 ^ k:Nat):Int),if 2 ^ A ≤ v then 18446744073709551616 - (2 ^ (A + 1) - v) else v,?_,rfl,?_,trivial,?_,?_⟩
 ·rw [hc,IntKind.wrap_u64]
  rw [show ((v:Int) * ((2 ^ k:Nat):Int))=((v * 2 ^ k:Nat):Int) by norm_cast]
  omega
 ·rw [IntKind.wrap_i64,IntKind.wrap_u64,hc]
  have hh:2 ^ A * 2 ^ k=9223372036854775808:=by
   have:2 * (2 ^ A * 2 ^ k)=18446744073709551616:=by rw [← Nat.mul_assoc,← hA2,e64]
   omega
  by_cases hneg:2 ^ A ≤ v
  ·rw [if_pos hneg]
   have h5:9223372036854775808 ≤ v * 2 ^ k:=by rw [← hh];exact Nat.mul_le_mul_right _ hneg
   have e:(((v * 2 ^ k:Nat):Int) + 9223372036854775808) % 18446744073709551616 - 9223372036854775808=((v:Int) - (2 ^ (A + 1):Nat)) * ((2 ^ k:Nat):Int):=by
    rw [Int.sub_mul]
    have:((2 ^ (A + 1):Nat):Int) * ((2 ^ k:Nat):Int)=18446744073709551616:=by rw [← Int.natCast_mul,e64];rfl
    rw [this,← Int.natCast_mul]
    omega
   rw [e,Int.mul_ediv_cancel _ (by omega)]
   omega
  ·rw [if_neg hneg]
   have h5:v * 2 ^ k < 9223372036854775808:=by rw [← hh];exact (Nat.mul_lt_mul_right hkp).2 (by omega)
   have e:(((v * 2 ^ k:Nat):Int) + 9223372036854775808) % 18446744073709551616 - 9223372036854775808=(v:Int) * ((2 ^ k:Nat):Int):=by
    rw [← Int.natCast_mul]
    omega
   rw [e,Int.mul_ediv_cancel _ (by omega)]
   omega
 ·split <;> omega
 ·unfold extN
  rw [show A + 1 - 1=A by omega]
  by_cases hneg:2 ^ A ≤ v
  ·rw [if_pos hneg,if_pos ⟨rfl,hneg⟩]
   generalize 2 ^ D=M at *
   generalize 2 ^ (A + 1)=N at *
   generalize 2 ^ (64 - D)=K at *
   have hK:1 ≤ K:=by
    rcases Nat.eq_zero_or_pos K with h | h
    ·rw [h] at hD2;omega
    ·exact h
   have h6:18446744073709551616 - (N - v)=M * (K - 1) + (v + (M - N)):=by
    have:M * (K - 1)=M * K - M:=by rw [Nat.mul_sub,Nat.mul_one]
    have:M ≤ M * K:=Nat.le_mul_of_pos_right _ hK
    omega
   rw [h6,Nat.mul_add_mod,Nat.mod_eq_of_lt (by omega)]
  ·rw [if_neg hneg,if_neg (by omega),if_neg (by decide),Nat.mod_eq_of_lt (by omega)]
set_option maxRecDepth 100000 in
set_option maxHeartbeats 1000000 in
theorem Ext_calls (op wd:Int) (h1:31 ≤ op) (h3:op ≤ 33) (h0:1 ≤ wd) (h64:wd ≤ 64) (a:Bt) (ha:a.ok) (hz:op ≠ 33→a.w ≤ wd) (hc:op=33→wd ≤ a.w) (w:World) :
  Calls Tryz.prog 91 #[.int .i64 op,.int .i64 wd,.agg a.cells.toArray] w (BtPost w ⟨wd,extN op wd.toNat a.w.toNat a.v⟩):=by
 have HX:=Lib.hid ((ext_alloc w (.cells a.cells.toArray 60)).trans (ext_alloc _ (.cells #[.int .i64 0,.int .u64 0] 60)))
 have hD:=(Blk.new w a.cells.toArray 60).ext (ext_alloc _ (.cells #[.int .i64 0,.int .u64 0] 60))
 have hR:=Blk.new (w.alloc (.cells a.cells.toArray 60)) #[.int .i64 0,.int .u64 0] 60
 rw [show (w.alloc (.cells a.cells.toArray 60)).heap.size=w.heap.size + 1 by simp] at hR
 have hm:=fun W=>may_calls a ha W
 have HM:=Lib.hid hm
 have hv64:=Bt.lt64 ha
 have a1:=ha.1
 have a2:=ha.2.1
 have a3:=ha.2.2
 have HMD:=fun (wd:Int) (n:Nat) (hn:n < 2 ^ 64) (h0:0 ≤ wd) (h1:wd ≤ 64) (w:World)=>made_callsN wd n hn h0 h1 w
 clear hm
 obtain ⟨wa,v⟩:=a
 simp only at a1 a2 a3 hz hc hv64
 have HA:=Lib.hid a3
 clear a3
 have hD1:=hD.has
 have HD:=Lib.hid hD
 have HR:=Lib.hid hR
 clear hD hR
 have hop:op=31 ∨ op=32 ∨ op=33:=by omega
 clear h1 h3
 have b1:decide (0 < wd)=true:=by simp;omega
 have b2:decide (wd ≤ 64)=true:=by simp;omega
 go_enter Tryz.func91,Tryz.ntmps91
 go_upto_region 1 with fail
 generalize (w.alloc _).alloc _=w0 at *
 rcases hop with rfl | rfl | rfl
 ·have b3:wa ≤ wd:=hz (by decide)
  clear hz hc
  go_wp2_with (first | ((with_reducible show Jw (Op.load 60 _));refine wpList_load_has rfl 60 _ rfl rfl (hD1) agg_Bits rfl ?_) | (go_at_call 144;refine (HM.out _).mono ?_;rintro r w1 ⟨rfl,hx1⟩;have g0:=(HD.out.ext hx1).has 0 _ rfl;have g1:=(HD.out.ext hx1).has 1 _ rfl) | (go_at_call 143;refine (HMD wd v hv64 (by omega) (by omega) _).mono ?_;rintro r w3 ⟨rfl,hx2⟩) | ((with_reducible show Jw (Op.store 60 _ _));refine wpList_store_blk rfl 60 _ _ rfl (HR.out.ext (hx1.trans hx2)) rfl (cs:=Bt.cells ⟨wd,v % 2 ^ wd.toNat⟩) (rfl) agg_Bits (rfl) rfl (rfl) ?_;intro w4 hb4 hg4))
  refine post_ret_blk2' rfl rfl rfl hb4.has agg_Bits rfl rfl ⟨?_,(HX.out.trans (hx1.trans hx2)).grown hg4 (by omega)⟩
  rw [Nat.mod_eq_of_lt (Nat.lt_of_lt_of_le HA.out (Nat.pow_le_pow_right (by decide) (by omega)))]
  simp [extN]
 ·have b3:wa ≤ wd:=hz (by decide)
  clear hz hc
  go_wp2_with (first | ((with_reducible show Jw (Op.load 60 _));refine wpList_load_has rfl 60 _ rfl rfl (hD1) agg_Bits rfl ?_) | (go_at_call 144;refine (HM.out _).mono ?_;rintro r w1 ⟨rfl,hx1⟩;have g0:=(HD.out.ext hx1).has 0 _ rfl;have g1:=(HD.out.ext hx1).has 1 _ rfl))
  obtain ⟨k,hk,hk2⟩ : ∃ k:Nat,(64 - wa)=(k:Int)∧wa.toNat + k=64:=⟨(64 - wa).toNat,by omega,by omega⟩
  obtain ⟨s,q,n,e1,e2,e3,e4,hn,hfin⟩:=sext_val a1 b3 h64 HA.out hk2
  have E1:=Lib.hid e1
  have E2:=Lib.hid e2
  have E3:=Lib.hid e3
  have E4:=Lib.hid e4
  have HF:=Lib.hid hfin
  have HK:=Lib.hid hk
  have hkb:(k:Int) ≤ 64:=by omega
  clear e1 e2 e3 e4 hfin
  rw [hk]
  clear hk
  refine wp_region_held_drew (S:=fun W=>Ext w W∧Blk W w.heap.size (Bt.cells ⟨wa,v⟩).toArray 60) (by kernel_rfl) ⟨(HX.out.trans hx1).drew,(HD.out.ext hx1).drew⟩ (fun hHeld=>?_)
  try simp only [J]
  (refine Jt 0 (_) rfl (yif_load1 rfl fun _ _=>rfl) hHeld ?_;try simp only [J])
  (refine Jt 1 (_) rfl (yif_load1 rfl fun _ _=>rfl) hHeld ?_;try simp only [J])
  (refine Jt 2 (_) rfl (yif_load1 rfl fun _ _=>rfl) hHeld ?_;try simp only [J])
  (refine Jt 3 (_) rfl (yif_load1 rfl fun _ _=>rfl) hHeld ?_;try simp only [J])
  (refine Jt 4 (.int .i64 wa) rfl (yif_load1 rfl (by intro W hW;have y:=hW.2.has 0 _ rfl;clear hW;go_simp)) hHeld ?_;try simp only [J])
  (refine Jt 5 (.bool true) rfl (yif_load1 rfl (by intro W hW;clear hW;go_simp)) hHeld ?_;try simp only [J])
  (refine Jt 6 (.bool true) rfl (yif_load1 rfl (by intro W hW;clear hW;go_simp)) hHeld ?_;try simp only [J])
  (refine Jt 7 (_) rfl (yif_load1 rfl fun _ _=>rfl) hHeld ?_;try simp only [J])
  (refine Jt 8 (_) rfl (yif_load1 rfl fun _ _=>rfl) hHeld ?_;try simp only [J])
  (refine Jt 9 (.int .u64 (v:Int)) rfl (yif_load1 rfl (by intro W hW;have y:=hW.2.has 1 _ rfl;clear hW;go_simp)) hHeld ?_;try simp only [J])
  (refine Jt 10 (_) rfl (yif_load1 rfl fun _ _=>rfl) hHeld ?_;try simp only [J])
  (refine Jt 11 (.int .u64 (s:Int)) rfl (yif_load1 rfl (by intro W hW;clear hW;go_simp;exact E1.out)) hHeld ?_;try simp only [J])
  (refine Jt 12 (.int .i64 q) rfl (yif_load1 rfl (by intro W hW;clear hW;go_simp;exact E2.out)) hHeld ?_;try simp only [J])
  (refine Jt 13 (_) rfl (yif_load1 rfl fun _ _=>rfl) hHeld ?_;try simp only [J])
  (refine Jt 14 (.int .i64 (q / 2 ^ k)) rfl (yif_load1 rfl (by intro W hW;clear hW;go_simp)) hHeld ?_;try simp only [J])
  (refine Jt 15 (.int .u64 (n:Int)) rfl (yif_load1 rfl (by intro W hW;clear hW;go_simp;exact E3.out)) hHeld ?_;try simp only [J])
  (refine wpAnyH_ready (rs:=[16]) (by kernel_rfl) (by simp) ?_;refine AllReadyH.cons rfl (fun K hK=>?_) AllReadyH.nil)
  go_simp
  refine (HMD wd n hn (by omega) (by omega) _).mono ?_
  rintro r w3 ⟨rfl,hx2⟩
  refine hK.out _ _ ⟨hHeld.1.trans hx2,hHeld.2.ext hx2⟩ (fun hHeld=>?_)
  clear hK K
  try simp only [J]
  (refine Jt 17 (.agg (Bt.cells ⟨wd,n % 2 ^ wd.toNat⟩).toArray) rfl (yif_load1 rfl (by intro W hW;clear hW;go_simp)) hHeld ?_;try simp only [J])
  (refine Jt 18 (.int .i64 0) rfl (yif_load1 rfl (by intro W hW;clear hW;go_simp)) hHeld ?_;try simp only [J])
  (refine wpAnyH_ready (rs:=[19]) (by kernel_rfl) (by simp) ?_;refine AllReadyH.cons rfl (fun K hK=>?_) AllReadyH.nil)
  refine step_store_blk' rfl 60 _ _ rfl ((HR.out.ext hx1).drew.ext hx2) rfl (cs:=Bt.cells ⟨wd,n % 2 ^ wd.toNat⟩) rfl agg_Bits rfl rfl rfl ?_
  intro w4 hb4 hg4
  refine hK.out _ _ ⟨hHeld.1.grown hg4 (by omega),hHeld.2.grown hg4 (by omega)⟩ (fun hHeld=>?_)
  clear hK K
  try simp only [J]
  (refine Jt 20 (.int .i64 0) rfl (yif_load1 rfl (by intro W hW;clear hW;go_simp)) hHeld ?_;try simp only [J])
  refine wpAnyH_done (by kernel_rfl) ?_ _
  go_wp2_with ((with_reducible show bodyPost _ _ _ _ _ _);refine Hid.out ?_)
  refine Lib.hid ?_
  refine post_ret_blk2' rfl rfl rfl hb4.has agg_Bits rfl rfl ⟨?_,hHeld.1⟩
  rw [HF.out];rfl
 ·have b3:wd ≤ wa:=hc rfl
  clear hz hc
  go_wp2_with (first | ((with_reducible show Jw (Op.load 60 _));refine wpList_load_has rfl 60 _ rfl rfl (hD1) agg_Bits rfl ?_) | (go_at_call 144;refine (HM.out _).mono ?_;rintro r w1 ⟨rfl,hx1⟩;have g0:=(HD.out.ext hx1).has 0 _ rfl;have g1:=(HD.out.ext hx1).has 1 _ rfl) | (go_at_call 143;refine (HMD wd v hv64 (by omega) (by omega) _).mono ?_;rintro r w3 ⟨rfl,hx2⟩) | ((with_reducible show Jw (Op.store 60 _ _));refine wpList_store_blk rfl 60 _ _ rfl (HR.out.ext (hx1.trans hx2)) rfl (cs:=Bt.cells ⟨wd,v % 2 ^ wd.toNat⟩) (rfl) agg_Bits (rfl) rfl (rfl) ?_;intro w4 hb4 hg4))
  refine post_ret_blk2' rfl rfl rfl hb4.has agg_Bits rfl rfl ⟨?_,(HX.out.trans (hx1.trans hx2)).grown hg4 (by omega)⟩
  simp [extN]
open Go.RowKit
def Does (w:World) (F:Value) (g:Nat→Nat→Value):Prop :=
 ∃ k lb,F=.func (.func k) #[] lb∧Leads Tryz.prog k∧∀ W,Ext w W→∀ x y:Nat,x < 2 ^ 64→y < 2 ^ 64 →
  Calls Tryz.prog k (#[.int .u64 (x:Int),.int .u64 (y:Int)] ++ lb) W fun r W'=>r=.returned (g x y)∧Ext W W'
abbrev vN (g:Nat→Nat→Nat):Nat→Nat→Value:=fun x y=>.int .u64 (g x y:Int)
abbrev vB (g:Nat→Nat→Bool):Nat→Nat→Value:=fun x y=>.bool (g x y)
def fLt (x y:Nat):Bool:=decide (x < y)
def fEq (x y:Nat):Bool:=decide (x=y)
def fNe (x y:Nat):Bool:=decide (x ≠ y)
def fGe (x y:Nat):Bool:=decide (y ≤ x)
def fLe (x y:Nat):Bool:=decide (x ≤ y)
def fGt (x y:Nat):Bool:=decide (y < x)
def fAnd (x y:Nat):Nat:=x &&& y
def fOr (x y:Nat):Nat:=x ||| y
def fXor (x y:Nat):Nat:=x ^^^ y
def fAdd (x y:Nat):Nat:=(x + y) % 18446744073709551616
def fSub (x y:Nat):Nat:=(x + 18446744073709551616 - y) % 18446744073709551616
def fMul (x y:Nat):Nat:=x * y % 18446744073709551616
theorem leads_p1:Leads Tryz.prog 190:=leads_of Tryz.func190 (by kernel_rfl) rfl
theorem does_less (w:World):Does w (.func (.func 190) #[] #[]) (vB fLt):=by
 refine ⟨_,_,rfl,leads_p1,fun W _ x y hx hy=>?_⟩
 show Calls Tryz.prog 190 #[.int .u64 (x:Int),.int .u64 (y:Int)] W _
 go_enter Tryz.func190,Tryz.ntmps190
 go_wp2_with fail
 go_ret
 refine ⟨congrArg (fun b=>Ending.returned (.bool b)) ?_,Below.refl _ _⟩
 unfold fLt
 rw [Bool.eq_iff_iff]
 try simp
 all_goals omega
theorem leads_p8:Leads Tryz.prog 198:=leads_of Tryz.func198 (by kernel_rfl) rfl
theorem does_eq (w:World):Does w (.func (.func 198) #[] #[]) (vB fEq):=by
 refine ⟨_,_,rfl,leads_p8,fun W _ x y hx hy=>?_⟩
 show Calls Tryz.prog 198 #[.int .u64 (x:Int),.int .u64 (y:Int)] W _
 go_enter Tryz.func198,Tryz.ntmps198
 go_wp2_with fail
 go_ret
 refine ⟨congrArg (fun b=>Ending.returned (.bool b)) ?_,Below.refl _ _⟩
 unfold fEq
 rw [Bool.eq_iff_iff]
 try simp
 all_goals omega
theorem leads_p9:Leads Tryz.prog 199:=leads_of Tryz.func199 (by kernel_rfl) rfl
theorem does_ne (w:World):Does w (.func (.func 199) #[] #[]) (vB fNe):=by
 refine ⟨_,_,rfl,leads_p9,fun W _ x y hx hy=>?_⟩
 show Calls Tryz.prog 199 #[.int .u64 (x:Int),.int .u64 (y:Int)] W _
 go_enter Tryz.func199,Tryz.ntmps199
 go_wp2_with fail
 go_ret
 refine ⟨congrArg (fun b=>Ending.returned (.bool b)) ?_,Below.refl _ _⟩
 unfold fNe
 rw [Bool.eq_iff_iff]
 try simp
 all_goals omega
theorem leads_p2:Leads Tryz.prog 191:=leads_of Tryz.func191 (by kernel_rfl) rfl
theorem does_and (w:World):Does w (.func (.func 191) #[] #[]) (vN fAnd):=by
 refine ⟨_,_,rfl,leads_p2,fun W _ x y hx hy=>?_⟩
 show Calls Tryz.prog 191 #[.int .u64 (x:Int),.int .u64 (y:Int)] W _
 go_enter Tryz.func191,Tryz.ntmps191
 go_wp2_with fail
 go_ret
 refine ⟨congrArg (fun n=>Ending.returned (.int .u64 n)) ?_,Below.refl _ _⟩
 unfold fAnd
 first | exact n_and hx hy | exact n_or' hx hy | exact n_xor hx hy | (rw [IntKind.wrap_u64];omega) | (rw [IntKind.wrap_u64,← Int.natCast_mul];omega)
theorem leads_p3:Leads Tryz.prog 192:=leads_of Tryz.func192 (by kernel_rfl) rfl
theorem does_or (w:World):Does w (.func (.func 192) #[] #[]) (vN fOr):=by
 refine ⟨_,_,rfl,leads_p3,fun W _ x y hx hy=>?_⟩
 show Calls Tryz.prog 192 #[.int .u64 (x:Int),.int .u64 (y:Int)] W _
 go_enter Tryz.func192,Tryz.ntmps192
 go_wp2_with fail
 go_ret
 refine ⟨congrArg (fun n=>Ending.returned (.int .u64 n)) ?_,Below.refl _ _⟩
 unfold fOr
 first | exact n_and hx hy | exact n_or' hx hy | exact n_xor hx hy | (rw [IntKind.wrap_u64];omega) | (rw [IntKind.wrap_u64,← Int.natCast_mul];omega)
theorem leads_p4:Leads Tryz.prog 193:=leads_of Tryz.func193 (by kernel_rfl) rfl
theorem does_xor (w:World):Does w (.func (.func 193) #[] #[]) (vN fXor):=by
 refine ⟨_,_,rfl,leads_p4,fun W _ x y hx hy=>?_⟩
 show Calls Tryz.prog 193 #[.int .u64 (x:Int),.int .u64 (y:Int)] W _
 go_enter Tryz.func193,Tryz.ntmps193
 go_wp2_with fail
 go_ret
 refine ⟨congrArg (fun n=>Ending.returned (.int .u64 n)) ?_,Below.refl _ _⟩
 unfold fXor
 first | exact n_and hx hy | exact n_or' hx hy | exact n_xor hx hy | (rw [IntKind.wrap_u64];omega) | (rw [IntKind.wrap_u64,← Int.natCast_mul];omega)
theorem leads_p5:Leads Tryz.prog 194:=leads_of Tryz.func194 (by kernel_rfl) rfl
theorem does_add (w:World):Does w (.func (.func 194) #[] #[]) (vN fAdd):=by
 refine ⟨_,_,rfl,leads_p5,fun W _ x y hx hy=>?_⟩
 show Calls Tryz.prog 194 #[.int .u64 (x:Int),.int .u64 (y:Int)] W _
 go_enter Tryz.func194,Tryz.ntmps194
 go_wp2_with fail
 go_ret
 refine ⟨congrArg (fun n=>Ending.returned (.int .u64 n)) ?_,Below.refl _ _⟩
 unfold fAdd
 first | exact n_and hx hy | exact n_or' hx hy | exact n_xor hx hy | (rw [IntKind.wrap_u64];omega) | (rw [IntKind.wrap_u64,← Int.natCast_mul];omega)
theorem leads_p6:Leads Tryz.prog 195:=leads_of Tryz.func195 (by kernel_rfl) rfl
theorem does_sub (w:World):Does w (.func (.func 195) #[] #[]) (vN fSub):=by
 refine ⟨_,_,rfl,leads_p6,fun W _ x y hx hy=>?_⟩
 show Calls Tryz.prog 195 #[.int .u64 (x:Int),.int .u64 (y:Int)] W _
 go_enter Tryz.func195,Tryz.ntmps195
 go_wp2_with fail
 go_ret
 refine ⟨congrArg (fun n=>Ending.returned (.int .u64 n)) ?_,Below.refl _ _⟩
 unfold fSub
 first | exact n_and hx hy | exact n_or' hx hy | exact n_xor hx hy | (rw [IntKind.wrap_u64];omega) | (rw [IntKind.wrap_u64,← Int.natCast_mul];omega)
theorem leads_p7:Leads Tryz.prog 196:=leads_of Tryz.func196 (by kernel_rfl) rfl
theorem does_mul (w:World):Does w (.func (.func 196) #[] #[]) (vN fMul):=by
 refine ⟨_,_,rfl,leads_p7,fun W _ x y hx hy=>?_⟩
 show Calls Tryz.prog 196 #[.int .u64 (x:Int),.int .u64 (y:Int)] W _
 go_enter Tryz.func196,Tryz.ntmps196
 go_wp2_with fail
 go_ret
 refine ⟨congrArg (fun n=>Ending.returned (.int .u64 n)) ?_,Below.refl _ _⟩
 unfold fMul
 first | exact n_and hx hy | exact n_or' hx hy | exact n_xor hx hy | (rw [IntKind.wrap_u64];omega) | (rw [IntKind.wrap_u64,← Int.natCast_mul];omega)
theorem leads_p13:Leads Tryz.prog 203:=leads_of Tryz.func203 (by kernel_rfl) rfl
theorem does_both (w:World):Does w (.func (.func 203) #[] #[]) (vN fAnd):=by
 refine ⟨_,_,rfl,leads_p13,fun W _ x y hx hy=>?_⟩
 show Calls Tryz.prog 203 #[.int .u64 (x:Int),.int .u64 (y:Int)] W _
 go_enter Tryz.func203,Tryz.ntmps203
 go_wp2_with fail
 go_ret
 refine ⟨congrArg (fun n=>Ending.returned (.int .u64 n)) ?_,Below.refl _ _⟩
 unfold fAnd
 first | exact n_and hx hy | exact n_or' hx hy | exact n_xor hx hy | (rw [IntKind.wrap_u64];omega) | (rw [IntKind.wrap_u64,← Int.natCast_mul];omega)
theorem leads_p14:Leads Tryz.prog 204:=leads_of Tryz.func204 (by kernel_rfl) rfl
theorem does_oneof (w:World):Does w (.func (.func 204) #[] #[]) (vN fOr):=by
 refine ⟨_,_,rfl,leads_p14,fun W _ x y hx hy=>?_⟩
 show Calls Tryz.prog 204 #[.int .u64 (x:Int),.int .u64 (y:Int)] W _
 go_enter Tryz.func204,Tryz.ntmps204
 go_wp2_with fail
 go_ret
 refine ⟨congrArg (fun n=>Ending.returned (.int .u64 n)) ?_,Below.refl _ _⟩
 unfold fOr
 first | exact n_and hx hy | exact n_or' hx hy | exact n_xor hx hy | (rw [IntKind.wrap_u64];omega) | (rw [IntKind.wrap_u64,← Int.natCast_mul];omega)
theorem leads_p10:Leads Tryz.prog 200:=leads_of Tryz.func200 (by kernel_rfl) rfl
theorem leads_p11:Leads Tryz.prog 201:=leads_of Tryz.func201 (by kernel_rfl) rfl
theorem leads_p12:Leads Tryz.prog 202:=leads_of Tryz.func202 (by kernel_rfl) rfl
theorem leads_cmp1:Leads Tryz.prog 229:=leads_of Tryz.func229 (by kernel_rfl) rfl
theorem does_le (w:World) (D:Nat) (hD:Blk w D #[.func (.func 190) #[] #[]] 204):Does w (.func (.func 200) #[] #[.pointer (some ⟨D,0,none⟩)]) (vB fLe):=by
 refine ⟨_,_,rfl,leads_p10,fun W hW x y hx hy=>?_⟩
 show Calls Tryz.prog 200 #[.int .u64 (x:Int),.int .u64 (y:Int),.pointer (some ⟨D,0,none⟩)] W _
 have g0:=(hD.ext hW).has 0 _ rfl
 obtain ⟨k,lb,e1,e2,e3⟩:=does_less W
 injection e1 with e1 _ e4
 injection e1 with e1
 subst e1
 subst e4
 have HC:=Lib.hid (e3 W (Below.refl _ _) y x hy hx)
 clear e3
 go_enter Tryz.func200,Tryz.ntmps200
 go_wp2_with ((with_reducible show Jw (Op.call { callee:=.value (.tmp _),args:=_,argTypes:=_ }));refine wpList_call_fv rfl _ _ _ rfl rfl leads_p1 rfl HC.out ?_;intro w1 hx1)
 go_ret
 refine ⟨congrArg (fun b=>Ending.returned (.bool b)) ?_,hx1⟩
 unfold fLe fLt
 rw [Bool.eq_iff_iff]
 try simp
theorem does_gt (w:World) (D:Nat) (hD:Blk w D #[.func (.func 190) #[] #[]] 204):Does w (.func (.func 201) #[] #[.pointer (some ⟨D,0,none⟩)]) (vB fGt):=by
 refine ⟨_,_,rfl,leads_p11,fun W hW x y hx hy=>?_⟩
 show Calls Tryz.prog 201 #[.int .u64 (x:Int),.int .u64 (y:Int),.pointer (some ⟨D,0,none⟩)] W _
 have g0:=(hD.ext hW).has 0 _ rfl
 obtain ⟨k,lb,e1,e2,e3⟩:=does_less W
 injection e1 with e1 _ e4
 injection e1 with e1
 subst e1
 subst e4
 have HC:=Lib.hid (e3 W (Below.refl _ _) y x hy hx)
 clear e3
 go_enter Tryz.func201,Tryz.ntmps201
 go_wp2_with ((with_reducible show Jw (Op.call { callee:=.value (.tmp _),args:=_,argTypes:=_ }));refine wpList_call_fv rfl _ _ _ rfl rfl leads_p1 rfl HC.out ?_;intro w1 hx1)
 go_ret
 refine ⟨congrArg (fun b=>Ending.returned (.bool b)) ?_,hx1⟩
 unfold fGt fLt
 rw [Bool.eq_iff_iff]
 try simp
theorem does_ge (w:World) (D:Nat) (hD:Blk w D #[.func (.func 190) #[] #[]] 204):Does w (.func (.func 202) #[] #[.pointer (some ⟨D,0,none⟩)]) (vB fGe):=by
 refine ⟨_,_,rfl,leads_p12,fun W hW x y hx hy=>?_⟩
 show Calls Tryz.prog 202 #[.int .u64 (x:Int),.int .u64 (y:Int),.pointer (some ⟨D,0,none⟩)] W _
 have g0:=(hD.ext hW).has 0 _ rfl
 obtain ⟨k,lb,e1,e2,e3⟩:=does_less W
 injection e1 with e1 _ e4
 injection e1 with e1
 subst e1
 subst e4
 have HC:=Lib.hid (e3 W (Below.refl _ _) x y hx hy)
 clear e3
 go_enter Tryz.func202,Tryz.ntmps202
 go_wp2_with ((with_reducible show Jw (Op.call { callee:=.value (.tmp _),args:=_,argTypes:=_ }));refine wpList_call_fv rfl _ _ _ rfl rfl leads_p1 rfl HC.out ?_;intro w1 hx1)
 go_ret
 refine ⟨congrArg (fun b=>Ending.returned (.bool b)) ?_,hx1⟩
 unfold fGe fLt
 rw [Bool.eq_iff_iff]
 try simp
theorem does_cmp (w:World) (B:Nat) (F:Value) (g:Nat→Nat→Bool) (hB:Blk w B #[F] 204) (hF:Does w F (vB g)):Does w (.func (.func 229) #[] #[.pointer (some ⟨B,0,none⟩)]) (vN fun x y=>b2n (g x y)):=by
 refine ⟨_,_,rfl,leads_cmp1,fun W hW x y hx hy=>?_⟩
 show Calls Tryz.prog 229 #[.int .u64 (x:Int),.int .u64 (y:Int),.pointer (some ⟨B,0,none⟩)] W _
 have g0:=(hB.ext hW).has 0 _ rfl
 obtain ⟨k,lb,rfl,e2,e3⟩:=hF
 have HC:=Lib.hid (e3 W hW x y hx hy)
 clear e3
 obtain ⟨c,hc⟩ : ∃ c,g x y=c:=⟨_,rfl⟩
 simp only [vB,vN,hc] at HC ⊢
 cases c
 all_goals go_enter Tryz.func229,Tryz.ntmps229
 all_goals go_wp2_with (first | ((with_reducible show Jw (Op.call { callee:=.value (.tmp _),args:=_,argTypes:=_ }));refine wpList_call_fv rfl _ _ _ rfl rfl e2 rfl HC.out ?_;intro w1 hx1) | (go_at_call 145;refine (one_calls _ _).mono ?_;rintro r w2 ⟨rfl,rfl⟩))
 all_goals go_ret
 all_goals exact ⟨rfl,hx1⟩
open Go.RowKit
def left (n:Nat) (listed:Array Bool):Nat:=((List.range n).filter fun i=>!(listed.getD i true)).length
theorem filter_drop {l:List Nat} (hn:l.Nodup) {p q:Nat→Bool} {i:Nat} (hi:i ∈ l) (hp:p i=true) (hq:q i=false) (hpq:∀ j,j ≠ i→q j=p j):(l.filter q).length + 1=(l.filter p).length:=by
 induction l with
 | nil=>cases hi
 | cons x l ih =>
  obtain ⟨hx,hl⟩:=List.nodup_cons.1 hn
  by_cases hxi:x=i
  ·subst hxi
   have e:l.filter q=l.filter p:=List.filter_congr fun j hj=>hpq j fun e=>hx (e ▸ hj)
   rw [List.filter_cons,List.filter_cons,hp,hq,e];simp
  ·have hi':i ∈ l:=by
    rcases List.mem_cons.1 hi with h | h
    ·exact absurd h.symm hxi
    ·exact h
   have:=ih hl hi'
   rw [List.filter_cons,List.filter_cons,hpq x hxi]
   split
   ·simp only [List.length_cons];omega
   ·exact this
theorem left_set {n i:Nat} {listed:Array Bool} (hs:listed.size=n) (hi:listed.getD i true=false):left n (listed.setIfInBounds i true) + 1=left n listed:=by
 have hlt:i < listed.size:=by
  rcases Nat.lt_or_ge i listed.size with h | h
  ·exact h
  ·simp [Array.getD,show ¬ i < listed.size by omega] at hi
 refine filter_drop List.nodup_range (i:=i) (List.mem_range.2 (by omega)) (by rw [hi];rfl) ?_ ?_
 ·simp [Array.getD,hlt]
 ·intro j hj
  rw [getD_set_ne true (fun e=>hj e.symm)]
section
variable {P:Program} {md:Region.Mode} {ops:Array Oper} {Q:Exit→Act→World→Prop} {S:World→Prop}
def upward (md:Region.Mode) (ops:Array Oper):Bool:=(List.range ops.size).all fun i=>match ops[i]? with
 | some o=>o.after.toList.all fun e=>!(Region.binds md e) || decide (e.on < i)
 | none=>true
theorem ready_some (hu:upward md ops=true) {listed:Array Bool} (hs:listed.size=ops.size) (h:left ops.size listed ≠ 0):Region.ready md ops listed ≠ []:=by
 have hex:∃ i,listed.getD i true=false:=by
  have:(List.range ops.size).filter (fun i=>!(listed.getD i true)) ≠ []:=fun e=>h (by unfold left;rw [e];rfl)
  obtain ⟨i,hi⟩:=List.exists_mem_of_ne_nil _ this
  exact ⟨i,by simpa using (List.mem_filter.1 hi).2⟩
 have hmin:∀ n,listed.getD n true=false→∃ i,listed.getD i true=false∧∀ j,j < i→listed.getD j true=true:=by
  intro n
  induction n using Nat.strongRecOn with
  | ind n ih =>
   intro hn
   by_cases hc:∃ j,j < n∧listed.getD j true=false
   ·obtain ⟨j,hj,hjf⟩:=hc
    exact ih j hj hjf
   ·refine ⟨n,hn,fun j hj=>?_⟩
    cases he:listed.getD j true with
    | true=>rfl
    | false=>exact absurd ⟨j,hj,he⟩ hc
 obtain ⟨i0,hi0⟩:=hex
 obtain ⟨i,hi,hlow⟩:=hmin i0 hi0
 have hlt:i < listed.size:=by
  rcases Nat.lt_or_ge i listed.size with h | h
  ·exact h
  ·simp [Array.getD,show ¬ i < listed.size by omega] at hi
 intro e
 have hm:i ∈ Region.ready md ops listed:=by
  refine mem_ready.2 ⟨hi,ops[i]'(by omega),Array.getElem?_eq_getElem (by omega),fun e he hb=>?_⟩
  have h1:=List.all_eq_true.1 hu i (List.mem_range.2 (by omega))
  rw [Array.getElem?_eq_getElem (show i < ops.size by omega)] at h1
  have h2:=List.all_eq_true.1 h1 e (by simpa using he)
  simp [hb] at h2
  have h3:=hlow e.on h2
  have h4:e.on < listed.size:=by omega
  simp [Array.getD,h4] at h3 ⊢
  exact h3
 rw [e] at hm;cases hm
theorem held_inv (I:Array Bool→Act→World→Prop) (full:Array Bool) (stop:Nat) (hu:upward md ops=true)
  (hsize:∀ listed a w,I listed a w→listed.size=ops.size) (hsome:∀ listed a w,I listed a w→left ops.size listed ≠ 0)
  (hfull:∀ listed a w,I listed a w→stop ∈ Region.ready md ops listed→listed=full)
  (hstep:∀ listed a w i,I listed a w→S w→i ∈ Region.ready md ops listed→i ≠ stop→wpOp P ops Q i (fun a' w'=>S w'∧I (listed.setIfInBounds i true) a' w') a w)
  (hend:∀ a w,I full a w→S w→wpAnyH P md ops Q S (left ops.size full) full a w) :
  ∀ n listed a w,left ops.size listed=n→I listed a w→S w→wpAnyH P md ops Q S n listed a w:=by
 intro n
 induction n with
 | zero=>intro listed a w hn hI _;exact absurd hn (hsome _ _ _ hI)
 | succ n ih =>
  intro listed a w hn hI hS
  by_cases hst:stop ∈ Region.ready md ops listed
  ·have e:=hfull _ _ _ hI hst
   rw [← hn,e]
   exact hend a w (e ▸ hI) hS
  ·refine ⟨fun h0=>absurd h0 (ready_some hu (hsize _ _ _ hI) (by rw [hn];omega)),fun i hi=>?_⟩
   have hir:=(mem_ready.1 hi).1
   refine wpOp_mono (fun a' w' h=>⟨h.1,ih _ a' w' ?_ h.2 h.1⟩) (hstep _ _ _ i hI hS hi (fun e=>hst (e ▸ hi)))
   have:=left_set (hsize _ _ _ hI) hir
   omega
end
end Go.Proofs.YtemabheegnngdaaGreat
