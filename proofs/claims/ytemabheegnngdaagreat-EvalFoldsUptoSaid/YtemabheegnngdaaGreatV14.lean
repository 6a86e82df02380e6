/- Laws and walks that a claim of this seat leans on: BsN, Bitv5, UpB, UpE, WsL. -/
import Derived.Test.YtemabheegnngdaaGreatV03
import Derived.Test.YtemabheegnngdaaGreatV13
import Derived.Test.YtemabheegnngdaaGreatV06
import Derived.Test.YtemabheegnngdaaGreatVStmtS
import Derived.Test.YtemabheegnngdaaGreatV07
import Derived.Test.YtemabheegnngdaaGreatV00
set_option linter.all false
namespace Go.Proofs.YtemabheegnngdaaGreat
open Go.RowKit
theorem bsN_run {P:Program} {w:World} {t:TypeId} {e:TypeId} {size bytes:Nat} (hT:AppT P t e size bytes) (vs:List Value) (css:List (List Value)) (h:vs.map (·.cells)=css.map List.toArray) (hl:∀ cs ∈ css,cs.length=size) (h0:0 < vs.length) (hn:vs.length * size ≤ 16777216) :
  (Instr.buildSlice t vs.length ((vs.zipIdx 0).map fun x=>(x.2,x.1)).toArray).run P w=.ok (.slice (some ⟨w.heap.size,0,none⟩) vs.length vs.length) (w.alloc (.cells css.flatten.toArray e)):=by
 obtain ⟨ht,hinfo,hsz,hby⟩:=hT
 cases hi:P.info? e with
 | none=>simp [hi] at hinfo
 | some i =>
  simp only [hi,Option.map_some,Option.some.injEq,Prod.mk.injEq] at hinfo
  obtain ⟨hz0,hsi,hb⟩:=hinfo
  cases hz:i.zero with
  | none=>simp [hz] at hz0
  | some z =>
   have hv2:∀ v ∈ vs,v.cells.size=size:=by
    intro v hv
    have:v.cells ∈ css.map List.toArray:=by rw [← h];exact List.mem_map_of_mem hv
    obtain ⟨cs,hc,he⟩:=List.mem_map.1 this
    rw [← he];simp [hl cs hc]
   have hf:=Great.fill_whole (s:=size) hsz vs ((Array.range (vs.length * size)).map (z.cells[· % z.cells.size]!)) hv2 (by simp)
   have hflat:(vs.flatMap fun v=>v.cells.toList)=css.flatten:=by
    rw [List.flatMap_def]
    have:vs.map (fun v=>v.cells.toList)=css:=by
     have:=congrArg (List.map Array.toList) h
     simpa [List.map_map,Function.comp_def] using this
    rw [this]
   rw [hflat] at hf
   refine run_buildSlice (P:=P) w t e vs.length _ css.flatten.toArray i z ht hi hz (by rw [hsi];omega) (by rw [hsi];have:=Nat.mul_pos h0 hsz;omega) ?_
   rw [hsi];exact hf
theorem wpList_bsN {P:Program} {ops:Array Oper} {rest:List Oper} {o:Oper} {a:Act} {w:World} {Q:Exit→Act→World→Prop} (hw:Region.wanted o (yielded ops a.tmps)=true) (t:TypeId) (n:Nat) (ps:Array (Nat × Operand))
  (ho:o.op=.buildSlice t n ps) {e:TypeId} {size bytes:Nat} (hT:AppT P t e size bytes) {vs:List Value} (hx:ps.toList.map (fun p=>(p.1,a.eval p.2))=(vs.zipIdx 0).map fun x=>(x.2,x.1)) (hvn:vs.length=n) {css:List (List Value)} (hv:vs.map (·.cells)=css.map List.toArray)
  (hl:∀ cs ∈ css,cs.length=size) (h0:0 < n) (hn:n * size ≤ 16777216)
  (h:wpList P ops Q rest (a.put o.dst (.slice (some ⟨w.heap.size,0,none⟩) n n)) (w.alloc (.cells css.flatten.toArray e))):wpList P ops Q (o :: rest) a w :=
 BigFrame.wpList_want hw fun _ hK=>by
  subst hvn
  have hr:=bsN_run (w:=w) hT vs css hv hl h0 hn
  unfold Oper.wp execOp
  simp only [ho]
  have hx':(ps.map fun p=>(p.1,a.eval p.2))=((vs.zipIdx 0).map fun x=>(x.2,x.1)).toArray:=by
   apply Array.ext'
   rw [Array.toList_map,hx]
  rw [hx']
  simp only [Sem.run_bind,hr,Result.andThen_ok,Sem.run_pure]
  exact hK _ _ h
theorem step_bsN {P:Program} {ops:Array Oper} {o:Oper} {a:Act} {w:World} {K:Act→World→Prop} {Q:Exit→Act→World→Prop} {E:Prop} (hw:Region.wanted o (yielded ops a.tmps)=true) (t:TypeId) (n:Nat) (ps:Array (Nat × Operand))
  (ho:o.op=.buildSlice t n ps) {e:TypeId} {size bytes:Nat} (hT:AppT P t e size bytes) {vs:List Value} (hx:ps.toList.map (fun p=>(p.1,a.eval p.2))=(vs.zipIdx 0).map fun x=>(x.2,x.1)) (hvn:vs.length=n) {css:List (List Value)} (hv:vs.map (·.cells)=css.map List.toArray)
  (hl:∀ cs ∈ css,cs.length=size) (h0:0 < n) (hn:n * size ≤ 16777216)
  (h:K (a.put o.dst (.slice (some ⟨w.heap.size,0,none⟩) n n)) (w.alloc (.cells css.flatten.toArray e))):if Region.wanted o (yielded ops a.tmps)=true then Oper.wp P o a w K Q else E:=by
 rw [if_pos hw]
 subst hvn
 have hr:=bsN_run (w:=w) hT vs css hv hl h0 hn
 unfold Oper.wp execOp
 simp only [ho]
 have hx':(ps.map fun p=>(p.1,a.eval p.2))=((vs.zipIdx 0).map fun x=>(x.2,x.1)).toArray:=by
  apply Array.ext'
  rw [Array.toList_map,hx]
 rw [hx']
 simp only [Sem.run_bind,hr,Result.andThen_ok,Sem.run_pure]
 exact h
open Go.RowKit
theorem appBits:AppT Tryz.prog 118 60 2 16:=⟨Tryz.underlying118,by kernel_rfl,by decide,by decide⟩
theorem Bts.of_blk {w:World} {B:Nat} (l:List Bt) {T:TypeId} (cap:Nat) (h:Blk w B (l.map Bt.cells).flatten.toArray T) (hc:l.length ≤ cap) (hm:cap ≤ maxLen):Bts w (.slice (some ⟨B,0,none⟩) l.length cap) l :=
 ⟨B,0,⟨_,cap,rfl,hc,hm,fun _=>rfl⟩,rows_flat (f:=Bt.cells) (fun _=>rfl) l 0 h.has⟩
set_option maxRecDepth 100000 in
set_option maxHeartbeats 1000000 in
theorem Cond_calls (c a b:Bt) (hc:c.ok) (ha:a.ok) (hb:b.ok) (hc1:c.w=1) (hab:a.w=b.w) (w:World) :
  Calls Tryz.prog 89 #[.agg c.cells.toArray,.agg a.cells.toArray,.agg b.cells.toArray] w (BtPost w ⟨a.w,if c.v=1 then a.v else b.v⟩):=by
 have x1:=ext_alloc w (.cells c.cells.toArray 60)
 have x2:=ext_alloc (w.alloc (.cells c.cells.toArray 60)) (.cells a.cells.toArray 60)
 have x3:=ext_alloc ((w.alloc (.cells c.cells.toArray 60)).alloc (.cells a.cells.toArray 60)) (.cells b.cells.toArray 60)
 have x4:=ext_alloc (((w.alloc (.cells c.cells.toArray 60)).alloc (.cells a.cells.toArray 60)).alloc (.cells b.cells.toArray 60)) (.cells #[.int .i64 0,.int .u64 0] 60)
 have hC:=(((Blk.new w c.cells.toArray 60).ext x2).ext x3).ext x4
 have hA:=((Blk.new (w.alloc (.cells c.cells.toArray 60)) a.cells.toArray 60).ext x3).ext x4
 have hB:=(Blk.new ((w.alloc (.cells c.cells.toArray 60)).alloc (.cells a.cells.toArray 60)) b.cells.toArray 60).ext x4
 have hR:=Blk.new (((w.alloc (.cells c.cells.toArray 60)).alloc (.cells a.cells.toArray 60)).alloc (.cells b.cells.toArray 60)) #[.int .i64 0,.int .u64 0] 60
 have HX:=((x1.trans x2).trans x3).trans x4
 simp only [World.size_alloc] at hA hB hR
 clear x1 x2 x3 x4
 have HAL:=Lib.hid (fun (s:Value) (W:World) (h:Bts W s [c,a,b])=>all_calls [c,a,b] (by simp;exact ⟨hc,ha,hb⟩) s W h)
 have HMD:=fun (wd:Int) (n:Nat) (hn:n < 2 ^ 64) (h0:0 ≤ wd) (h1:wd ≤ 64) (w:World)=>made_callsN wd n hn h0 h1 w
 have ha64:=Bt.lt64 ha
 have hb64:=Bt.lt64 hb
 have a1:=ha.1
 have a2:=ha.2.1
 have a3:=Lib.hid ha.2.2
 have b3:=Lib.hid hb.2.2
 clear hc ha hb
 obtain ⟨cw,cv⟩:=c
 obtain ⟨wd,av⟩:=a
 obtain ⟨bw,bv⟩:=b
 simp only at hc1 hab ha64 hb64 a1 a2 a3 b3
 subst hc1
 subst hab
 obtain ⟨tv,htv⟩ : ∃ tv,(if cv=1 then av else bv)=tv:=⟨_,rfl⟩
 have HTV:=Lib.hid htv
 rw [htv]
 have htb:tv < 2 ^ 64:=by rw [← htv];split <;> assumption
 have htw:=Lib.hid (show tv < 2 ^ wd.toNat by rw [← htv];(split;exact a3.out;exact b3.out))
 clear htv
 go_enter Tryz.func89,Tryz.ntmps89
 go_upto_region 1 with fail
 have hsz:((((w.alloc (.cells (Bt.cells ⟨1,cv⟩).toArray 60)).alloc (.cells (Bt.cells ⟨wd,av⟩).toArray 60)).alloc (.cells (Bt.cells ⟨wd,bv⟩).toArray 60)).alloc (.cells #[.int .i64 0,.int .u64 0] 60)).heap.size=w.heap.size + 1 + 1 + 1 + 1:=by simp
 generalize (((w.alloc _).alloc _).alloc _).alloc _=w0 at *
 have hB1:=hB.has
 have HC:=Lib.hid hC
 have HA:=Lib.hid hA
 have HB:=Lib.hid hB
 have HR:=Lib.hid hR
 clear hC hA hB hR
 go_upto_region 2 with (first | ((with_reducible show Jw (Op.load 60 _));refine wpList_load_has rfl 60 _ rfl rfl (hB1) agg_Bits rfl ?_) | ((with_reducible show Jw (Op.store 60 _ _));refine wpList_store_new rfl 60 _ _ rfl rfl (by first | rfl | simp) rfl agg_Bits (rfl) rfl (rfl) ?_))
 have hx5:=ext_alloc w0 (.cells (Bt.cells ⟨wd,bv⟩).toArray 60)
 have hT5:=Blk.new w0 (Bt.cells ⟨wd,bv⟩).toArray 60
 generalize w0.alloc _=w5 at *
 rw [hsz] at hT5
 have g1:=(HC.out.ext hx5).has 1 _ rfl
 go_upto_if 12 with fail
 go_cut [7] from 12 to 14 (fun u wx=>u=.int .i64 0∧Ext w wx∧Blk wx w.heap.size (Bt.cells ⟨1,cv⟩).toArray 60∧Blk wx (w.heap.size + 1) (Bt.cells ⟨wd,av⟩).toArray 60∧Blk wx (w.heap.size + 1 + 1) (Bt.cells ⟨wd,bv⟩).toArray 60∧Blk wx (w.heap.size + 1 + 1 + 1) #[.int .i64 0,.int .u64 0] 60∧Blk wx (w.heap.size + 1 + 1 + 1 + 1) (Bt.cells ⟨wd,tv⟩).toArray 60)
 case first =>
  by_cases h1:cv=1
  ·have b1:((cv:Int) == 1)=true:=by rw [beq_iff_eq];omega
   have ht:=HTV.out
   rw [if_pos h1] at ht
   subst ht
   clear h1
   have hA1:=(HA.out.ext hx5).has
   go_wp2_with (first | ((with_reducible show Jw (Op.load 60 _));refine wpList_load_has rfl 60 _ rfl rfl (hA1) agg_Bits rfl ?_) | ((with_reducible show Jw (Op.store 60 _ _));refine wpList_store_blk rfl 60 _ _ rfl (hT5) rfl (cs:=Bt.cells ⟨wd,av⟩) (rfl) agg_Bits (rfl) rfl (rfl) ?_;intro w4 hb4 hg4))
   go_meet
   exact ⟨rfl,(HX.trans hx5).grown hg4 (by omega),(HC.out.ext hx5).grown hg4 (by omega),(HA.out.ext hx5).grown hg4 (by omega),(HB.out.ext hx5).grown hg4 (by omega),(HR.out.ext hx5).grown hg4 (by omega),hb4⟩
  ·have b1:((cv:Int) == 1)=false:=by rw [beq_eq_false_iff_ne];omega
   have ht:=HTV.out
   rw [if_neg h1] at ht
   subst ht
   clear h1
   go_wp2_with fail
   go_meet
   exact ⟨rfl,HX.trans hx5,HC.out.ext hx5,HA.out.ext hx5,HB.out.ext hx5,HR.out.ext hx5,hT5⟩
 case rest =>
  obtain ⟨rfl,k1,k2,k3,k4,k5,k6⟩:=hcut
  have HK5:=Lib.hid k5
  clear HTV HC HA HB HR hx5 hT5 g1
  go_upto_region 4 with fail
  refine wp_region_held_drew (S:=fun W=>Ext w W∧Blk W w.heap.size (Bt.cells ⟨1,cv⟩).toArray 60∧Blk W (w.heap.size + 1) (Bt.cells ⟨wd,av⟩).toArray 60∧Blk W (w.heap.size + 1 + 1) (Bt.cells ⟨wd,bv⟩).toArray 60∧Blk W (w.heap.size + 1 + 1 + 1 + 1) (Bt.cells ⟨wd,tv⟩).toArray 60) (by kernel_rfl) ⟨k1.drew,k2.drew,k3.drew,k4.drew,k6.drew⟩ (fun hHeld=>?_)
  clear k1 k2 k3 k4 k5 k6
  try simp only [J]
  (refine Jt 0 (.agg (Bt.cells ⟨1,cv⟩).toArray) rfl (yif_load rfl 60 _ rfl rfl (fun W hW=>hW.2.1.has) agg_Bits rfl) hHeld ?_;try simp only [J])
  (refine Jt 1 (.agg (Bt.cells ⟨wd,av⟩).toArray) rfl (yif_load rfl 60 _ rfl rfl (fun W hW=>hW.2.2.1.has) agg_Bits rfl) hHeld ?_;try simp only [J])
  (refine Jt 2 (.agg (Bt.cells ⟨wd,bv⟩).toArray) rfl (yif_load rfl 60 _ rfl rfl (fun W hW=>hW.2.2.2.1.has) agg_Bits rfl) hHeld ?_;try simp only [J])
  (refine Jt 17 (_) rfl (yif_load1 rfl fun _ _=>rfl) hHeld ?_;try simp only [J])
  (refine Jt 18 (.int .i64 wd) rfl (yif_load1 rfl (by intro W hW;have y:=hW.2.2.2.2.has 0 _ rfl;clear hW;go_simp)) hHeld ?_;try simp only [J])
  (refine Jt 19 (_) rfl (yif_load1 rfl fun _ _=>rfl) hHeld ?_;try simp only [J])
  (refine Jt 20 (.int .u64 (tv:Int)) rfl (yif_load1 rfl (by intro W hW;have y:=hW.2.2.2.2.has 1 _ rfl;clear hW;go_simp)) hHeld ?_;try simp only [J])
  (refine wpAnyH_ready (rs:=[3]) (by kernel_rfl) (by simp) ?_;refine AllReadyH.cons rfl (fun K hK=>?_) AllReadyH.nil)
  refine step_bsN rfl _ 3 _ rfl appBits (vs:=[.agg (Bt.cells ⟨1,cv⟩).toArray,.agg (Bt.cells ⟨wd,av⟩).toArray,.agg (Bt.cells ⟨wd,bv⟩).toArray]) rfl rfl (css:=[Bt.cells ⟨1,cv⟩,Bt.cells ⟨wd,av⟩,Bt.cells ⟨wd,bv⟩]) rfl (by simp) (by decide) (by decide) ?_
  have hxb:=ext_alloc wc.drew (.cells ([Bt.cells ⟨1,cv⟩,Bt.cells ⟨wd,av⟩,Bt.cells ⟨wd,bv⟩].flatten.toArray) 60)
  have hbs:=Bts.of_blk [⟨1,cv⟩,⟨wd,av⟩,⟨wd,bv⟩] 3 (Blk.new wc.drew ([Bt.cells ⟨1,cv⟩,Bt.cells ⟨wd,av⟩,Bt.cells ⟨wd,bv⟩].flatten.toArray) 60) (by simp) (by decide)
  have HAC:=Lib.hid (HAL.out _ _ hbs)
  have HK6:=Lib.hid (HK5.out.drew.ext hxb)
  refine hK.out _ _ ⟨hHeld.1.trans hxb,hHeld.2.1.ext hxb,hHeld.2.2.1.ext hxb,hHeld.2.2.2.1.ext hxb,hHeld.2.2.2.2.ext hxb⟩ (fun hHeld=>?_)
  clear hK K hbs hxb HAL HK5
  generalize wc.drew.alloc _=w6 at *
  generalize wc.drew.heap.size=B6 at *
  try simp only [J]
  (refine wpAnyH_ready (rs:=[4]) (by kernel_rfl) (by simp) ?_;refine AllReadyH.cons rfl (fun K hK=>?_) AllReadyH.nil)
  go_simp
  refine HAC.out.mono ?_
  rintro r w7 ⟨rfl,hx7⟩
  refine hK.out _ _ ⟨hHeld.1.trans hx7,hHeld.2.1.ext hx7,hHeld.2.2.1.ext hx7,hHeld.2.2.2.1.ext hx7,hHeld.2.2.2.2.ext hx7⟩ (fun hHeld=>?_)
  clear hK K HAC
  try simp only [J]
  (refine Jt 5 (_) rfl (yif_load1 rfl fun _ _=>rfl) hHeld ?_;try simp only [J])
  (refine Jt 6 (_) rfl (yif_load1 rfl fun _ _=>rfl) hHeld ?_;try simp only [J])
  (refine Jt 7 (.int .i64 1) rfl (yif_load1 rfl (by intro W hW;have y:=hW.2.1.has 0 _ rfl;clear hW;go_simp)) hHeld ?_;try simp only [J])
  (refine Jt 8 (.bool true) rfl (yif_load1 rfl (by intro W hW;clear hW;go_simp)) hHeld ?_;try simp only [J])
  (refine Jt 9 (.bool true) rfl (yif_load1 rfl (by intro W hW;clear hW;go_simp)) hHeld ?_;try simp only [J])
  (refine Jt 10 (_) rfl (yif_load1 rfl fun _ _=>rfl) hHeld ?_;try simp only [J])
  (refine Jt 11 (_) rfl (yif_load1 rfl fun _ _=>rfl) hHeld ?_;try simp only [J])
  (refine Jt 12 (.int .i64 wd) rfl (yif_load1 rfl (by intro W hW;have y:=hW.2.2.1.has 0 _ rfl;clear hW;go_simp)) hHeld ?_;try simp only [J])
  (refine Jt 13 (_) rfl (yif_load1 rfl fun _ _=>rfl) hHeld ?_;try simp only [J])
  (refine Jt 14 (.int .i64 wd) rfl (yif_load1 rfl (by intro W hW;have y:=hW.2.2.2.1.has 0 _ rfl;clear hW;go_simp)) hHeld ?_;try simp only [J])
  (refine Jt 15 (.bool true) rfl (yif_load1 rfl (by intro W hW;clear hW;go_simp)) hHeld ?_;try simp only [J])
  (refine Jt 16 (.bool true) rfl (yif_load1 rfl (by intro W hW;clear hW;go_simp)) hHeld ?_;try simp only [J])
  (refine wpAnyH_ready (rs:=[21]) (by kernel_rfl) (by simp) ?_;refine AllReadyH.cons rfl (fun K hK=>?_) AllReadyH.nil)
  go_simp
  refine (HMD wd tv htb (by omega) (by omega) _).mono ?_
  rintro r w8 ⟨rfl,hx8⟩
  refine hK.out _ _ ⟨hHeld.1.trans hx8,hHeld.2.1.ext hx8,hHeld.2.2.1.ext hx8,hHeld.2.2.2.1.ext hx8,hHeld.2.2.2.2.ext hx8⟩ (fun hHeld=>?_)
  clear hK K
  try simp only [J]
  (refine Jt 22 (.agg (Bt.cells ⟨wd,tv % 2 ^ wd.toNat⟩).toArray) rfl (yif_load1 rfl (by intro W hW;clear hW;go_simp)) hHeld ?_;try simp only [J])
  (refine Jt 23 (.int .i64 0) rfl (yif_load1 rfl (by intro W hW;clear hW;go_simp)) hHeld ?_;try simp only [J])
  (refine wpAnyH_ready (rs:=[24]) (by kernel_rfl) (by simp) ?_;refine AllReadyH.cons rfl (fun K hK=>?_) AllReadyH.nil)
  refine step_store_blk' rfl 60 _ _ rfl ((HK6.out.ext hx7).ext hx8) rfl (cs:=Bt.cells ⟨wd,tv % 2 ^ wd.toNat⟩) rfl agg_Bits rfl rfl rfl ?_
  intro w9 hb9 hg9
  refine hK.out _ _ ⟨hHeld.1.grown hg9 (by omega),hHeld.2.1.grown hg9 (by omega),hHeld.2.2.1.grown hg9 (by omega),hHeld.2.2.2.1.grown hg9 (by omega),hHeld.2.2.2.2.grown hg9 (by omega)⟩ (fun hHeld=>?_)
  clear hK K
  try simp only [J]
  (refine Jt 25 (.int .i64 0) rfl (yif_load1 rfl (by intro W hW;clear hW;go_simp)) hHeld ?_;try simp only [J])
  refine wpAnyH_done (by kernel_rfl) ?_ _
  go_wp2_with ((with_reducible show bodyPost _ _ _ _ _ _);refine Hid.out ?_)
  refine Lib.hid ?_
  refine post_ret_blk2' rfl rfl rfl hb9.has agg_Bits rfl rfl ⟨?_,hHeld.1⟩
  rw [Nat.mod_eq_of_lt htw.out];rfl
open Go.RowKit
def VBt (_:World) (cs:List Value) (x:Bt):Prop:=cs=x.cells
theorem VBt.at {W:World} {cs:List Value} {x:Bt} {b o:Nat} (h:Has W b o cs) (hv:VBt W cs x):BtAt W x b o:=by subst hv;exact h
theorem VBt.st {N:Nat} {R:Option Nat} {w:World} {x:Bt}:StV VBt N R w x.cells x:=fun _ _ _=>rfl
theorem RowIs.empty {α : Type} {V:World→List Value→α→Prop} {e:TypeId} {size N B:Nat} {w:World} (hb:Blk w B #[] e) (hN:N ≤ B):RowIs V e size N (.slice (some ⟨B,0,none⟩) 0 0) ([]:List α) w :=
 ⟨[],⟨by simp,.inr ⟨B,0,#[],rfl,hN,hb,Nat.le_refl _,by simp [maxLen],by simp,by simp⟩⟩,rfl,by simp,fun i h=>by simp at h⟩
def UpSaid (g:FuncId) (lb:Array Value) (f:E→Bt) (wb:World) (e:E):Prop:=∀ (cs:List Value) (w:World),Ext wb w→VE w cs e→nodes e ≤ 1048576 →
 Calls Tryz.prog 49 #[.agg cs.toArray,.func (.func g) #[] lb] w fun r w'=>r=.returned (.agg (f e).cells.toArray)∧Ext w w'
set_option maxRecDepth 100000 in
set_option maxHeartbeats 2000000 in
theorem upB_step (g:FuncId) (lb:Array Value) (eg:Leads Tryz.prog g) (f:E→Bt) (wb:World) (e:E)
  (hmk:∀ (cs:List Value) (s:Value) (W:World),Ext wb W→VE W cs e→Bts W s (e.l.map f)→Calls Tryz.prog g (#[.agg cs.toArray,s] ++ lb) W fun r w'=>r=.returned (.agg (f e).cells.toArray)∧Ext W w')
  (ih:∀ x ∈ e.l,UpSaid g lb f wb x):UpSaid g lb f wb e:=by
 intro cs w hx0 hV hn
 have HMK:=Lib.hid hmk
 have IH:=Lib.hid ih
 have HX0:=Lib.hid hx0
 have HVW:=Lib.hid (fun W (h:Ext w W)=>hV.ext h)
 have hnn:=nodes_eq e
 obtain ⟨s,rfl,hs⟩:=hV
 have HSW:=Lib.hid (fun W (h:Ext w W)=>hs.ext h)
 obtain ⟨a,b,o,cap,rfl,hc1,hc2,ha,hr⟩:=hs.open
 clear hmk ih hx0 hs
 have x1:=ext_alloc w (.cells (e.cells (.slice a e.l.length cap)).toArray 44)
 have x2:=ext_alloc (w.alloc (.cells (e.cells (.slice a e.l.length cap)).toArray 44)) (.cells #[.int .i64 0,.int .u64 0] 60)
 have hE:=(Blk.new w (e.cells (.slice a e.l.length cap)).toArray 44).ext x2
 have hR:=Blk.new (w.alloc (.cells (e.cells (.slice a e.l.length cap)).toArray 44)) #[.int .i64 0,.int .u64 0] 60
 have hX:=x1.trans x2
 simp only [World.size_alloc] at hR
 clear x1 x2
 have HN:=Lib.hid hn
 have HNN:=Lib.hid hnn
 clear hn hnn
 go_enter Tryz.func49,Tryz.ntmps49
 go_upto_region 1 with fail
 generalize (w.alloc _).alloc _=w0 at *
 have x3:=ext_alloc w0 (.cells #[] 60)
 have hL:=Blk.new w0 #[] 60
 have HE:=Lib.hid (hE.ext x3)
 have HE0:=Lib.hid hE
 have HR0:=Lib.hid hR
 have HX1:=Lib.hid hX
 have hrow:=RowIs.empty (V:=VBt) (size:=2) (N:=w0.heap.size) hL (Nat.le_refl _)
 have hsl:w0.heap.size < (w0.alloc (.cells #[] 60)).heap.size:=by simp
 have hx3:=x3
 clear hE hR hX x3 hL
 go_wp2_with ((with_reducible show Jw (Op.buildSlice _ _ _));refine wpList_bs0 rfl _ rfl appBits ?_;have g7:=HE.out.has 7 _ rfl)
 generalize w0.alloc _=w1 at *
 go_loopw [5,7,12] (fun v _ i wr=>∃ k:Nat,k ≤ e.l.length∧i=.int .i64 k∧RowIs VBt 60 2 w0.heap.size v ((e.l.take k).map f) wr∧Ext w0 wr) (fun _ _ i _=>e.l.length - (intOf i).toNat)
 case atStart=>exact ⟨0,Nat.zero_le _,rfl,hrow,hx3⟩
 case round =>
  obtain ⟨k,hk,rfl,hrow,hB⟩:=hrel
  have HROW:=Lib.hid hrow
  have HXB:=Lib.hid hB
  have hsz:=hB.size
  clear hrow hB hx3
  by_cases hlt:k < e.l.length
  ·obtain rfl:=ha (by omega)
   have hmem:e.l[k] ∈ e.l:=List.getElem_mem hlt
   have hle:=le_sumBy nodes e.l _ hmem
   have hnk:nodes e.l[k] ≤ 1048576:=by have:=HN.out;have:=HNN.out;omega
   obtain ⟨s2,h1,h2⟩:=Es.get (hr.mono fun x _ b o h=>EAt.ext ((HX1.out.trans HXB.out)) x b o h) hlt
   have hve:VE wr (e.l[k].cells s2) e.l[k]:=⟨s2,rfl,h2⟩
   have hex:=ext_alloc wr (.cells (e.l[k].cells s2).toArray 44)
   have hbx:=Has.alloc wr (e.l[k].cells s2) 44
   have HC:=Lib.hid (IH.out _ hmem (e.l[k].cells s2) _ ((HX0.out.trans (HX1.out.trans HXB.out)).trans hex) (hve.ext hex) hnk)
   have hone:(e.l[k].cells s2).all (·.oneCell')=true:=hve.one
   have hat:(e.l.take (k + 1)).map f=(e.l.take k).map f ++ [f e.l[k]]:=by rw [take_snoc _ _ hlt,List.map_append,List.map_cons,List.map_nil]
   have hln:((e.l.take k).map f).length=k:=by rw [List.length_map,List.length_take];omega
   have HAT:=Lib.hid hat
   have HLN:=Lib.hid hln
   have HK:=Lib.hid (show k + 1 ≤ 16777216 by have:=HN.out;have:=HNN.out;have:=length_le_sumBy nodes e.l (fun x _=>nodes_pos x);omega)
   generalize (e.l.take k).map f=rr at *
   generalize e.l[k]=x at *
   clear hat hln hve h2 hle hnk hmem
   go_upto_region 5 with (first | ((with_reducible show Jw (Op.load 44 _));refine wpList_load_has rfl 44 _ rfl rfl (h1) agg_E rfl ?_) | ((with_reducible show Jw (Op.store 44 _ _));refine wpList_store_new rfl 44 _ _ rfl rfl (by first | rfl | simp) rfl agg_E (rfl) rfl (hone) ?_))
   generalize wr.alloc _=w2 at *
   have HX2:=Lib.hid hex
   clear hex h1
   go_wp2_with (first | ((with_reducible show Jw (Op.load 44 _));refine wpList_load_has rfl 44 _ rfl rfl (hbx) agg_E rfl ?_) | (go_at_call 49;refine (HC.out).mono ?_;rintro r w3 ⟨rfl,hx3⟩) | ((with_reducible show Jw (Op.buildSlice _ _ _));refine wpList_bs1 rfl _ _ rfl appBits rfl (cs:=(f x).cells) rfl rfl (by decide) ?_) | ((with_reducible show Jw (Op.call { callee:=.builtin .append,args:=_,argTypes:=_ }));refine Hid.out ?_))
   refine Lib.hid ?_
   have hx4:=ext_alloc w3 (.cells (f x).cells.toArray 60)
   have hb4:=Has.alloc w3 (f x).cells 60
   have hall:=(HX2.out.trans hx3).trans hx4
   have hrow4:=HROW.out.since (Since.of_ext (N:=w0.heap.size) hall)
   have hkk:=HK.out
   have hln:=HLN.out
   refine wpList_app1 rfl _ _ _ rfl appBits rfl hrow4 rfl rfl hb4 rfl (y:=f x) VBt.st (by omega) (by have:=hall.size;omega) ?_
   intro g7 cap7 w7 hrow7 hg7
   have hX7:Ext w0 w7:=Ext.grownO (HXB.out.trans hall) hg7 (fun j hj=>(hrow4.lt j hj).1)
   have HR7:=Lib.hid hrow7
   have HX7:=Lib.hid hX7
   clear hrow7 hX7 hg7 hrow4 hx4 hb4 hall hkk
   rw [hln]
   clear hln
   generalize w3.alloc _=w4 at *
   go_wp2_with fail
   go_roundw
   case rel=>exact ⟨k + 1,by omega,by go_num,by have h:=HR7.out;rw [HLN.out] at h;rw [HAT.out];exact h,HX7.out⟩
   case measure=>simp [intOf];omega
  ·obtain rfl:k=e.l.length:=by omega
   rw [List.take_length] at HROW
   have hsl:=RowIs.sl (V:=VBt) (At:=BtAt) (fun _ _ _ _ _ h hv=>VBt.at h hv) HROW.out (Since.refl _ wr)
   have HC:=Lib.hid (HMK.out _ _ wr (HX0.out.trans (HX1.out.trans HXB.out)) (HVW.out wr (HX1.out.trans HXB.out)) hsl)
   have e0:=(HE0.out.ext HXB.out).has
   obtain ⟨ra,rcap,hre,-⟩:=HROW.out.open
   rw [List.length_map] at hre
   subst hre
   clear hsl
   go_wp2_with (first | ((with_reducible show Jw (Op.load 44 _));refine wpList_load_has rfl 44 _ rfl rfl (e0) agg_E rfl ?_) | ((with_reducible show Jw (Op.call { callee:=.value (.tmp _),args:=_,argTypes:=_ }));refine wpList_call_fv rfl _ _ _ rfl rfl eg rfl HC.out ?_;intro w5 hx5) | ((with_reducible show Jw (Op.store 60 _ _));refine wpList_store_blk rfl 60 _ _ rfl ((HR0.out.ext HXB.out).ext hx5) rfl (cs:=(f e).cells) (rfl) agg_Bits (rfl) rfl (rfl) ?_;intro w6 hb6 hg6))
   refine post_ret_blk rfl rfl hb6.has agg_Bits rfl rfl ⟨rfl,?_⟩
   exact ((HX1.out.trans HXB.out).trans hx5).grown hg6 (by omega)
theorem upB_calls (g:FuncId) (lb:Array Value) (eg:Leads Tryz.prog g) (f:E→Bt) (wb:World) (Good:E→Prop) (hgood:∀ e,Good e→∀ x ∈ e.l,Good x)
  (hmk:∀ e,Good e→∀ (cs:List Value) (s:Value) (W:World),Ext wb W→VE W cs e→Bts W s (e.l.map f)→Calls Tryz.prog g (#[.agg cs.toArray,s] ++ lb) W fun r w'=>r=.returned (.agg (f e).cells.toArray)∧Ext W w')
  (e:E):Good e→UpSaid g lb f wb e :=
 E.ind (P:=fun e=>Good e→UpSaid g lb f wb e) (fun e ih h=>upB_step g lb eg f wb e (hmk e h) fun x hx=>ih x hx (hgood e h x hx)) e
open Go.RowKit
theorem zE_cells:(zE.cells (.slice none 0 0)).toArray = #[.int .i64 0,.int .i64 0,.int .u64 0,.int .i64 0,.int .i64 0,.int .i64 0,.int .i64 0,.slice none 0 0]:=rfl
def MakesE (g:FuncId) (lb:Array Value) (f:E→E) (wb:World) (e:E):Prop:=∀ (cs:List Value) (s:Value) (M:Nat) (W:World),M ≤ W.heap.size→Ext wb W→VE W cs e→RowIs VE 44 8 M s (e.l.map f) W →
 Calls Tryz.prog g (#[.agg cs.toArray,s] ++ lb) W fun r W'=>∃ cs',r=.returned (.agg cs'.toArray)∧FV VE M W' cs' (f e)∧Ext W W'
def UpSaidE (g:FuncId) (lb:Array Value) (f:E→E) (wb:World) (e:E):Prop:=∀ (cs:List Value) (w:World),Ext wb w→VE w cs e→nodes e ≤ 1048576 →
 Calls Tryz.prog 56 #[.agg cs.toArray,.func (.func g) #[] lb] w fun r w'=>∃ cs',r=.returned (.agg cs'.toArray)∧FV VE w.heap.size w' cs' (f e)∧Ext w w'
set_option maxRecDepth 100000 in
set_option maxHeartbeats 2000000 in
theorem upE_step (g:FuncId) (lb:Array Value) (eg:Leads Tryz.prog g) (f:E→E) (wb:World) (e:E)
  (hmk:MakesE g lb f wb e) (ih:∀ x ∈ e.l,UpSaidE g lb f wb x):UpSaidE g lb f wb e:=by
 intro cs w hx0 hV hn
 have HMK:=Lib.hid hmk
 have IH:=Lib.hid ih
 have HX0:=Lib.hid hx0
 have HVW:=Lib.hid (fun W (h:Ext w W)=>hV.ext h)
 have hnn:=nodes_eq e
 obtain ⟨s,rfl,hs⟩:=hV
 have HSW:=Lib.hid (fun W (h:Ext w W)=>hs.ext h)
 obtain ⟨a,b,o,cap,rfl,hc1,hc2,ha,hr⟩:=hs.open
 clear hmk ih hx0 hs
 have x1:=ext_alloc w (.cells (e.cells (.slice a e.l.length cap)).toArray 44)
 have x2:=ext_alloc (w.alloc (.cells (e.cells (.slice a e.l.length cap)).toArray 44)) (.cells (zE.cells (.slice none 0 0)).toArray 44)
 have hE:=(Blk.new w (e.cells (.slice a e.l.length cap)).toArray 44).ext x2
 have hR:=Blk.new (w.alloc (.cells (e.cells (.slice a e.l.length cap)).toArray 44)) (zE.cells (.slice none 0 0)).toArray 44
 have hX:=x1.trans x2
 have HLE:=Lib.hid (show ((w.alloc (.cells (e.cells (.slice a e.l.length cap)).toArray 44)).alloc (.cells (zE.cells (.slice none 0 0)).toArray 44)).heap.size=w.heap.size + 1 + 1 by simp only [World.size_alloc])
 simp only [World.size_alloc] at hR
 clear x1 x2
 have HN:=Lib.hid hn
 have HNN:=Lib.hid hnn
 clear hn hnn
 rw [zE_cells] at *
 go_enter Tryz.func56,Tryz.ntmps56
 go_upto_region 1 with fail
 generalize (w.alloc _).alloc _=w0 at *
 have x3:=ext_alloc w0 (.cells #[] 44)
 have hL:=Blk.new w0 #[] 44
 have HE:=Lib.hid (hE.ext x3)
 have HE0:=Lib.hid hE
 have HR0:=Lib.hid hR
 have HX1:=Lib.hid hX
 have hrow:=RowIs.empty (V:=VE) (size:=8) (N:=w0.heap.size) hL (Nat.le_refl _)
 have hsl:w0.heap.size < (w0.alloc (.cells #[] 44)).heap.size:=by simp
 have hx3:=x3
 clear hE hR hX x3 hL
 go_wp2_with ((with_reducible show Jw (Op.buildSlice _ _ _));refine wpList_bs0 rfl _ rfl appE ?_;have g7:=HE.out.has 7 _ rfl)
 generalize w0.alloc _=w1 at *
 go_loopw [5,7,12] (fun v _ i wr=>∃ k:Nat,k ≤ e.l.length∧i=.int .i64 k∧RowIs VE 44 8 w0.heap.size v ((e.l.take k).map f) wr∧Ext w0 wr) (fun _ _ i _=>e.l.length - (intOf i).toNat)
 case atStart=>exact ⟨0,Nat.zero_le _,rfl,hrow,hx3⟩
 case round =>
  obtain ⟨k,hk,rfl,hrow,hB⟩:=hrel
  have HROW:=Lib.hid hrow
  have HXB:=Lib.hid hB
  have hsz:=hB.size
  clear hrow hB hx3
  by_cases hlt:k < e.l.length
  ·obtain rfl:=ha (by omega)
   have hmem:e.l[k] ∈ e.l:=List.getElem_mem hlt
   have hle:=le_sumBy nodes e.l _ hmem
   have hnk:nodes e.l[k] ≤ 1048576:=by have:=HN.out;have:=HNN.out;omega
   obtain ⟨s2,h1,h2⟩:=Es.get (hr.mono fun x _ b o h=>EAt.ext ((HX1.out.trans HXB.out)) x b o h) hlt
   have hve:VE wr (e.l[k].cells s2) e.l[k]:=⟨s2,rfl,h2⟩
   have hex:=ext_alloc wr (.cells (e.l[k].cells s2).toArray 44)
   have hbx:=Has.alloc wr (e.l[k].cells s2) 44
   have HC:=Lib.hid (IH.out _ hmem (e.l[k].cells s2) _ ((HX0.out.trans (HX1.out.trans HXB.out)).trans hex) (hve.ext hex) hnk)
   have hone:(e.l[k].cells s2).all (·.oneCell')=true:=hve.one
   have hat:(e.l.take (k + 1)).map f=(e.l.take k).map f ++ [f e.l[k]]:=by rw [take_snoc _ _ hlt,List.map_append,List.map_cons,List.map_nil]
   have hln:((e.l.take k).map f).length=k:=by rw [List.length_map,List.length_take];omega
   have HAT:=Lib.hid hat
   have HLN:=Lib.hid hln
   have HK:=Lib.hid (show k + 1 ≤ 16777216 by have:=HN.out;have:=HNN.out;have:=length_le_sumBy nodes e.l (fun x _=>nodes_pos x);omega)
   have HWW:=Lib.hid hex.size
   generalize (e.l.take k).map f=rr at *
   generalize e.l[k]=x at *
   clear hat hln hve h2 hle hnk hmem
   go_upto_region 5 with (first | ((with_reducible show Jw (Op.load 44 _));refine wpList_load_has rfl 44 _ rfl rfl (h1) agg_E rfl ?_) | ((with_reducible show Jw (Op.store 44 _ _));refine wpList_store_new rfl 44 _ _ rfl rfl (by first | rfl | simp) rfl agg_E (rfl) rfl (hone) ?_))
   generalize wr.alloc _=w2 at *
   have HX2:=Lib.hid hex
   clear hex h1
   go_wp2_with (first | ((with_reducible show Jw (Op.load 44 _));refine wpList_load_has rfl 44 _ rfl rfl (hbx) agg_E rfl ?_) | (go_at_call 56;refine HC.out.mono ?_;rintro r w3 ⟨cs3,rfl,hfv3,hx3⟩;have HFV3:=Lib.hid hfv3;clear hfv3) | ((with_reducible show Jw (Op.buildSlice _ _ _));refine wpList_bs1 rfl _ _ rfl appE rfl (cs:=cs3) rfl HFV3.out.lenE (by decide) ?_) | ((with_reducible show Jw (Op.call { callee:=.builtin .append,args:=_,argTypes:=_ }));refine Hid.out ?_))
   refine Lib.hid ?_
   have hx4:=ext_alloc w3 (.cells cs3.toArray 44)
   have hb4:=Has.alloc w3 cs3 44
   have hall:=(HX2.out.trans hx3).trans hx4
   have hrow4:=HROW.out.since (Since.of_ext (N:=w0.heap.size) hall)
   have hkk:=HK.out
   have hln:=HLN.out
   have hfv4:=HFV3.out.ext hx4
   have hlt4:=HROW.out.lt
   have hww:=HWW.out
   refine wpList_app1 rfl _ _ _ rfl appE rfl hrow4 rfl HFV3.out.lenE hb4 HFV3.out.oneE (y:=f x) (hfv4.st (by omega) (fun j hj=>by have:=(hlt4 j hj).2;omega)) (by omega) (by have:=hall.size;omega) ?_
   intro g7 cap7 w7 hrow7 hg7
   have hX7:Ext w0 w7:=Ext.grownO (HXB.out.trans hall) hg7 (fun j hj=>(hrow4.lt j hj).1)
   have HR7:=Lib.hid hrow7
   have HX7:=Lib.hid hX7
   clear hrow7 hX7 hg7 hrow4 hx4 hb4 hall hkk hfv4 hlt4 hww
   rw [hln]
   clear hln
   generalize w3.alloc _=w4 at *
   go_wp2_with fail
   go_roundw
   case rel=>exact ⟨k + 1,by omega,by go_num,by have h:=HR7.out;rw [HLN.out] at h;rw [HAT.out];exact h,HX7.out⟩
   case measure=>simp [intOf];omega
  ·obtain rfl:k=e.l.length:=by omega
   rw [List.take_length] at HROW
   have hC0:=HMK.out _ _ w0.heap.size wr HXB.out.size (HX0.out.trans (HX1.out.trans HXB.out)) (HVW.out wr (HX1.out.trans HXB.out)) HROW.out
   have HC:=Lib.hid (hC0.mono (R':=fun r W'=>∃ u,r=.returned u∧∃ cs',u=.agg cs'.toArray∧FV VE w0.heap.size W' cs' (f e)∧Ext wr W') (fun r W' ⟨cs',h1,h2⟩=>⟨_,h1,cs',rfl,h2⟩))
   have e0:=(HE0.out.ext HXB.out).has
   obtain ⟨ra,rcap,hre,-⟩:=HROW.out.open
   rw [List.length_map] at hre
   subst hre
   go_wp2_with (first | ((with_reducible show Jw (Op.load 44 _));refine wpList_load_has rfl 44 _ rfl rfl (e0) agg_E rfl ?_) | ((with_reducible show Jw (Op.call { callee:=.value (.tmp _),args:=_,argTypes:=_ }));refine wpList_call_fvx rfl _ [_,_] _ rfl rfl eg rfl HC.out ?_;rintro u5 w5 ⟨cs5,rfl,hfv5,hx5⟩;have H5:=Lib.hid hfv5;clear hfv5) | ((with_reducible show Jw (Op.store 44 _ _));refine wpList_store_blk rfl 44 _ _ rfl ((HR0.out.ext HXB.out).ext hx5) rfl (cs:=cs5) (rfl) agg_E (H5.out.lenE) rfl (H5.out.oneE) ?_;intro w6 hb6 hg6) | ((with_reducible show bodyPost _ _ _ _ _ _);refine Hid.out ?_))
   refine Lib.hid ?_
   have hle:=HLE.out
   refine post_ret_blk rfl rfl hb6.has agg_E H5.out.lenE rfl ⟨cs5,rfl,?_,?_⟩
   ·exact (H5.out.since (Since.of_grown hg6 (by omega))).mono (by omega)
   ·exact ((HX1.out.trans HXB.out).trans hx5).grown hg6 (by omega)
theorem upE_calls (g:FuncId) (lb:Array Value) (eg:Leads Tryz.prog g) (f:E→E) (wb:World) (Good:E→Prop) (hgood:∀ e,Good e→∀ x ∈ e.l,Good x)
  (hmk:∀ e,Good e→MakesE g lb f wb e) (e:E):Good e→UpSaidE g lb f wb e :=
 E.ind (P:=fun e=>Good e→UpSaidE g lb f wb e) (fun e ih h=>upE_step g lb eg f wb e (hmk e h) fun x hx=>ih x hx (hgood e h x hx)) e
open Go.RowKit
def wsN (ls:List Signal) (op w v sig hi lo n:Int) (ws:List Int):Prop :=
 (op=1∧ws=[]∧1 ≤ w∧w ≤ 64∧holds w v=true∧sig=0∧hi=0∧lo=0∧n=0) ∨
 (op=2∧ws=[]∧slice ls sig hi lo=true∧w=hi - lo + 1∧v=0∧n=0) ∨
 (op=3∧(∃ k,ws=[k])∧0 ≤ sig∧sig < ls.length∧w=1∧v=0∧hi=0∧lo=0∧n=0) ∨
 (op=4∧(∃ k,ws=[k]∧(1 ≤ n∧n ≤ 2∧k=w ∨ 3 ≤ n∧n ≤ 5∧w=1 ∨ n=6∧w=1∧k=1))∧v=0∧sig=0∧hi=0∧lo=0) ∨
 (op=5∧(∃ j k,ws=[j,k]∧(11 ≤ n∧n ≤ 16∧j=w∧k=w ∨ 17 ≤ n∧n ≤ 18∧j=w ∨ 19 ≤ n∧n ≤ 24∧w=1∧j=k ∨ 25 ≤ n∧n ≤ 26∧w=1∧j=1∧k=1))∧v=0∧sig=0∧hi=0∧lo=0) ∨
 (op=6∧ws=[1,w,w]∧v=0∧sig=0∧hi=0∧lo=0∧n=0) ∨
 (op=7∧ws ≠ []∧w=ws.sum∧w ≤ 64∧v=0∧sig=0∧hi=0∧lo=0∧n=0) ∨
 (op=8∧(∃ k,ws=[k]∧(31 ≤ n∧n ≤ 32∧k ≤ w ∨ n=33∧w ≤ k))∧1 ≤ w∧w ≤ 64∧v=0∧sig=0∧hi=0∧lo=0)
def WS (ls:List Signal):E→Prop
 | ⟨op,w,v,sig,hi,lo,n,l⟩=>wsN ls op w v sig hi lo n (l.map (·.w))∧all l
where all:List E→Prop
 | []=>True
 | e :: l=>WS ls e∧all l
theorem WS_iff (ls:List Signal) (e:E):WS ls e ↔ wsN ls e.op e.w e.v e.sig e.hi e.lo e.n (e.l.map (·.w))∧∀ x ∈ e.l,WS ls x:=by
 have h:∀ l,WS.all ls l ↔ ∀ x ∈ l,WS ls x:=by
  intro l;induction l with
  | nil=>simp [WS.all]
  | cons x l ih=>simp [WS.all,ih]
 cases e;simp [WS,h]
theorem map1 {α β : Type} {f : α→β} {l:List α} {a : β} (h:l.map f=[a]):∃ x,l=[x]∧f x=a:=by
 cases l with
 | nil=>cases h
 | cons x l=>simp at h;exact ⟨x,by rw [h.2],h.1⟩
theorem map2 {α β : Type} {f : α→β} {l:List α} {a b : β} (h:l.map f=[a,b]):∃ x y,l=[x,y]∧f x=a∧f y=b:=by
 cases l with
 | nil=>cases h
 | cons x l =>
  simp only [List.map_cons,List.cons.injEq] at h
  obtain ⟨y,rfl,h2⟩:=map1 h.2
  exact ⟨x,y,rfl,h.1,h2⟩
theorem map3 {α β : Type} {f : α→β} {l:List α} {a b c : β} (h:l.map f=[a,b,c]):∃ x y z,l=[x,y,z]∧f x=a∧f y=b∧f z=c:=by
 cases l with
 | nil=>cases h
 | cons x l =>
  simp only [List.map_cons,List.cons.injEq] at h
  obtain ⟨y,z,rfl,h2,h3⟩:=map2 h.2
  exact ⟨x,y,z,rfl,h.1,h2,h3⟩
theorem own_cat_sum (l:List E) (h:∀ x ∈ l,own x=x.w∧1 ≤ x.w):∀ n,own.cat l n=n + (l.map (·.w)).sum:=by
 induction l with
 | nil=>intro n;simp [own.cat]
 | cons x l ih =>
  intro n
  have hx:=h x (by simp)
  rw [own.cat,if_neg (by omega),ih (fun y hy=>h y (by simp [hy]))]
  simp only [List.map_cons,List.sum_cons]
  omega
theorem sum_pos (l:List E) (h:∀ x ∈ l,1 ≤ x.w):(l.length:Int) ≤ (l.map (·.w)).sum:=by
 induction l with
 | nil=>simp
 | cons x l ih =>
  have:=h x (by simp)
  have:=ih fun y hy=>h y (by simp [hy])
  simp only [List.map_cons,List.sum_cons,List.length_cons]
  omega
theorem ws_own {ls:List Signal} (hls:∀ x ∈ ls,x.w ≤ 64) (e:E):WS ls e→own e=e.w∧1 ≤ e.w∧e.w ≤ 64:=by
 induction e using E.ind with
 | h e ih =>
  intro h
  obtain ⟨h0,hp⟩:=(WS_iff ls e).1 h
  have ih2:=fun x hx=>ih x hx (hp x hx)
  clear ih hp h
  rw [own_eq]
  obtain ⟨op,w,v,sig,hi,lo,n,l⟩:=e
  simp only at h0 ih2 ⊢
  rcases h0 with ⟨rfl,-,h1,h2,-⟩ | ⟨rfl,-,h1,h2,-⟩ | ⟨rfl,⟨k,hk⟩,-,-,rfl,-⟩ | ⟨rfl,⟨k,hk,h1⟩,-⟩ | ⟨rfl,⟨j,k,hk,h1⟩,-⟩ | ⟨rfl,hk,-⟩ | ⟨rfl,h1,h2,h3,-⟩ | ⟨rfl,⟨k,hk,h1⟩,h2,h3,-⟩
  ·simp;omega
  ·have:=slice_le ls hls h1
   have:=sigW_le ls hls sig
   simp;omega
  ·simp
  ·obtain ⟨x,rfl,rfl⟩:=map1 hk
   have:=ih2 x (by simp)
   rcases h1 with ⟨a1,a2,a3⟩ | ⟨a1,a2,a3⟩ | ⟨rfl,a2,a3⟩
   ·simp [a2,own.hd];omega
   ·simp [show ¬ n ≤ 2 by omega];omega
   ·simp;omega
  ·obtain ⟨x,y,rfl,rfl,rfl⟩:=map2 hk
   have hx:=ih2 x (by simp)
   have hy:=ih2 y (by simp)
   rcases h1 with ⟨a1,a2,a3,a4⟩ | ⟨a1,a2,a3⟩ | ⟨a1,a2,a3,a4⟩ | ⟨a1,a2,a3,a4⟩
   ·simp [a2,own.fst,show ¬ own x=0 by omega];omega
   ·simp [show ¬ n ≤ 16 by omega,a2,own.hd];omega
   ·simp [show ¬ n ≤ 16 by omega,show ¬ n ≤ 18 by omega];omega
   ·simp [show ¬ n ≤ 16 by omega,show ¬ n ≤ 18 by omega];omega
  ·obtain ⟨c,x,y,rfl,hc,hx,hy⟩:=map3 hk
   have:=ih2 x (by simp)
   simp [own.fst2,own.fst,show ¬ own x=0 by omega];omega
  ·have hs:=sum_pos l (fun x hx=>(ih2 x hx).2.1)
   have hl:0 < l.length:=by cases l with
    | nil=>exact absurd rfl h1
    | cons=>simp
   simp
   rw [own_cat_sum l (fun x hx=>⟨(ih2 x hx).1,(ih2 x hx).2.1⟩)]
   omega
  ·simp;omega
theorem sizeL_inv {x y:E} {l r:List E} {ps:List Int} (h:sizeE.sizeL (x :: l) ps=.ok (y :: r)):sizeE x (ps.headD 0)=.ok y∧sizeE.sizeL l ps.tail=.ok r:=by
 rw [sizeE.sizeL] at h
 cases hx:sizeE x (ps.headD 0) with
 | error f=>simp only [hx] at h;cases h
 | ok x' =>
  simp only [hx] at h
  cases hl:sizeE.sizeL l ps.tail with
  | error f=>simp only [hl] at h;cases h
  | ok r' =>
   simp only [hl] at h
   injection h with h
   injection h with h1 h2
   rw [h1,h2];exact ⟨rfl,rfl⟩
theorem sizeL_rep_inv (k:Int) (l:List E) (h:sizeE.sizeL l (List.replicate l.length k)=.ok l):∀ x ∈ l,sizeE x k=.ok x:=by
 induction l with
 | nil=>simp
 | cons x l ih =>
  obtain ⟨h1,h2⟩:=sizeL_inv h
  simp only [List.length_cons,List.replicate_succ,List.headD_cons,List.tail_cons] at h1 h2
  intro y hy
  cases hy with
  | head=>exact h1
  | tail _ hy=>exact ih h2 y hy
theorem ws_of_size {ls:List Signal} (hls:∀ x ∈ ls,x.w ≤ 64) (e:E):shape ls e=true→∀ p,-1 ≤ p→sizeE e p=.ok e→WS ls e∧e.w=told (if p = -1 then 1 else p) (told (own e) 32):=by
 induction e using E.ind with
 | h e ih =>
  intro hs p hpp h
  have hok:=ownOk_of_shape ls hls e hs
  have hon:=(own_le e hok).1
  rw [shape_eq,Bool.and_eq_true,List.all_eq_true] at hs
  obtain ⟨hs0,hsp⟩:=hs
  have ih2:=fun x hx=>ih x hx (hsp x hx)
  have hpos:1 ≤ told (if p = -1 then 1 else p) (told (own e) 32):=by
   unfold told
   repeat' split
   all_goals omega
  have ho:=own_eq e
  have hokp:=fun x hx=>(own_le x (((OwnOk_iff e).1 hok).2.2.2 x hx)).1
  rw [sizeE_eq] at h
  clear hok
  generalize told (if p = -1 then 1 else p) (told (own e) 32)=w2 at *
  clear ih
  split at h
  ·cases h
  ·split at h
   ·rename_i h2
    split at h
    ·injection h with h
     have:=congrArg E.w h
     simp only at this
     omega
    ·cases h
   ·split at h
    ·cases h
    ·rename_i ps hps
     split at h
     ·cases h
     ·rename_i l' hl'
      split at h
      ·cases h
      ·rename_i hext
       injection h with h
       have hw:=congrArg E.w h
       have hl:=congrArg E.l h
       simp only at hw hl
       subst hl
       subst hw
       refine ⟨(WS_iff ls e).2 ?_,rfl⟩
       clear h
       obtain ⟨op,w,v,sig,hi,lo,n,l⟩:=e
       simp only at *
       have all0:ps=List.replicate l.length 0→∀ x ∈ l,WS ls x:=fun hq x hx=>(ih2 x hx 0 (by omega) (sizeL_rep_inv 0 l (by rw [← hq];exact hl') x hx)).1
       have t0:∀ x ∈ l,∀ k,-1 ≤ k→k ≠ 0→sizeE x k=.ok x→WS ls x∧x.w=if k = -1 then 1 else k:=fun x hx k hk hk0 hq=>by
        obtain ⟨q1,q2⟩:=ih2 x hx k hk hq
        refine ⟨q1,?_⟩
        rw [q2];unfold told
        rw [if_neg (by split <;> omega)]
       have ihz:=ih2
       clear ih2
       unfold shape0 at hs0
       repeat' split at hs0
       all_goals try simp only [Bool.and_eq_true,Bool.or_eq_true,decide_eq_true_eq] at hs0
       ·rename_i o;subst o
        obtain rfl:l=[]:=List.eq_nil_of_length_eq_zero (by omega)
        exact ⟨.inl ⟨rfl,rfl,hpos,by omega,hs0.1.2.resolve_left (by omega),by omega,by omega,by omega,by omega⟩,by simp⟩
       ·rename_i o;subst o
        obtain rfl:l=[]:=List.eq_nil_of_length_eq_zero (by omega)
        simp [wantedL,ho] at hps
        exact ⟨.inr (.inl ⟨rfl,rfl,hs0.1.2,by omega,by omega,by omega⟩),by simp⟩
       ·rename_i o;subst o
        obtain ⟨x,rfl⟩:=List.length_eq_one_iff.1 hs0.1.1.1
        simp [wantedL,ho] at hps
        exact ⟨.inr (.inr (.inl ⟨rfl,⟨x.w,rfl⟩,by omega,by omega,by omega,by omega,by omega,by omega,by omega⟩)),all0 (by rw [← hps.2];rfl)⟩
       ·rename_i o;subst o
        obtain ⟨x,rfl⟩:=List.length_eq_one_iff.1 hs0.1.1.1
        have:n=1 ∨ n=2 ∨ n=3 ∨ n=4 ∨ n=5 ∨ n=6:=by omega
        have hz:v=0∧sig=0∧hi=0∧lo=0:=by omega
        have hx:=fun k h1 h2=>t0 x (by simp) k h1 h2
        have hx0:=fun h=>all0 h x (by simp)
        rcases this with rfl | rfl | rfl | rfl | rfl | rfl <;> simp [wantedL] at hps
        ·subst hps;obtain ⟨q1,-⟩:=sizeL_inv hl';simp only [List.headD_cons] at q1
         obtain ⟨q2,q3⟩:=hx _ (by omega) (by omega) q1
         exact ⟨.inr (.inr (.inr (.inl ⟨rfl,⟨x.w,rfl,.inl ⟨by decide,by decide,by rw [q3,if_neg (by omega)]⟩⟩,hz⟩))),by simpa using q2⟩
        ·subst hps;obtain ⟨q1,-⟩:=sizeL_inv hl';simp only [List.headD_cons] at q1
         obtain ⟨q2,q3⟩:=hx _ (by omega) (by omega) q1
         exact ⟨.inr (.inr (.inr (.inl ⟨rfl,⟨x.w,rfl,.inl ⟨by decide,by decide,by rw [q3,if_neg (by omega)]⟩⟩,hz⟩))),by simpa using q2⟩
        ·exact ⟨.inr (.inr (.inr (.inl ⟨rfl,⟨x.w,rfl,.inr (.inl ⟨by decide,by decide,hps.1⟩)⟩,hz⟩))),by simpa using hx0 (by rw [← hps.2];rfl)⟩
        ·exact ⟨.inr (.inr (.inr (.inl ⟨rfl,⟨x.w,rfl,.inr (.inl ⟨by decide,by decide,hps.1⟩)⟩,hz⟩))),by simpa using hx0 (by rw [← hps.2];rfl)⟩
        ·exact ⟨.inr (.inr (.inr (.inl ⟨rfl,⟨x.w,rfl,.inr (.inl ⟨by decide,by decide,hps.1⟩)⟩,hz⟩))),by simpa using hx0 (by rw [← hps.2];rfl)⟩
        ·obtain ⟨rfl,rfl⟩:=hps;obtain ⟨q1,-⟩:=sizeL_inv hl';simp only [List.headD_cons] at q1
         obtain ⟨q2,q3⟩:=hx _ (by omega) (by omega) q1
         exact ⟨.inr (.inr (.inr (.inl ⟨rfl,⟨x.w,rfl,.inr (.inr ⟨rfl,rfl,by rw [q3];rfl⟩)⟩,hz⟩))),by simpa using q2⟩
       ·rename_i o;subst o
        obtain ⟨x,y,rfl⟩ : ∃ x y,l=[x,y]:=by
         match l,hs0.1.1.1 with
         | [x,y],_=>exact ⟨x,y,rfl⟩
        have hz:v=0∧sig=0∧hi=0∧lo=0:=by omega
        have hwl:(11 ≤ n∧n ≤ 16∧ps=[w,w]) ∨ (17 ≤ n∧n ≤ 18∧ps=[w,0]) ∨ (19 ≤ n∧n ≤ 24∧w=1∧ps=[told (own.fst [x,y]) 32,told (own.fst [x,y]) 32]) ∨ (25 ≤ n∧n ≤ 26∧w=1∧ps=[-1,-1]):=by
         unfold wantedL at hps
         simp only at hps
         repeat' split at hps
         all_goals simp [List.replicate] at hps
         all_goals try omega
         all_goals subst hps
         ·exact .inr (.inr (.inr ⟨by omega,by omega,by omega,rfl⟩))
         ·exact .inr (.inr (.inl ⟨by omega,by omega,by omega,rfl⟩))
         ·exact .inr (.inl ⟨by omega,by omega,rfl⟩)
         ·exact .inl ⟨by omega,by omega,rfl⟩
         ·rename_i q1 q2;exact absurd (Or.inr trivial) q1
        have hx:=fun k h1 h2=>t0 x (by simp) k h1 h2
        have hy:=fun k h1 h2=>t0 y (by simp) k h1 h2
        have hxo:=hokp x (by simp)
        have hyo:=hokp y (by simp)
        obtain ⟨q1,q2⟩ : sizeE x (ps.headD 0)=.ok x∧sizeE y (ps.tail.headD 0)=.ok y:=by
         obtain ⟨q1,q2⟩:=sizeL_inv hl'
         exact ⟨q1,(sizeL_inv q2).1⟩
        rcases hwl with ⟨a1,a2,rfl⟩ | ⟨a1,a2,rfl⟩ | ⟨a1,a2,a3,rfl⟩ | ⟨a1,a2,a3,rfl⟩
        all_goals simp only [List.headD_cons,List.tail_cons] at q1 q2
        ·obtain ⟨b1,b2⟩:=hx _ (by omega) (by omega) q1
         obtain ⟨c1,c2⟩:=hy _ (by omega) (by omega) q2
         rw [if_neg (by omega)] at b2 c2
         exact ⟨.inr (.inr (.inr (.inr (.inl ⟨rfl,⟨x.w,y.w,rfl,.inl ⟨a1,a2,b2,c2⟩⟩,hz⟩)))),by simp;exact ⟨b1,c1⟩⟩
        ·obtain ⟨b1,b2⟩:=hx _ (by omega) (by omega) q1
         rw [if_neg (by omega)] at b2
         exact ⟨.inr (.inr (.inr (.inr (.inl ⟨rfl,⟨x.w,y.w,rfl,.inr (.inl ⟨a1,a2,b2⟩)⟩,hz⟩)))),by simp;exact ⟨b1,(ihz y (by simp) 0 (by omega) q2).1⟩⟩
        ·have hk:told (own.fst [x,y]) 32 ≠ 0∧-1 ≤ told (own.fst [x,y]) 32:=by
          unfold told;simp only [own.fst];repeat' split
          all_goals omega
         obtain ⟨b1,b2⟩:=hx _ hk.2 hk.1 q1
         obtain ⟨c1,c2⟩:=hy _ hk.2 hk.1 q2
         exact ⟨.inr (.inr (.inr (.inr (.inl ⟨rfl,⟨x.w,y.w,rfl,.inr (.inr (.inl ⟨a1,a2,a3,b2.trans c2.symm⟩))⟩,hz⟩)))),by simp;exact ⟨b1,c1⟩⟩
        ·obtain ⟨b1,b2⟩:=hx _ (by simp) (by simp) q1
         obtain ⟨c1,c2⟩:=hy _ (by simp) (by simp) q2
         exact ⟨.inr (.inr (.inr (.inr (.inl ⟨rfl,⟨x.w,y.w,rfl,.inr (.inr (.inr ⟨a1,a2,a3,b2,c2⟩))⟩,hz⟩)))),by simp;exact ⟨b1,c1⟩⟩
       ·rename_i o;subst o
        obtain ⟨c,x,y,rfl⟩ : ∃ c x y,l=[c,x,y]:=by
         match l,hs0.1 with
         | [c,x,y],_=>exact ⟨c,x,y,rfl⟩
        simp [wantedL,List.replicate] at hps
        subst hps
        obtain ⟨q1,q⟩:=sizeL_inv hl'
        obtain ⟨q2,q⟩:=sizeL_inv q
        obtain ⟨q3,-⟩:=sizeL_inv q
        simp only [List.headD_cons,List.tail_cons] at q1 q2 q3
        obtain ⟨a1,a2⟩:=t0 c (by simp) _ (by omega) (by omega) q1
        obtain ⟨b1,b2⟩:=t0 x (by simp) _ (by omega) (by omega) q2
        obtain ⟨c1,c2⟩:=t0 y (by simp) _ (by omega) (by omega) q3
        rw [if_neg (by omega)] at b2 c2
        exact ⟨.inr (.inr (.inr (.inr (.inr (.inl ⟨rfl,by simp [a2,b2,c2],by omega,by omega,by omega,by omega,by omega⟩))))),by simp;exact ⟨a1,b1,c1⟩⟩
       ·rename_i o;subst o
        simp [wantedL] at hps
        obtain ⟨h1,h2⟩:=hps
        have hall:=all0 h2.symm
        have hcs:=own_cat_sum l (fun x hx=>⟨(ws_own hls x (hall x hx)).1,(ws_own hls x (hall x hx)).2.1⟩) 0
        have hl1:0 < l.length:=hs0.1
        simp at ho
        exact ⟨.inr (.inr (.inr (.inr (.inr (.inr (.inl ⟨rfl,by intro h;simp at h;rw [h] at hl1;simp at hl1,by omega,by omega,by omega,by omega,by omega,by omega,by omega⟩)))))),hall⟩
       ·rename_i o;subst o
        obtain ⟨x,rfl⟩:=List.length_eq_one_iff.1 hs0.1.1.1.1.1
        simp [wantedL,ho] at hps
        simp [sizeE.hdW] at hext
        exact ⟨.inr (.inr (.inr (.inr (.inr (.inr (.inr ⟨rfl,⟨x.w,rfl,by omega⟩,by omega,by omega,by omega,by omega,by omega,by omega⟩)))))),all0 (by rw [← hps];rfl)⟩
       ·cases hs0
end Go.Proofs.YtemabheegnngdaaGreat
