/- Laws and walks that a claim of this seat leans on: UpB, UpE, WsL, Bitv6. -/
import Derived.Test.YtemabheegnngdaaGreatU14
import Derived.Test.YtemabheegnngdaaGreatUStmtS
import Derived.Test.YtemabheegnngdaaGreatU13
import Derived.Test.YtemabheegnngdaaGreatU06
import Derived.Test.YtemabheegnngdaaGreatU07
import Derived.Test.YtemabheegnngdaaGreatU00
set_option linter.all false
namespace Go.Proofs.YtemabheegnngdaaGreat
open Go.RowKit
def VBt (_:World) (cs:List Value) (x:Bt):Prop:=cs=x.cells
theorem VBt.at {W:World} {cs:List Value} {x:Bt} {b o:Nat} (h:Has W b o cs) (hv:VBt W cs x):BtAt W x b o:=by subst hv;exact h
theorem VBt.st {N:Nat} {R:Option Nat} {w:World} {x:Bt}:StV VBt N R w x.cells x:=fun _ _ _=>rfl
theorem RowIs.empty {α : Type} {V:World→List Value→α→Prop} {e:TypeId} {size N B:Nat} {w:World} (hb:Blk w B #[] e) (hN:N ≤ B):RowIs V e size N (.slice (some ⟨B,0,none⟩) 0 0) ([]:List α) w :=
 ⟨[],⟨by simp,.inr ⟨B,0,#[],rfl,hN,hb,Nat.le_refl _,by simp [maxLen],by simp,by simp⟩⟩,rfl,by simp,fun i h=>by simp at h⟩
def UpSaid (g:FuncId) (lb:Array Value) (f:E→Bt) (wb:World) (e:E):Prop:=∀ (cs:List Value) (w:World),Ext wb w→VE w cs e→nodes e ≤ 1048576 →
 Calls Tryz.prog 49 #[.agg cs.toArray,.func (.func g) #[] lb] w fun r w'=>r=.returned (.agg (f e).cells.toArray)∧Ext w w'
set_option maxRecDepth 100000 in
set_option maxHeartbeats 2000000 in
theorem upB_step (g:FuncId) (lb:Array Value) (eg:Leads Tryz.prog g) (f:E→Bt) (wb:World) (e:E)
  (hmk:∀ (cs:List Value) (s:Value) (W:World),Ext wb W→VE W cs e→Bts W s (e.l.map f)→Calls Tryz.prog g (#[.agg cs.toArray,s] ++ lb) W fun r w'=>r=.returned (.agg (f e).cells.toArray)∧Ext W w')
  (ih:∀ x ∈ e.l,UpSaid g lb f wb x):UpSaid g lb f wb e:=by
 intro cs w hx0 hV hn
 have HMK:=Lib.hid hmk
 have IH:=Lib.hid ih
 have HX0:=Lib.hid hx0
 have HVW:=Lib.hid (fun W (h:Ext w W)=>hV.ext h)
 have hnn:=nodes_eq e
 obtain ⟨s,rfl,hs⟩:=hV
 have HSW:=Lib.hid (fun W (h:Ext w W)=>hs.ext h)
 obtain ⟨a,b,o,cap,rfl,hc1,hc2,ha,hr⟩:=hs.open
 clear hmk ih hx0 hs
 have x1:=ext_alloc w (.cells (e.cells (.slice a e.l.length cap)).toArray 44)
 have x2:=ext_alloc (w.alloc (.cells (e.cells (.slice a e.l.length cap)).toArray 44)) (.cells #[.int .i64 0,.int .u64 0] 60)
 have hE:=(Blk.new w (e.cells (.slice a e.l.length cap)).toArray 44).ext x2
 have hR:=Blk.new (w.alloc (.cells (e.cells (.slice a e.l.length cap)).toArray 44)) #[.int .i64 0,.int .u64 0] 60
 have hX:=x1.trans x2
 simp only [World.size_alloc] at hR
 clear x1 x2
 have HN:=Lib.hid hn
 have HNN:=Lib.hid hnn
 clear hn hnn
 go_enter Tryz.func49,Tryz.ntmps49
 go_upto_region 1 with fail
 generalize (w.alloc _).alloc _=w0 at *
 have x3:=ext_alloc w0 (.cells #[] 60)
 have hL:=Blk.new w0 #[] 60
 have HE:=Lib.hid (hE.ext x3)
 have HE0:=Lib.hid hE
 have HR0:=Lib.hid hR
 have HX1:=Lib.hid hX
 have hrow:=RowIs.empty (V:=VBt) (size:=2) (N:=w0.heap.size) hL (Nat.le_refl _)
 have hsl:w0.heap.size < (w0.alloc (.cells #[] 60)).heap.size:=by simp
 have hx3:=x3
 clear hE hR hX x3 hL
 go_wp2_with ((with_reducible show wpList _ _ _ (⟨_,Op.buildSlice _ _ _,_,_,_,_⟩ :: _) _ _);refine wpList_bs0 rfl _ rfl appBits ?_;have g7:=HE.out.has 7 _ rfl)
 generalize w0.alloc _=w1 at *
 go_loopw [5,7,12] (fun v _ i wr=>∃ k:Nat,k ≤ e.l.length∧i=.int .i64 k∧RowIs VBt 60 2 w0.heap.size v ((e.l.take k).map f) wr∧Ext w0 wr) (fun _ _ i _=>e.l.length - (intOf i).toNat)
 case atStart=>exact ⟨0,Nat.zero_le _,rfl,hrow,hx3⟩
 case round =>
  obtain ⟨k,hk,rfl,hrow,hB⟩:=hrel
  have HROW:=Lib.hid hrow
  have HXB:=Lib.hid hB
  have hsz:=hB.size
  clear hrow hB hx3
  by_cases hlt:k < e.l.length
  ·obtain rfl:=ha (by omega)
   have hmem:e.l[k] ∈ e.l:=List.getElem_mem hlt
   have hle:=le_sumBy nodes e.l _ hmem
   have hnk:nodes e.l[k] ≤ 1048576:=by have:=HN.out;have:=HNN.out;omega
   obtain ⟨s2,h1,h2⟩:=Es.get (hr.mono fun x _ b o h=>EAt.ext ((HX1.out.trans HXB.out)) x b o h) hlt
   have hve:VE wr (e.l[k].cells s2) e.l[k]:=⟨s2,rfl,h2⟩
   have hex:=ext_alloc wr (.cells (e.l[k].cells s2).toArray 44)
   have hbx:=Has.alloc wr (e.l[k].cells s2) 44
   have HC:=Lib.hid (IH.out _ hmem (e.l[k].cells s2) _ ((HX0.out.trans (HX1.out.trans HXB.out)).trans hex) (hve.ext hex) hnk)
   have hone:(e.l[k].cells s2).all (·.oneCell')=true:=hve.one
   have hat:(e.l.take (k + 1)).map f=(e.l.take k).map f ++ [f e.l[k]]:=by rw [take_snoc _ _ hlt,List.map_append,List.map_cons,List.map_nil]
   have hln:((e.l.take k).map f).length=k:=by rw [List.length_map,List.length_take];omega
   have HAT:=Lib.hid hat
   have HLN:=Lib.hid hln
   have HK:=Lib.hid (show k + 1 ≤ 16777216 by have:=HN.out;have:=HNN.out;have:=length_le_sumBy nodes e.l (fun x _=>nodes_pos x);omega)
   generalize (e.l.take k).map f=rr at *
   generalize e.l[k]=x at *
   clear hat hln hve h2 hle hnk hmem
   go_upto_region 5 with (first | ((with_reducible show wpList _ _ _ (⟨_,Op.load 44 _,_,_,_,_⟩ :: _) _ _);refine wpList_load_has rfl 44 _ rfl rfl (h1) agg_E rfl ?_) | ((with_reducible show wpList _ _ _ (⟨_,Op.store 44 _ _,_,_,_,_⟩ :: _) _ _);refine wpList_store_new rfl 44 _ _ rfl rfl (by first | rfl | simp) rfl agg_E (rfl) rfl (hone) ?_))
   generalize wr.alloc _=w2 at *
   have HX2:=Lib.hid hex
   clear hex h1
   go_wp2_with (first | ((with_reducible show wpList _ _ _ (⟨_,Op.load 44 _,_,_,_,_⟩ :: _) _ _);refine wpList_load_has rfl 44 _ rfl rfl (hbx) agg_E rfl ?_) | (go_at_call 49;refine (HC.out).mono ?_;rintro r w3 ⟨rfl,hx3⟩) | ((with_reducible show wpList _ _ _ (⟨_,Op.buildSlice _ _ _,_,_,_,_⟩ :: _) _ _);refine wpList_bs1 rfl _ _ rfl appBits rfl (cs:=(f x).cells) rfl rfl (by decide) ?_) | ((with_reducible show wpList _ _ _ (⟨_,Op.call { callee:=.builtin .append,args:=_,argTypes:=_ },_,_,_,_⟩ :: _) _ _);refine Hid.out ?_))
   refine Lib.hid ?_
   have hx4:=ext_alloc w3 (.cells (f x).cells.toArray 60)
   have hb4:=Has.alloc w3 (f x).cells 60
   have hall:=(HX2.out.trans hx3).trans hx4
   have hrow4:=HROW.out.since (Since.of_ext (N:=w0.heap.size) hall)
   have hkk:=HK.out
   have hln:=HLN.out
   refine wpList_app1 rfl _ _ _ rfl appBits rfl hrow4 rfl rfl hb4 rfl (y:=f x) VBt.st (by omega) (by have:=hall.size;omega) ?_
   intro g7 cap7 w7 hrow7 hg7
   have hX7:Ext w0 w7:=Ext.grownO (HXB.out.trans hall) hg7 (fun j hj=>(hrow4.lt j hj).1)
   have HR7:=Lib.hid hrow7
   have HX7:=Lib.hid hX7
   clear hrow7 hX7 hg7 hrow4 hx4 hb4 hall hkk
   rw [hln]
   clear hln
   generalize w3.alloc _=w4 at *
   go_wp2_with fail
   go_roundw
   case rel=>exact ⟨k + 1,by omega,by go_num,by have h:=HR7.out;rw [HLN.out] at h;rw [HAT.out];exact h,HX7.out⟩
   case measure=>simp [intOf];omega
  ·obtain rfl:k=e.l.length:=by omega
   rw [List.take_length] at HROW
   have hsl:=RowIs.sl (V:=VBt) (At:=BtAt) (fun _ _ _ _ _ h hv=>VBt.at h hv) HROW.out (Since.refl _ wr)
   have HC:=Lib.hid (HMK.out _ _ wr (HX0.out.trans (HX1.out.trans HXB.out)) (HVW.out wr (HX1.out.trans HXB.out)) hsl)
   have e0:=(HE0.out.ext HXB.out).has
   obtain ⟨ra,rcap,hre,-⟩:=HROW.out.open
   rw [List.length_map] at hre
   subst hre
   clear hsl
   go_wp2_with (first | ((with_reducible show wpList _ _ _ (⟨_,Op.load 44 _,_,_,_,_⟩ :: _) _ _);refine wpList_load_has rfl 44 _ rfl rfl (e0) agg_E rfl ?_) | ((with_reducible show wpList _ _ _ (⟨_,Op.call { callee:=.value (.tmp _),args:=_,argTypes:=_ },_,_,_,_⟩ :: _) _ _);refine wpList_call_fv rfl _ _ _ rfl rfl eg rfl HC.out ?_;intro w5 hx5) | ((with_reducible show wpList _ _ _ (⟨_,Op.store 60 _ _,_,_,_,_⟩ :: _) _ _);refine wpList_store_blk rfl 60 _ _ rfl ((HR0.out.ext HXB.out).ext hx5) rfl (cs:=(f e).cells) (rfl) agg_Bits (rfl) rfl (rfl) ?_;intro w6 hb6 hg6))
   refine post_ret_blk rfl rfl hb6.has agg_Bits rfl rfl ⟨rfl,?_⟩
   exact ((HX1.out.trans HXB.out).trans hx5).grown hg6 (by omega)
theorem upB_calls (g:FuncId) (lb:Array Value) (eg:Leads Tryz.prog g) (f:E→Bt) (wb:World) (Good:E→Prop) (hgood:∀ e,Good e→∀ x ∈ e.l,Good x)
  (hmk:∀ e,Good e→∀ (cs:List Value) (s:Value) (W:World),Ext wb W→VE W cs e→Bts W s (e.l.map f)→Calls Tryz.prog g (#[.agg cs.toArray,s] ++ lb) W fun r w'=>r=.returned (.agg (f e).cells.toArray)∧Ext W w')
  (e:E):Good e→UpSaid g lb f wb e :=
 E.ind (P:=fun e=>Good e→UpSaid g lb f wb e) (fun e ih h=>upB_step g lb eg f wb e (hmk e h) fun x hx=>ih x hx (hgood e h x hx)) e
open Go.RowKit
theorem zE_cells:(zE.cells (.slice none 0 0)).toArray = #[.int .i64 0,.int .i64 0,.int .u64 0,.int .i64 0,.int .i64 0,.int .i64 0,.int .i64 0,.slice none 0 0]:=rfl
def MakesE (g:FuncId) (lb:Array Value) (f:E→E) (wb:World) (e:E):Prop:=∀ (cs:List Value) (s:Value) (M:Nat) (W:World),M ≤ W.heap.size→Ext wb W→VE W cs e→RowIs VE 44 8 M s (e.l.map f) W →
 Calls Tryz.prog g (#[.agg cs.toArray,s] ++ lb) W fun r W'=>∃ cs',r=.returned (.agg cs'.toArray)∧FV VE M W' cs' (f e)∧Ext W W'
def UpSaidE (g:FuncId) (lb:Array Value) (f:E→E) (wb:World) (e:E):Prop:=∀ (cs:List Value) (w:World),Ext wb w→VE w cs e→nodes e ≤ 1048576 →
 Calls Tryz.prog 56 #[.agg cs.toArray,.func (.func g) #[] lb] w fun r w'=>∃ cs',r=.returned (.agg cs'.toArray)∧FV VE w.heap.size w' cs' (f e)∧Ext w w'
set_option maxRecDepth 100000 in
set_option maxHeartbeats 2000000 in
theorem upE_step (g:FuncId) (lb:Array Value) (eg:Leads Tryz.prog g) (f:E→E) (wb:World) (e:E)
  (hmk:MakesE g lb f wb e) (ih:∀ x ∈ e.l,UpSaidE g lb f wb x):UpSaidE g lb f wb e:=by
 intro cs w hx0 hV hn
 have HMK:=Lib.hid hmk
 have IH:=Lib.hid ih
 have HX0:=Lib.hid hx0
 have HVW:=Lib.hid (fun W (h:Ext w W)=>hV.ext h)
 have hnn:=nodes_eq e
 obtain ⟨s,rfl,hs⟩:=hV
 have HSW:=Lib.hid (fun W (h:Ext w W)=>hs.ext h)
 obtain ⟨a,b,o,cap,rfl,hc1,hc2,ha,hr⟩:=hs.open
 clear hmk ih hx0 hs
 have x1:=ext_alloc w (.cells (e.cells (.slice a e.l.length cap)).toArray 44)
 have x2:=ext_alloc (w.alloc (.cells (e.cells (.slice a e.l.length cap)).toArray 44)) (.cells (zE.cells (.slice none 0 0)).toArray 44)
 have hE:=(Blk.new w (e.cells (.slice a e.l.length cap)).toArray 44).ext x2
 have hR:=Blk.new (w.alloc (.cells (e.cells (.slice a e.l.length cap)).toArray 44)) (zE.cells (.slice none 0 0)).toArray 44
 have hX:=x1.trans x2
 have HLE:=Lib.hid (show ((w.alloc (.cells (e.cells (.slice a e.l.length cap)).toArray 44)).alloc (.cells (zE.cells (.slice none 0 0)).toArray 44)).heap.size=w.heap.size + 1 + 1 by simp only [World.size_alloc])
 simp only [World.size_alloc] at hR
 clear x1 x2
 have HN:=Lib.hid hn
 have HNN:=Lib.hid hnn
 clear hn hnn
 rw [zE_cells] at *
 go_enter Tryz.func56,Tryz.ntmps56
 go_upto_region 1 with fail
 generalize (w.alloc _).alloc _=w0 at *
 have x3:=ext_alloc w0 (.cells #[] 44)
 have hL:=Blk.new w0 #[] 44
 have HE:=Lib.hid (hE.ext x3)
 have HE0:=Lib.hid hE
 have HR0:=Lib.hid hR
 have HX1:=Lib.hid hX
 have hrow:=RowIs.empty (V:=VE) (size:=8) (N:=w0.heap.size) hL (Nat.le_refl _)
 have hsl:w0.heap.size < (w0.alloc (.cells #[] 44)).heap.size:=by simp
 have hx3:=x3
 clear hE hR hX x3 hL
 go_wp2_with ((with_reducible show wpList _ _ _ (⟨_,Op.buildSlice _ _ _,_,_,_,_⟩ :: _) _ _);refine wpList_bs0 rfl _ rfl appE ?_;have g7:=HE.out.has 7 _ rfl)
 generalize w0.alloc _=w1 at *
 go_loopw [5,7,12] (fun v _ i wr=>∃ k:Nat,k ≤ e.l.length∧i=.int .i64 k∧RowIs VE 44 8 w0.heap.size v ((e.l.take k).map f) wr∧Ext w0 wr) (fun _ _ i _=>e.l.length - (intOf i).toNat)
 case atStart=>exact ⟨0,Nat.zero_le _,rfl,hrow,hx3⟩
 case round =>
  obtain ⟨k,hk,rfl,hrow,hB⟩:=hrel
  have HROW:=Lib.hid hrow
  have HXB:=Lib.hid hB
  have hsz:=hB.size
  clear hrow hB hx3
  by_cases hlt:k < e.l.length
  ·obtain rfl:=ha (by omega)
   have hmem:e.l[k] ∈ e.l:=List.getElem_mem hlt
   have hle:=le_sumBy nodes e.l _ hmem
   have hnk:nodes e.l[k] ≤ 1048576:=by have:=HN.out;have:=HNN.out;omega
   obtain ⟨s2,h1,h2⟩:=Es.get (hr.mono fun x _ b o h=>EAt.ext ((HX1.out.trans HXB.out)) x b o h) hlt
   have hve:VE wr (e.l[k].cells s2) e.l[k]:=⟨s2,rfl,h2⟩
   have hex:=ext_alloc wr (.cells (e.l[k].cells s2).toArray 44)
   have hbx:=Has.alloc wr (e.l[k].cells s2) 44
   have HC:=Lib.hid (IH.out _ hmem (e.l[k].cells s2) _ ((HX0.out.trans (HX1.out.trans HXB.out)).trans hex) (hve.ext hex) hnk)
   have hone:(e.l[k].cells s2).all (·.oneCell')=true:=hve.one
   have hat:(e.l.take (k + 1)).map f=(e.l.take k).map f ++ [f e.l[k]]:=by rw [take_snoc _ _ hlt,List.map_append,List.map_cons,List.map_nil]
   have hln:((e.l.take k).map f).length=k:=by rw [List.length_map,List.length_take];omega
   have HAT:=Lib.hid hat
   have HLN:=Lib.hid hln
   have HK:=Lib.hid (show k + 1 ≤ 16777216 by have:=HN.out;have:=HNN.out;have:=length_le_sumBy nodes e.l (fun x _=>nodes_pos x);omega)
   have HWW:=Lib.hid hex.size
   generalize (e.l.take k).map f=rr at *
   generalize e.l[k]=x at *
   clear hat hln hve h2 hle hnk hmem
   go_upto_region 5 with (first | ((with_reducible show wpList _ _ _ (⟨_,Op.load 44 _,_,_,_,_⟩ :: _) _ _);refine wpList_load_has rfl 44 _ rfl rfl (h1) agg_E rfl ?_) | ((with_reducible show wpList _ _ _ (⟨_,Op.store 44 _ _,_,_,_,_⟩ :: _) _ _);refine wpList_store_new rfl 44 _ _ rfl rfl (by first | rfl | simp) rfl agg_E (rfl) rfl (hone) ?_))
   generalize wr.alloc _=w2 at *
   have HX2:=Lib.hid hex
   clear hex h1
   go_wp2_with (first | ((with_reducible show wpList _ _ _ (⟨_,Op.load 44 _,_,_,_,_⟩ :: _) _ _);refine wpList_load_has rfl 44 _ rfl rfl (hbx) agg_E rfl ?_) | (go_at_call 56;refine HC.out.mono ?_;rintro r w3 ⟨cs3,rfl,hfv3,hx3⟩;have HFV3:=Lib.hid hfv3;clear hfv3) | ((with_reducible show wpList _ _ _ (⟨_,Op.buildSlice _ _ _,_,_,_,_⟩ :: _) _ _);refine wpList_bs1 rfl _ _ rfl appE rfl (cs:=cs3) rfl HFV3.out.lenE (by decide) ?_) | ((with_reducible show wpList _ _ _ (⟨_,Op.call { callee:=.builtin .append,args:=_,argTypes:=_ },_,_,_,_⟩ :: _) _ _);refine Hid.out ?_))
   refine Lib.hid ?_
   have hx4:=ext_alloc w3 (.cells cs3.toArray 44)
   have hb4:=Has.alloc w3 cs3 44
   have hall:=(HX2.out.trans hx3).trans hx4
   have hrow4:=HROW.out.since (Since.of_ext (N:=w0.heap.size) hall)
   have hkk:=HK.out
   have hln:=HLN.out
   have hfv4:=HFV3.out.ext hx4
   have hlt4:=HROW.out.lt
   have hww:=HWW.out
   refine wpList_app1 rfl _ _ _ rfl appE rfl hrow4 rfl HFV3.out.lenE hb4 HFV3.out.oneE (y:=f x) (hfv4.st (by omega) (fun j hj=>by have:=(hlt4 j hj).2;omega)) (by omega) (by have:=hall.size;omega) ?_
   intro g7 cap7 w7 hrow7 hg7
   have hX7:Ext w0 w7:=Ext.grownO (HXB.out.trans hall) hg7 (fun j hj=>(hrow4.lt j hj).1)
   have HR7:=Lib.hid hrow7
   have HX7:=Lib.hid hX7
   clear hrow7 hX7 hg7 hrow4 hx4 hb4 hall hkk hfv4 hlt4 hww
   rw [hln]
   clear hln
   generalize w3.alloc _=w4 at *
   go_wp2_with fail
   go_roundw
   case rel=>exact ⟨k + 1,by omega,by go_num,by have h:=HR7.out;rw [HLN.out] at h;rw [HAT.out];exact h,HX7.out⟩
   case measure=>simp [intOf];omega
  ·obtain rfl:k=e.l.length:=by omega
   rw [List.take_length] at HROW
   have hC0:=HMK.out _ _ w0.heap.size wr HXB.out.size (HX0.out.trans (HX1.out.trans HXB.out)) (HVW.out wr (HX1.out.trans HXB.out)) HROW.out
   have HC:=Lib.hid (hC0.mono (R':=fun r W'=>∃ u,r=.returned u∧∃ cs',u=.agg cs'.toArray∧FV VE w0.heap.size W' cs' (f e)∧Ext wr W') (fun r W' ⟨cs',h1,h2⟩=>⟨_,h1,cs',rfl,h2⟩))
   have e0:=(HE0.out.ext HXB.out).has
   obtain ⟨ra,rcap,hre,-⟩:=HROW.out.open
   rw [List.length_map] at hre
   subst hre
   go_wp2_with (first | ((with_reducible show wpList _ _ _ (⟨_,Op.load 44 _,_,_,_,_⟩ :: _) _ _);refine wpList_load_has rfl 44 _ rfl rfl (e0) agg_E rfl ?_) | ((with_reducible show wpList _ _ _ (⟨_,Op.call { callee:=.value (.tmp _),args:=_,argTypes:=_ },_,_,_,_⟩ :: _) _ _);refine wpList_call_fvx rfl _ [_,_] _ rfl rfl eg rfl HC.out ?_;rintro u5 w5 ⟨cs5,rfl,hfv5,hx5⟩;have H5:=Lib.hid hfv5;clear hfv5) | ((with_reducible show wpList _ _ _ (⟨_,Op.store 44 _ _,_,_,_,_⟩ :: _) _ _);refine wpList_store_blk rfl 44 _ _ rfl ((HR0.out.ext HXB.out).ext hx5) rfl (cs:=cs5) (rfl) agg_E (H5.out.lenE) rfl (H5.out.oneE) ?_;intro w6 hb6 hg6) | ((with_reducible show bodyPost _ _ _ _ _ _);refine Hid.out ?_))
   refine Lib.hid ?_
   have hle:=HLE.out
   refine post_ret_blk rfl rfl hb6.has agg_E H5.out.lenE rfl ⟨cs5,rfl,?_,?_⟩
   ·exact (H5.out.since (Since.of_grown hg6 (by omega))).mono (by omega)
   ·exact ((HX1.out.trans HXB.out).trans hx5).grown hg6 (by omega)
theorem upE_calls (g:FuncId) (lb:Array Value) (eg:Leads Tryz.prog g) (f:E→E) (wb:World) (Good:E→Prop) (hgood:∀ e,Good e→∀ x ∈ e.l,Good x)
  (hmk:∀ e,Good e→MakesE g lb f wb e) (e:E):Good e→UpSaidE g lb f wb e :=
 E.ind (P:=fun e=>Good e→UpSaidE g lb f wb e) (fun e ih h=>upE_step g lb eg f wb e (hmk e h) fun x hx=>ih x hx (hgood e h x hx)) e
open Go.RowKit
def wsN (ls:List Signal) (op w v sig hi lo n:Int) (ws:List Int):Prop :=
 (op=1∧ws=[]∧1 ≤ w∧w ≤ 64∧holds w v=true∧sig=0∧hi=0∧lo=0∧n=0) ∨
 (op=2∧ws=[]∧slice ls sig hi lo=true∧w=hi - lo + 1∧v=0∧n=0) ∨
 (op=3∧(∃ k,ws=[k])∧0 ≤ sig∧sig < ls.length∧w=1∧v=0∧hi=0∧lo=0∧n=0) ∨
 (op=4∧(∃ k,ws=[k]∧(1 ≤ n∧n ≤ 2∧k=w ∨ 3 ≤ n∧n ≤ 5∧w=1 ∨ n=6∧w=1∧k=1))∧v=0∧sig=0∧hi=0∧lo=0) ∨
 (op=5∧(∃ j k,ws=[j,k]∧(11 ≤ n∧n ≤ 16∧j=w∧k=w ∨ 17 ≤ n∧n ≤ 18∧j=w ∨ 19 ≤ n∧n ≤ 24∧w=1∧j=k ∨ 25 ≤ n∧n ≤ 26∧w=1∧j=1∧k=1))∧v=0∧sig=0∧hi=0∧lo=0) ∨
 (op=6∧ws=[1,w,w]∧v=0∧sig=0∧hi=0∧lo=0∧n=0) ∨
 (op=7∧ws ≠ []∧w=ws.sum∧w ≤ 64∧v=0∧sig=0∧hi=0∧lo=0∧n=0) ∨
 (op=8∧(∃ k,ws=[k]∧(31 ≤ n∧n ≤ 32∧k ≤ w ∨ n=33∧w ≤ k))∧1 ≤ w∧w ≤ 64∧v=0∧sig=0∧hi=0∧lo=0)
def WS (ls:List Signal):E→Prop
 | ⟨op,w,v,sig,hi,lo,n,l⟩=>wsN ls op w v sig hi lo n (l.map (·.w))∧all l
where all:List E→Prop
 | []=>True
 | e :: l=>WS ls e∧all l
theorem WS_iff (ls:List Signal) (e:E):WS ls e ↔ wsN ls e.op e.w e.v e.sig e.hi e.lo e.n (e.l.map (·.w))∧∀ x ∈ e.l,WS ls x:=by
 have h:∀ l,WS.all ls l ↔ ∀ x ∈ l,WS ls x:=by
  intro l;induction l with
  | nil=>simp [WS.all]
  | cons x l ih=>simp [WS.all,ih]
 cases e;simp [WS,h]
theorem map1 {α β : Type} {f : α→β} {l:List α} {a : β} (h:l.map f=[a]):∃ x,l=[x]∧f x=a:=by
 cases l with
 | nil=>cases h
 | cons x l=>simp at h;exact ⟨x,by rw [h.2],h.1⟩
theorem map2 {α β : Type} {f : α→β} {l:List α} {a b : β} (h:l.map f=[a,b]):∃ x y,l=[x,y]∧f x=a∧f y=b:=by
 cases l with
 | nil=>cases h
 | cons x l =>
  simp only [List.map_cons,List.cons.injEq] at h
  obtain ⟨y,rfl,h2⟩:=map1 h.2
  exact ⟨x,y,rfl,h.1,h2⟩
theorem map3 {α β : Type} {f : α→β} {l:List α} {a b c : β} (h:l.map f=[a,b,c]):∃ x y z,l=[x,y,z]∧f x=a∧f y=b∧f z=c:=by
 cases l with
 | nil=>cases h
 | cons x l =>
  simp only [List.map_cons,List.cons.injEq] at h
  obtain ⟨y,z,rfl,h2,h3⟩:=map2 h.2
  exact ⟨x,y,z,rfl,h.1,h2,h3⟩
theorem own_cat_sum (l:List E) (h:∀ x ∈ l,own x=x.w∧1 ≤ x.w):∀ n,own.cat l n=n + (l.map (·.w)).sum:=by
 induction l with
 | nil=>intro n;simp [own.cat]
 | cons x l ih =>
  intro n
  have hx:=h x (by simp)
  rw [own.cat,if_neg (by omega),ih (fun y hy=>h y (by simp [hy]))]
  simp only [List.map_cons,List.sum_cons]
  omega
theorem sum_pos (l:List E) (h:∀ x ∈ l,1 ≤ x.w):(l.length:Int) ≤ (l.map (·.w)).sum:=by
 induction l with
 | nil=>simp
 | cons x l ih =>
  have:=h x (by simp)
  have:=ih fun y hy=>h y (by simp [hy])
  simp only [List.map_cons,List.sum_cons,List.length_cons]
  omega
theorem ws_own {ls:List Signal} (hls:∀ x ∈ ls,x.w ≤ 64) (e:E):WS ls e→own e=e.w∧1 ≤ e.w∧e.w ≤ 64:=by
 induction e using E.ind with
 | h e ih =>
  intro h
  obtain ⟨h0,hp⟩:=(WS_iff ls e).1 h
  have ih2:=fun x hx=>ih x hx (hp x hx)
  clear ih hp h
  rw [own_eq]
  obtain ⟨op,w,v,sig,hi,lo,n,l⟩:=e
  simp only at h0 ih2 ⊢
  rcases h0 with ⟨rfl,-,h1,h2,-⟩ | ⟨rfl,-,h1,h2,-⟩ | ⟨rfl,⟨k,hk⟩,-,-,rfl,-⟩ | ⟨rfl,⟨k,hk,h1⟩,-⟩ | ⟨rfl,⟨j,k,hk,h1⟩,-⟩ | ⟨rfl,hk,-⟩ | ⟨rfl,h1,h2,h3,-⟩ | ⟨rfl,⟨k,hk,h1⟩,h2,h3,-⟩
  ·simp;omega
  ·have:=slice_le ls hls h1
   have:=sigW_le ls hls sig
   simp;omega
  ·simp
  ·obtain ⟨x,rfl,rfl⟩:=map1 hk
   have:=ih2 x (by simp)
   rcases h1 with ⟨a1,a2,a3⟩ | ⟨a1,a2,a3⟩ | ⟨rfl,a2,a3⟩
   ·simp [a2,own.hd];omega
   ·simp [show ¬ n ≤ 2 by omega];omega
   ·simp;omega
  ·obtain ⟨x,y,rfl,rfl,rfl⟩:=map2 hk
   have hx:=ih2 x (by simp)
   have hy:=ih2 y (by simp)
   rcases h1 with ⟨a1,a2,a3,a4⟩ | ⟨a1,a2,a3⟩ | ⟨a1,a2,a3,a4⟩ | ⟨a1,a2,a3,a4⟩
   ·simp [a2,own.fst,show ¬ own x=0 by omega];omega
   ·simp [show ¬ n ≤ 16 by omega,a2,own.hd];omega
   ·simp [show ¬ n ≤ 16 by omega,show ¬ n ≤ 18 by omega];omega
   ·simp [show ¬ n ≤ 16 by omega,show ¬ n ≤ 18 by omega];omega
  ·obtain ⟨c,x,y,rfl,hc,hx,hy⟩:=map3 hk
   have:=ih2 x (by simp)
   simp [own.fst2,own.fst,show ¬ own x=0 by omega];omega
  ·have hs:=sum_pos l (fun x hx=>(ih2 x hx).2.1)
   have hl:0 < l.length:=by cases l with
    | nil=>exact absurd rfl h1
    | cons=>simp
   simp
   rw [own_cat_sum l (fun x hx=>⟨(ih2 x hx).1,(ih2 x hx).2.1⟩)]
   omega
  ·simp;omega
theorem sizeL_rep0 (l:List E) (h:∀ x ∈ l,sizeE x 0=.ok x):sizeE.sizeL l (List.replicate l.length 0)=.ok l:=by
 induction l with
 | nil=>rfl
 | cons x l ih =>
  simp only [List.length_cons,List.replicate_succ,sizeE.sizeL,List.headD_cons,List.tail_cons,h x (by simp),ih (fun y hy=>h y (by simp [hy]))]
theorem sizeL_inv {x y:E} {l r:List E} {ps:List Int} (h:sizeE.sizeL (x :: l) ps=.ok (y :: r)):sizeE x (ps.headD 0)=.ok y∧sizeE.sizeL l ps.tail=.ok r:=by
 rw [sizeE.sizeL] at h
 cases hx:sizeE x (ps.headD 0) with
 | error f=>simp only [hx] at h;cases h
 | ok x' =>
  simp only [hx] at h
  cases hl:sizeE.sizeL l ps.tail with
  | error f=>simp only [hl] at h;cases h
  | ok r' =>
   simp only [hl] at h
   injection h with h
   injection h with h1 h2
   rw [h1,h2];exact ⟨rfl,rfl⟩
theorem sizeL_rep_inv (k:Int) (l:List E) (h:sizeE.sizeL l (List.replicate l.length k)=.ok l):∀ x ∈ l,sizeE x k=.ok x:=by
 induction l with
 | nil=>simp
 | cons x l ih =>
  obtain ⟨h1,h2⟩:=sizeL_inv h
  simp only [List.length_cons,List.replicate_succ,List.headD_cons,List.tail_cons] at h1 h2
  intro y hy
  cases hy with
  | head=>exact h1
  | tail _ hy=>exact ih h2 y hy
theorem ws_size {ls:List Signal} (hls:∀ x ∈ ls,x.w ≤ 64) (e:E):WS ls e→∀ p,(p=0 ∨ p=e.w ∨ p = -1∧e.w=1)→sizeE e p=.ok e:=by
 induction e using E.ind with
 | h e ih =>
  intro h p hpp
  have ho:=ws_own hls e h
  have hop:=fun x hx=>ws_own hls x (((WS_iff ls e).1 h).2 x hx)
  obtain ⟨h0,hp⟩:=(WS_iff ls e).1 h
  have ih2:=fun x hx=>ih x hx (hp x hx)
  clear ih hp h
  have hw2:told (if p = -1 then 1 else p) (told (own e) 32)=e.w:=by
   rw [ho.1]
   unfold told
   rcases hpp with rfl | rfl | ⟨rfl,h1⟩
   ·simp [show ¬ e.w=0 by omega]
   ·rw [if_neg (by omega),if_neg (by omega)]
   ·simp [h1]
  rw [sizeE_eq,hw2,if_neg (by rintro ⟨rfl,h1⟩;rcases hpp with h2 | h2 | h2 <;> omega),if_neg (by omega)]
  clear hw2 hpp
  have ho1:=ho.1
  rw [own_eq] at ho1
  obtain ⟨op,w,v,sig,hi,lo,n,l⟩:=e
  simp only at h0 ih2 ho ho1 hop ⊢
  have hl0:sizeE.sizeL l (List.replicate l.length 0)=.ok l:=sizeL_rep0 l fun x hx=>ih2 x hx 0 (.inl rfl)
  rcases h0 with ⟨rfl,hk,h1,h2,-⟩ | ⟨rfl,hk,h1,h2,-⟩ | ⟨rfl,⟨k,hk⟩,-,-,rfl,-⟩ | ⟨rfl,⟨k,hk,h1⟩,-⟩ | ⟨rfl,⟨j,k,hk,h1⟩,-⟩ | ⟨rfl,hk,-⟩ | ⟨rfl,h1,h2,h3,-⟩ | ⟨rfl,⟨k,hk,h1⟩,h2,h3,-⟩
  ·simp [wantedL,ho.1,hl0]
  ·simp [wantedL,ho.1,hl0]
  ·simp [wantedL,ho.1,hl0]
  ·obtain ⟨x,rfl,rfl⟩:=map1 hk
   have hx:=ih2 x (by simp)
   rcases h1 with ⟨a1,a2,a3⟩ | ⟨a1,a2,a3⟩ | ⟨rfl,a2,a3⟩
   ·have:n=1 ∨ n=2:=by omega
    rcases this with rfl | rfl <;> simp [wantedL,sizeE.sizeL,hx w (by omega)]
   ·have:n=3 ∨ n=4 ∨ n=5:=by omega
    rcases this with rfl | rfl | rfl <;> simp [wantedL,sizeE.sizeL,a3,hx 0 (by simp)]
   ·simp [wantedL,sizeE.sizeL,a2,hx (-1) (by omega)]
  ·obtain ⟨x,y,rfl,rfl,rfl⟩:=map2 hk
   have hx:=ih2 x (by simp)
   have hy:=ih2 y (by simp)
   have ox:=hop x (by simp)
   rcases h1 with ⟨a1,a2,a3,a4⟩ | ⟨a1,a2,a3⟩ | ⟨a1,a2,a3,a4⟩ | ⟨a1,a2,a3,a4,a5⟩
   ·have:n=11 ∨ n=12 ∨ n=13 ∨ n=14 ∨ n=15 ∨ n=16:=by omega
    rcases this with rfl | rfl | rfl | rfl | rfl | rfl <;> simp [wantedL,sizeE.sizeL,List.replicate,hx w (by omega),hy w (by omega)]
   ·have:n=17 ∨ n=18:=by omega
    rcases this with rfl | rfl <;> simp [wantedL,sizeE.sizeL,List.replicate,hx w (by omega),hy 0 (by omega)]
   ·have ht:told (own.fst [x,y]) 32=x.w:=by
     simp only [own.fst,ox.1]
     rw [if_neg (by omega)];unfold told;rw [if_neg (by omega)]
    have:n=19 ∨ n=20 ∨ n=21 ∨ n=22 ∨ n=23 ∨ n=24:=by omega
    rcases this with rfl | rfl | rfl | rfl | rfl | rfl <;> simp [wantedL,sizeE.sizeL,List.replicate,ht,a3,hx x.w (by simp),hy x.w (by omega)]
   ·have:n=25 ∨ n=26:=by omega
    rcases this with rfl | rfl <;> simp [wantedL,sizeE.sizeL,List.replicate,a3,hx (-1) (by omega),hy (-1) (by omega)]
  ·obtain ⟨c,x,y,rfl,hc,hx,hy⟩:=map3 hk
   simp [wantedL,sizeE.sizeL,List.replicate,ih2 c (by simp) (-1) (by omega),ih2 x (by simp) w (by omega),ih2 y (by simp) w (by omega)]
  ·simp [wantedL,ho.1,hl0,show ¬ w=0 by omega,show ¬ 64 < w by omega]
  ·obtain ⟨x,rfl,rfl⟩:=map1 hk
   have hl1:sizeE.sizeL [x] [0]=.ok [x]:=hl0
   simp [wantedL,ho.1,hl1,sizeE.hdW]
   omega
theorem ws_of_size {ls:List Signal} (hls:∀ x ∈ ls,x.w ≤ 64) (e:E):shape ls e=true→∀ p,-1 ≤ p→sizeE e p=.ok e→WS ls e∧e.w=told (if p = -1 then 1 else p) (told (own e) 32):=by
 induction e using E.ind with
 | h e ih =>
  intro hs p hpp h
  have hok:=ownOk_of_shape ls hls e hs
  have hon:=(own_le e hok).1
  rw [shape_eq,Bool.and_eq_true,List.all_eq_true] at hs
  obtain ⟨hs0,hsp⟩:=hs
  have ih2:=fun x hx=>ih x hx (hsp x hx)
  have hpos:1 ≤ told (if p = -1 then 1 else p) (told (own e) 32):=by
   unfold told
   repeat' split
   all_goals omega
  have ho:=own_eq e
  have hokp:=fun x hx=>(own_le x (((OwnOk_iff e).1 hok).2.2.2 x hx)).1
  rw [sizeE_eq] at h
  clear hok
  generalize told (if p = -1 then 1 else p) (told (own e) 32)=w2 at *
  clear ih
  split at h
  ·cases h
  ·split at h
   ·rename_i h2
    split at h
    ·injection h with h
     have:=congrArg E.w h
     simp only at this
     omega
    ·cases h
   ·split at h
    ·cases h
    ·rename_i ps hps
     split at h
     ·cases h
     ·rename_i l' hl'
      split at h
      ·cases h
      ·rename_i hext
       injection h with h
       have hw:=congrArg E.w h
       have hl:=congrArg E.l h
       simp only at hw hl
       subst hl
       subst hw
       refine ⟨(WS_iff ls e).2 ?_,rfl⟩
       clear h
       obtain ⟨op,w,v,sig,hi,lo,n,l⟩:=e
       simp only at *
       have all0:ps=List.replicate l.length 0→∀ x ∈ l,WS ls x:=fun hq x hx=>(ih2 x hx 0 (by omega) (sizeL_rep_inv 0 l (by rw [← hq];exact hl') x hx)).1
       have t0:∀ x ∈ l,∀ k,-1 ≤ k→k ≠ 0→sizeE x k=.ok x→WS ls x∧x.w=if k = -1 then 1 else k:=fun x hx k hk hk0 hq=>by
        obtain ⟨q1,q2⟩:=ih2 x hx k hk hq
        refine ⟨q1,?_⟩
        rw [q2];unfold told
        rw [if_neg (by split <;> omega)]
       have ihz:=ih2
       clear ih2
       unfold shape0 at hs0
       repeat' split at hs0
       all_goals try simp only [Bool.and_eq_true,Bool.or_eq_true,decide_eq_true_eq] at hs0
       ·rename_i o;subst o
        obtain rfl:l=[]:=List.eq_nil_of_length_eq_zero (by omega)
        exact ⟨.inl ⟨rfl,rfl,hpos,by omega,hs0.1.2.resolve_left (by omega),by omega,by omega,by omega,by omega⟩,by simp⟩
       ·rename_i o;subst o
        obtain rfl:l=[]:=List.eq_nil_of_length_eq_zero (by omega)
        simp [wantedL,ho] at hps
        exact ⟨.inr (.inl ⟨rfl,rfl,hs0.1.2,by omega,by omega,by omega⟩),by simp⟩
       ·rename_i o;subst o
        obtain ⟨x,rfl⟩:=List.length_eq_one_iff.1 hs0.1.1.1
        simp [wantedL,ho] at hps
        exact ⟨.inr (.inr (.inl ⟨rfl,⟨x.w,rfl⟩,by omega,by omega,by omega,by omega,by omega,by omega,by omega⟩)),all0 (by rw [← hps.2];rfl)⟩
       ·rename_i o;subst o
        obtain ⟨x,rfl⟩:=List.length_eq_one_iff.1 hs0.1.1.1
        have:n=1 ∨ n=2 ∨ n=3 ∨ n=4 ∨ n=5 ∨ n=6:=by omega
        have hz:v=0∧sig=0∧hi=0∧lo=0:=by omega
        have hx:=fun k h1 h2=>t0 x (by simp) k h1 h2
        have hx0:=fun h=>all0 h x (by simp)
        rcases this with rfl | rfl | rfl | rfl | rfl | rfl <;> simp [wantedL] at hps
        ·subst hps;obtain ⟨q1,-⟩:=sizeL_inv hl';simp only [List.headD_cons] at q1
         obtain ⟨q2,q3⟩:=hx _ (by omega) (by omega) q1
         exact ⟨.inr (.inr (.inr (.inl ⟨rfl,⟨x.w,rfl,.inl ⟨by decide,by decide,by rw [q3,if_neg (by omega)]⟩⟩,hz⟩))),by simpa using q2⟩
        ·subst hps;obtain ⟨q1,-⟩:=sizeL_inv hl';simp only [List.headD_cons] at q1
         obtain ⟨q2,q3⟩:=hx _ (by omega) (by omega) q1
         exact ⟨.inr (.inr (.inr (.inl ⟨rfl,⟨x.w,rfl,.inl ⟨by decide,by decide,by rw [q3,if_neg (by omega)]⟩⟩,hz⟩))),by simpa using q2⟩
        ·exact ⟨.inr (.inr (.inr (.inl ⟨rfl,⟨x.w,rfl,.inr (.inl ⟨by decide,by decide,hps.1⟩)⟩,hz⟩))),by simpa using hx0 (by rw [← hps.2];rfl)⟩
        ·exact ⟨.inr (.inr (.inr (.inl ⟨rfl,⟨x.w,rfl,.inr (.inl ⟨by decide,by decide,hps.1⟩)⟩,hz⟩))),by simpa using hx0 (by rw [← hps.2];rfl)⟩
        ·exact ⟨.inr (.inr (.inr (.inl ⟨rfl,⟨x.w,rfl,.inr (.inl ⟨by decide,by decide,hps.1⟩)⟩,hz⟩))),by simpa using hx0 (by rw [← hps.2];rfl)⟩
        ·obtain ⟨rfl,rfl⟩:=hps;obtain ⟨q1,-⟩:=sizeL_inv hl';simp only [List.headD_cons] at q1
         obtain ⟨q2,q3⟩:=hx _ (by omega) (by omega) q1
         exact ⟨.inr (.inr (.inr (.inl ⟨rfl,⟨x.w,rfl,.inr (.inr ⟨rfl,rfl,by rw [q3];rfl⟩)⟩,hz⟩))),by simpa using q2⟩
       ·rename_i o;subst o
        obtain ⟨x,y,rfl⟩ : ∃ x y,l=[x,y]:=by
         match l,hs0.1.1.1 with
         | [x,y],_=>exact ⟨x,y,rfl⟩
        have hz:v=0∧sig=0∧hi=0∧lo=0:=by omega
        have hwl:(11 ≤ n∧n ≤ 16∧ps=[w,w]) ∨ (17 ≤ n∧n ≤ 18∧ps=[w,0]) ∨ (19 ≤ n∧n ≤ 24∧w=1∧ps=[told (own.fst [x,y]) 32,told (own.fst [x,y]) 32]) ∨ (25 ≤ n∧n ≤ 26∧w=1∧ps=[-1,-1]):=by
         unfold wantedL at hps
         simp only at hps
         repeat' split at hps
         all_goals simp [List.replicate] at hps
         all_goals try omega
         all_goals subst hps
         ·exact .inr (.inr (.inr ⟨by omega,by omega,by omega,rfl⟩))
         ·exact .inr (.inr (.inl ⟨by omega,by omega,by omega,rfl⟩))
         ·exact .inr (.inl ⟨by omega,by omega,rfl⟩)
         ·exact .inl ⟨by omega,by omega,rfl⟩
         ·rename_i q1 q2;exact absurd (Or.inr trivial) q1
        have hx:=fun k h1 h2=>t0 x (by simp) k h1 h2
        have hy:=fun k h1 h2=>t0 y (by simp) k h1 h2
        have hxo:=hokp x (by simp)
        have hyo:=hokp y (by simp)
        obtain ⟨q1,q2⟩ : sizeE x (ps.headD 0)=.ok x∧sizeE y (ps.tail.headD 0)=.ok y:=by
         obtain ⟨q1,q2⟩:=sizeL_inv hl'
         exact ⟨q1,(sizeL_inv q2).1⟩
        rcases hwl with ⟨a1,a2,rfl⟩ | ⟨a1,a2,rfl⟩ | ⟨a1,a2,a3,rfl⟩ | ⟨a1,a2,a3,rfl⟩
        all_goals simp only [List.headD_cons,List.tail_cons] at q1 q2
        ·obtain ⟨b1,b2⟩:=hx _ (by omega) (by omega) q1
         obtain ⟨c1,c2⟩:=hy _ (by omega) (by omega) q2
         rw [if_neg (by omega)] at b2 c2
         exact ⟨.inr (.inr (.inr (.inr (.inl ⟨rfl,⟨x.w,y.w,rfl,.inl ⟨a1,a2,b2,c2⟩⟩,hz⟩)))),by simp;exact ⟨b1,c1⟩⟩
        ·obtain ⟨b1,b2⟩:=hx _ (by omega) (by omega) q1
         rw [if_neg (by omega)] at b2
         exact ⟨.inr (.inr (.inr (.inr (.inl ⟨rfl,⟨x.w,y.w,rfl,.inr (.inl ⟨a1,a2,b2⟩)⟩,hz⟩)))),by simp;exact ⟨b1,(ihz y (by simp) 0 (by omega) q2).1⟩⟩
        ·have hk:told (own.fst [x,y]) 32 ≠ 0∧-1 ≤ told (own.fst [x,y]) 32:=by
          unfold told;simp only [own.fst];repeat' split
          all_goals omega
         obtain ⟨b1,b2⟩:=hx _ hk.2 hk.1 q1
         obtain ⟨c1,c2⟩:=hy _ hk.2 hk.1 q2
         exact ⟨.inr (.inr (.inr (.inr (.inl ⟨rfl,⟨x.w,y.w,rfl,.inr (.inr (.inl ⟨a1,a2,a3,b2.trans c2.symm⟩))⟩,hz⟩)))),by simp;exact ⟨b1,c1⟩⟩
        ·obtain ⟨b1,b2⟩:=hx _ (by simp) (by simp) q1
         obtain ⟨c1,c2⟩:=hy _ (by simp) (by simp) q2
         exact ⟨.inr (.inr (.inr (.inr (.inl ⟨rfl,⟨x.w,y.w,rfl,.inr (.inr (.inr ⟨a1,a2,a3,b2,c2⟩))⟩,hz⟩)))),by simp;exact ⟨b1,c1⟩⟩
       ·rename_i o;subst o
        obtain ⟨c,x,y,rfl⟩ : ∃ c x y,l=[c,x,y]:=by
         match l,hs0.1 with
         | [c,x,y],_=>exact ⟨c,x,y,rfl⟩
        simp [wantedL,List.replicate] at hps
        subst hps
        obtain ⟨q1,q⟩:=sizeL_inv hl'
        obtain ⟨q2,q⟩:=sizeL_inv q
        obtain ⟨q3,-⟩:=sizeL_inv q
        simp only [List.headD_cons,List.tail_cons] at q1 q2 q3
        obtain ⟨a1,a2⟩:=t0 c (by simp) _ (by omega) (by omega) q1
        obtain ⟨b1,b2⟩:=t0 x (by simp) _ (by omega) (by omega) q2
        obtain ⟨c1,c2⟩:=t0 y (by simp) _ (by omega) (by omega) q3
        rw [if_neg (by omega)] at b2 c2
        exact ⟨.inr (.inr (.inr (.inr (.inr (.inl ⟨rfl,by simp [a2,b2,c2],by omega,by omega,by omega,by omega,by omega⟩))))),by simp;exact ⟨a1,b1,c1⟩⟩
       ·rename_i o;subst o
        simp [wantedL] at hps
        obtain ⟨h1,h2⟩:=hps
        have hall:=all0 h2.symm
        have hcs:=own_cat_sum l (fun x hx=>⟨(ws_own hls x (hall x hx)).1,(ws_own hls x (hall x hx)).2.1⟩) 0
        have hl1:0 < l.length:=hs0.1
        simp at ho
        exact ⟨.inr (.inr (.inr (.inr (.inr (.inr (.inl ⟨rfl,by intro h;simp at h;rw [h] at hl1;simp at hl1,by omega,by omega,by omega,by omega,by omega,by omega,by omega⟩)))))),hall⟩
       ·rename_i o;subst o
        obtain ⟨x,rfl⟩:=List.length_eq_one_iff.1 hs0.1.1.1.1.1
        simp [wantedL,ho] at hps
        simp [sizeE.hdW] at hext
        exact ⟨.inr (.inr (.inr (.inr (.inr (.inr (.inr ⟨rfl,⟨x.w,rfl,by omega⟩,by omega,by omega,by omega,by omega,by omega,by omega⟩)))))),all0 (by rw [← hps];rfl)⟩
       ·cases hs0
open Go.RowKit
def catP (l:List Bt):List (Int × Nat):=l.map fun b=>(b.w,b.v)
def catW (l:List Bt):Int:=(l.map (·.w)).sum
theorem catM_snoc (l:List (Int × Nat)) (p:Int × Nat):∀ acc,catM (l ++ [p]) acc=catM l acc * 2 ^ p.1.toNat + p.2:=by
 induction l with
 | nil=>intro acc;rfl
 | cons q l ih=>intro acc;exact ih _
theorem cat_lt (l:List Bt) (h:∀ x ∈ l,x.ok):0 ≤ catW l∧catM (catP l) 0 < 2 ^ (catW l).toNat:=by
 have hs:0 ≤ catW l∧(catW l).toNat=((catP l).map fun p=>p.1.toNat).sum:=by
  unfold catW catP
  induction l with
  | nil=>simp
  | cons x l ih =>
   have:=(h x (by simp)).1
   obtain ⟨h1,h2⟩:=ih fun y hy=>h y (by simp [hy])
   simp only [List.map_cons,List.sum_cons]
   simp only [List.map_map] at h2 ⊢
   omega
 refine ⟨hs.1,?_⟩
 have:=catM_lt (catP l) 0 0 (by decide) (by
  intro p hp
  obtain ⟨x,hx,rfl⟩:=List.mem_map.1 hp
  exact (h x hx).2.2)
 rw [hs.2];simpa using this
theorem n_or {a b:Nat} (ha:a < 2 ^ 64) (hb:b < 2 ^ 64):bits .or .u64 (a:Int) (b:Int)=((a ||| b:Nat):Int) :=
 (bits_nat .u64 64 (by decide) (fun n h0 h1=>by rw [IntKind.wrap_u64];omega) a b ha hb).2
theorem cat_step {acc j bw bv:Nat} (h1:acc < 2 ^ j) (h2:bv < 2 ^ bw) (h3:j + bw ≤ 64) :
  IntKind.u64.wrap ((acc:Int) * 2 ^ bw)=((acc * 2 ^ bw:Nat):Int)∧bits .or .u64 ((acc * 2 ^ bw:Nat):Int) (bv:Int)=((acc * 2 ^ bw + bv:Nat):Int):=by
 have h4:acc * 2 ^ bw + bv < 2 ^ (j + bw):=by
  rw [Nat.pow_add]
  have:(acc + 1) * 2 ^ bw ≤ 2 ^ j * 2 ^ bw:=Nat.mul_le_mul_right _ h1
  rw [Nat.add_mul] at this
  omega
 have h5:2 ^ (j + bw) ≤ 18446744073709551616:=Nat.pow_le_pow_right (n:=2) (by decide) h3
 constructor
 ·rw [IntKind.wrap_u64,show ((acc:Int) * 2 ^ bw)=((acc * 2 ^ bw:Nat):Int) by norm_cast]
  omega
 ·rw [n_or (by omega) (by omega)]
  congr 1
  rw [Nat.mul_comm,← Nat.two_pow_add_eq_or_of_lt h2]
theorem cat_take (l:List Bt) (h:∀ x ∈ l,x.ok) (k:Nat) (hk:k < l.length):catW (l.take (k + 1))=catW (l.take k) + l[k].w∧catM (catP (l.take (k + 1))) 0=catM (catP (l.take k)) 0 * 2 ^ l[k].w.toNat + l[k].v∧catW (l.take (k + 1)) ≤ catW l:=by
 have e:l.take (k + 1)=l.take k ++ [l[k]]:=by rw [List.take_succ,List.getElem?_eq_getElem hk];rfl
 refine ⟨by unfold catW;rw [e,List.map_append,List.sum_append,List.map_cons,List.map_nil,List.sum_cons,List.sum_nil,Int.add_zero],?_,?_⟩
 ·rw [e,catP,List.map_append,List.map_cons,List.map_nil,catM_snoc];rfl
 ·have h1:catW l=catW (l.take (k + 1)) + catW (l.drop (k + 1)):=by
   unfold catW
   rw [← List.sum_append,← List.map_append,List.take_append_drop]
  have h2:=(cat_lt (l.drop (k + 1)) (fun x hx=>h x (List.mem_of_mem_drop hx))).1
  omega
set_option maxRecDepth 100000 in
set_option maxHeartbeats 1000000 in
theorem Cat_calls (l:List Bt) (hok:∀ x ∈ l,x.ok) (hne:l ≠ []) (hw:catW l ≤ 64) (s:Value) (w:World) (h:Bts w s l) :
  Calls Tryz.prog 90 #[s] w (BtPost w ⟨catW l,catM (catP l) 0⟩):=by
 have HX:=ext_alloc w (.cells #[.int .i64 0,.int .u64 0] 60)
 have hR:=Blk.new w #[.int .i64 0,.int .u64 0] 60
 have HAL:=Lib.hid (fun (W:World) (h:Bts W s l)=>all_calls l hok s W h)
 have HOK:=Lib.hid hok
 have HW:=Lib.hid hw
 have HB:=Lib.hid h
 have hl0:0 < l.length:=List.length_pos_iff.2 hne
 obtain ⟨a,b,o,cap,hs,hc1,hc2,ha,hr⟩:=h.open
 subst hs
 clear hok hw hne h
 have b1:((l.length:Int) == 0)=false:=by rw [beq_eq_false_iff_ne];omega
 go_enter Tryz.func90,Tryz.ntmps90
 go_upto_region 1 with fail
 generalize w.alloc _=w0 at *
 obtain rfl:=ha hl0
 clear ha
 go_wp2_with (first | (go_at_call 147;refine (HAL.out _ (HB.out.ext HX)).mono ?_;rintro r w1 ⟨rfl,hx1⟩))
 have hR1:=hR.ext hx1
 go_loopw [5,17] (fun _ i wr=>∃ k:Nat,k ≤ l.length∧i=.int .i64 k∧Ext w wr∧Blk wr w.heap.size (Bt.cells ⟨catW (l.take k),catM (catP (l.take k)) 0⟩).toArray 60) (fun _ i _=>l.length - (intOf i).toNat)
 case atStart=>exact ⟨0,Nat.zero_le _,rfl,HX.trans hx1,hR1⟩
 case round =>
  obtain ⟨k,hk,rfl,hB,hRk⟩:=hrel
  by_cases hlt:k < l.length
  ·have he:=(Bts.get hr hlt).ext hB
   obtain ⟨t1,t2,t3⟩:=cat_take l HOK.out k hlt
   have hxo:=HOK.out _ (List.getElem_mem hlt)
   obtain ⟨z1,z2⟩:=cat_lt (l.take k) (fun x hx=>HOK.out x (List.mem_of_mem_take hx))
   have hw64:=HW.out
   generalize l[k]=x at *
   rw [t1] at t3
   obtain ⟨e1,e2⟩:=cat_step z2 hxo.2.2 (by have:=hxo.1;omega)
   have hxl:=Bt.lt64 hxo
   have hx1:=hxo.1
   have hx2:=hxo.2.1
   have T1:=Lib.hid t1
   have T2:=Lib.hid t2
   have E1:=Lib.hid e1
   have E2:=Lib.hid e2
   generalize catW (l.take k)=s0 at *
   generalize catM (catP (l.take k)) 0=a0 at *
   generalize a0 * 2 ^ x.w.toNat=m0 at *
   clear t1 t2 z2 e1 e2 hxo
   obtain ⟨xw,xv⟩:=x
   simp only at *
   have hex:=ext_alloc wr (.cells (Bt.cells ⟨xw,xv⟩).toArray 60)
   have hbx:=Blk.new wr (Bt.cells ⟨xw,xv⟩).toArray 60
   have hRx:=hRk.ext hex
   have hRlt:=hRk.lt
   go_upto_region 6 with (first | ((with_reducible show wpList _ _ _ (⟨_,Op.load 60 _,_,_,_,_⟩ :: _) _ _);refine wpList_load_has rfl 60 _ rfl rfl (he) agg_Bits rfl ?_) | ((with_reducible show wpList _ _ _ (⟨_,Op.store 60 _ _,_,_,_,_⟩ :: _) _ _);refine wpList_store_new rfl 60 _ _ rfl rfl (by first | rfl | simp) rfl agg_Bits (rfl) rfl (rfl) ?_))
   generalize wr.alloc _=w2 at *
   have HBX:=Lib.hid hbx
   have HEX:=Lib.hid hex
   have g0:=hRx.has 0 _ rfl
   have r0:=hRx.frozen 0
   have g1:=hbx.has 0 _ rfl
   clear hbx hex
   go_upto_region 7 with fail
   have hR3:=hRx.set 0 (.int .i64 (s0 + xw))
   have hg3:=gb_set w2 w.heap.size 0 (.int .i64 (s0 + xw))
   have hB3:=HBX.out.grown hg3 (by omega)
   have HX3:=Lib.hid ((hB.trans HEX.out).grown hg3 (Nat.le_refl _))
   clear hg3 g0 r0 g1 hRx
   generalize w2.setCell _ _=w3 at *
   have hR4:Blk w3 w.heap.size (Bt.cells ⟨s0 + xw,a0⟩).toArray 60:=hR3
   clear hR3
   have g0:=hR4.has 0 _ rfl
   have hle:s0 + xw ≤ 64:=by omega
   have hle2:decide (64 < s0 + xw)=false:=by simpa using hle
   go_wp2_with fail
   refine wp_region_held_drew (S:=fun W=>Blk W wr.heap.size (Bt.cells ⟨xw,xv⟩).toArray 60) (by kernel_rfl) hB3.drew (fun hHeld=>?_)
   try simp only [J]
   (refine Jt 0 (_) rfl (yif_load1 rfl fun _ _=>rfl) hHeld ?_;try simp only [J])
   (refine Jt 2 (_) rfl (yif_load1 rfl fun _ _=>rfl) hHeld ?_;try simp only [J])
   (refine Jt 3 (.int .i64 xw) rfl (yif_load1 rfl (by intro W hW;have y:=hW.has 0 _ rfl;clear hW;go_simp)) hHeld ?_;try simp only [J])
   (refine Jt 5 (_) rfl (yif_load1 rfl fun _ _=>rfl) hHeld ?_;try simp only [J])
   (refine Jt 6 (.int .u64 (xv:Int)) rfl (yif_load1 rfl (by intro W hW;have y:=hW.has 1 _ rfl;clear hW;go_simp)) hHeld ?_;try simp only [J])
   (refine wpAnyH_ready (rs:=[1]) (by kernel_rfl) (by simp) ?_;refine AllReadyH.cons rfl (fun K hK=>?_) AllReadyH.nil)
   have z1:=hR4.drew.has 1 _ rfl
   have y1:=hR4.drew.frozen 1
   go_simp
   refine hK.out _ _ hHeld (fun hHeld=>?_)
   clear hK K
   try simp only [J]
   (refine Jt 4 (.int .u64 (m0:Int)) rfl (yif_load1 rfl (by intro W hW;clear hW;go_simp;exact E1.out)) hHeld ?_;try simp only [J])
   (refine Jt 7 (.int .u64 ((m0 + xv:Nat):Int)) rfl (yif_load1 rfl (by intro W hW;clear hW;go_simp;exact E2.out)) hHeld ?_;try simp only [J])
   (refine Jt 8 (_) rfl (yif_load1 rfl fun _ _=>rfl) hHeld ?_;try simp only [J])
   (refine wpAnyH_ready (rs:=[9]) (by kernel_rfl) (by simp) ?_;refine AllReadyH.cons rfl (fun K hK=>?_) AllReadyH.nil)
   go_simp
   have hR5:=(hR4.set 1 (.int .u64 ((m0:Int) + (xv:Int)))).drew
   have hg5:=gb_drew (gb_set w3 w.heap.size 1 (.int .u64 ((m0:Int) + (xv:Int))))
   have hB5:=hB3.grown hg5 (by omega)
   have hX5:=HX3.out.grown hg5 (Nat.le_refl _)
   refine hK.out _ _ hB5 (fun hHeld=>?_)
   clear hK K
   refine wpAnyH_done (by kernel_rfl) ?_ _
   generalize (w3.setCell _ _).drew=w5 at *
   clear z1 y1
   go_wp2_with fail
   go_roundw
   case rel=>exact ⟨k + 1,by omega,by go_num,hX5,by rw [T1.out,T2.out];exact hR5⟩
   case measure=>simp [intOf];omega
  ·obtain rfl:k=l.length:=by omega
   rw [List.take_length] at hRk
   have hR2:=hRk.has
   go_wp2_with (first | ((with_reducible show wpList _ _ _ (⟨_,Op.load 60 _,_,_,_,_⟩ :: _) _ _);refine wpList_load_has rfl 60 _ rfl rfl (hR2) agg_Bits rfl ?_) | ((with_reducible show wpList _ _ _ (⟨_,Op.store 60 _ _,_,_,_,_⟩ :: _) _ _);refine wpList_store_blk rfl 60 _ _ rfl (hRk) rfl (cs:=Bt.cells ⟨catW l,catM (catP l) 0⟩) (rfl) agg_Bits (rfl) rfl (rfl) ?_;intro w4 hb4 hg4))
   refine post_ret_blk2' rfl rfl rfl hb4.has agg_Bits rfl rfl ⟨rfl,hB.grown hg4 (by omega)⟩
end Go.Proofs.YtemabheegnngdaaGreat
