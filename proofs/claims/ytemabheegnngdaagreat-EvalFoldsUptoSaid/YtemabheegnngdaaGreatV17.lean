/- Laws and walks that a claim of this seat leans on: Value, Value2. -/
import Derived.Test.YtemabheegnngdaaGreatV14
import Derived.Test.YtemabheegnngdaaGreatV15
import Derived.Test.YtemabheegnngdaaGreatV16
import Derived.Test.YtemabheegnngdaaGreatV00
set_option linter.all false
namespace Go.Proofs.YtemabheegnngdaaGreat
open Go.RowKit
theorem step_call_fv {P:Program} {ops:Array Oper} {o:Oper} {a:Act} {w:World} {K:Act→World→Prop} {Q:Exit→Act→World→Prop} {E:Prop} (hw:Region.wanted o (yielded ops a.tmps)=true)
  (x:Operand) (l:List Operand) (ats:Array TypeId) (ho:o.op=.call { callee:=.value x,args:=l.toArray,argTypes:=ats })
  {g:FuncId} {lb:Array Value} (hx:a.eval x=.func (.func g) #[] lb) (eg:Leads P g) {args:List Value} (hargs:l.map a.eval=args) {v:Value} {R:World→Prop}
  (hc:Calls P g (args.toArray ++ lb) w fun r w'=>r=.returned v∧R w') (h:∀ w',R w'→K (a.put o.dst v) w'):if Region.wanted o (yielded ops a.tmps)=true then Oper.wp P o a w K Q else E:=by
 rw [if_pos hw]
 obtain ⟨dst,op,ty,pos,after,guard⟩:=o
 simp only at ho
 subst ho
 subst hargs
 rw [← List.map_toArray] at hc
 generalize l.toArray=xs at *
 have hrun:(execOp a.eval { dst,op:=.call { callee:=.value x,args:=xs,argTypes:=ats },type:=ty,pos,after,guard }).run P w=.ok (.enter g (xs.map a.eval ++ lb)) w:=by
  have h1:execOp a.eval { dst,op:=.call { callee:=.value x,args:=xs,argTypes:=ats },type:=ty,pos,after,guard } = (Deferred.ofValue (a.eval x) (xs.map a.eval) >>= fun d=>invoke d.target d.args):=rfl
  have h2:(Deferred.ofValue (.func (.func g) #[] lb) (xs.map a.eval) >>= fun d=>invoke d.target d.args)=callFunc g (#[] ++ xs.map a.eval ++ lb):=rfl
  rw [h1,hx,h2,eg,Array.empty_append]
 unfold Oper.wp
 rw [hrun]
 exact hc.mono fun r w' ⟨hr,hR⟩=>by subst hr;exact h w' hR
theorem leads_v1:Leads Tryz.prog 84:=leads_of Tryz.func84 (by kernel_rfl) rfl
theorem leads_v2:Leads Tryz.prog 85:=leads_of Tryz.func85 (by kernel_rfl) rfl
def Looks (wb:World) (ls:List Signal) (vs:List Nat) (F:Value):Prop :=
 ∃ k lb,F=.func (.func k) #[] lb∧Leads Tryz.prog k∧∀ W,Ext wb W→∀ sig:Int,0 ≤ sig→sig < ls.length→Calls Tryz.prog k (#[.int .i64 sig] ++ lb) W fun r W'=>r=.returned (.int .u64 (vs.getD sig.toNat 0:Nat))∧Ext W W'
def ValEnv (wb:World) (ls:List Signal) (vs:List Nat) (S:Nat):Prop :=
 ∃ D L F sv pv cv,Blk wb S #[.func (.func 84) #[] #[.pointer (some ⟨D,0,none⟩),.pointer (some ⟨L,0,none⟩)]] 119∧Blk wb D #[sv,pv,cv] 26∧Blk wb L #[F] 57∧Sigs wb sv ls∧Looks wb ls vs F
set_option maxRecDepth 100000 in
set_option maxHeartbeats 1000000 in
theorem value1_calls {wb:World} {ls:List Signal} {vs:List Nat} {D L:Nat} {F sv pv cv:Value} (hD:Blk wb D #[sv,pv,cv] 26) (hL:Blk wb L #[F] 57) (hS:Sigs wb sv ls) (hF:Looks wb ls vs F)
  (e:E) (cs:List Value) (w:World) (hx:Ext wb w) (hV:VE w cs e) (h0:0 ≤ e.sig) (h1:e.sig < ls.length) :
  Calls Tryz.prog 84 #[.agg cs.toArray,.pointer (some ⟨D,0,none⟩),.pointer (some ⟨L,0,none⟩)] w fun r w'=>r=.returned (.agg (Bt.cells ⟨sigW ls e.sig,vs.getD e.sig.toNat 0⟩).toArray)∧Ext w w':=by
 obtain ⟨s,rfl,-⟩:=hV
 obtain ⟨a',b',o',cap',rfl,hc1,hc2,ha,hr⟩:=(hS.ext hx).open
 obtain ⟨kf,lb,rfl,ek,hk⟩:=hF
 obtain ⟨k,hk2⟩:=Int.eq_ofNat_of_zero_le h0
 have hlt:k < ls.length:=by omega
 obtain rfl:=ha (by omega)
 have hsw:sigW ls e.sig=ls[k].w:=by rw [hk2];simp [sigW,List.getElem?_eq_getElem hlt]
 have x1:=ext_alloc w (.cells (e.cells s).toArray 44)
 have x2:=ext_alloc (w.alloc (.cells (e.cells s).toArray 44)) (.cells #[.int .i64 0,.int .u64 0] 60)
 have hE:=(Blk.new w (e.cells s).toArray 44).ext x2
 have hR:=Blk.new (w.alloc (.cells (e.cells s).toArray 44)) #[.int .i64 0,.int .u64 0] 60
 have hX:=x1.trans x2
 simp only [World.size_alloc] at hR
 clear x1 x2
 have HSG:=Lib.hid (fun W (h:Ext w W)=>(Sigs.get (hr.mono fun x _ b o hh=>SigAt.ext' h hh) hlt:Has W b' (o' + k * 4) ls[k].cells))
 have HD:=Lib.hid (fun W (h:Ext w W)=>(hD.ext (hx.trans h)))
 have HL:=Lib.hid (fun W (h:Ext w W)=>(hL.ext (hx.trans h)))
 have HKF:=Lib.hid (fun W (h:Ext w W)=>hk W (hx.trans h) e.sig h0 h1)
 rw [hsw]
 generalize ls[k]=x at *
 clear hk hD hL hS hr hsw
 rw [hk2] at HKF ⊢
 simp only [Int.toNat_natCast] at HKF ⊢
 obtain ⟨V,hv⟩ : ∃ V,vs.getD k 0=V:=⟨_,rfl⟩
 rw [hv] at HKF ⊢
 clear hv
 go_enter Tryz.func84,Tryz.ntmps84
 go_upto_region 1 with fail
 generalize (w.alloc _).alloc _=w0 at *
 have HR:=Lib.hid hR
 have HE:=Lib.hid hE
 clear hR hE
 refine wp_region_held_drew (S:=fun W=>Ext w W∧Blk W w.heap.size (e.cells s).toArray 44) (by kernel_rfl) ⟨hX.drew,HE.out.drew⟩ (fun hHeld=>?_)
 try simp only [J]
 (refine Jt 0 (_) rfl (yif_load1 rfl fun _ _=>rfl) hHeld ?_;try simp only [J])
 (refine Jt 1 (.slice (some ⟨b',o',none⟩) ls.length cap') rfl (yif_load1 rfl (by intro W hW;have y:=(HD.out W hW.1).has 0 _ rfl;clear hW;go_simp)) hHeld ?_;try simp only [J])
 (refine Jt 2 (_) rfl (yif_load1 rfl fun _ _=>rfl) hHeld ?_;try simp only [J])
 (refine Jt 3 (.int .i64 k) rfl (yif_load1 rfl (by intro W hW;have y:=hW.2.has 3 _ rfl;rw [hk2] at y;clear hW;go_simp)) hHeld ?_;try simp only [J])
 (refine Jt 4 (.pointer (some ⟨b',o' + k * 4,none⟩)) rfl (yif_load1 rfl (by intro W hW;clear hW;go_simp;try (intro h;omega))) hHeld ?_;try simp only [J])
 (refine Jt 5 (_) rfl (yif_load1 rfl (by intro W hW;clear hW;go_simp;rfl)) hHeld ?_;try simp only [J])
 (refine Jt 6 (.int .i64 x.w) rfl (yif_load1 rfl (by intro W hW;have y:=HSG.out W hW.1 1 _ rfl;clear hW;go_simp)) hHeld ?_;try simp only [J])
 (refine Jt 7 (.func (.func kf) #[] lb) rfl (yif_load1 rfl (by intro W hW;have y:=(HL.out W hW.1).has 0 _ rfl;clear hW;go_simp)) hHeld ?_;try simp only [J])
 (refine Jt 8 (_) rfl (yif_load1 rfl fun _ _=>rfl) hHeld ?_;try simp only [J])
 (refine Jt 9 (.int .i64 k) rfl (yif_load1 rfl (by intro W hW;have y:=hW.2.has 3 _ rfl;rw [hk2] at y;clear hW;go_simp)) hHeld ?_;try simp only [J])
 (refine wpAnyH_ready (rs:=[10]) (by kernel_rfl) (by simp) ?_;refine AllReadyH.cons rfl (fun K hK=>?_) AllReadyH.nil)
 refine step_call_fv rfl _ _ _ rfl rfl ek rfl (HKF.out _ hHeld.1) ?_
 intro w3 hx3
 refine hK.out _ _ ⟨hHeld.1.trans hx3,hHeld.2.ext hx3⟩ (fun hHeld=>?_)
 clear hK K
 try simp only [J]
 (refine Jt 11 (.agg (Bt.cells ⟨x.w,V⟩).toArray) rfl (yif_load1 rfl (by intro W hW;clear hW;go_simp)) hHeld ?_;try simp only [J])
 (refine wpAnyH_ready (rs:=[12]) (by kernel_rfl) (by simp) ?_;refine AllReadyH.cons rfl (fun K hK=>?_) AllReadyH.nil)
 refine step_store_blk' rfl 60 _ _ rfl (HR.out.drew.ext hx3) rfl (cs:=Bt.cells ⟨x.w,V⟩) rfl agg_Bits rfl rfl rfl ?_
 intro w4 hb4 hg4
 refine hK.out _ _ ⟨hHeld.1.grown hg4 (by omega),hHeld.2.grown hg4 (by omega)⟩ (fun hHeld=>?_)
 clear hK K
 refine wpAnyH_done (by kernel_rfl) ?_ _
 go_wp2_with ((with_reducible show bodyPost _ _ _ _ _ _);refine Hid.out ?_)
 refine Lib.hid ?_
 exact post_ret_blk rfl rfl hb4.has agg_Bits rfl rfl ⟨rfl,hHeld.1⟩
open Go.RowKit
set_option maxRecDepth 100000 in
set_option maxHeartbeats 2000000 in
theorem v2_num {wb:World} {ls:List Signal} {vs:List Nat} {S:Nat} (hls:∀ x ∈ ls,1 ≤ x.w∧x.w ≤ 64) (hvals:Vals ls vs) (henv:ValEnv wb ls vs S) {wd sig hi lo nn:Int} {n:Nat} (s0 s:Value) (w:World) (hx:Ext wb w) (hE0:Es w s0 [])
  (hBt:Bts w s (([]:List E).map (evB vs))) :
  Calls Tryz.prog 85 #[.agg (E.cells (⟨1,wd,(n:Int),sig,hi,lo,nn,[]⟩) s0).toArray,s,.pointer (some ⟨S,0,none⟩)] w fun r w'=>r=.returned (.agg (Bt.cells ⟨wd,n⟩).toArray)∧Ext w w':=by
 have hone:(E.cells (⟨1,wd,(n:Int),sig,hi,lo,nn,[]⟩) s0).all (·.oneCell')=true:=by simp [hE0.one,one_int]
 obtain ⟨D,L,F,sv,pv,cv,qS,qD,qL,qSg,qF⟩:=henv
 have HQS:=Lib.hid (fun W (h:Ext w W)=>qS.ext (hx.trans h))
 obtain ⟨ab,bb,ob,capb,rfl,hcb1,hcb2,hba,hbr⟩:=hBt.open
 have HBR:=Lib.hid (fun W (h:Ext w W)=>(hbr.mono fun x _ b o (hh:Has w b o x.cells)=>Has.ext hh h:Rows 2 (BtAt W) _ bb ob))
 have x1:=ext_alloc w (.cells (E.cells (⟨1,wd,(n:Int),sig,hi,lo,nn,[]⟩) s0).toArray 44)
 have x2:=ext_alloc (w.alloc (.cells (E.cells (⟨1,wd,(n:Int),sig,hi,lo,nn,[]⟩) s0).toArray 44)) (.cells #[.int .i64 0,.int .u64 0] 60)
 have hE:=(Blk.new w (E.cells (⟨1,wd,(n:Int),sig,hi,lo,nn,[]⟩) s0).toArray 44).ext x2
 have hR:=Blk.new (w.alloc (.cells (E.cells (⟨1,wd,(n:Int),sig,hi,lo,nn,[]⟩) s0).toArray 44)) #[.int .i64 0,.int .u64 0] 60
 have hX:=x1.trans x2
 simp only [World.size_alloc] at hR
 clear x1 x2
 go_enter Tryz.func85,Tryz.ntmps85
 go_upto_region 1 with fail
 generalize (w.alloc _).alloc _=w0 at *
 have HE:=Lib.hid hE
 have HR:=Lib.hid hR
 have HX:=Lib.hid hX
 have g0:=hE.has 0 _ rfl
 clear hE hR hX
 have g1:=HE.out.has 1 _ rfl
 have g2:=HE.out.has 2 _ rfl
 go_wp2_with (first | ((with_reducible show Jw (Op.store 60 _ _));refine wpList_store_blk rfl 60 _ _ rfl (HR.out) rfl (cs:=Bt.cells ⟨wd,n⟩) (rfl) agg_Bits (rfl) rfl (rfl) ?_;intro w4 hb4 hg4) | ((with_reducible show Jw (Op.load 60 _));refine wpList_load_has rfl 60 _ rfl rfl (hb4.has) agg_Bits rfl ?_) | ((with_reducible show Jw (Op.store 60 _ _));refine wpList_store_blk rfl 60 _ _ rfl (hb4) rfl (cs:=Bt.cells ⟨wd,n⟩) (rfl) agg_Bits (rfl) rfl (rfl) ?_;intro w9 hb9 hg9) | ((with_reducible show bodyPost _ _ _ _ _ _);refine Hid.out ?_))
 refine Lib.hid ?_
 refine post_ret_blk rfl rfl hb9.has agg_Bits rfl rfl ⟨rfl,(HX.out.grown hg4 (by omega)).grown hg9 (by omega)⟩
set_option maxRecDepth 100000 in
set_option maxHeartbeats 2000000 in
theorem v2_sig {wb:World} {ls:List Signal} {vs:List Nat} {S:Nat} (hls:∀ x ∈ ls,1 ≤ x.w∧x.w ≤ 64) (hvals:Vals ls vs) (henv:ValEnv wb ls vs S) {wd v sig hi lo nn:Int} (h0:0 ≤ sig) (h1:sig < ls.length) (hlo:0 ≤ lo) (hlh:lo ≤ hi) (hhi:hi < sigW ls sig) (s0 s:Value) (w:World) (hx:Ext wb w) (hE0:Es w s0 [])
  (hBt:Bts w s (([]:List E).map (evB vs))) :
  Calls Tryz.prog 85 #[.agg (E.cells (⟨2,wd,v,sig,hi,lo,nn,[]⟩) s0).toArray,s,.pointer (some ⟨S,0,none⟩)] w fun r w'=>r=.returned (.agg (Bt.cells ⟨hi - lo + 1,vs.getD sig.toNat 0 / 2 ^ lo.toNat % 2 ^ (hi - lo + 1).toNat⟩).toArray)∧Ext w w':=by
 have hone:(E.cells (⟨2,wd,v,sig,hi,lo,nn,[]⟩) s0).all (·.oneCell')=true:=by simp [hE0.one,one_int]
 obtain ⟨D,L,F,sv,pv,cv,qS,qD,qL,qSg,qF⟩:=henv
 have HQS:=Lib.hid (fun W (h:Ext w W)=>qS.ext (hx.trans h))
 obtain ⟨ab,bb,ob,capb,rfl,hcb1,hcb2,hba,hbr⟩:=hBt.open
 have HBR:=Lib.hid (fun W (h:Ext w W)=>(hbr.mono fun x _ b o (hh:Has w b o x.cells)=>Has.ext hh h:Rows 2 (BtAt W) _ bb ob))
 have x1:=ext_alloc w (.cells (E.cells (⟨2,wd,v,sig,hi,lo,nn,[]⟩) s0).toArray 44)
 have x2:=ext_alloc (w.alloc (.cells (E.cells (⟨2,wd,v,sig,hi,lo,nn,[]⟩) s0).toArray 44)) (.cells #[.int .i64 0,.int .u64 0] 60)
 have hE:=(Blk.new w (E.cells (⟨2,wd,v,sig,hi,lo,nn,[]⟩) s0).toArray 44).ext x2
 have hR:=Blk.new (w.alloc (.cells (E.cells (⟨2,wd,v,sig,hi,lo,nn,[]⟩) s0).toArray 44)) #[.int .i64 0,.int .u64 0] 60
 have hX:=x1.trans x2
 simp only [World.size_alloc] at hR
 clear x1 x2
 have hokb:Bt.ok ⟨sigW ls sig,vs.getD sig.toNat 0⟩:=by
  obtain ⟨k,hk⟩:=Int.eq_ofNat_of_zero_le h0
  have hlt:k < ls.length:=by omega
  have h2:sigW ls sig=ls[k].w:=by rw [hk];simp [sigW,List.getElem?_eq_getElem hlt]
  have h3:=hls _ (List.getElem_mem hlt)
  exact ⟨by rw [h2];exact h3.1,by rw [h2];exact h3.2,hvals sig h0 h1⟩
 have HSL:=Lib.hid (fun W=>Slice_calls _ hokb hi lo hlo hlh hhi W)
 have HV1:=Lib.hid (fun W (h:Ext w W)=>value1_calls qD qL qSg qF (⟨2,wd,v,sig,hi,lo,nn,[]⟩) (E.cells (⟨2,wd,v,sig,hi,lo,nn,[]⟩) s0) W (hx.trans h) ⟨s0,rfl,hE0.ext h⟩ h0 h1)
 go_enter Tryz.func85,Tryz.ntmps85
 go_upto_region 1 with fail
 generalize (w.alloc _).alloc _=w0 at *
 have HE:=Lib.hid hE
 have HR:=Lib.hid hR
 have HX:=Lib.hid hX
 have g0:=hE.has 0 _ rfl
 clear hE hR hX
 go_wp2_with fail
 refine wp_region_held_drew (S:=fun W=>Ext w W∧Blk W w.heap.size (E.cells (⟨2,wd,v,sig,hi,lo,nn,[]⟩) s0).toArray 44) (by kernel_rfl) ⟨HX.out.drew,HE.out.drew⟩ (fun hHeld=>?_)
 try simp only [J]
 (refine Jt 0 (.func (.func 84) #[] #[.pointer (some ⟨D,0,none⟩),.pointer (some ⟨L,0,none⟩)]) rfl (yif_load1 rfl (by intro W hW;have y:=(HQS.out W hW.1).has 0 _ rfl;clear hW;go_simp)) hHeld ?_;try simp only [J])
 (refine Jt 1 (.agg (E.cells (⟨2,wd,v,sig,hi,lo,nn,[]⟩) s0).toArray) rfl (yif_load rfl 44 _ rfl rfl (fun W hW=>hW.2.has) agg_E rfl) hHeld ?_;try simp only [J])
 (refine Jt 3 (_) rfl (yif_load1 rfl fun _ _=>rfl) hHeld ?_;try simp only [J])
 (refine Jt 4 (.int .i64 hi) rfl (yif_load1 rfl (by intro W hW;have y:=hW.2.has 4 _ rfl;clear hW;go_simp)) hHeld ?_;try simp only [J])
 (refine Jt 5 (_) rfl (yif_load1 rfl fun _ _=>rfl) hHeld ?_;try simp only [J])
 (refine Jt 6 (.int .i64 lo) rfl (yif_load1 rfl (by intro W hW;have y:=hW.2.has 5 _ rfl;clear hW;go_simp)) hHeld ?_;try simp only [J])
 (refine wpAnyH_ready (rs:=[2]) (by kernel_rfl) (by simp) ?_;refine AllReadyH.cons rfl (fun K hK=>?_) AllReadyH.nil)
 refine step_call_fv rfl _ _ _ rfl rfl leads_v1 rfl (HV1.out _ hHeld.1) ?_
 intro w2 hx2
 refine hK.out _ _ ⟨hHeld.1.trans hx2,hHeld.2.ext hx2⟩ (fun hHeld=>?_)
 clear hK K
 try simp only [J]
 (refine wpAnyH_ready (rs:=[7]) (by kernel_rfl) (by simp) ?_;refine AllReadyH.cons rfl (fun K hK=>?_) AllReadyH.nil)
 go_simp
 refine (HSL.out _).mono ?_
 rintro r w3 ⟨rfl,hx3⟩
 refine hK.out _ _ ⟨hHeld.1.trans hx3,hHeld.2.ext hx3⟩ (fun hHeld=>?_)
 clear hK K
 try simp only [J]
 (refine Jt 8 (.tuple #[.agg (Bt.cells ⟨hi - lo + 1,vs.getD sig.toNat 0 / 2 ^ lo.toNat % 2 ^ (hi - lo + 1).toNat⟩).toArray,.int .i64 0]) rfl (yif_load1 rfl fun _ _=>rfl) hHeld ?_;try simp only [J])
 (refine Jt 9 (.agg (Bt.cells ⟨hi - lo + 1,vs.getD sig.toNat 0 / 2 ^ lo.toNat % 2 ^ (hi - lo + 1).toNat⟩).toArray) rfl (yif_load1 rfl (by intro W hW;clear hW;go_simp)) hHeld ?_;try simp only [J])
 (refine Jt 10 (.int .i64 0) rfl (yif_load1 rfl (by intro W hW;clear hW;go_simp)) hHeld ?_;try simp only [J])
 (refine wpAnyH_ready (rs:=[11]) (by kernel_rfl) (by simp) ?_;refine AllReadyH.cons rfl (fun K hK=>?_) AllReadyH.nil)
 refine step_store_blk' rfl 60 _ _ rfl ((HR.out.drew.ext hx2).ext hx3) rfl (cs:=Bt.cells ⟨hi - lo + 1,vs.getD sig.toNat 0 / 2 ^ lo.toNat % 2 ^ (hi - lo + 1).toNat⟩) rfl agg_Bits rfl rfl rfl ?_
 intro w4 hb4 hg4
 refine hK.out _ _ ⟨hHeld.1.grown hg4 (by omega),hHeld.2.grown hg4 (by omega)⟩ (fun hHeld=>?_)
 clear hK K
 refine wpAnyH_done (by kernel_rfl) ?_ _
 go_wp2_with (first | ((with_reducible show Jw (Op.load 60 _));refine wpList_load_has rfl 60 _ rfl rfl (hb4.has) agg_Bits rfl ?_) | ((with_reducible show Jw (Op.store 60 _ _));refine wpList_store_blk rfl 60 _ _ rfl (hb4) rfl (cs:=Bt.cells ⟨hi - lo + 1,vs.getD sig.toNat 0 / 2 ^ lo.toNat % 2 ^ (hi - lo + 1).toNat⟩) (rfl) agg_Bits (rfl) rfl (rfl) ?_;intro w9 hb9 hg9) | ((with_reducible show bodyPost _ _ _ _ _ _);refine Hid.out ?_))
 refine Lib.hid ?_
 refine post_ret_blk rfl rfl hb9.has agg_Bits rfl rfl ⟨?_,(hHeld.1).grown hg9 (by omega)⟩
 rfl
set_option maxRecDepth 100000 in
set_option maxHeartbeats 2000000 in
theorem v2_idx {wb:World} {ls:List Signal} {vs:List Nat} {S:Nat} (hls:∀ x ∈ ls,1 ≤ x.w∧x.w ≤ 64) (hvals:Vals ls vs) (henv:ValEnv wb ls vs S) {wd v sig hi lo nn:Int} {x:E} (h0:0 ≤ sig) (h1:sig < ls.length) (s0 s:Value) (w:World) (hx:Ext wb w) (hE0:Es w s0 [x])
  (hBt:Bts w s (([x]:List E).map (evB vs))) :
  Calls Tryz.prog 85 #[.agg (E.cells (⟨3,wd,v,sig,hi,lo,nn,[x]⟩) s0).toArray,s,.pointer (some ⟨S,0,none⟩)] w fun r w'=>r=.returned (.agg (Bt.cells ⟨1,vs.getD sig.toNat 0 / 2 ^ evM vs x % 2⟩).toArray)∧Ext w w':=by
 have hone:(E.cells (⟨3,wd,v,sig,hi,lo,nn,[x]⟩) s0).all (·.oneCell')=true:=by simp [hE0.one,one_int]
 obtain ⟨D,L,F,sv,pv,cv,qS,qD,qL,qSg,qF⟩:=henv
 have HQS:=Lib.hid (fun W (h:Ext w W)=>qS.ext (hx.trans h))
 obtain ⟨ab,bb,ob,capb,rfl,hcb1,hcb2,hba,hbr⟩:=hBt.open
 have HBR:=Lib.hid (fun W (h:Ext w W)=>(hbr.mono fun x _ b o (hh:Has w b o x.cells)=>Has.ext hh h:Rows 2 (BtAt W) _ bb ob))
 have x1:=ext_alloc w (.cells (E.cells (⟨3,wd,v,sig,hi,lo,nn,[x]⟩) s0).toArray 44)
 have x2:=ext_alloc (w.alloc (.cells (E.cells (⟨3,wd,v,sig,hi,lo,nn,[x]⟩) s0).toArray 44)) (.cells #[.int .i64 0,.int .u64 0] 60)
 have hE:=(Blk.new w (E.cells (⟨3,wd,v,sig,hi,lo,nn,[x]⟩) s0).toArray 44).ext x2
 have hR:=Blk.new (w.alloc (.cells (E.cells (⟨3,wd,v,sig,hi,lo,nn,[x]⟩) s0).toArray 44)) #[.int .i64 0,.int .u64 0] 60
 have hX:=x1.trans x2
 simp only [World.size_alloc] at hR
 clear x1 x2
 have HV1:=Lib.hid (fun W (h:Ext w W)=>value1_calls qD qL qSg qF (⟨3,wd,v,sig,hi,lo,nn,[x]⟩) (E.cells (⟨3,wd,v,sig,hi,lo,nn,[x]⟩) s0) W (hx.trans h) ⟨s0,rfl,hE0.ext h⟩ h0 h1)
 have hlim:vs.getD sig.toNat 0 < 2 ^ 64:=by
  obtain ⟨k,hk⟩:=Int.eq_ofNat_of_zero_le h0
  have hlt:k < ls.length:=by omega
  have h2:sigW ls sig=ls[k].w:=by rw [hk];simp [sigW,List.getElem?_eq_getElem hlt]
  have h3:=hls _ (List.getElem_mem hlt)
  exact Nat.lt_of_lt_of_le (hvals sig h0 h1) (Nat.pow_le_pow_right (by decide) (by omega))
 obtain rfl:=hba (by simp)
 have H0:=Lib.hid (fun W (h:Ext w W)=>(by have:=Bts.get (HBR.out W h) (k:=0) (by simp);simpa using this:Has W bb (ob) (evB vs x).cells))
 obtain ⟨A,hA⟩ : ∃ A,vs.getD sig.toNat 0=A:=⟨_,rfl⟩
 obtain ⟨B,hB⟩ : ∃ B,evM vs x=B:=⟨_,rfl⟩
 have HBX:=Lib.hid (show evB vs x=⟨x.w,B⟩ by unfold evB;rw [hB])
 simp only [HBX.out] at H0
 rw [hA] at HV1 hlim ⊢
 rw [hB]
 have hsh:=sh_shr A B
 obtain ⟨m,hm⟩ : ∃ m,A / 2 ^ (min B 64)=m:=⟨_,rfl⟩
 rw [hm] at hsh
 have hm64:m < 18446744073709551616:=by rw [← hm];exact Nat.lt_of_le_of_lt (Nat.div_le_self _ _) hlim
 have HRES:=Lib.hid (show bits .and .u64 (m:Int) 1=((m % 2:Nat):Int) by
  have:=n_and (a:=m) (b:=1) hm64 (by decide)
  rw [Nat.and_one_is_mod] at this
  exact this)
 have HM:=Lib.hid (show m=A / 2 ^ B by rw [← hm,shr_val A B hlim])
 clear hm hA hB
 go_enter Tryz.func85,Tryz.ntmps85
 go_upto_region 1 with fail
 generalize (w.alloc _).alloc _=w0 at *
 have HE:=Lib.hid hE
 have HR:=Lib.hid hR
 have HX:=Lib.hid hX
 have g0:=hE.has 0 _ rfl
 clear hE hR hX
 have k0:=HE.out.has
 have k1:=(HQS.out w0 HX.out).has 0 _ rfl
 go_wp2_with (first | ((with_reducible show Jw (Op.load 44 _));refine wpList_load_has rfl 44 _ rfl rfl (k0) agg_E rfl ?_) | ((with_reducible show Jw (Op.call { callee:=.value (.tmp _),args:=_,argTypes:=_ }));refine wpList_call_fv rfl _ _ _ rfl rfl leads_v1 rfl (HV1.out _ HX.out) ?_;intro w2 hx2) | ((with_reducible show Jw (Op.store 60 _ _));refine wpList_store_new rfl 60 _ _ rfl rfl (by first | rfl | simp) rfl agg_Bits (rfl) rfl (rfl) ?_))
 have hx3:=hx2.alloc (.cells (Bt.cells ⟨sigW ls sig,A⟩).toArray 60)
 have hb3:=Blk.new w2 (Bt.cells ⟨sigW ls sig,A⟩).toArray 60
 have HR3:=Lib.hid (HR.out.ext hx3)
 have HX3:=Lib.hid (HX.out.trans hx3)
 clear k0 k1 hx3
 have hs2:=hx2.size
 have hs0:=HR.out.lt
 generalize w2.alloc _=w3 at *
 generalize w2.heap.size=B2 at *
 refine wp_region_held_drew (S:=fun W=>Ext w W∧Blk W B2 (Bt.cells ⟨sigW ls sig,A⟩).toArray 60) (by kernel_rfl) ⟨HX3.out.drew,hb3.drew⟩ (fun hHeld=>?_)
 try simp only [J]
 (refine Jt 0 (_) rfl (yif_load1 rfl fun _ _=>rfl) hHeld ?_;try simp only [J])
 (refine Jt 1 (.int .u64 (A:Int)) rfl (yif_load1 rfl (by intro W hW;have y:=hW.2.has 1 _ rfl;clear hW;go_simp)) hHeld ?_;try simp only [J])
 (refine Jt 2 (_) rfl (yif_load1 rfl fun _ _=>rfl) hHeld ?_;try simp only [J])
 (refine Jt 3 (.pointer (some ⟨bb,ob,none⟩)) rfl (yif_load1 rfl (by intro W hW;clear hW;go_simp)) hHeld ?_;try simp only [J])
 (refine Jt 4 (.pointer (some ⟨bb,ob + 1,none⟩)) rfl (yif_load1 rfl (by intro W hW;clear hW;go_simp)) hHeld ?_;try simp only [J])
 (refine Jt 5 (.int .u64 (B:Int)) rfl (yif_load1 rfl (by intro W hW;have y:=H0.out W hW.1 1 _ rfl;clear hW;go_simp)) hHeld ?_;try simp only [J])
 (refine Jt 6 (.int .u64 (m:Int)) rfl (yif_load1 rfl (by intro W hW;clear hW;go_simp)) hHeld ?_;try simp only [J])
 (refine Jt 7 (.int .u64 ((m % 2:Nat):Int)) rfl (yif_load1 rfl (by intro W hW;clear hW;go_simp;exact HRES.out)) hHeld ?_;try simp only [J])
 (refine Jt 8 (.agg (Bt.cells ⟨1,m % 2⟩).toArray) rfl (yif_load1 rfl (by intro W hW;clear hW;go_simp)) hHeld ?_;try simp only [J])
 (refine wpAnyH_ready (rs:=[9]) (by kernel_rfl) (by simp) ?_;refine AllReadyH.cons rfl (fun K hK=>?_) AllReadyH.nil)
 refine step_store_blk' rfl 60 _ _ rfl HR3.out.drew rfl (cs:=Bt.cells ⟨1,m % 2⟩) rfl agg_Bits rfl rfl rfl ?_
 intro w4 hb4 hg4
 refine hK.out _ _ ⟨hHeld.1.grown hg4 (by omega),hHeld.2.grown hg4 (by omega)⟩ (fun hHeld=>?_)
 clear hK K
 refine wpAnyH_done (by kernel_rfl) ?_ _
 go_wp2_with (first | ((with_reducible show Jw (Op.load 60 _));refine wpList_load_has rfl 60 _ rfl rfl (hb4.has) agg_Bits rfl ?_) | ((with_reducible show Jw (Op.store 60 _ _));refine wpList_store_blk rfl 60 _ _ rfl (hb4) rfl (cs:=Bt.cells ⟨1,m % 2⟩) (rfl) agg_Bits (rfl) rfl (rfl) ?_;intro w9 hb9 hg9) | ((with_reducible show bodyPost _ _ _ _ _ _);refine Hid.out ?_))
 refine Lib.hid ?_
 refine post_ret_blk rfl rfl hb9.has agg_Bits rfl rfl ⟨?_,(hHeld.1).grown hg9 (by omega)⟩
 rw [HM.out]
set_option maxRecDepth 100000 in
set_option maxHeartbeats 2000000 in
theorem v2_un {wb:World} {ls:List Signal} {vs:List Nat} {S:Nat} (hls:∀ x ∈ ls,1 ≤ x.w∧x.w ≤ 64) (hvals:Vals ls vs) (henv:ValEnv wb ls vs S) {wd v sig hi lo nn:Int} {x:E} (hxo:(evB vs x).ok) (h0:1 ≤ nn) (h1:nn ≤ 6) (h6:nn=6→x.w=1) (s0 s:Value) (w:World) (hx:Ext wb w) (hE0:Es w s0 [x])
  (hBt:Bts w s (([x]:List E).map (evB vs))) :
  Calls Tryz.prog 85 #[.agg (E.cells (⟨4,wd,v,sig,hi,lo,nn,[x]⟩) s0).toArray,s,.pointer (some ⟨S,0,none⟩)] w fun r w'=>r=.returned (.agg (Bt.cells ⟨unW nn x.w,unM nn x.w.toNat (evM vs x)⟩).toArray)∧Ext w w':=by
 have hone:(E.cells (⟨4,wd,v,sig,hi,lo,nn,[x]⟩) s0).all (·.oneCell')=true:=by simp [hE0.one,one_int]
 obtain ⟨D,L,F,sv,pv,cv,qS,qD,qL,qSg,qF⟩:=henv
 have HQS:=Lib.hid (fun W (h:Ext w W)=>qS.ext (hx.trans h))
 obtain ⟨ab,bb,ob,capb,rfl,hcb1,hcb2,hba,hbr⟩:=hBt.open
 have HBR:=Lib.hid (fun W (h:Ext w W)=>(hbr.mono fun x _ b o (hh:Has w b o x.cells)=>Has.ext hh h:Rows 2 (BtAt W) _ bb ob))
 have x1:=ext_alloc w (.cells (E.cells (⟨4,wd,v,sig,hi,lo,nn,[x]⟩) s0).toArray 44)
 have x2:=ext_alloc (w.alloc (.cells (E.cells (⟨4,wd,v,sig,hi,lo,nn,[x]⟩) s0).toArray 44)) (.cells #[.int .i64 0,.int .u64 0] 60)
 have hE:=(Blk.new w (E.cells (⟨4,wd,v,sig,hi,lo,nn,[x]⟩) s0).toArray 44).ext x2
 have hR:=Blk.new (w.alloc (.cells (E.cells (⟨4,wd,v,sig,hi,lo,nn,[x]⟩) s0).toArray 44)) #[.int .i64 0,.int .u64 0] 60
 have hX:=x1.trans x2
 simp only [World.size_alloc] at hR
 clear x1 x2
 have HU:=Lib.hid (fun W=>Un_calls nn h0 h1 (evB vs x) hxo h6 W)
 obtain rfl:=hba (by simp)
 have H0:=Lib.hid (fun W (h:Ext w W)=>(by have:=Bts.get (HBR.out W h) (k:=0) (by simp);simpa using this:Has W bb (ob) (evB vs x).cells))
 go_enter Tryz.func85,Tryz.ntmps85
 go_upto_region 1 with fail
 generalize (w.alloc _).alloc _=w0 at *
 have HE:=Lib.hid hE
 have HR:=Lib.hid hR
 have HX:=Lib.hid hX
 have g0:=hE.has 0 _ rfl
 clear hE hR hX
 go_wp2_with fail
 refine wp_region_held_drew (S:=fun W=>Ext w W∧Blk W w.heap.size (E.cells (⟨4,wd,v,sig,hi,lo,nn,[x]⟩) s0).toArray 44) (by kernel_rfl) ⟨HX.out.drew,HE.out.drew⟩ (fun hHeld=>?_)
 try simp only [J]
 (refine Jt 0 (_) rfl (yif_load1 rfl fun _ _=>rfl) hHeld ?_;try simp only [J])
 (refine Jt 1 (.int .i64 nn) rfl (yif_load1 rfl (by intro W hW;have y:=hW.2.has 6 _ rfl;clear hW;go_simp)) hHeld ?_;try simp only [J])
 (refine Jt 2 (_) rfl (yif_load1 rfl fun _ _=>rfl) hHeld ?_;try simp only [J])
 (refine Jt 3 (.pointer (some ⟨bb,ob,none⟩)) rfl (yif_load1 rfl (by intro W hW;clear hW;go_simp)) hHeld ?_;try simp only [J])
 (refine Jt 4 (.agg (evB vs x).cells.toArray) rfl (yif_load rfl 60 _ rfl rfl (fun W hW=>H0.out W hW.1) agg_Bits rfl) hHeld ?_;try simp only [J])
 (refine wpAnyH_ready (rs:=[5]) (by kernel_rfl) (by simp) ?_;refine AllReadyH.cons rfl (fun K hK=>?_) AllReadyH.nil)
 go_simp
 refine (HU.out _).mono ?_
 rintro r w3 ⟨rfl,hx3⟩
 refine hK.out _ _ ⟨hHeld.1.trans hx3,hHeld.2.ext hx3⟩ (fun hHeld=>?_)
 clear hK K
 try simp only [J]
 (refine Jt 6 (.tuple #[.agg (Bt.cells ⟨unW nn (evB vs x).w,unM nn (evB vs x).w.toNat (evB vs x).v⟩).toArray,.int .i64 0]) rfl (yif_load1 rfl fun _ _=>rfl) hHeld ?_;try simp only [J])
 (refine Jt 7 (.agg (Bt.cells ⟨unW nn (evB vs x).w,unM nn (evB vs x).w.toNat (evB vs x).v⟩).toArray) rfl (yif_load1 rfl (by intro W hW;clear hW;go_simp)) hHeld ?_;try simp only [J])
 (refine Jt 8 (.int .i64 0) rfl (yif_load1 rfl (by intro W hW;clear hW;go_simp)) hHeld ?_;try simp only [J])
 (refine wpAnyH_ready (rs:=[9]) (by kernel_rfl) (by simp) ?_;refine AllReadyH.cons rfl (fun K hK=>?_) AllReadyH.nil)
 refine step_store_blk' rfl 60 _ _ rfl (HR.out.drew.ext hx3) rfl (cs:=Bt.cells ⟨unW nn (evB vs x).w,unM nn (evB vs x).w.toNat (evB vs x).v⟩) rfl agg_Bits rfl rfl rfl ?_
 intro w4 hb4 hg4
 refine hK.out _ _ ⟨hHeld.1.grown hg4 (by omega),hHeld.2.grown hg4 (by omega)⟩ (fun hHeld=>?_)
 clear hK K
 refine wpAnyH_done (by kernel_rfl) ?_ _
 go_wp2_with (first | ((with_reducible show Jw (Op.load 60 _));refine wpList_load_has rfl 60 _ rfl rfl (hb4.has) agg_Bits rfl ?_) | ((with_reducible show Jw (Op.store 60 _ _));refine wpList_store_blk rfl 60 _ _ rfl (hb4) rfl (cs:=Bt.cells ⟨unW nn (evB vs x).w,unM nn (evB vs x).w.toNat (evB vs x).v⟩) (rfl) agg_Bits (rfl) rfl (rfl) ?_;intro w9 hb9 hg9) | ((with_reducible show bodyPost _ _ _ _ _ _);refine Hid.out ?_))
 refine Lib.hid ?_
 refine post_ret_blk rfl rfl hb9.has agg_Bits rfl rfl ⟨?_,(hHeld.1).grown hg9 (by omega)⟩
 rfl
set_option maxRecDepth 100000 in
set_option maxHeartbeats 2000000 in
theorem v2_bin {wb:World} {ls:List Signal} {vs:List Nat} {S:Nat} (hls:∀ x ∈ ls,1 ≤ x.w∧x.w ≤ 64) (hvals:Vals ls vs) (henv:ValEnv wb ls vs S) {wd v sig hi lo nn:Int} {x y:E} (hxo:(evB vs x).ok) (hyo:(evB vs y).ok) (h0:11 ≤ nn) (h1:nn ≤ 26) (hxy:nn ≠ 17→nn ≠ 18→x.w=y.w) (h25:25 ≤ nn→x.w=1) (s0 s:Value) (w:World) (hx:Ext wb w) (hE0:Es w s0 [x,y])
  (hBt:Bts w s (([x,y]:List E).map (evB vs))) :
  Calls Tryz.prog 85 #[.agg (E.cells (⟨5,wd,v,sig,hi,lo,nn,[x,y]⟩) s0).toArray,s,.pointer (some ⟨S,0,none⟩)] w fun r w'=>r=.returned (.agg (Bt.cells ⟨binW nn x.w,binM nn x.w.toNat (evM vs x) (evM vs y)⟩).toArray)∧Ext w w':=by
 have hone:(E.cells (⟨5,wd,v,sig,hi,lo,nn,[x,y]⟩) s0).all (·.oneCell')=true:=by simp [hE0.one,one_int]
 obtain ⟨D,L,F,sv,pv,cv,qS,qD,qL,qSg,qF⟩:=henv
 have HQS:=Lib.hid (fun W (h:Ext w W)=>qS.ext (hx.trans h))
 obtain ⟨ab,bb,ob,capb,rfl,hcb1,hcb2,hba,hbr⟩:=hBt.open
 have HBR:=Lib.hid (fun W (h:Ext w W)=>(hbr.mono fun x _ b o (hh:Has w b o x.cells)=>Has.ext hh h:Rows 2 (BtAt W) _ bb ob))
 have x1:=ext_alloc w (.cells (E.cells (⟨5,wd,v,sig,hi,lo,nn,[x,y]⟩) s0).toArray 44)
 have x2:=ext_alloc (w.alloc (.cells (E.cells (⟨5,wd,v,sig,hi,lo,nn,[x,y]⟩) s0).toArray 44)) (.cells #[.int .i64 0,.int .u64 0] 60)
 have hE:=(Blk.new w (E.cells (⟨5,wd,v,sig,hi,lo,nn,[x,y]⟩) s0).toArray 44).ext x2
 have hR:=Blk.new (w.alloc (.cells (E.cells (⟨5,wd,v,sig,hi,lo,nn,[x,y]⟩) s0).toArray 44)) #[.int .i64 0,.int .u64 0] 60
 have hX:=x1.trans x2
 simp only [World.size_alloc] at hR
 clear x1 x2
 have HU:=Lib.hid (fun W=>Bin_calls nn h0 h1 (evB vs x) (evB vs y) hxo hyo hxy h25 W)
 obtain rfl:=hba (by simp)
 have H0:=Lib.hid (fun W (h:Ext w W)=>(by have:=Bts.get (HBR.out W h) (k:=0) (by simp);simpa using this:Has W bb (ob) (evB vs x).cells))
 have H1:=Lib.hid (fun W (h:Ext w W)=>(by have:=Bts.get (HBR.out W h) (k:=1) (by simp);simpa using this:Has W bb (ob + 2) (evB vs y).cells))
 go_enter Tryz.func85,Tryz.ntmps85
 go_upto_region 1 with fail
 generalize (w.alloc _).alloc _=w0 at *
 have HE:=Lib.hid hE
 have HR:=Lib.hid hR
 have HX:=Lib.hid hX
 have g0:=hE.has 0 _ rfl
 clear hE hR hX
 go_wp2_with fail
 refine wp_region_held_drew (S:=fun W=>Ext w W∧Blk W w.heap.size (E.cells (⟨5,wd,v,sig,hi,lo,nn,[x,y]⟩) s0).toArray 44) (by kernel_rfl) ⟨HX.out.drew,HE.out.drew⟩ (fun hHeld=>?_)
 try simp only [J]
 (refine Jt 0 (_) rfl (yif_load1 rfl fun _ _=>rfl) hHeld ?_;try simp only [J])
 (refine Jt 1 (.int .i64 nn) rfl (yif_load1 rfl (by intro W hW;have y:=hW.2.has 6 _ rfl;clear hW;go_simp)) hHeld ?_;try simp only [J])
 (refine Jt 2 (_) rfl (yif_load1 rfl fun _ _=>rfl) hHeld ?_;try simp only [J])
 (refine Jt 3 (.pointer (some ⟨bb,ob,none⟩)) rfl (yif_load1 rfl (by intro W hW;clear hW;go_simp)) hHeld ?_;try simp only [J])
 (refine Jt 4 (.agg (evB vs x).cells.toArray) rfl (yif_load rfl 60 _ rfl rfl (fun W hW=>H0.out W hW.1) agg_Bits rfl) hHeld ?_;try simp only [J])
 (refine Jt 5 (_) rfl (yif_load1 rfl fun _ _=>rfl) hHeld ?_;try simp only [J])
 (refine Jt 6 (.pointer (some ⟨bb,ob + 2,none⟩)) rfl (yif_load1 rfl (by intro W hW;clear hW;go_simp)) hHeld ?_;try simp only [J])
 (refine Jt 7 (.agg (evB vs y).cells.toArray) rfl (yif_load rfl 60 _ rfl rfl (fun W hW=>H1.out W hW.1) agg_Bits rfl) hHeld ?_;try simp only [J])
 (refine wpAnyH_ready (rs:=[8]) (by kernel_rfl) (by simp) ?_;refine AllReadyH.cons rfl (fun K hK=>?_) AllReadyH.nil)
 go_simp
 refine (HU.out _).mono ?_
 rintro r w3 ⟨rfl,hx3⟩
 refine hK.out _ _ ⟨hHeld.1.trans hx3,hHeld.2.ext hx3⟩ (fun hHeld=>?_)
 clear hK K
 try simp only [J]
 (refine Jt 9 (.tuple #[.agg (Bt.cells ⟨binW nn (evB vs x).w,binM nn (evB vs x).w.toNat (evB vs x).v (evB vs y).v⟩).toArray,.int .i64 0]) rfl (yif_load1 rfl fun _ _=>rfl) hHeld ?_;try simp only [J])
 (refine Jt 10 (.agg (Bt.cells ⟨binW nn (evB vs x).w,binM nn (evB vs x).w.toNat (evB vs x).v (evB vs y).v⟩).toArray) rfl (yif_load1 rfl (by intro W hW;clear hW;go_simp)) hHeld ?_;try simp only [J])
 (refine Jt 11 (.int .i64 0) rfl (yif_load1 rfl (by intro W hW;clear hW;go_simp)) hHeld ?_;try simp only [J])
 (refine wpAnyH_ready (rs:=[12]) (by kernel_rfl) (by simp) ?_;refine AllReadyH.cons rfl (fun K hK=>?_) AllReadyH.nil)
 refine step_store_blk' rfl 60 _ _ rfl (HR.out.drew.ext hx3) rfl (cs:=Bt.cells ⟨binW nn (evB vs x).w,binM nn (evB vs x).w.toNat (evB vs x).v (evB vs y).v⟩) rfl agg_Bits rfl rfl rfl ?_
 intro w4 hb4 hg4
 refine hK.out _ _ ⟨hHeld.1.grown hg4 (by omega),hHeld.2.grown hg4 (by omega)⟩ (fun hHeld=>?_)
 clear hK K
 refine wpAnyH_done (by kernel_rfl) ?_ _
 go_wp2_with (first | ((with_reducible show Jw (Op.load 60 _));refine wpList_load_has rfl 60 _ rfl rfl (hb4.has) agg_Bits rfl ?_) | ((with_reducible show Jw (Op.store 60 _ _));refine wpList_store_blk rfl 60 _ _ rfl (hb4) rfl (cs:=Bt.cells ⟨binW nn (evB vs x).w,binM nn (evB vs x).w.toNat (evB vs x).v (evB vs y).v⟩) (rfl) agg_Bits (rfl) rfl (rfl) ?_;intro w9 hb9 hg9) | ((with_reducible show bodyPost _ _ _ _ _ _);refine Hid.out ?_))
 refine Lib.hid ?_
 refine post_ret_blk rfl rfl hb9.has agg_Bits rfl rfl ⟨?_,(hHeld.1).grown hg9 (by omega)⟩
 rfl
set_option maxRecDepth 100000 in
set_option maxHeartbeats 2000000 in
theorem v2_cond {wb:World} {ls:List Signal} {vs:List Nat} {S:Nat} (hls:∀ x ∈ ls,1 ≤ x.w∧x.w ≤ 64) (hvals:Vals ls vs) (henv:ValEnv wb ls vs S) {wd v sig hi lo nn:Int} {c x y:E} (hco:(evB vs c).ok) (hxo:(evB vs x).ok) (hyo:(evB vs y).ok) (hc1:c.w=1) (hxy:x.w=y.w) (s0 s:Value) (w:World) (hx:Ext wb w) (hE0:Es w s0 [c,x,y])
  (hBt:Bts w s (([c,x,y]:List E).map (evB vs))) :
  Calls Tryz.prog 85 #[.agg (E.cells (⟨6,wd,v,sig,hi,lo,nn,[c,x,y]⟩) s0).toArray,s,.pointer (some ⟨S,0,none⟩)] w fun r w'=>r=.returned (.agg (Bt.cells ⟨x.w,if evM vs c=1 then evM vs x else evM vs y⟩).toArray)∧Ext w w':=by
 have hone:(E.cells (⟨6,wd,v,sig,hi,lo,nn,[c,x,y]⟩) s0).all (·.oneCell')=true:=by simp [hE0.one,one_int]
 obtain ⟨D,L,F,sv,pv,cv,qS,qD,qL,qSg,qF⟩:=henv
 have HQS:=Lib.hid (fun W (h:Ext w W)=>qS.ext (hx.trans h))
 obtain ⟨ab,bb,ob,capb,rfl,hcb1,hcb2,hba,hbr⟩:=hBt.open
 have HBR:=Lib.hid (fun W (h:Ext w W)=>(hbr.mono fun x _ b o (hh:Has w b o x.cells)=>Has.ext hh h:Rows 2 (BtAt W) _ bb ob))
 have x1:=ext_alloc w (.cells (E.cells (⟨6,wd,v,sig,hi,lo,nn,[c,x,y]⟩) s0).toArray 44)
 have x2:=ext_alloc (w.alloc (.cells (E.cells (⟨6,wd,v,sig,hi,lo,nn,[c,x,y]⟩) s0).toArray 44)) (.cells #[.int .i64 0,.int .u64 0] 60)
 have hE:=(Blk.new w (E.cells (⟨6,wd,v,sig,hi,lo,nn,[c,x,y]⟩) s0).toArray 44).ext x2
 have hR:=Blk.new (w.alloc (.cells (E.cells (⟨6,wd,v,sig,hi,lo,nn,[c,x,y]⟩) s0).toArray 44)) #[.int .i64 0,.int .u64 0] 60
 have hX:=x1.trans x2
 simp only [World.size_alloc] at hR
 clear x1 x2
 have HU0:=fun W=>Cond_calls (evB vs c) (evB vs x) (evB vs y) hco hxo hyo hc1 hxy W
 obtain ⟨RES,hres⟩ : ∃ b:Bt,(⟨x.w,if evM vs c=1 then evM vs x else evM vs y⟩ : Bt)=b:=⟨_,rfl⟩
 change ∀ W,Calls Tryz.prog _ _ W (BtPost W ⟨x.w,if evM vs c=1 then evM vs x else evM vs y⟩) at HU0
 rw [hres] at HU0 ⊢
 have HU:=Lib.hid HU0
 clear HU0 hres hxy hc1
 obtain rfl:=hba (by simp)
 have H0:=Lib.hid (fun W (h:Ext w W)=>(by have:=Bts.get (HBR.out W h) (k:=0) (by simp);simpa using this:Has W bb (ob) (evB vs c).cells))
 have H1:=Lib.hid (fun W (h:Ext w W)=>(by have:=Bts.get (HBR.out W h) (k:=1) (by simp);simpa using this:Has W bb (ob + 2) (evB vs x).cells))
 have H2:=Lib.hid (fun W (h:Ext w W)=>(by have:=Bts.get (HBR.out W h) (k:=2) (by simp);simpa using this:Has W bb (ob + 4) (evB vs y).cells))
 go_enter Tryz.func85,Tryz.ntmps85
 go_upto_region 1 with fail
 generalize (w.alloc _).alloc _=w0 at *
 have HE:=Lib.hid hE
 have HR:=Lib.hid hR
 have HX:=Lib.hid hX
 have g0:=hE.has 0 _ rfl
 clear hE hR hX
 go_wp2_with fail
 refine wp_region_held_drew (S:=fun W=>Ext w W∧Blk W w.heap.size (E.cells (⟨6,wd,v,sig,hi,lo,nn,[c,x,y]⟩) s0).toArray 44) (by kernel_rfl) ⟨HX.out.drew,HE.out.drew⟩ (fun hHeld=>?_)
 try simp only [J]
 (refine Jt 0 (_) rfl (yif_load1 rfl fun _ _=>rfl) hHeld ?_;try simp only [J])
 (refine Jt 1 (.pointer (some ⟨bb,ob,none⟩)) rfl (yif_load1 rfl (by intro W hW;clear hW;go_simp)) hHeld ?_;try simp only [J])
 (refine Jt 2 (.agg (evB vs c).cells.toArray) rfl (yif_load rfl 60 _ rfl rfl (fun W hW=>H0.out W hW.1) agg_Bits rfl) hHeld ?_;try simp only [J])
 (refine Jt 3 (_) rfl (yif_load1 rfl fun _ _=>rfl) hHeld ?_;try simp only [J])
 (refine Jt 4 (.pointer (some ⟨bb,ob + 2,none⟩)) rfl (yif_load1 rfl (by intro W hW;clear hW;go_simp)) hHeld ?_;try simp only [J])
 (refine Jt 5 (.agg (evB vs x).cells.toArray) rfl (yif_load rfl 60 _ rfl rfl (fun W hW=>H1.out W hW.1) agg_Bits rfl) hHeld ?_;try simp only [J])
 (refine Jt 6 (_) rfl (yif_load1 rfl fun _ _=>rfl) hHeld ?_;try simp only [J])
 (refine Jt 7 (.pointer (some ⟨bb,ob + 4,none⟩)) rfl (yif_load1 rfl (by intro W hW;clear hW;go_simp)) hHeld ?_;try simp only [J])
 (refine Jt 8 (.agg (evB vs y).cells.toArray) rfl (yif_load rfl 60 _ rfl rfl (fun W hW=>H2.out W hW.1) agg_Bits rfl) hHeld ?_;try simp only [J])
 (refine wpAnyH_ready (rs:=[9]) (by kernel_rfl) (by simp) ?_;refine AllReadyH.cons rfl (fun K hK=>?_) AllReadyH.nil)
 go_simp
 refine (HU.out _).mono ?_
 rintro r w3 ⟨rfl,hx3⟩
 refine hK.out _ _ ⟨hHeld.1.trans hx3,hHeld.2.ext hx3⟩ (fun hHeld=>?_)
 clear hK K
 try simp only [J]
 (refine Jt 10 (.tuple #[.agg (Bt.cells RES).toArray,.int .i64 0]) rfl (yif_load1 rfl fun _ _=>rfl) hHeld ?_;try simp only [J])
 (refine Jt 11 (.agg (Bt.cells RES).toArray) rfl (yif_load1 rfl (by intro W hW;clear hW;go_simp)) hHeld ?_;try simp only [J])
 (refine Jt 12 (.int .i64 0) rfl (yif_load1 rfl (by intro W hW;clear hW;go_simp)) hHeld ?_;try simp only [J])
 (refine wpAnyH_ready (rs:=[13]) (by kernel_rfl) (by simp) ?_;refine AllReadyH.cons rfl (fun K hK=>?_) AllReadyH.nil)
 refine step_store_blk' rfl 60 _ _ rfl (HR.out.drew.ext hx3) rfl (cs:=Bt.cells RES) rfl agg_Bits rfl rfl rfl ?_
 intro w4 hb4 hg4
 refine hK.out _ _ ⟨hHeld.1.grown hg4 (by omega),hHeld.2.grown hg4 (by omega)⟩ (fun hHeld=>?_)
 clear hK K
 refine wpAnyH_done (by kernel_rfl) ?_ _
 go_wp2_with (first | ((with_reducible show Jw (Op.load 60 _));refine wpList_load_has rfl 60 _ rfl rfl (hb4.has) agg_Bits rfl ?_) | ((with_reducible show Jw (Op.store 60 _ _));refine wpList_store_blk rfl 60 _ _ rfl (hb4) rfl (cs:=Bt.cells RES) (rfl) agg_Bits (rfl) rfl (rfl) ?_;intro w9 hb9 hg9) | ((with_reducible show bodyPost _ _ _ _ _ _);refine Hid.out ?_))
 refine Lib.hid ?_
 refine post_ret_blk rfl rfl hb9.has agg_Bits rfl rfl ⟨?_,(hHeld.1).grown hg9 (by omega)⟩
 rfl
set_option maxRecDepth 100000 in
set_option maxHeartbeats 2000000 in
theorem v2_cat {wb:World} {ls:List Signal} {vs:List Nat} {S:Nat} (hls:∀ x ∈ ls,1 ≤ x.w∧x.w ≤ 64) (hvals:Vals ls vs) (henv:ValEnv wb ls vs S) {wd v sig hi lo nn:Int} {l:List E} (hlo:∀ x ∈ l.map (evB vs),x.ok) (hl0:l.map (evB vs) ≠ []) (hw:catW (l.map (evB vs)) ≤ 64) (s0 s:Value) (w:World) (hx:Ext wb w) (hE0:Es w s0 l)
  (hBt:Bts w s ((l:List E).map (evB vs))) :
  Calls Tryz.prog 85 #[.agg (E.cells (⟨7,wd,v,sig,hi,lo,nn,l⟩) s0).toArray,s,.pointer (some ⟨S,0,none⟩)] w fun r w'=>r=.returned (.agg (Bt.cells ⟨catW (l.map (evB vs)),catM (catP (l.map (evB vs))) 0⟩).toArray)∧Ext w w':=by
 have hone:(E.cells (⟨7,wd,v,sig,hi,lo,nn,l⟩) s0).all (·.oneCell')=true:=by simp [hE0.one,one_int]
 obtain ⟨D,L,F,sv,pv,cv,qS,qD,qL,qSg,qF⟩:=henv
 have HQS:=Lib.hid (fun W (h:Ext w W)=>qS.ext (hx.trans h))
 obtain ⟨ab,bb,ob,capb,rfl,hcb1,hcb2,hba,hbr⟩:=hBt.open
 have HBR:=Lib.hid (fun W (h:Ext w W)=>(hbr.mono fun x _ b o (hh:Has w b o x.cells)=>Has.ext hh h:Rows 2 (BtAt W) _ bb ob))
 have x1:=ext_alloc w (.cells (E.cells (⟨7,wd,v,sig,hi,lo,nn,l⟩) s0).toArray 44)
 have x2:=ext_alloc (w.alloc (.cells (E.cells (⟨7,wd,v,sig,hi,lo,nn,l⟩) s0).toArray 44)) (.cells #[.int .i64 0,.int .u64 0] 60)
 have hE:=(Blk.new w (E.cells (⟨7,wd,v,sig,hi,lo,nn,l⟩) s0).toArray 44).ext x2
 have hR:=Blk.new (w.alloc (.cells (E.cells (⟨7,wd,v,sig,hi,lo,nn,l⟩) s0).toArray 44)) #[.int .i64 0,.int .u64 0] 60
 have hX:=x1.trans x2
 simp only [World.size_alloc] at hR
 clear x1 x2
 have HU:=Lib.hid (fun W (h:Ext w W)=>Cat_calls (l.map (evB vs)) hlo hl0 hw _ W (hBt.ext h))
 obtain ⟨RES,hres⟩ : ∃ b:Bt,(⟨catW (l.map (evB vs)),catM (catP (l.map (evB vs))) 0⟩ : Bt)=b:=⟨_,rfl⟩
 rw [hres] at HU ⊢
 clear hres
 simp only [List.length_map] at HU ⊢
 go_enter Tryz.func85,Tryz.ntmps85
 go_upto_region 1 with fail
 generalize (w.alloc _).alloc _=w0 at *
 have HE:=Lib.hid hE
 have HR:=Lib.hid hR
 have HX:=Lib.hid hX
 have g0:=hE.has 0 _ rfl
 clear hE hR hX
 go_wp2_with (first | (go_at_call 90;refine (HU.out _ HX.out).mono ?_;rintro r w3 ⟨rfl,hx3⟩) | ((with_reducible show Jw (Op.store 60 _ _));refine wpList_store_blk rfl 60 _ _ rfl (HR.out.ext hx3) rfl (cs:=RES.cells) (rfl) agg_Bits (rfl) rfl (rfl) ?_;intro w4 hb4 hg4) | ((with_reducible show Jw (Op.load 60 _));refine wpList_load_has rfl 60 _ rfl rfl (hb4.has) agg_Bits rfl ?_) | ((with_reducible show Jw (Op.store 60 _ _));refine wpList_store_blk rfl 60 _ _ rfl (hb4) rfl (cs:=RES.cells) (rfl) agg_Bits (rfl) rfl (rfl) ?_;intro w9 hb9 hg9) | ((with_reducible show bodyPost _ _ _ _ _ _);refine Hid.out ?_))
 refine Lib.hid ?_
 refine post_ret_blk rfl rfl hb9.has agg_Bits rfl rfl ⟨rfl,((HX.out.trans hx3).grown hg4 (by omega)).grown hg9 (by omega)⟩
set_option maxRecDepth 100000 in
set_option maxHeartbeats 2000000 in
theorem v2_ext {wb:World} {ls:List Signal} {vs:List Nat} {S:Nat} (hls:∀ x ∈ ls,1 ≤ x.w∧x.w ≤ 64) (hvals:Vals ls vs) (henv:ValEnv wb ls vs S) {wd v sig hi lo nn:Int} {x:E} (hxo:(evB vs x).ok) (h0:31 ≤ nn) (h1:nn ≤ 33) (hw1:1 ≤ wd) (hw2:wd ≤ 64) (hz:nn ≠ 33→x.w ≤ wd) (hc:nn=33→wd ≤ x.w) (s0 s:Value) (w:World) (hx:Ext wb w) (hE0:Es w s0 [x])
  (hBt:Bts w s (([x]:List E).map (evB vs))) :
  Calls Tryz.prog 85 #[.agg (E.cells (⟨8,wd,v,sig,hi,lo,nn,[x]⟩) s0).toArray,s,.pointer (some ⟨S,0,none⟩)] w fun r w'=>r=.returned (.agg (Bt.cells ⟨wd,extN nn wd.toNat x.w.toNat (evM vs x)⟩).toArray)∧Ext w w':=by
 have hone:(E.cells (⟨8,wd,v,sig,hi,lo,nn,[x]⟩) s0).all (·.oneCell')=true:=by simp [hE0.one,one_int]
 obtain ⟨D,L,F,sv,pv,cv,qS,qD,qL,qSg,qF⟩:=henv
 have HQS:=Lib.hid (fun W (h:Ext w W)=>qS.ext (hx.trans h))
 obtain ⟨ab,bb,ob,capb,rfl,hcb1,hcb2,hba,hbr⟩:=hBt.open
 have HBR:=Lib.hid (fun W (h:Ext w W)=>(hbr.mono fun x _ b o (hh:Has w b o x.cells)=>Has.ext hh h:Rows 2 (BtAt W) _ bb ob))
 have x1:=ext_alloc w (.cells (E.cells (⟨8,wd,v,sig,hi,lo,nn,[x]⟩) s0).toArray 44)
 have x2:=ext_alloc (w.alloc (.cells (E.cells (⟨8,wd,v,sig,hi,lo,nn,[x]⟩) s0).toArray 44)) (.cells #[.int .i64 0,.int .u64 0] 60)
 have hE:=(Blk.new w (E.cells (⟨8,wd,v,sig,hi,lo,nn,[x]⟩) s0).toArray 44).ext x2
 have hR:=Blk.new (w.alloc (.cells (E.cells (⟨8,wd,v,sig,hi,lo,nn,[x]⟩) s0).toArray 44)) #[.int .i64 0,.int .u64 0] 60
 have hX:=x1.trans x2
 simp only [World.size_alloc] at hR
 clear x1 x2
 have HU:=Lib.hid (fun W=>Ext_calls nn wd h0 h1 hw1 hw2 (evB vs x) hxo hz hc W)
 obtain rfl:=hba (by simp)
 have H0:=Lib.hid (fun W (h:Ext w W)=>(by have:=Bts.get (HBR.out W h) (k:=0) (by simp);simpa using this:Has W bb (ob) (evB vs x).cells))
 go_enter Tryz.func85,Tryz.ntmps85
 go_upto_region 1 with fail
 generalize (w.alloc _).alloc _=w0 at *
 have HE:=Lib.hid hE
 have HR:=Lib.hid hR
 have HX:=Lib.hid hX
 have g0:=hE.has 0 _ rfl
 clear hE hR hX
 go_wp2_with fail
 refine wp_region_held_drew (S:=fun W=>Ext w W∧Blk W w.heap.size (E.cells (⟨8,wd,v,sig,hi,lo,nn,[x]⟩) s0).toArray 44) (by kernel_rfl) ⟨HX.out.drew,HE.out.drew⟩ (fun hHeld=>?_)
 try simp only [J]
 (refine Jt 0 (_) rfl (yif_load1 rfl fun _ _=>rfl) hHeld ?_;try simp only [J])
 (refine Jt 1 (.int .i64 nn) rfl (yif_load1 rfl (by intro W hW;have y:=hW.2.has 6 _ rfl;clear hW;go_simp)) hHeld ?_;try simp only [J])
 (refine Jt 2 (_) rfl (yif_load1 rfl fun _ _=>rfl) hHeld ?_;try simp only [J])
 (refine Jt 3 (.int .i64 wd) rfl (yif_load1 rfl (by intro W hW;have y:=hW.2.has 1 _ rfl;clear hW;go_simp)) hHeld ?_;try simp only [J])
 (refine Jt 4 (_) rfl (yif_load1 rfl fun _ _=>rfl) hHeld ?_;try simp only [J])
 (refine Jt 5 (.pointer (some ⟨bb,ob,none⟩)) rfl (yif_load1 rfl (by intro W hW;clear hW;go_simp)) hHeld ?_;try simp only [J])
 (refine Jt 6 (.agg (evB vs x).cells.toArray) rfl (yif_load rfl 60 _ rfl rfl (fun W hW=>H0.out W hW.1) agg_Bits rfl) hHeld ?_;try simp only [J])
 (refine wpAnyH_ready (rs:=[7]) (by kernel_rfl) (by simp) ?_;refine AllReadyH.cons rfl (fun K hK=>?_) AllReadyH.nil)
 go_simp
 refine (HU.out _).mono ?_
 rintro r w3 ⟨rfl,hx3⟩
 refine hK.out _ _ ⟨hHeld.1.trans hx3,hHeld.2.ext hx3⟩ (fun hHeld=>?_)
 clear hK K
 try simp only [J]
 (refine Jt 8 (.tuple #[.agg (Bt.cells ⟨wd,extN nn wd.toNat (evB vs x).w.toNat (evB vs x).v⟩).toArray,.int .i64 0]) rfl (yif_load1 rfl fun _ _=>rfl) hHeld ?_;try simp only [J])
 (refine Jt 9 (.agg (Bt.cells ⟨wd,extN nn wd.toNat (evB vs x).w.toNat (evB vs x).v⟩).toArray) rfl (yif_load1 rfl (by intro W hW;clear hW;go_simp)) hHeld ?_;try simp only [J])
 (refine Jt 10 (.int .i64 0) rfl (yif_load1 rfl (by intro W hW;clear hW;go_simp)) hHeld ?_;try simp only [J])
 (refine wpAnyH_ready (rs:=[11]) (by kernel_rfl) (by simp) ?_;refine AllReadyH.cons rfl (fun K hK=>?_) AllReadyH.nil)
 refine step_store_blk' rfl 60 _ _ rfl (HR.out.drew.ext hx3) rfl (cs:=Bt.cells ⟨wd,extN nn wd.toNat (evB vs x).w.toNat (evB vs x).v⟩) rfl agg_Bits rfl rfl rfl ?_
 intro w4 hb4 hg4
 refine hK.out _ _ ⟨hHeld.1.grown hg4 (by omega),hHeld.2.grown hg4 (by omega)⟩ (fun hHeld=>?_)
 clear hK K
 refine wpAnyH_done (by kernel_rfl) ?_ _
 go_wp2_with (first | ((with_reducible show Jw (Op.load 60 _));refine wpList_load_has rfl 60 _ rfl rfl (hb4.has) agg_Bits rfl ?_) | ((with_reducible show Jw (Op.store 60 _ _));refine wpList_store_blk rfl 60 _ _ rfl (hb4) rfl (cs:=Bt.cells ⟨wd,extN nn wd.toNat (evB vs x).w.toNat (evB vs x).v⟩) (rfl) agg_Bits (rfl) rfl (rfl) ?_;intro w9 hb9 hg9) | ((with_reducible show bodyPost _ _ _ _ _ _);refine Hid.out ?_))
 refine Lib.hid ?_
 refine post_ret_blk rfl rfl hb9.has agg_Bits rfl rfl ⟨?_,(hHeld.1).grown hg9 (by omega)⟩
 rfl
end Go.Proofs.YtemabheegnngdaaGreat
