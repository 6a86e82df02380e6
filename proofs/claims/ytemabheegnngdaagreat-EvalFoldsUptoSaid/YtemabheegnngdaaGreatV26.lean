/- Laws and walks that a claim of this seat leans on: R01e, R10v. -/
import Derived.Test.YtemabheegnngdaaGreatV25
import Derived.Test.YtemabheegnngdaaGreatV14
import Derived.Test.YtemabheegnngdaaGreatV15
import Derived.Test.YtemabheegnngdaaGreatV18
import Derived.Test.YtemabheegnngdaaGreatV00
set_option linter.all false
namespace Go.Proofs.YtemabheegnngdaaGreat
open Go.RowKit
set_option maxRecDepth 100000 in
set_option maxHeartbeats 2000000 in
theorem CatR_calls (l:List Bt) (hok:∀ x ∈ l,x.ok) (hne:l ≠ []) (hw:catW l ≤ 64) (s:Value) (w:World) (h:Bts w s l) :
  Calls Tryz.prog 95 #[s] w (BtPost w ⟨catW l,catM (catP l) 0⟩):=by
 have HX:=ext_alloc w (.cells #[.int .i64 0,.int .u64 0] 60)
 have hR:=Blk.new w #[.int .i64 0,.int .u64 0] 60
 have HOK:=Lib.hid hok
 have HW:=Lib.hid hw
 have hl0:0 < l.length:=List.length_pos_iff.2 hne
 have hcw:1 ≤ catW l:=by
  cases l with
  | nil=>exact absurd rfl hne
  | cons x l =>
   have h1:=(hok x (by simp)).1
   have h2:=(cat_lt l (fun y hy=>hok y (by simp [hy]))).1
   unfold catW at *
   rw [List.map_cons,List.sum_cons]
   omega
 obtain ⟨a,b,o,cap,hs,hc1,hc2,ha,hr⟩:=h.open
 subst hs
 have HBR:=Lib.hid (fun W (h:Ext w W)=>(hr.mono fun x _ b o (hh:Has w b o x.cells)=>Has.ext hh h:Rows 2 (BtAt W) l b o))
 clear hok hw hne h hr
 have c1:(catW l == 0)=false:=by rw [beq_eq_false_iff_ne];omega
 have c2:decide (64 < catW l)=false:=decide_eq_false (by have:=HW.out;omega)
 go_enter Tryz.func95,Tryz.ntmps95
 go_upto_region 1 with fail
 generalize w.alloc _=w0 at *
 obtain rfl:=ha hl0
 clear ha
 have HR:=Lib.hid hR
 have HX0:=Lib.hid HX
 clear hR HX
 go_wp2_with fail
 go_loopw [4,5] (fun v i wr=>∃ k:Nat,k ≤ l.length∧i=.int .i64 k∧v=.int .i64 (catW (l.take k))∧Ext w0 wr) (fun _ i _=>l.length - (intOf i).toNat)
 case atStart=>exact ⟨0,Nat.zero_le _,rfl,rfl,Below.refl _ _⟩
 case round =>
  obtain ⟨k,hk,rfl,rfl,hB⟩:=hrel
  by_cases hlt:k < l.length
  ·have he:=Bts.get (HBR.out wr (HX0.out.trans hB)) hlt
   obtain ⟨t1,-,t3⟩:=cat_take l HOK.out k hlt
   have hxo:=HOK.out _ (List.getElem_mem hlt)
   obtain ⟨z1,-⟩:=cat_lt (l.take k) (fun x hx=>HOK.out x (List.mem_of_mem_take hx))
   have HC:=Lib.hid (fun W=>CheckR_calls l[k] hxo W)
   have hw64:=HW.out
   generalize l[k]=x at *
   rw [t1] at t3
   have T1:=Lib.hid t1
   have hx1:=hxo.1
   have hx2:=hxo.2.1
   generalize catW (l.take k)=s0 at *
   clear t1 hxo
   obtain ⟨xw,xv⟩:=x
   simp only at *
   go_upto_region 7 with (first | ((with_reducible show Jw (Op.load 60 _));refine wpList_load_has rfl 60 _ rfl rfl (he) agg_Bits rfl ?_) | (go_at_call 65;refine (HC.out _).mono ?_;rintro r w2 ⟨rfl,hx⟩))
   have g0:=(Has.ext he hx) 0 _ rfl
   rw [Nat.add_zero] at g0
   have hB2:=hB.trans hx
   clear he hx hB
   go_wp2_with fail
   go_roundw
   case rel=>exact ⟨k + 1,by omega,by go_num,by rw [T1.out],hB2⟩
   case measure=>simp [intOf];omega
  ·obtain rfl:k=l.length:=by omega
   rw [List.take_length]
   obtain ⟨wo,rfl⟩ : ∃ wo,wo=wr:=⟨_,rfl⟩
   have HB:=Lib.hid hB
   clear hB
   go_wp2_with fail
   go_loopw [6,7] (fun v i wq=>∃ k:Nat,k ≤ l.length∧i=.int .i64 k∧v=.int .u64 (catM (catP (l.take k)) 0:Nat)∧Ext wo wq) (fun _ i _=>l.length - (intOf i).toNat)
   case atStart=>exact ⟨0,Nat.zero_le _,rfl,rfl,Below.refl _ _⟩
   case round =>
    obtain ⟨k,hk,rfl,rfl,hB⟩:=hrel
    by_cases hlt:k < l.length
    ·have he:=Bts.get (HBR.out wr (HX0.out.trans (HB.out.trans hB))) hlt
     obtain ⟨t1,t2,t3⟩:=cat_take l HOK.out k hlt
     have hxo:=HOK.out _ (List.getElem_mem hlt)
     obtain ⟨z1,z2⟩:=cat_lt (l.take k) (fun x hx=>HOK.out x (List.mem_of_mem_take hx))
     have hw64:=HW.out
     generalize l[k]=x at *
     rw [t1] at t3
     obtain ⟨e1,e2⟩:=cat_step z2 hxo.2.2 (by have:=hxo.1;omega)
     have hxl:=Bt.lt64 hxo
     have hx1:=hxo.1
     have hx2:=hxo.2.1
     generalize catW (l.take k)=s0 at *
     generalize catM (catP (l.take k)) 0=a0 at *
     have hm64:a0 * 2 ^ x.w.toNat < 18446744073709551616:=by
      have h1:a0 * 2 ^ x.w.toNat < 2 ^ (s0.toNat + x.w.toNat):=by
       rw [Nat.pow_add];exact Nat.mul_lt_mul_of_pos_right z2 (Nat.two_pow_pos _)
      exact Nat.lt_of_lt_of_le h1 (Nat.pow_le_pow_right (n:=2) (by decide) (show s0.toNat + x.w.toNat ≤ 64 by omega))
     have ha64:a0 < 2 ^ 64:=Nat.lt_of_lt_of_le z2 (Nat.pow_le_pow_right (by decide) (by omega))
     have HUP:=Lib.hid (fun W=>upR_calls a0 x.w.toNat ha64 W)
     rw [Nat.mod_eq_of_lt hm64] at HUP
     generalize a0 * 2 ^ x.w.toNat=m0 at *
     have T2:=Lib.hid t2
     have E2:=Lib.hid e2
     clear t1 t2 z2 e1 e2 hxo
     obtain ⟨xw,xv⟩:=x
     simp only at *
     have hwn:((xw.toNat:Nat):Int)=xw:=by omega
     rw [hwn] at HUP
     have HE:=Lib.hid he
     have HBQ:=Lib.hid hB
     have hwr:IntKind.u64.wrap xw=xw:=by rw [IntKind.wrap_u64];omega
     clear he hB hm64 ha64 hwn
     go_wp2_with fail
     refine wp_region_held_drew (S:=fun W=>Ext wr W) (by kernel_rfl) (Below.drew (Below.refl _ _)) (fun hHeld=>?_)
     try simp only [J]
     (refine Jt 0 (.int .u64 (a0:Int)) rfl (yif_load1 rfl fun _ _=>rfl) hHeld ?_;try simp only [J])
     (refine Jt 1 (.slice (some ⟨b,o,none⟩) l.length cap) rfl (yif_load1 rfl fun _ _=>rfl) hHeld ?_;try simp only [J])
     (refine Jt 2 (.int .i64 (k:Int)) rfl (yif_load1 rfl fun _ _=>rfl) hHeld ?_;try simp only [J])
     (refine Jt 3 (.pointer (some ⟨b,o + k * 2,none⟩)) rfl (yif_load1 rfl (by intro W hW;clear hW;go_simp)) hHeld ?_;try simp only [J])
     (refine Jt 4 (.pointer (some ⟨b,o + k * 2,none⟩)) rfl (yif_load1 rfl (by intro W hW;clear hW;go_simp)) hHeld ?_;try simp only [J])
     (refine Jt 5 (.int .i64 xw) rfl (yif_load1 rfl (by intro W hW;have y:=(HE.out.ext hW) 0 _ rfl;rw [Nat.add_zero] at y;clear hW;go_simp)) hHeld ?_;try simp only [J])
     (refine Jt 6 (.int .u64 xw) rfl (yif_load1 rfl (by intro W hW;clear hW;go_simp)) hHeld ?_;try simp only [J])
     (refine Jt 8 (.slice (some ⟨b,o,none⟩) l.length cap) rfl (yif_load1 rfl fun _ _=>rfl) hHeld ?_;try simp only [J])
     (refine Jt 9 (.int .i64 (k:Int)) rfl (yif_load1 rfl fun _ _=>rfl) hHeld ?_;try simp only [J])
     (refine Jt 10 (.pointer (some ⟨b,o + k * 2,none⟩)) rfl (yif_load1 rfl (by intro W hW;clear hW;go_simp)) hHeld ?_;try simp only [J])
     (refine Jt 11 (.pointer (some ⟨b,o + k * 2 + 1,none⟩)) rfl (yif_load1 rfl (by intro W hW;clear hW;go_simp)) hHeld ?_;try simp only [J])
     (refine Jt 12 (.int .u64 (xv:Int)) rfl (yif_load1 rfl (by intro W hW;have y:=(HE.out.ext hW) 1 _ rfl;clear hW;go_simp)) hHeld ?_;try simp only [J])
     (refine wpAnyH_ready (rs:=[7]) (by kernel_rfl) (by simp) ?_;refine AllReadyH.cons rfl (fun K hK=>?_) AllReadyH.nil)
     go_simp
     refine (HUP.out _).mono ?_
     rintro r w3 ⟨rfl,rfl⟩
     refine hK.out _ _ hHeld (fun hHeld=>?_)
     clear hK K
     try simp only [J]
     (refine Jt 13 (.int .u64 ((m0 + xv:Nat):Int)) rfl (yif_load1 rfl (by intro W hW;clear hW;go_simp;exact E2.out)) hHeld ?_;try simp only [J])
     (refine Jt 14 (.int .u64 ((m0 + xv:Nat):Int)) rfl (yif_load1 rfl fun _ _=>rfl) hHeld ?_;try simp only [J])
     refine wpAnyH_done (by kernel_rfl) ?_ _
     have HD:=Lib.hid (HBQ.out.trans hHeld)
     clear hHeld HBQ HE hwr
     go_wp2_with fail
     go_roundw
     case rel=>exact ⟨k + 1,by omega,by go_num,by rw [T2.out],HD.out⟩
     case measure=>simp [intOf];omega
    ·obtain rfl:k=l.length:=by omega
     rw [List.take_length]
     have HXQ:=Lib.hid (HX0.out.trans (HB.out.trans hB))
     have HRQ:=Lib.hid (HR.out.ext (HB.out.trans hB))
     clear hB
     go_wp2_with (first | ((with_reducible show Jw (Op.store 60 _ _));refine wpList_store_blk rfl 60 _ _ rfl (HRQ.out) rfl (cs:=Bt.cells ⟨catW l,catM (catP l) 0⟩) (rfl) agg_Bits (rfl) rfl (rfl) ?_;intro w4 hb4 hg4) | ((with_reducible show bodyPost _ _ _ _ _ _);refine Hid.out ?_))
     refine Lib.hid ?_
     exact post_ret_blk2' rfl rfl rfl hb4.has agg_Bits rfl rfl ⟨rfl,HXQ.out.grown hg4 (by omega)⟩
open Go.RowKit
theorem bts_at {W:World} {g n cr k:Nat} {L:List Bt} (h:Bts W (.slice (some ⟨g,0,none⟩) n cr) L) (hk:k < L.length):Has W g (k * 2) L[k].cells:=by
 obtain ⟨b,o,⟨a,cap,e1,-,-,e4⟩,hr⟩:=h
 injection e1 with e1 _ _
 have h4:=e4 (by omega)
 rw [h4] at e1
 injection e1 with e1
 injection e1 with e1 e2 _
 subst e1
 subst e2
 have:=Bts.get hr hk
 rwa [Nat.zero_add] at this
def Val10Said (d:Flat) (vs:List Nat) (e:E):Prop:=∀ (fv uv:Value) (cs:List Value) (w:World),FlatV w fv d→Us w uv vs→VE w cs e→nodes e ≤ 1048576 →
 Calls Tryz.prog 52 #[fv,uv,.agg cs.toArray] w fun r w'=>r=.returned (.agg (evB vs e).cells.toArray)∧Ext w w'
set_option maxRecDepth 100000 in
set_option maxHeartbeats 8000000 in
theorem val10_step (d:Flat) (vs:List Nat) (hls:∀ x ∈ d.signals,1 ≤ x.w∧x.w ≤ 64) (hvals:Vals d.signals vs) (e:E) (hws:WS d.signals e) (hwf:e.wf) (hacc:e.op=2 ∨ e.op=3→vs.length=d.signals.length) (ih:∀ x ∈ e.l,Val10Said d vs x):Val10Said d vs e:=by
 intro fv uv cs w hF hU hV hn
 have HFW:=Lib.hid (fun W (h:Ext w W)=>hF.ext h)
 have HUW:=Lib.hid (fun W (h:Ext w W)=>hU.ext h)
 have hls':∀ x ∈ d.signals,x.w ≤ 64:=fun x hx=>(hls x hx).2
 obtain ⟨h0,hp⟩:=(WS_iff _ e).1 hws
 have hwfs:=(E.wf_iff e).1 hwf
 have HPO:=Lib.hid (show ∀ x ∈ e.l,(evB vs x).ok from fun x hx=>evB_ok hls' (hp x hx) (hwfs.2.2.2.2.2.2.2 x hx))
 have HV0:=Lib.hid hwfs.2.2.1.1
 have hnn:=nodes_eq e
 obtain ⟨RES,hres⟩ : ∃ r,evB vs e=r:=⟨_,rfl⟩
 have HEQ:=Lib.hid (show RES=⟨e.w,evNode vs e.op e.w e.v e.sig e.hi e.lo e.n (e.l.map (·.w)) (e.l.map (evM vs))⟩ by rw [← hres];unfold evB;rw [evM_eq])
 rw [hres]
 have HSIG:=Lib.hid (show ∀ k (hk:k < d.signals.length),k < vs.length→Bt.ok ⟨d.signals[k].w,vs.getD k 0⟩ from fun k hk _=>by
  have h2:sigW d.signals (k:Int)=d.signals[k].w:=by simp [sigW,List.getElem?_eq_getElem hk]
  have h3:=hls _ (List.getElem_mem hk)
  have h4:=hvals (k:Int) (by omega) (by omega)
  rw [h2] at h4
  exact ⟨h3.1,h3.2,h4⟩)
 have HLS:=Lib.hid hls'
 have HW0:=Lib.hid h0
 have HACC:=Lib.hid hacc
 have IH:=Lib.hid ih
 have HNB:=Lib.hid (show ∀ x ∈ e.l,nodes x ≤ 1048576 from fun x hx=>by have:=le_sumBy nodes e.l x hx;omega)
 have HLB:=Lib.hid (show e.l.length + 1 ≤ 16777216 by have:=length_le_sumBy nodes e.l (fun x _=>nodes_pos x);omega)
 obtain ⟨s,rfl,hs⟩:=hV
 obtain ⟨a,b,ob,cap,rfl,hc1,hc2,ha,hr⟩:=hs.open
 obtain ⟨sv,pv,cv,rfl,hS,hP,hC⟩:=hF
 obtain ⟨a0,b0,o0,c0,rfl,hs1,hs2,hsa,hsr⟩:=hS.open
 obtain ⟨av,bv,ov,capv,rfl,hv1,hv2,hva,hvr⟩:=hU.open
 have HR8:=Lib.hid (fun W (h:Ext w W)=>(hr.mono fun x _ b o hh=>EAt.ext h x b o hh:Rows 8 (EAt W) e.l b ob))
 have HSR:=Lib.hid (fun W (h:Ext w W)=>(hsr.mono fun x _ b o hh=>SigAt.ext' h hh:Rows 4 (SigAt W) d.signals b0 o0))
 have HUR:=Lib.hid (fun W (h:Ext w W)=>(hvr.mono fun x _ b o (hh:UAt w x b o)=>Has.ext hh h:Rows 1 (UAt W) vs bv ov))
 have HA:=Lib.hid ha
 have HSA:=Lib.hid hsa
 have HVA:=Lib.hid hva
 have x1:=ext_alloc w (.cells [.slice a0 d.signals.length c0,pv,cv].toArray 26)
 have x2:=ext_alloc (w.alloc (.cells [.slice a0 d.signals.length c0,pv,cv].toArray 26)) (.cells (e.cells (.slice a e.l.length cap)).toArray 44)
 have x3:=ext_alloc ((w.alloc (.cells [.slice a0 d.signals.length c0,pv,cv].toArray 26)).alloc (.cells (e.cells (.slice a e.l.length cap)).toArray 44)) (.cells #[.int .i64 0,.int .u64 0] 60)
 have hD:=((Blk.new w [.slice a0 d.signals.length c0,pv,cv].toArray 26).ext x2).ext x3
 have hE:=(Blk.new (w.alloc (.cells [.slice a0 d.signals.length c0,pv,cv].toArray 26)) (e.cells (.slice a e.l.length cap)).toArray 44).ext x3
 have hR:=Blk.new ((w.alloc (.cells [.slice a0 d.signals.length c0,pv,cv].toArray 26)).alloc (.cells (e.cells (.slice a e.l.length cap)).toArray 44)) #[.int .i64 0,.int .u64 0] 60
 have hX:=(x1.trans x2).trans x3
 simp only [World.size_alloc] at hE hR
 clear x1 x2 x3 hS hP hC hU hs hr hsr hvr ha hsa hva hn hnn hwfs hp hws hwf hls hls' hvals hacc ih hres h0
 go_enter Tryz.func52,Tryz.ntmps52
 go_upto_region 1 with fail
 generalize ((w.alloc _).alloc _).alloc _=w0 at *
 have HD:=Lib.hid hD
 have HE:=Lib.hid hE
 have HR:=Lib.hid hR
 have HX:=Lib.hid hX
 have g0:=hE.has 0 _ rfl
 clear hD hE hR hX
 by_cases o1:e.op=1
 ·obtain ⟨nv,hnv⟩:=Int.eq_ofNat_of_zero_le HV0.out
  have g1:=HE.out.has 1 _ rfl
  have g2:=HE.out.has 2 _ rfl
  obtain rfl:RES=⟨e.w,nv⟩:=by rw [HEQ.out];unfold evNode;rw [if_pos o1,hnv];rfl
  replace g0:w0.cell? ⟨w.heap.size + 1,0 + 0,none⟩=some (.int .i64 1):=by rw [← o1];exact g0
  replace g2:w0.cell? ⟨w.heap.size + 1,0 + 2,none⟩=some (.int .u64 (nv:Int)):=by rw [← hnv];exact g2
  clear o1 hnv HEQ
  go_wp2_with (first | ((with_reducible show Jw (Op.store 60 _ _));refine wpList_store_blk rfl 60 _ _ rfl (HR.out) rfl (cs:=Bt.cells ⟨e.w,nv⟩) (rfl) agg_Bits (rfl) rfl (rfl) ?_;intro w4 hb4 hg4) | ((with_reducible show bodyPost _ _ _ _ _ _);refine Hid.out ?_))
  refine Lib.hid ?_
  exact post_ret_blk rfl rfl hb4.has agg_Bits rfl rfl ⟨rfl,HX.out.grown hg4 (by omega)⟩
 by_cases o2:e.op=2
 ·have hsl:slice d.signals e.sig e.hi e.lo=true∧e.w=e.hi - e.lo + 1:=by
   have h0:=HW0.out
   unfold wsN at h0
   rcases h0 with h | ⟨-,-,h1,h2,-⟩ | h | h | h | h | h | h
   case inr.inl=>exact ⟨h1,h2⟩
   all_goals (exfalso;have:=h.1;omega)
  obtain ⟨q1,q2,q3,q4,q5,-⟩:=slice_le _ HLS.out hsl.1
  have hvl:=HACC.out (.inl o2)
  obtain ⟨k,hk⟩:=Int.eq_ofNat_of_zero_le q1
  have hkl:k < d.signals.length:=by omega
  have hkv:k < vs.length:=by omega
  obtain rfl:=HSA.out (by omega)
  obtain rfl:=HVA.out (by omega)
  have hok:=HSIG.out k hkl hkv
  have hsw:sigW d.signals e.sig=d.signals[k].w:=by rw [hk];simp [sigW,List.getElem?_eq_getElem hkl]
  have hgd:vs.getD k 0=vs[k]:=by simp [List.getD_eq_getElem?_getD,List.getElem?_eq_getElem hkv]
  have HSG:=Lib.hid (fun W (h:Ext w W)=>(Sigs.get (HSR.out W h) hkl) 1 _ rfl)
  have HUG:=Lib.hid (fun W (h:Ext w W)=>Us.get (HUR.out W h) hkv)
  have hR2:(⟨e.hi - e.lo + 1,vs.getD k 0 / 2 ^ e.lo.toNat % 2 ^ (e.hi - e.lo + 1).toNat⟩ : Bt)=RES:=by
   rw [HEQ.out]
   unfold evNode
   rw [if_neg o1,if_pos o2,hk,hsl.2]
   rfl
  rw [hsw] at q5
  rw [hgd] at hok hR2
  generalize d.signals[k].w=sw at *
  generalize vs[k]=A at *
  have HSL:=Lib.hid (fun W=>SliceR_calls ⟨sw,A⟩ hok e.hi e.lo q3 q4 q5 W)
  simp only at HSL
  rw [hR2] at HSL
  replace g0:w0.cell? ⟨w.heap.size + 1,0 + 0,none⟩=some (.int .i64 2):=by rw [← o2];exact g0
  have HK:=Lib.hid hk
  clear o1 o2 hsl q1 q2 q3 q4 q5 hvl hk hok hsw hgd hR2 HSIG
  go_wp2_with fail
  refine wp_region_held_drew (S:=fun W=>Ext w W∧Blk W w.heap.size [.slice (some ⟨b0,o0,none⟩) d.signals.length c0,pv,cv].toArray 26∧Blk W (w.heap.size + 1) (e.cells (.slice a e.l.length cap)).toArray 44) (by kernel_rfl) ⟨HX.out.drew,HD.out.drew,HE.out.drew⟩ (fun hHeld=>?_)
  try simp only [J]
  (refine Jt 0 (.pointer (some ⟨w.heap.size,0,none⟩)) rfl (yif_load1 rfl (by intro W hW;clear hW;go_simp)) hHeld ?_;try simp only [J])
  (refine Jt 1 (.slice (some ⟨b0,o0,none⟩) d.signals.length c0) rfl (yif_load1 rfl (by intro W hW;have y:=hW.2.1.has 0 _ rfl;clear hW;go_simp)) hHeld ?_;try simp only [J])
  (refine Jt 2 (.pointer (some ⟨w.heap.size + 1,3,none⟩)) rfl (yif_load1 rfl (by intro W hW;clear hW;go_simp)) hHeld ?_;try simp only [J])
  (refine Jt 3 (.int .i64 (k:Int)) rfl (yif_load1 rfl (by intro W hW;have y:=hW.2.2.has 3 _ rfl;rw [HK.out] at y;clear hW;go_simp)) hHeld ?_;try simp only [J])
  (refine Jt 4 (.pointer (some ⟨b0,o0 + k * 4,none⟩)) rfl (yif_load1 rfl (by intro W hW;clear hW;go_simp)) hHeld ?_;try simp only [J])
  (refine Jt 5 (.pointer (some ⟨b0,o0 + k * 4 + 1,none⟩)) rfl (yif_load1 rfl (by intro W hW;clear hW;go_simp)) hHeld ?_;try simp only [J])
  (refine Jt 6 (.int .i64 sw) rfl (yif_load1 rfl (by intro W hW;have y:=HSG.out W hW.1;clear hW;go_simp)) hHeld ?_;try simp only [J])
  (refine Jt 7 (.slice (some ⟨bv,ov,none⟩) vs.length capv) rfl (yif_load1 rfl fun _ _=>rfl) hHeld ?_;try simp only [J])
  (refine Jt 8 (.pointer (some ⟨w.heap.size + 1,3,none⟩)) rfl (yif_load1 rfl (by intro W hW;clear hW;go_simp)) hHeld ?_;try simp only [J])
  (refine Jt 9 (.int .i64 (k:Int)) rfl (yif_load1 rfl (by intro W hW;have y:=hW.2.2.has 3 _ rfl;rw [HK.out] at y;clear hW;go_simp)) hHeld ?_;try simp only [J])
  (refine Jt 10 (.pointer (some ⟨bv,ov + k,none⟩)) rfl (yif_load1 rfl (by intro W hW;clear hW;go_simp)) hHeld ?_;try simp only [J])
  (refine Jt 11 (.int .u64 (A:Int)) rfl (yif_load1 rfl (by intro W hW;have y:=HUG.out W hW.1;clear hW;go_simp)) hHeld ?_;try simp only [J])
  (refine Jt 12 (.agg (Bt.cells ⟨sw,A⟩).toArray) rfl (yif_load1 rfl (by intro W hW;clear hW;go_simp)) hHeld ?_;try simp only [J])
  (refine Jt 13 (.pointer (some ⟨w.heap.size + 1,4,none⟩)) rfl (yif_load1 rfl (by intro W hW;clear hW;go_simp)) hHeld ?_;try simp only [J])
  (refine Jt 14 (.int .i64 e.hi) rfl (yif_load1 rfl (by intro W hW;have y:=hW.2.2.has 4 _ rfl;clear hW;go_simp)) hHeld ?_;try simp only [J])
  (refine Jt 15 (.pointer (some ⟨w.heap.size + 1,5,none⟩)) rfl (yif_load1 rfl (by intro W hW;clear hW;go_simp)) hHeld ?_;try simp only [J])
  (refine Jt 16 (.int .i64 e.lo) rfl (yif_load1 rfl (by intro W hW;have y:=hW.2.2.has 5 _ rfl;clear hW;go_simp)) hHeld ?_;try simp only [J])
  have HRq:=Lib.hid HR.out.drew
  refine wpAnyH_ready (rs:=[17,21]) (by kernel_rfl) (by simp) ?_
  refine AllReadyH.cons rfl (fun K hK=>?_) (AllReadyH.cons rfl (fun K hK=>?_) AllReadyH.nil)
  ·go_simp
   refine (HSL.out _).mono ?_
   rintro r w3 ⟨rfl,hx3⟩
   refine hK.out _ _ ⟨hHeld.1.trans hx3,hHeld.2.1.ext hx3,hHeld.2.2.ext hx3⟩ (fun hHeld=>?_)
   clear hK K
   try simp only [J]
   replace HRq:=Lib.hid (HRq.out.ext hx3)
   (refine Jt 18 (.tuple #[.agg RES.cells.toArray,.int .i64 0]) rfl (yif_load1 rfl fun _ _=>rfl) hHeld ?_;try simp only [J])
   (refine Jt 19 (.agg RES.cells.toArray) rfl (yif_load1 rfl (by intro W hW;clear hW;go_simp)) hHeld ?_;try simp only [J])
   (refine Jt 20 (.int .i64 0) rfl (yif_load1 rfl (by intro W hW;clear hW;go_simp)) hHeld ?_;try simp only [J])
   (refine wpAnyH_ready (rs:=[21]) (by kernel_rfl) (by simp) ?_;refine AllReadyH.cons rfl (fun K hK=>?_) AllReadyH.nil)
   go_simp
   have hx4:=ext_alloc w3 (.cells #[.int .i64 0,.int .u64 0] 60)
   have hP4:=Blk.new w3 #[.int .i64 0,.int .u64 0] 60
   have hlt4:=(show Blk w3 (w.heap.size + 1 + 1) #[.int .i64 0,.int .u64 0] 60 from HRq.out).lt
   replace HRq:=Lib.hid (HRq.out.ext hx4)
   refine hK.out _ _ ⟨hHeld.1.trans hx4,hHeld.2.1.ext hx4,hHeld.2.2.ext hx4⟩ (fun hHeld=>?_)
   clear hK K hx4
   obtain ⟨P,hPe⟩ : ∃ P,w3.heap.size=P:=⟨_,rfl⟩
   rw [hPe] at hP4 hlt4 ⊢
   clear hPe
   generalize w3.alloc _=w4 at *
   try simp only [J]
   (refine wpAnyH_ready (rs:=[22]) (by kernel_rfl) (by simp) ?_;refine AllReadyH.cons rfl (fun K hK=>?_) AllReadyH.nil)
   refine step_store_blk' rfl 60 _ _ rfl hP4 rfl (cs:=RES.cells) rfl agg_Bits rfl rfl rfl ?_
   intro w5 hb5 hg5
   refine hK.out _ _ ⟨hHeld.1.grown hg5 (by omega),hHeld.2.1.grown hg5 (by omega),hHeld.2.2.grown hg5 (by omega)⟩ (fun hHeld=>?_)
   clear hK K
   try simp only [J]
   (refine Jt 23 (.int .i64 0) rfl (yif_load1 rfl fun _ _=>rfl) hHeld ?_;try simp only [J])
   refine wpAnyH_done (by kernel_rfl) ?_ _
   have HR5:=Lib.hid (HRq.out.grown hg5 (by omega))
   have HX5:=Lib.hid hHeld.1
   have b5:=hb5.has
   clear hHeld hP4 hg5 hb5
   go_wp2_with (first | ((with_reducible show Jw (Op.load 60 _));refine wpList_load_has rfl 60 _ rfl rfl (b5) agg_Bits rfl ?_) | ((with_reducible show Jw (Op.store 60 _ _));refine wpList_store_blk rfl 60 _ _ rfl (HR5.out) rfl (cs:=RES.cells) (rfl) agg_Bits (rfl) rfl (rfl) ?_;intro w9 hb9 hg9) | ((with_reducible show bodyPost _ _ _ _ _ _);refine Hid.out ?_))
   refine Lib.hid ?_
   exact post_ret_blk rfl rfl hb9.has agg_Bits rfl rfl ⟨rfl,HX5.out.grown hg9 (by omega)⟩
  ·go_simp
   have hx4:Ext w0.drew (w0.alloc (.cells #[.int .i64 0,.int .u64 0] 60)).drew:=⟨(ext_alloc w0 (.cells #[.int .i64 0,.int .u64 0] 60)).os,(ext_alloc w0 (.cells #[.int .i64 0,.int .u64 0] 60)).tape,(ext_alloc w0 (.cells #[.int .i64 0,.int .u64 0] 60)).output,(ext_alloc w0 (.cells #[.int .i64 0,.int .u64 0] 60)).size,(ext_alloc w0 (.cells #[.int .i64 0,.int .u64 0] 60)).block⟩
   have hP4:Blk (w0.alloc (.cells #[.int .i64 0,.int .u64 0] 60)).drew w0.heap.size #[.int .i64 0,.int .u64 0] 60:=Blk.new w0 #[.int .i64 0,.int .u64 0] 60
   have hlt4:w.heap.size + 1 + 1 < w0.heap.size:=(show Blk w0.drew (w.heap.size + 1 + 1) #[.int .i64 0,.int .u64 0] 60 from HRq.out).lt
   replace HRq:=Lib.hid (HRq.out.ext hx4)
   refine hK.out _ _ ⟨hHeld.1.trans hx4,hHeld.2.1.ext hx4,hHeld.2.2.ext hx4⟩ (fun hHeld=>?_)
   clear hK K hx4
   obtain ⟨P,hPe⟩ : ∃ P,w0.heap.size=P:=⟨_,rfl⟩
   rw [hPe] at hP4 hlt4 ⊢
   clear hPe
   generalize (w0.alloc _).drew=w4 at *
   try simp only [J]
   (refine wpAnyH_ready (rs:=[17]) (by kernel_rfl) (by simp) ?_;refine AllReadyH.cons rfl (fun K hK=>?_) AllReadyH.nil)
   go_simp
   refine (HSL.out _).mono ?_
   rintro r w3 ⟨rfl,hx3⟩
   refine hK.out _ _ ⟨hHeld.1.trans hx3,hHeld.2.1.ext hx3,hHeld.2.2.ext hx3⟩ (fun hHeld=>?_)
   clear hK K
   try simp only [J]
   replace HRq:=Lib.hid (HRq.out.ext hx3)
   replace hP4:=hP4.ext hx3
   (refine Jt 18 (.tuple #[.agg RES.cells.toArray,.int .i64 0]) rfl (yif_load1 rfl fun _ _=>rfl) hHeld ?_;try simp only [J])
   (refine Jt 19 (.agg RES.cells.toArray) rfl (yif_load1 rfl (by intro W hW;clear hW;go_simp)) hHeld ?_;try simp only [J])
   (refine Jt 20 (.int .i64 0) rfl (yif_load1 rfl (by intro W hW;clear hW;go_simp)) hHeld ?_;try simp only [J])
   (refine wpAnyH_ready (rs:=[22]) (by kernel_rfl) (by simp) ?_;refine AllReadyH.cons rfl (fun K hK=>?_) AllReadyH.nil)
   refine step_store_blk' rfl 60 _ _ rfl hP4 rfl (cs:=RES.cells) rfl agg_Bits rfl rfl rfl ?_
   intro w5 hb5 hg5
   refine hK.out _ _ ⟨hHeld.1.grown hg5 (by omega),hHeld.2.1.grown hg5 (by omega),hHeld.2.2.grown hg5 (by omega)⟩ (fun hHeld=>?_)
   clear hK K
   try simp only [J]
   (refine Jt 23 (.int .i64 0) rfl (yif_load1 rfl fun _ _=>rfl) hHeld ?_;try simp only [J])
   refine wpAnyH_done (by kernel_rfl) ?_ _
   have HR5:=Lib.hid (HRq.out.grown hg5 (by omega))
   have HX5:=Lib.hid hHeld.1
   have b5:=hb5.has
   clear hHeld hP4 hg5 hb5
   go_wp2_with (first | ((with_reducible show Jw (Op.load 60 _));refine wpList_load_has rfl 60 _ rfl rfl (b5) agg_Bits rfl ?_) | ((with_reducible show Jw (Op.store 60 _ _));refine wpList_store_blk rfl 60 _ _ rfl (HR5.out) rfl (cs:=RES.cells) (rfl) agg_Bits (rfl) rfl (rfl) ?_;intro w9 hb9 hg9) | ((with_reducible show bodyPost _ _ _ _ _ _);refine Hid.out ?_))
   refine Lib.hid ?_
   exact post_ret_blk rfl rfl hb9.has agg_Bits rfl rfl ⟨rfl,HX5.out.grown hg9 (by omega)⟩
 have c1:(e.op == 1)=false:=by rw [beq_eq_false_iff_ne];exact o1
 have c2:(e.op == 2)=false:=by rw [beq_eq_false_iff_ne];exact o2
 have x3:=ext_alloc w0 (.cells #[] 60)
 have hrow:=RowIs.empty (V:=VBt) (size:=2) (N:=w0.heap.size) (Blk.new w0 #[] 60) (Nat.le_refl _)
 have hsl0:w0.heap.size < (w0.alloc (.cells #[] 60)).heap.size:=by simp
 go_wp2_with ((with_reducible show Jw (Op.buildSlice _ _ _));refine wpList_bs0 rfl _ rfl appBits ?_)
 have HROW0:=Lib.hid hrow
 have HX10:=Lib.hid x3
 generalize w0.alloc _=w1 at *
 clear hrow x3
 have O1:=Lib.hid o1
 have O2:=Lib.hid o2
 clear g0 o1 o2
 go_loopw [9,10] (fun v i wr=>∃ k:Nat,k ≤ e.l.length∧i=.int .i64 k∧RowIs VBt 60 2 w0.heap.size v ((e.l.take k).map (evB vs)) wr∧Ext w0 wr) (fun _ i _=>e.l.length - (intOf i).toNat)
 case atStart=>exact ⟨0,Nat.zero_le _,rfl,HROW0.out,HX10.out⟩
 case round =>
  obtain ⟨k,hk,rfl,hrow,hB⟩:=hrel
  have HROW:=Lib.hid hrow
  have HXB:=Lib.hid hB
  have z7:=(HE.out.ext hB).has 7 _ rfl
  clear hrow hB
  by_cases hlt:k < e.l.length
  ·obtain rfl:=HA.out (by omega)
   obtain ⟨s2,h1,h2⟩:=Es.get (HR8.out w (Below.refl _ _)) hlt
   have HH0:=Lib.hid (fun W (h:Ext w W)=>Has.ext h1 h)
   have HH2:=Lib.hid (fun W (h:Ext w W)=>(Es.ext h2 h:Es W s2 e.l[k].l))
   have hve:VE wr (e.l[k].cells s2) e.l[k]:=⟨s2,rfl,HH2.out wr (HX.out.trans HXB.out)⟩
   have hmem:e.l[k] ∈ e.l:=List.getElem_mem hlt
   have HC:=Lib.hid (fun W (h:Ext wr W)=>IH.out _ hmem _ _ (e.l[k].cells s2) W (HFW.out W ((HX.out.trans HXB.out).trans h)) (HUW.out W ((HX.out.trans HXB.out).trans h)) (hve.ext h) (HNB.out _ hmem))
   have hat:(e.l.take (k + 1)).map (evB vs)=(e.l.take k).map (evB vs) ++ [evB vs e.l[k]]:=by rw [take_snoc _ _ hlt,List.map_append,List.map_cons,List.map_nil]
   have hln:((e.l.take k).map (evB vs)).length=k:=by rw [List.length_map,List.length_take];omega
   have HAT:=Lib.hid hat
   have HLN:=Lib.hid hln
   clear HH2
   generalize (e.l.take k).map (evB vs)=rr at *
   generalize e.l[k]=x at *
   generalize evB vs x=y at *
   clear hat hln hve h1 h2 hmem
   obtain ⟨ur,cr,hre,-⟩:=HROW.out.open
   subst hre
   rw [HLN.out] at HROW ⊢
   go_upto_region 11 with fail
   refine wp_region_held_drew (S:=fun W=>Ext w W∧Blk W w.heap.size [.slice a0 d.signals.length c0,pv,cv].toArray 26∧Blk W (w.heap.size + 1) (e.cells (.slice (some ⟨b,ob,none⟩) e.l.length cap)).toArray 44∧Has W b (ob + k * 8) (x.cells s2)) (by kernel_rfl) ⟨(HX.out.trans HXB.out).drew,(HD.out.ext HXB.out).drew,(HE.out.ext HXB.out).drew,HH0.out _ ((HX.out.trans HXB.out).drew)⟩ (fun hHeld=>?_)
   try simp only [J]
   (refine Jt 0 (.slice ur k cr) rfl (yif_load1 rfl fun _ _=>rfl) hHeld ?_;try simp only [J])
   (refine Jt 1 (.agg [.slice a0 d.signals.length c0,pv,cv].toArray) rfl (yif_load rfl 26 _ rfl rfl (fun W hW=>hW.2.1.has) agg_Flat rfl) hHeld ?_;try simp only [J])
   (refine Jt 2 (.slice av vs.length capv) rfl (yif_load1 rfl fun _ _=>rfl) hHeld ?_;try simp only [J])
   (refine Jt 3 (.pointer (some ⟨w.heap.size + 1,7,none⟩)) rfl (yif_load1 rfl (by intro W hW;clear hW;go_simp)) hHeld ?_;try simp only [J])
   (refine Jt 4 (.slice (some ⟨b,ob,none⟩) e.l.length cap) rfl (yif_load1 rfl (by intro W hW;have y:=hW.2.2.1.has 7 _ rfl;clear hW;go_simp)) hHeld ?_;try simp only [J])
   (refine Jt 5 (.int .i64 (k:Int)) rfl (yif_load1 rfl fun _ _=>rfl) hHeld ?_;try simp only [J])
   (refine Jt 6 (.pointer (some ⟨b,ob + k * 8,none⟩)) rfl (yif_load1 rfl (by intro W hW;clear hW;go_simp)) hHeld ?_;try simp only [J])
   (refine Jt 7 (.agg (x.cells s2).toArray) rfl (yif_load rfl 44 _ rfl rfl (fun W hW=>hW.2.2.2) agg_E rfl) hHeld ?_;try simp only [J])
   (refine wpAnyH_ready (rs:=[8]) (by kernel_rfl) (by simp) ?_;refine AllReadyH.cons rfl (fun K hK=>?_) AllReadyH.nil)
   go_simp
   refine (HC.out _ (Below.drew (Below.refl _ _))).mono ?_
   rintro r w3 ⟨rfl,hx3⟩
   have hrow3:=HROW.out.since (Since.of_ext (N:=w0.heap.size) ((Ext.drew (Below.refl wr.heap.size wr)).trans hx3))
   have hX3:=HXB.out.drew.trans hx3
   refine hK.out _ _ ⟨hHeld.1.trans hx3,hHeld.2.1.ext hx3,hHeld.2.2.1.ext hx3,hHeld.2.2.2.ext hx3⟩ (fun hHeld=>?_)
   clear hK K hx3
   try simp only [J]
   (refine wpAnyH_ready (rs:=[9]) (by kernel_rfl) (by simp) ?_;refine AllReadyH.cons rfl (fun K hK=>?_) AllReadyH.nil)
   refine step_bs1 rfl _ _ rfl appBits rfl (cs:=y.cells) rfl rfl (by decide) ?_
   have hx4:=ext_alloc w3 (.cells y.cells.toArray 60)
   have hb4:=Has.alloc w3 y.cells 60
   have hrow4:=hrow3.since (Since.of_ext (N:=w0.heap.size) hx4)
   have hX4:=hX3.trans hx4
   refine hK.out _ _ ⟨hHeld.1.trans hx4,hHeld.2.1.ext hx4,hHeld.2.2.1.ext hx4,hHeld.2.2.2.ext hx4⟩ (fun hHeld=>?_)
   clear hK K hrow3 hX3 hx4
   generalize w3.alloc _=w4 at *
   generalize w3.heap.size=B3 at *
   try simp only [J]
   (refine wpAnyH_ready (rs:=[10]) (by kernel_rfl) (by simp) ?_;refine AllReadyH.cons rfl (fun K hK=>?_) AllReadyH.nil)
   rw [← HLN.out] at hrow4 ⊢
   refine step_app1 rfl _ _ _ rfl appBits rfl hrow4 rfl rfl hb4 rfl (y:=y) VBt.st (by have:=HLB.out;have:=HLN.out;omega) hX4.size ?_
   intro g7 cap7 w7 hrow7 hg7
   have hX7:Ext w0 w7:=Ext.grownO hX4 hg7 (fun j hj=>(hrow4.lt j hj).1)
   refine hK.out _ _ ⟨HX.out.trans hX7,HD.out.ext hX7,HE.out.ext hX7,HH0.out w7 (HX.out.trans hX7)⟩ (fun hHeld=>?_)
   clear hK K hX4 hrow4 hb4 hg7
   have HR7:=Lib.hid hrow7
   have HX7:=Lib.hid hX7
   clear hrow7 hX7
   rw [HLN.out]
   try simp only [J]
   (refine Jt 11 (.slice (some ⟨g7,0,none⟩) (k + 1) cap7) rfl (yif_load1 rfl fun _ _=>rfl) hHeld ?_;try simp only [J])
   refine wpAnyH_done (by kernel_rfl) ?_ _
   clear hHeld
   go_wp2_with fail
   go_roundw
   case rel=>exact ⟨k + 1,by omega,by go_num,by have h:=HR7.out;rw [HLN.out] at h;rw [HAT.out];exact h,HX7.out⟩
   case measure=>simp [intOf];omega
  ·obtain rfl:k=e.l.length:=by omega
   rw [List.take_length] at HROW
   have hbt:=RowIs.sl (V:=VBt) (At:=BtAt) (fun _ _ _ _ _ h hv=>VBt.at h hv) HROW.out (Since.refl _ wr)
   obtain ⟨ur,cr,hre,hur⟩:=HROW.out.open
   subst hre
   have hne:0 < e.l.length:=by
    have h0:=HW0.out
    have hq:(e.l.map (·.w)).length=e.l.length:=List.length_map ..
    have o1:=O1.out
    have o2:=O2.out
    unfold wsN at h0
    generalize e.l.map (·.w)=ws at *
    rcases h0 with h | h | ⟨-,⟨k,rfl⟩,-⟩ | ⟨-,⟨k,rfl,-⟩,-⟩ | ⟨-,⟨j,k,rfl,-⟩,-⟩ | ⟨-,rfl,-⟩ | ⟨-,h,-⟩ | ⟨-,⟨k,rfl,-⟩,-⟩
    ·exact absurd h.1 o1
    ·exact absurd h.1 o2
    ·simp at hq;omega
    ·simp at hq;omega
    ·simp at hq;omega
    ·simp at hq;omega
    ·have:=List.length_pos_iff.2 h;omega
    ·simp at hq;omega
   obtain ⟨g,rfl⟩:=hur (by rw [List.length_map];exact hne)
   rw [List.length_map] at hbt ⊢
   have hx5:=ext_alloc wr (.cells #[.int .i64 0,.int .u64 0] 60)
   have hP5:=Blk.new wr #[.int .i64 0,.int .u64 0] 60
   have hlt5:=(HR.out.ext HXB.out).lt
   have hbt5:=Bts.ext hbt hx5
   have HX5:=Lib.hid ((HX.out.trans HXB.out).trans hx5)
   have HD5:=Lib.hid ((HD.out.ext HXB.out).ext hx5)
   have HE5:=Lib.hid ((HE.out.ext HXB.out).ext hx5)
   have HR5:=Lib.hid ((HR.out.ext HXB.out).ext hx5)
   have hgP:g < wr.heap.size:=(HROW.out.lt g rfl).2
   clear hbt hx5 hur HROW HXB
   go_upto_region 13 with (((with_reducible show Jw (Op.store 60 _ _));refine wpList_store_new rfl 60 _ _ rfl rfl (by first | rfl | simp) rfl agg_Bits (rfl) rfl (rfl) ?_))
   clear z7
   generalize wr.alloc _=w5 at *
   obtain ⟨P,hPe⟩ : ∃ P,wr.heap.size=P:=⟨_,rfl⟩
   rw [hPe] at hP5 hlt5 hgP ⊢
   clear hPe
   have g0:=HE5.out.has 0 _ rfl
   have HP5:=Lib.hid hP5
   have HBT:=Lib.hid hbt5
   clear hP5 hbt5
   have h0:=HW0.out
   unfold wsN at h0
   rcases h0 with h | h | ⟨ho,⟨kw,hk⟩,h2,h3,hw1,-⟩ | ⟨ho,⟨kw,hk,h1⟩,-⟩ | ⟨ho,⟨jw,kw,hk,h1⟩,-⟩ | ⟨ho,hk,-⟩ | ⟨ho,h1,h2,h3,-⟩ | ⟨ho,⟨kw,hk,h1⟩,h2,h3,-⟩
   ·exact absurd h.1 O1.out
   ·exact absurd h.1 O2.out
   ·obtain ⟨x,hl,-⟩:=map1 hk
    obtain ⟨k,hks⟩:=Int.eq_ofNat_of_zero_le h2
    have hvl:=HACC.out (.inr ho)
    have hkl:k < d.signals.length:=by omega
    have hkv:k < vs.length:=by omega
    obtain rfl:=HSA.out (by omega)
    obtain rfl:=HVA.out (by omega)
    have hok:=HSIG.out k hkl hkv
    have hgd:vs.getD k 0=vs[k]:=by simp [List.getD_eq_getElem?_getD,List.getElem?_eq_getElem hkv]
    have HSG:=Lib.hid (fun W (h:Ext w W)=>(Sigs.get (HSR.out W h) hkl) 1 _ rfl)
    have HUG:=Lib.hid (fun W (h:Ext w W)=>Us.get (HUR.out W h) hkv)
    have hxo:=HPO.out x (by rw [hl];simp)
    have hB64:evM vs x < 2 ^ 64:=Bt.lt64 hxo
    have hRES:RES=⟨1,vs.getD k 0 / 2 ^ evM vs x % 2⟩:=by rw [HEQ.out];simp [evNode,ho,hl,hks,hw1]
    have H0:Has w5 g 0 (Bt.cells ⟨x.w,evM vs x⟩):=by have:=bts_at HBT.out (k:=0) (by simp [hl]);simpa [hl,evB] using this
    rw [hgd] at hok hRES
    generalize d.signals[k].w=sw at *
    generalize vs[k]=A at *
    generalize evM vs x=B at *
    have sw1:=hok.1
    have sw2:=hok.2.1
    have hAlt:=hok.2.2
    have hsww:IntKind.u64.wrap sw=sw:=by rw [IntKind.wrap_u64];simp only at sw1 sw2;omega
    have d0:=HD5.out.has 0 _ rfl
    have g3:=HE5.out.has 3 _ rfl
    rw [hks] at g3
    have gs:=HSG.out w5 HX5.out
    replace g0:w5.cell? ⟨w.heap.size + 1,0 + 0,none⟩=some (.int .i64 3):=by rw [← ho];exact g0
    have hl1:0 < e.l.length:=hne
    have HKS:=Lib.hid hks
    have HRES:=Lib.hid hRES
    have HOKA:=Lib.hid hok
    have HALT:=Lib.hid hAlt
    simp only at sw1 sw2
    clear hk ho hks hRES hgd hvl hxo hok hAlt h2 h3 HEQ HW0 O1 O2 HACC HSIG HLS HNB HLB HBT
    by_cases hBs:(B:Int) < sw
    ·have cB:decide ((B:Int) < sw)=true:=decide_eq_true hBs
     have hSL:=fun W=>SliceR_calls ⟨sw,A⟩ HOKA.out (B:Int) (B:Int) (by omega) (Int.le_refl _) hBs W
     have hr:(⟨(B:Int) - (B:Int) + 1,A / 2 ^ ((B:Int)).toNat % 2 ^ ((B:Int) - (B:Int) + 1).toNat⟩ : Bt)=RES:=by
      rw [HRES.out,show (B:Int) - (B:Int) + 1=1 by omega];rfl
     simp only at hSL
     rw [hr] at hSL
     have HU:=Lib.hid hSL
     have hwB:IntKind.i64.wrap (B:Int)=(B:Int):=by rw [IntKind.wrap_i64];omega
     clear hSL hr hBs
     go_wp2_with (first | (((with_reducible show Jw (Op.store 60 _ _));refine wpList_store_blk rfl 60 _ _ rfl (HP5.out) rfl (cs:=Bt.cells ⟨1,0⟩) (rfl) agg_Bits (rfl) rfl (rfl) ?_;intro w6 hb6 hg6);have q1:=(Has.grown H0 hg6 (by omega)) 1 _ rfl))
     have HX6:=Lib.hid (HX5.out.grown hg6 (by omega))
     have HE6:=Lib.hid (HE5.out.grown hg6 (by omega))
     have HR6:=Lib.hid (HR5.out.grown hg6 (by omega))
     have H6:=Lib.hid (Has.grown H0 hg6 (by omega))
     clear q1 hg6 d0 g3 gs g0
     refine wp_region_held_drew (S:=fun W=>Ext w W∧Blk W (w.heap.size + 1) (e.cells (.slice a e.l.length cap)).toArray 44∧Has W g 0 (Bt.cells ⟨x.w,B⟩)) (by kernel_rfl) ⟨HX6.out.drew,HE6.out.drew,H6.out.drew⟩ (fun hHeld=>?_)
     try simp only [J]
     (refine Jt 0 (.int .i64 sw) rfl (yif_load1 rfl fun _ _=>rfl) hHeld ?_;try simp only [J])
     (refine Jt 1 (.slice (some ⟨bv,ov,none⟩) vs.length capv) rfl (yif_load1 rfl fun _ _=>rfl) hHeld ?_;try simp only [J])
     (refine Jt 2 (.pointer (some ⟨w.heap.size + 1,3,none⟩)) rfl (yif_load1 rfl (by intro W hW;clear hW;go_simp)) hHeld ?_;try simp only [J])
     (refine Jt 3 (.int .i64 (k:Int)) rfl (yif_load1 rfl (by intro W hW;have y:=hW.2.1.has 3 _ rfl;rw [HKS.out] at y;clear hW;go_simp)) hHeld ?_;try simp only [J])
     (refine Jt 4 (.pointer (some ⟨bv,ov + k,none⟩)) rfl (yif_load1 rfl (by intro W hW;clear hW;go_simp)) hHeld ?_;try simp only [J])
     (refine Jt 5 (.int .u64 (A:Int)) rfl (yif_load1 rfl (by intro W hW;have y:=HUG.out W hW.1;clear hW;go_simp)) hHeld ?_;try simp only [J])
     (refine Jt 6 (.agg (Bt.cells ⟨sw,A⟩).toArray) rfl (yif_load1 rfl (by intro W hW;clear hW;go_simp)) hHeld ?_;try simp only [J])
     (refine Jt 7 (.slice (some ⟨g,0,none⟩) 1 cr) rfl (yif_load1 rfl fun _ _=>rfl) hHeld ?_;try simp only [J])
     (refine Jt 8 (.pointer (some ⟨g,0,none⟩)) rfl (yif_load1 rfl (by intro W hW;clear hW;go_simp)) hHeld ?_;try simp only [J])
     (refine Jt 9 (.pointer (some ⟨g,1,none⟩)) rfl (yif_load1 rfl (by intro W hW;clear hW;go_simp)) hHeld ?_;try simp only [J])
     (refine Jt 10 (.int .u64 (B:Int)) rfl (yif_load1 rfl (by intro W hW;have y:=hW.2.2 1 _ rfl;clear hW;go_simp)) hHeld ?_;try simp only [J])
     (refine Jt 11 (.int .i64 (B:Int)) rfl (yif_load1 rfl (by intro W hW;clear hW;go_simp)) hHeld ?_;try simp only [J])
     (refine Jt 12 (.slice (some ⟨g,0,none⟩) 1 cr) rfl (yif_load1 rfl fun _ _=>rfl) hHeld ?_;try simp only [J])
     (refine Jt 13 (.pointer (some ⟨g,0,none⟩)) rfl (yif_load1 rfl (by intro W hW;clear hW;go_simp)) hHeld ?_;try simp only [J])
     (refine Jt 14 (.pointer (some ⟨g,1,none⟩)) rfl (yif_load1 rfl (by intro W hW;clear hW;go_simp)) hHeld ?_;try simp only [J])
     (refine Jt 15 (.int .u64 (B:Int)) rfl (yif_load1 rfl (by intro W hW;have y:=hW.2.2 1 _ rfl;clear hW;go_simp)) hHeld ?_;try simp only [J])
     (refine Jt 16 (.int .i64 (B:Int)) rfl (yif_load1 rfl (by intro W hW;clear hW;go_simp)) hHeld ?_;try simp only [J])
     (refine wpAnyH_ready (rs:=[17]) (by kernel_rfl) (by simp) ?_;refine AllReadyH.cons rfl (fun K hK=>?_) AllReadyH.nil)
     go_simp
     refine (HU.out _).mono ?_
     rintro r w7 ⟨rfl,hx7⟩
     refine hK.out _ _ ⟨hHeld.1.trans hx7,hHeld.2.1.ext hx7,hHeld.2.2.ext hx7⟩ (fun hHeld=>?_)
     clear hK K
     try simp only [J]
     (refine Jt 18 (.tuple #[.agg RES.cells.toArray,.int .i64 0]) rfl (yif_load1 rfl fun _ _=>rfl) hHeld ?_;try simp only [J])
     (refine Jt 19 (.agg RES.cells.toArray) rfl (yif_load1 rfl (by intro W hW;clear hW;go_simp)) hHeld ?_;try simp only [J])
     (refine Jt 20 (.int .i64 0) rfl (yif_load1 rfl (by intro W hW;clear hW;go_simp)) hHeld ?_;try simp only [J])
     (refine wpAnyH_ready (rs:=[21]) (by kernel_rfl) (by simp) ?_;refine AllReadyH.cons rfl (fun K hK=>?_) AllReadyH.nil)
     refine step_store_blk' rfl 60 _ _ rfl (hb6.drew.ext hx7) rfl (cs:=RES.cells) rfl agg_Bits rfl rfl rfl ?_
     intro w8 hb8 hg8
     refine hK.out _ _ ⟨hHeld.1.grown hg8 (by omega),hHeld.2.1.grown hg8 (by omega),hHeld.2.2.grown hg8 (by omega)⟩ (fun hHeld=>?_)
     clear hK K
     refine wpAnyH_done (by kernel_rfl) ?_ _
     have HR8':=Lib.hid ((HR6.out.drew.ext hx7).grown hg8 (by omega))
     have HX8:=Lib.hid hHeld.1
     have b8:=hb8.has
     clear hHeld hg8 hb8 hx7 hb6
     go_wp2_with (first | ((with_reducible show Jw (Op.load 60 _));refine wpList_load_has rfl 60 _ rfl rfl (b8) agg_Bits rfl ?_) | ((with_reducible show Jw (Op.store 60 _ _));refine wpList_store_blk rfl 60 _ _ rfl (HR8'.out) rfl (cs:=RES.cells) (rfl) agg_Bits (rfl) rfl (rfl) ?_;intro w9 hb9 hg9) | ((with_reducible show bodyPost _ _ _ _ _ _);refine Hid.out ?_))
     refine Lib.hid ?_
     exact post_ret_blk rfl rfl hb9.has agg_Bits rfl rfl ⟨rfl,HX8.out.grown hg9 (by omega)⟩
    ·have cB:decide ((B:Int) < sw)=false:=decide_eq_false hBs
     obtain rfl:RES=⟨1,0⟩:=by
      rw [HRES.out,Nat.div_eq_of_lt (Nat.lt_of_lt_of_le HALT.out (Nat.pow_le_pow_right (by decide) (by show sw.toNat ≤ B;omega)))]
     clear hBs
     go_wp2_with (first | (((with_reducible show Jw (Op.store 60 _ _));refine wpList_store_blk rfl 60 _ _ rfl (HP5.out) rfl (cs:=Bt.cells ⟨1,0⟩) (rfl) agg_Bits (rfl) rfl (rfl) ?_;intro w6 hb6 hg6);have q1:=(Has.grown H0 hg6 (by omega)) 1 _ rfl) | ((with_reducible show Jw (Op.load 60 _));refine wpList_load_has rfl 60 _ rfl rfl (hb6.has) agg_Bits rfl ?_) | ((with_reducible show Jw (Op.store 60 _ _));refine wpList_store_blk rfl 60 _ _ rfl (HR5.out.grown hg6 (by omega)) rfl (cs:=Bt.cells ⟨1,0⟩) (rfl) agg_Bits (rfl) rfl (rfl) ?_;intro w9 hb9 hg9) | ((with_reducible show bodyPost _ _ _ _ _ _);refine Hid.out ?_))
     refine Lib.hid ?_
     exact post_ret_blk rfl rfl hb9.has agg_Bits rfl rfl ⟨rfl,(HX5.out.grown hg6 (by omega)).grown hg9 (by omega)⟩
   ·obtain ⟨x,hl,hxw⟩:=map1 hk
    have hw:unW e.n x.w=e.w:=by unfold unW;split <;> omega
    have hRES:(⟨unW e.n x.w,unM e.n x.w.toNat (evM vs x)⟩ : Bt)=RES:=by rw [HEQ.out,hw];simp [evNode,ho,hl]
    have HU0:=fun W=>UnR_calls e.n (by omega) (by omega) (evB vs x) (HPO.out x (by rw [hl];simp)) (by intro h;show x.w=1;omega) W
    rw [show (⟨unW e.n (evB vs x).w,unM e.n (evB vs x).w.toNat (evB vs x).v⟩ : Bt)=RES from hRES] at HU0
    have HU:=Lib.hid HU0
    clear HU0 hRES hw hxw h1
    replace g0:w5.cell? ⟨w.heap.size + 1,0 + 0,none⟩=some (.int .i64 4):=by rw [← ho];exact g0
    have hl1:0 < e.l.length:=by rw [hl];simp
    have H0:Has w5 g 0 (evB vs x).cells:=by have:=bts_at HBT.out (k:=0) (by simp [hl]);simpa [hl] using this
    clear hk ho HEQ HW0 O1 O2 HACC HSIG HLS HNB HLB HBT
    go_wp2_with fail
    refine wp_region_held_drew (S:=fun W=>Ext w W∧Blk W (w.heap.size + 1) (e.cells (.slice a e.l.length cap)).toArray 44∧Has W g 0 (evB vs x).cells) (by kernel_rfl) ⟨HX5.out.drew,HE5.out.drew,H0.drew⟩ (fun hHeld=>?_)
    try simp only [J]
    (refine Jt 0 (.pointer (some ⟨w.heap.size + 1,6,none⟩)) rfl (yif_load1 rfl (by intro W hW;clear hW;go_simp)) hHeld ?_;try simp only [J])
    (refine Jt 1 (.int .i64 e.n) rfl (yif_load1 rfl (by intro W hW;have y:=hW.2.1.has 6 _ rfl;clear hW;go_simp)) hHeld ?_;try simp only [J])
    (refine Jt 2 (.slice (some ⟨g,0,none⟩) 1 cr) rfl (yif_load1 rfl fun _ _=>rfl) hHeld ?_;try simp only [J])
    (refine Jt 3 (.pointer (some ⟨g,0,none⟩)) rfl (yif_load1 rfl (by intro W hW;clear hW;go_simp)) hHeld ?_;try simp only [J])
    (refine Jt 4 (.agg (evB vs x).cells.toArray) rfl (yif_load rfl 60 _ rfl rfl (fun W hW=>hW.2.2) agg_Bits rfl) hHeld ?_;try simp only [J])
    (refine wpAnyH_ready (rs:=[5]) (by kernel_rfl) (by simp) ?_;refine AllReadyH.cons rfl (fun K hK=>?_) AllReadyH.nil)
    go_simp
    refine (HU.out _).mono ?_
    rintro r w6 ⟨rfl,hx6⟩
    refine hK.out _ _ ⟨hHeld.1.trans hx6,hHeld.2.1.ext hx6,hHeld.2.2.ext hx6⟩ (fun hHeld=>?_)
    clear hK K
    try simp only [J]
    (refine Jt 6 (.tuple #[.agg RES.cells.toArray,.int .i64 0]) rfl (yif_load1 rfl fun _ _=>rfl) hHeld ?_;try simp only [J])
    (refine Jt 7 (.agg RES.cells.toArray) rfl (yif_load1 rfl (by intro W hW;clear hW;go_simp)) hHeld ?_;try simp only [J])
    (refine Jt 8 (.int .i64 0) rfl (yif_load1 rfl (by intro W hW;clear hW;go_simp)) hHeld ?_;try simp only [J])
    (refine wpAnyH_ready (rs:=[9]) (by kernel_rfl) (by simp) ?_;refine AllReadyH.cons rfl (fun K hK=>?_) AllReadyH.nil)
    refine step_store_blk' rfl 60 _ _ rfl (HP5.out.drew.ext hx6) rfl (cs:=RES.cells) rfl agg_Bits rfl rfl rfl ?_
    intro w7 hb7 hg7
    refine hK.out _ _ ⟨hHeld.1.grown hg7 (by omega),hHeld.2.1.grown hg7 (by omega),hHeld.2.2.grown hg7 (by omega)⟩ (fun hHeld=>?_)
    clear hK K
    refine wpAnyH_done (by kernel_rfl) ?_ _
    have HR7:=Lib.hid ((HR5.out.drew.ext hx6).grown hg7 (by omega))
    have HX7:=Lib.hid hHeld.1
    have b7:=hb7.has
    clear hHeld hg7 hb7 hx6
    go_wp2_with (first | ((with_reducible show Jw (Op.load 60 _));refine wpList_load_has rfl 60 _ rfl rfl (b7) agg_Bits rfl ?_) | ((with_reducible show Jw (Op.store 60 _ _));refine wpList_store_blk rfl 60 _ _ rfl (HR7.out) rfl (cs:=RES.cells) (rfl) agg_Bits (rfl) rfl (rfl) ?_;intro w9 hb9 hg9) | ((with_reducible show bodyPost _ _ _ _ _ _);refine Hid.out ?_))
    refine Lib.hid ?_
    exact post_ret_blk rfl rfl hb9.has agg_Bits rfl rfl ⟨rfl,HX7.out.grown hg9 (by omega)⟩
   ·obtain ⟨x,y,hl,hxw,hyw⟩:=map2 hk
    have hw:binW e.n x.w=e.w:=by unfold binW;split <;> omega
    have hRES:(⟨binW e.n x.w,binM e.n x.w.toNat (evM vs x) (evM vs y)⟩ : Bt)=RES:=by rw [HEQ.out,hw];simp [evNode,ho,hl]
    have HU0:=fun W=>BinR_calls e.n (by omega) (by omega) (evB vs x) (evB vs y) (HPO.out x (by rw [hl];simp)) (HPO.out y (by rw [hl];simp)) (by intro p1 p2;show x.w=y.w;omega) (by intro p1;show x.w=1;omega) W
    rw [show (⟨binW e.n (evB vs x).w,binM e.n (evB vs x).w.toNat (evB vs x).v (evB vs y).v⟩ : Bt)=RES from hRES] at HU0
    have HU:=Lib.hid HU0
    clear HU0 hRES hw hxw hyw h1
    replace g0:w5.cell? ⟨w.heap.size + 1,0 + 0,none⟩=some (.int .i64 5):=by rw [← ho];exact g0
    have hl2:1 < e.l.length:=by rw [hl];simp
    have H0:Has w5 g 0 (evB vs x).cells:=by have:=bts_at HBT.out (k:=0) (by simp [hl]);simpa [hl] using this
    have H1:Has w5 g 2 (evB vs y).cells:=by have:=bts_at HBT.out (k:=1) (by simp [hl]);simpa [hl] using this
    clear hk ho HEQ HW0 O1 O2 HACC HSIG HLS HNB HLB HBT
    go_wp2_with fail
    refine wp_region_held_drew (S:=fun W=>Ext w W∧Blk W (w.heap.size + 1) (e.cells (.slice a e.l.length cap)).toArray 44∧Has W g 0 (evB vs x).cells∧Has W g 2 (evB vs y).cells) (by kernel_rfl) ⟨HX5.out.drew,HE5.out.drew,H0.drew,H1.drew⟩ (fun hHeld=>?_)
    try simp only [J]
    (refine Jt 0 (.pointer (some ⟨w.heap.size + 1,6,none⟩)) rfl (yif_load1 rfl (by intro W hW;clear hW;go_simp)) hHeld ?_;try simp only [J])
    (refine Jt 1 (.int .i64 e.n) rfl (yif_load1 rfl (by intro W hW;have y:=hW.2.1.has 6 _ rfl;clear hW;go_simp)) hHeld ?_;try simp only [J])
    (refine Jt 2 (.slice (some ⟨g,0,none⟩) 2 cr) rfl (yif_load1 rfl fun _ _=>rfl) hHeld ?_;try simp only [J])
    (refine Jt 3 (.pointer (some ⟨g,0,none⟩)) rfl (yif_load1 rfl (by intro W hW;clear hW;go_simp)) hHeld ?_;try simp only [J])
    (refine Jt 4 (.agg (evB vs x).cells.toArray) rfl (yif_load rfl 60 _ rfl rfl (fun W hW=>hW.2.2.1) agg_Bits rfl) hHeld ?_;try simp only [J])
    (refine Jt 5 (.slice (some ⟨g,0,none⟩) 2 cr) rfl (yif_load1 rfl fun _ _=>rfl) hHeld ?_;try simp only [J])
    (refine Jt 6 (.pointer (some ⟨g,2,none⟩)) rfl (yif_load1 rfl (by intro W hW;clear hW;go_simp)) hHeld ?_;try simp only [J])
    (refine Jt 7 (.agg (evB vs y).cells.toArray) rfl (yif_load rfl 60 _ rfl rfl (fun W hW=>hW.2.2.2) agg_Bits rfl) hHeld ?_;try simp only [J])
    (refine wpAnyH_ready (rs:=[8]) (by kernel_rfl) (by simp) ?_;refine AllReadyH.cons rfl (fun K hK=>?_) AllReadyH.nil)
    go_simp
    refine (HU.out _).mono ?_
    rintro r w6 ⟨rfl,hx6⟩
    refine hK.out _ _ ⟨hHeld.1.trans hx6,hHeld.2.1.ext hx6,hHeld.2.2.1.ext hx6,hHeld.2.2.2.ext hx6⟩ (fun hHeld=>?_)
    clear hK K
    try simp only [J]
    (refine Jt 9 (.tuple #[.agg RES.cells.toArray,.int .i64 0]) rfl (yif_load1 rfl fun _ _=>rfl) hHeld ?_;try simp only [J])
    (refine Jt 10 (.agg RES.cells.toArray) rfl (yif_load1 rfl (by intro W hW;clear hW;go_simp)) hHeld ?_;try simp only [J])
    (refine Jt 11 (.int .i64 0) rfl (yif_load1 rfl (by intro W hW;clear hW;go_simp)) hHeld ?_;try simp only [J])
    (refine wpAnyH_ready (rs:=[12]) (by kernel_rfl) (by simp) ?_;refine AllReadyH.cons rfl (fun K hK=>?_) AllReadyH.nil)
    refine step_store_blk' rfl 60 _ _ rfl (HP5.out.drew.ext hx6) rfl (cs:=RES.cells) rfl agg_Bits rfl rfl rfl ?_
    intro w7 hb7 hg7
    refine hK.out _ _ ⟨hHeld.1.grown hg7 (by omega),hHeld.2.1.grown hg7 (by omega),hHeld.2.2.1.grown hg7 (by omega),hHeld.2.2.2.grown hg7 (by omega)⟩ (fun hHeld=>?_)
    clear hK K
    refine wpAnyH_done (by kernel_rfl) ?_ _
    have HR7:=Lib.hid ((HR5.out.drew.ext hx6).grown hg7 (by omega))
    have HX7:=Lib.hid hHeld.1
    have b7:=hb7.has
    clear hHeld hg7 hb7 hx6
    go_wp2_with (first | ((with_reducible show Jw (Op.load 60 _));refine wpList_load_has rfl 60 _ rfl rfl (b7) agg_Bits rfl ?_) | ((with_reducible show Jw (Op.store 60 _ _));refine wpList_store_blk rfl 60 _ _ rfl (HR7.out) rfl (cs:=RES.cells) (rfl) agg_Bits (rfl) rfl (rfl) ?_;intro w9 hb9 hg9) | ((with_reducible show bodyPost _ _ _ _ _ _);refine Hid.out ?_))
    refine Lib.hid ?_
    exact post_ret_blk rfl rfl hb9.has agg_Bits rfl rfl ⟨rfl,HX7.out.grown hg9 (by omega)⟩
   ·obtain ⟨c,x,y,hl,hcw,hxw,hyw⟩:=map3 hk
    have hRES:(⟨x.w,if evM vs c=1 then evM vs x else evM vs y⟩ : Bt)=RES:=by rw [HEQ.out,hxw];simp [evNode,ho,hl]
    have HU0:=fun W=>CondR_calls (evB vs c) (evB vs x) (evB vs y) (HPO.out c (by rw [hl];simp)) (HPO.out x (by rw [hl];simp)) (HPO.out y (by rw [hl];simp)) hcw (by show x.w=y.w;omega) W
    rw [show (⟨(evB vs x).w,if (evB vs c).v=1 then (evB vs x).v else (evB vs y).v⟩ : Bt)=RES from hRES] at HU0
    have HU:=Lib.hid HU0
    clear HU0 hRES hcw hxw hyw
    replace g0:w5.cell? ⟨w.heap.size + 1,0 + 0,none⟩=some (.int .i64 6):=by rw [← ho];exact g0
    have hl3:2 < e.l.length:=by rw [hl];simp
    have H0:Has w5 g 0 (evB vs c).cells:=by have:=bts_at HBT.out (k:=0) (by simp [hl]);simpa [hl] using this
    have H1:Has w5 g 2 (evB vs x).cells:=by have:=bts_at HBT.out (k:=1) (by simp [hl]);simpa [hl] using this
    have H2:Has w5 g 4 (evB vs y).cells:=by have:=bts_at HBT.out (k:=2) (by simp [hl]);simpa [hl] using this
    clear hk ho HEQ HW0 O1 O2 HACC HSIG HLS HNB HLB HBT
    go_wp2_with fail
    refine wp_region_held_drew (S:=fun W=>Ext w W∧Blk W (w.heap.size + 1) (e.cells (.slice a e.l.length cap)).toArray 44∧Has W g 0 (evB vs c).cells∧Has W g 2 (evB vs x).cells∧Has W g 4 (evB vs y).cells) (by kernel_rfl) ⟨HX5.out.drew,HE5.out.drew,H0.drew,H1.drew,H2.drew⟩ (fun hHeld=>?_)
    try simp only [J]
    (refine Jt 0 (.slice (some ⟨g,0,none⟩) 3 cr) rfl (yif_load1 rfl fun _ _=>rfl) hHeld ?_;try simp only [J])
    (refine Jt 1 (.pointer (some ⟨g,0,none⟩)) rfl (yif_load1 rfl (by intro W hW;clear hW;go_simp)) hHeld ?_;try simp only [J])
    (refine Jt 2 (.agg (evB vs c).cells.toArray) rfl (yif_load rfl 60 _ rfl rfl (fun W hW=>hW.2.2.1) agg_Bits rfl) hHeld ?_;try simp only [J])
    (refine Jt 3 (.slice (some ⟨g,0,none⟩) 3 cr) rfl (yif_load1 rfl fun _ _=>rfl) hHeld ?_;try simp only [J])
    (refine Jt 4 (.pointer (some ⟨g,2,none⟩)) rfl (yif_load1 rfl (by intro W hW;clear hW;go_simp)) hHeld ?_;try simp only [J])
    (refine Jt 5 (.agg (evB vs x).cells.toArray) rfl (yif_load rfl 60 _ rfl rfl (fun W hW=>hW.2.2.2.1) agg_Bits rfl) hHeld ?_;try simp only [J])
    (refine Jt 6 (.slice (some ⟨g,0,none⟩) 3 cr) rfl (yif_load1 rfl fun _ _=>rfl) hHeld ?_;try simp only [J])
    (refine Jt 7 (.pointer (some ⟨g,4,none⟩)) rfl (yif_load1 rfl (by intro W hW;clear hW;go_simp)) hHeld ?_;try simp only [J])
    (refine Jt 8 (.agg (evB vs y).cells.toArray) rfl (yif_load rfl 60 _ rfl rfl (fun W hW=>hW.2.2.2.2) agg_Bits rfl) hHeld ?_;try simp only [J])
    (refine wpAnyH_ready (rs:=[9]) (by kernel_rfl) (by simp) ?_;refine AllReadyH.cons rfl (fun K hK=>?_) AllReadyH.nil)
    go_simp
    refine (HU.out _).mono ?_
    rintro r w6 ⟨rfl,hx6⟩
    refine hK.out _ _ ⟨hHeld.1.trans hx6,hHeld.2.1.ext hx6,hHeld.2.2.1.ext hx6,hHeld.2.2.2.1.ext hx6,hHeld.2.2.2.2.ext hx6⟩ (fun hHeld=>?_)
    clear hK K
    try simp only [J]
    (refine Jt 10 (.tuple #[.agg RES.cells.toArray,.int .i64 0]) rfl (yif_load1 rfl fun _ _=>rfl) hHeld ?_;try simp only [J])
    (refine Jt 11 (.agg RES.cells.toArray) rfl (yif_load1 rfl (by intro W hW;clear hW;go_simp)) hHeld ?_;try simp only [J])
    (refine Jt 12 (.int .i64 0) rfl (yif_load1 rfl (by intro W hW;clear hW;go_simp)) hHeld ?_;try simp only [J])
    (refine wpAnyH_ready (rs:=[13]) (by kernel_rfl) (by simp) ?_;refine AllReadyH.cons rfl (fun K hK=>?_) AllReadyH.nil)
    refine step_store_blk' rfl 60 _ _ rfl (HP5.out.drew.ext hx6) rfl (cs:=RES.cells) rfl agg_Bits rfl rfl rfl ?_
    intro w7 hb7 hg7
    refine hK.out _ _ ⟨hHeld.1.grown hg7 (by omega),hHeld.2.1.grown hg7 (by omega),hHeld.2.2.1.grown hg7 (by omega),hHeld.2.2.2.1.grown hg7 (by omega),hHeld.2.2.2.2.grown hg7 (by omega)⟩ (fun hHeld=>?_)
    clear hK K
    refine wpAnyH_done (by kernel_rfl) ?_ _
    have HR7:=Lib.hid ((HR5.out.drew.ext hx6).grown hg7 (by omega))
    have HX7:=Lib.hid hHeld.1
    have b7:=hb7.has
    clear hHeld hg7 hb7 hx6
    go_wp2_with (first | ((with_reducible show Jw (Op.load 60 _));refine wpList_load_has rfl 60 _ rfl rfl (b7) agg_Bits rfl ?_) | ((with_reducible show Jw (Op.store 60 _ _));refine wpList_store_blk rfl 60 _ _ rfl (HR7.out) rfl (cs:=RES.cells) (rfl) agg_Bits (rfl) rfl (rfl) ?_;intro w9 hb9 hg9) | ((with_reducible show bodyPost _ _ _ _ _ _);refine Hid.out ?_))
    refine Lib.hid ?_
    exact post_ret_blk rfl rfl hb9.has agg_Bits rfl rfl ⟨rfl,HX7.out.grown hg9 (by omega)⟩
   ·have hl0:e.l.map (evB vs) ≠ []:=by
     intro h;apply h1;simpa using h
    have hRES:(⟨catW (e.l.map (evB vs)),catM (catP (e.l.map (evB vs))) 0⟩ : Bt)=RES:=by rw [HEQ.out,catW_map,← h2,← zip_cat];simp [evNode,ho]
    have HU0:=CatR_calls (e.l.map (evB vs)) (fun bq hb=>by obtain ⟨x,hx,rfl⟩:=List.mem_map.1 hb;exact HPO.out x hx) hl0 (by rw [catW_map];omega) _ w5 HBT.out
    rw [hRES] at HU0
    have HU:=Lib.hid HU0
    replace g0:w5.cell? ⟨w.heap.size + 1,0 + 0,none⟩=some (.int .i64 7):=by rw [← ho];exact g0
    clear HU0 hRES hl0 h1 h2 h3 ho HEQ HW0 O1 O2 HACC HSIG HLS HNB HLB HBT
    go_wp2_with (first | (go_at_call 95;refine HU.out.mono ?_;rintro r w6 ⟨rfl,hx6⟩) | ((with_reducible show Jw (Op.store 60 _ _));refine wpList_store_blk rfl 60 _ _ rfl (HP5.out.ext hx6) rfl (cs:=RES.cells) (rfl) agg_Bits (rfl) rfl (rfl) ?_;intro w7 hb7 hg7) | ((with_reducible show Jw (Op.load 60 _));refine wpList_load_has rfl 60 _ rfl rfl (hb7.has) agg_Bits rfl ?_) | ((with_reducible show Jw (Op.store 60 _ _));refine wpList_store_blk rfl 60 _ _ rfl ((HR5.out.ext hx6).grown hg7 (by omega)) rfl (cs:=RES.cells) (rfl) agg_Bits (rfl) rfl (rfl) ?_;intro w9 hb9 hg9) | ((with_reducible show bodyPost _ _ _ _ _ _);refine Hid.out ?_))
    refine Lib.hid ?_
    exact post_ret_blk rfl rfl hb9.has agg_Bits rfl rfl ⟨rfl,((HX5.out.trans hx6).grown hg7 (by omega)).grown hg9 (by omega)⟩
   ·obtain ⟨x,hl,hxw⟩:=map1 hk
    have hRES:(⟨e.w,extN e.n e.w.toNat x.w.toNat (evM vs x)⟩ : Bt)=RES:=by rw [HEQ.out];simp [evNode,ho,hl]
    have HU0:=fun W=>ExtR_calls e.n e.w (by omega) (by omega) h2 h3 (evB vs x) (HPO.out x (by rw [hl];simp)) (by intro p1;show x.w ≤ e.w;omega) (by intro p1;show e.w ≤ x.w;omega) W
    rw [show (⟨e.w,extN e.n e.w.toNat (evB vs x).w.toNat (evB vs x).v⟩ : Bt)=RES from hRES] at HU0
    have HU:=Lib.hid HU0
    clear HU0 hRES hxw h1 h2 h3
    replace g0:w5.cell? ⟨w.heap.size + 1,0 + 0,none⟩=some (.int .i64 8):=by rw [← ho];exact g0
    have hl1:0 < e.l.length:=by rw [hl];simp
    have H0:Has w5 g 0 (evB vs x).cells:=by have:=bts_at HBT.out (k:=0) (by simp [hl]);simpa [hl] using this
    clear hk ho HEQ HW0 O1 O2 HACC HSIG HLS HNB HLB HBT
    go_wp2_with fail
    refine wp_region_held_drew (S:=fun W=>Ext w W∧Blk W (w.heap.size + 1) (e.cells (.slice a e.l.length cap)).toArray 44∧Has W g 0 (evB vs x).cells) (by kernel_rfl) ⟨HX5.out.drew,HE5.out.drew,H0.drew⟩ (fun hHeld=>?_)
    try simp only [J]
    (refine Jt 0 (.pointer (some ⟨w.heap.size + 1,6,none⟩)) rfl (yif_load1 rfl (by intro W hW;clear hW;go_simp)) hHeld ?_;try simp only [J])
    (refine Jt 1 (.int .i64 e.n) rfl (yif_load1 rfl (by intro W hW;have y:=hW.2.1.has 6 _ rfl;clear hW;go_simp)) hHeld ?_;try simp only [J])
    (refine Jt 2 (.pointer (some ⟨w.heap.size + 1,1,none⟩)) rfl (yif_load1 rfl (by intro W hW;clear hW;go_simp)) hHeld ?_;try simp only [J])
    (refine Jt 3 (.int .i64 e.w) rfl (yif_load1 rfl (by intro W hW;have y:=hW.2.1.has 1 _ rfl;clear hW;go_simp)) hHeld ?_;try simp only [J])
    (refine Jt 4 (.slice (some ⟨g,0,none⟩) 1 cr) rfl (yif_load1 rfl fun _ _=>rfl) hHeld ?_;try simp only [J])
    (refine Jt 5 (.pointer (some ⟨g,0,none⟩)) rfl (yif_load1 rfl (by intro W hW;clear hW;go_simp)) hHeld ?_;try simp only [J])
    (refine Jt 6 (.agg (evB vs x).cells.toArray) rfl (yif_load rfl 60 _ rfl rfl (fun W hW=>hW.2.2) agg_Bits rfl) hHeld ?_;try simp only [J])
    (refine wpAnyH_ready (rs:=[7]) (by kernel_rfl) (by simp) ?_;refine AllReadyH.cons rfl (fun K hK=>?_) AllReadyH.nil)
    go_simp
    refine (HU.out _).mono ?_
    rintro r w6 ⟨rfl,hx6⟩
    refine hK.out _ _ ⟨hHeld.1.trans hx6,hHeld.2.1.ext hx6,hHeld.2.2.ext hx6⟩ (fun hHeld=>?_)
    clear hK K
    try simp only [J]
    (refine Jt 8 (.tuple #[.agg RES.cells.toArray,.int .i64 0]) rfl (yif_load1 rfl fun _ _=>rfl) hHeld ?_;try simp only [J])
    (refine Jt 9 (.agg RES.cells.toArray) rfl (yif_load1 rfl (by intro W hW;clear hW;go_simp)) hHeld ?_;try simp only [J])
    (refine Jt 10 (.int .i64 0) rfl (yif_load1 rfl (by intro W hW;clear hW;go_simp)) hHeld ?_;try simp only [J])
    (refine wpAnyH_ready (rs:=[11]) (by kernel_rfl) (by simp) ?_;refine AllReadyH.cons rfl (fun K hK=>?_) AllReadyH.nil)
    refine step_store_blk' rfl 60 _ _ rfl (HP5.out.drew.ext hx6) rfl (cs:=RES.cells) rfl agg_Bits rfl rfl rfl ?_
    intro w7 hb7 hg7
    refine hK.out _ _ ⟨hHeld.1.grown hg7 (by omega),hHeld.2.1.grown hg7 (by omega),hHeld.2.2.grown hg7 (by omega)⟩ (fun hHeld=>?_)
    clear hK K
    refine wpAnyH_done (by kernel_rfl) ?_ _
    have HR7:=Lib.hid ((HR5.out.drew.ext hx6).grown hg7 (by omega))
    have HX7:=Lib.hid hHeld.1
    have b7:=hb7.has
    clear hHeld hg7 hb7 hx6
    go_wp2_with (first | ((with_reducible show Jw (Op.load 60 _));refine wpList_load_has rfl 60 _ rfl rfl (b7) agg_Bits rfl ?_) | ((with_reducible show Jw (Op.store 60 _ _));refine wpList_store_blk rfl 60 _ _ rfl (HR7.out) rfl (cs:=RES.cells) (rfl) agg_Bits (rfl) rfl (rfl) ?_;intro w9 hb9 hg9) | ((with_reducible show bodyPost _ _ _ _ _ _);refine Hid.out ?_))
    refine Lib.hid ?_
    exact post_ret_blk rfl rfl hb9.has agg_Bits rfl rfl ⟨rfl,HX7.out.grown hg9 (by omega)⟩
def Acc10 (d:Flat) (vs:List Nat) (e:E):Prop:=vs.length=d.signals.length ∨ (e.op ≠ 2∧e.op ≠ 3∧∀ x ∈ e.l,x.op=1)
theorem Value10_calls (d:Flat) (vs:List Nat) (hls:∀ x ∈ d.signals,1 ≤ x.w∧x.w ≤ 64) (hvals:Vals d.signals vs) (e:E):WS d.signals e→e.wf→Acc10 d vs e→Val10Said d vs e:=by
 induction e using E.ind with
 | h e ih =>
  intro hws hwf hacc
  have hp:=((WS_iff _ e).1 hws).2
  have hw:=((E.wf_iff e).1 hwf).2.2.2.2.2.2.2
  refine val10_step d vs hls hvals e hws hwf (fun h=>?_) (fun x hx=>ih x hx (hp x hx) (hw x hx) ?_)
  ·rcases hacc with h1 | ⟨h1,h2,-⟩
   ·exact h1
   ·rcases h with h | h
    ·exact absurd h h1
    ·exact absurd h h2
  ·rcases hacc with h1 | ⟨-,-,h3⟩
   ·exact .inl h1
   ·have hx1:=h3 x hx
    have hxl:x.l=[]:=by
     have h0:=((WS_iff _ x).1 (hp x hx)).1
     unfold wsN at h0
     rcases h0 with h | h | h | h | h | h | h | h
     ·simpa using h.2.1
     all_goals (exfalso;have:=h.1;omega)
    exact .inr ⟨by omega,by omega,by rw [hxl];intro y hy;cases hy⟩
end Go.Proofs.YtemabheegnngdaaGreat
