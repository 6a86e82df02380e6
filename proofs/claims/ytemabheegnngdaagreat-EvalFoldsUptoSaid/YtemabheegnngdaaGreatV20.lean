/- Laws and walks that a claim of this seat leans on: Fold3, Fold4, BitsE. -/
import Derived.Test.YtemabheegnngdaaGreatV19
import Derived.Test.YtemabheegnngdaaGreatV04
import Derived.Test.YtemabheegnngdaaGreatV13
import Derived.Deep.CutBlock
import Derived.Test.YtemabheegnngdaaGreatV00
set_option linter.all false
namespace Go.Proofs.YtemabheegnngdaaGreat
open Go.RowKit
theorem any_not_num (l:List E):l.any (fun x=>!isNum x) = !l.all isNum:=by
 induction l with
 | nil=>rfl
 | cons x l ih=>rw [List.any_cons,List.all_cons,ih,Bool.not_and]
theorem folded1_makes {wb:World} {ls:List Signal} {D:Nat} {sv pv cv:Value} (hone : [sv,pv,cv].all (·.oneCell')=true) (hD:Blk wb D #[sv,pv,cv] 26) (hS:Sigs wb sv ls) (hls:∀ x ∈ ls,1 ≤ x.w∧x.w ≤ 64)
  (e:E) (hws:WS ls e) (hwf:e.wf) (hn:nodes e ≤ 1048576):MakesE 99 #[.pointer (some ⟨D,0,none⟩)] (foldM ls) wb e:=by
 intro cs s M w hM hx hV hrow
 have hls':∀ x ∈ ls,x.w ≤ 64:=fun x hx=>(hls x hx).2
 obtain ⟨m1,m2,m3⟩:=foldM_map hls' hws hwf
 have hnn:nodes (e.with (e.l.map (foldM ls))) ≤ 1048576:=Nat.le_trans (foldM_with_nodes ls e) hn
 have hW:=with_ws m1 fun x hx=>(m2 x hx).1
 have hF:=with_wf hwf fun x hx=>(m2 x hx).2
 obtain ⟨s0,rfl,hE0⟩:=hV
 obtain ⟨a,cap,rfl,ha⟩:=hrow.open
 show Calls Tryz.prog 99 #[_,_,.pointer (some ⟨D,0,none⟩)] w _
 rw [foldM_eq]
 have hlen:(e.l.map (foldM ls)).length=e.l.length:=List.length_map ..
 generalize e.l.map (foldM ls)=r at *
 obtain ⟨F,hFF⟩ : ∃ F,foldN ls e r=F:=⟨_,rfl⟩
 rw [hFF]
 unfold foldN at hFF
 cases r with
 | nil =>
  rw [if_pos (by rfl)] at hFF
  subst hFF;exact f1_nil e w (List.eq_nil_of_length_eq_zero hlen.symm) hE0
 | cons x l =>
  obtain ⟨g,rfl⟩:=ha (by simp)
  obtain ⟨q1,q2⟩:=m2 x (by simp)
  rw [if_neg (by simp)] at hFF
  rw [show hdE (x :: l)=x from rfl] at hFF
  have hall:(x :: l).any (fun x=>!isNum x) = !(x :: l).all isNum:=any_not_num _
  have hxv:=((E.wf_iff x).1 q2).2.2.1
  by_cases o3:e.op=3
  ·have b3:(e.op == 3)=true:=by rw [beq_iff_eq];exact o3
   have b6:(e.op == 6)=false:=by rw [beq_eq_false_iff_ne];omega
   obtain ⟨x',hx',i1,i2,i3⟩:=ws_idx m1 o3
   obtain ⟨k,hk⟩:=Int.eq_ofNat_of_zero_le i1
   have hkl:k < ls.length:=by omega
   cases ht:isNum x
   ·rw [if_neg (by rw [ht];simp),if_neg (by rw [ht];simp)] at hFF
    have ha0:(x :: l).all isNum=false:=by rw [List.all_cons,ht];rfl
    rw [if_pos ha0] at hFF
    subst hFF;exact f1_idx_not e x l w hone hD hS hx hM hE0 hrow b3 b6 ht (by rw [hall,ha0];rfl)
   ·by_cases hlt:x.v < sigW ls e.sig
    ·rw [if_pos ⟨o3,ht,hlt⟩] at hFF
     subst hFF;exact f1_idx e x l w hone hD hS hx hM hE0 hrow b3 ht (decide_eq_true hlt) k hkl hk hls hxv.1 (by have:=hxv.2;omega)
    ·rw [if_neg (fun h=>hlt h.2.2),if_neg (by omega)] at hFF
     cases hq:(x :: l).all isNum
     ·rw [if_pos hq] at hFF
      subst hFF;exact f1_idx_part e x l w hone hD hS hx hM hE0 hrow b3 b6 ht (decide_eq_false hlt) (by rw [hall,hq];rfl) k hkl hk hls hxv.1 (by have:=hxv.2;omega)
     ·rw [if_neg (by rw [hq];simp)] at hFF
      subst hFF;exact f1_idx_num e x l w hone hD hS hx hM hE0 hrow b3 b6 ht (decide_eq_false hlt) (by rw [hall,hq];rfl) k hkl hk hxv.1 (by have:=hxv.2;omega) hls hW hF hnn
  ·have b3:(e.op == 3)=false:=by rw [beq_eq_false_iff_ne];exact o3
   rw [if_neg (fun h=>o3 h.1)] at hFF
   by_cases o6:e.op=6
   ·have b6:(e.op == 6)=true:=by rw [beq_iff_eq];exact o6
    cases ht:isNum x
    ·rw [if_neg (by rw [ht];simp)] at hFF
     have ha0:(x :: l).all isNum=false:=by rw [List.all_cons,ht];rfl
     rw [if_pos ha0] at hFF
     subst hFF;exact f1_cond_not e x l w hone hD hS hx hM hE0 hrow b3 b6 ht (by rw [hall,ha0];rfl)
    ·rw [if_pos ⟨o6,ht⟩] at hFF
     obtain ⟨c,y,z,hcyz,h1,-,-⟩:=ws_cond m1 o6
     obtain ⟨rfl,rfl⟩ : x=c∧l=[y,z]:=by simpa using hcyz
     rcases cond_told q1 q2 h1 ht with hv | hv
     ·rw [hv] at hFF;subst hFF;exact f1_cond0 e x [y,z] w hone hD hS hx hM hE0 hrow b3 b6 ht hv z rfl
     ·rw [hv] at hFF;subst hFF;exact f1_cond1 e x [y,z] w hone hD hS hx hM hE0 hrow b3 b6 ht hv y rfl
   ·have b6:(e.op == 6)=false:=by rw [beq_eq_false_iff_ne];exact o6
    rw [if_neg (fun h=>o6 h.1)] at hFF
    cases hq:(x :: l).all isNum
    ·rw [if_pos hq] at hFF
     subst hFF;exact f1_other_part e x l w hone hD hS hx hM hE0 hrow b3 b6 (by rw [hall,hq];rfl)
    ·rw [if_neg (by rw [hq];simp)] at hFF
     subst hFF;exact f1_other_num e x l w hone hD hS hx hM hE0 hrow b3 b6 (by rw [hall,hq];rfl) hls hW hF hnn
open Go.RowKit
def mayM (d:Flat) (e:E):Bool:=decide (checkM d=0) && decide (checkEM d.signals e=0)
def foldR (d:Flat) (e:E):E × Int:=if mayM d e=true then (foldM d.signals e,0) else (zE,1)
set_option maxRecDepth 100000 in
set_option maxHeartbeats 2000000 in
theorem mayE_calls (d:Flat) (v:Value) (e:E) (cs:List Value) (w:World) (hF:FlatV w v d) (hok:d.ok) (hV:VE w cs e) (hwf:e.wf) (hn:nodes e ≤ 1048576) :
  Calls Tryz.prog 55 #[v,.agg cs.toArray] w fun r w'=>r=.returned (.bool (mayM d e))∧Ext w w':=by
 have HCD:=Lib.hid (fun W (h:Ext w W)=>Check_calls d v W (hF.ext h) hok)
 have HCE:=Lib.hid (fun W (h:Ext w W)=>CheckE_calls d v e cs W (hF.ext h) hok (hV.ext h) hwf hn)
 have h8:cs.length=8:=by obtain ⟨s,rfl,-⟩:=hV;rfl
 have hc1:checkM d=0 ∨ checkM d ≠ 0:=by omega
 obtain ⟨sv,pv,cv,rfl,hS,hP,hC⟩:=hF
 have x1:=ext_alloc w (.cells [sv,pv,cv].toArray 26)
 have x2:=ext_alloc (w.alloc (.cells [sv,pv,cv].toArray 26)) (.cells cs.toArray 44)
 have hD:=(Blk.new w [sv,pv,cv].toArray 26).ext x2
 have hE:=Blk.new (w.alloc (.cells [sv,pv,cv].toArray 26)) cs.toArray 44
 have hX:=x1.trans x2
 simp only [World.size_alloc] at hE
 clear x1 x2 hS hP hC hok hV hwf hn
 have hmay:mayM d e=(checkM d == 0 && checkEM d.signals e == 0):=rfl
 rw [hmay]
 clear hmay
 generalize checkM d=c1 at *
 generalize checkEM d.signals e=c2 at *
 go_enter Tryz.func55,Tryz.ntmps55
 go_upto_region 1 with fail
 generalize (w.alloc _).alloc _=w0 at *
 have HD:=Lib.hid hD
 have HE:=Lib.hid hE
 have HX:=Lib.hid hX
 have d0:=hD.has
 clear hD hE hX
 by_cases hz:c1=0
 ·have b1:(c1 == 0)=true:=by rw [beq_iff_eq];exact hz
  clear hz hc1
  go_wp2_with (first | ((with_reducible show Jw (Op.load 26 _));refine wpList_load_has rfl 26 _ rfl rfl (d0) agg_Flat rfl ?_) | (go_at_call 44;refine (HCD.out w0 HX.out).mono ?_;rintro r w1 ⟨rfl,hx1⟩;have d1:=(HD.out.ext hx1).has;have e1:=(HE.out.ext hx1).has) | ((with_reducible show Jw (Op.load 26 _));refine wpList_load_has rfl 26 _ rfl rfl (d1) agg_Flat rfl ?_) | ((with_reducible show Jw (Op.load 44 _));refine wpList_load_has rfl 44 _ rfl rfl (e1) agg_E h8 ?_) | (go_at_call 48;refine (HCE.out w1 (HX.out.trans hx1)).mono ?_;rintro r w2 ⟨rfl,hx2⟩))
  go_ret
  exact ⟨by rw [b1];rfl,HX.out.trans (hx1.trans hx2)⟩
 ·have b1:(c1 == 0)=false:=by rw [beq_eq_false_iff_ne];exact hz
  clear hz hc1
  go_wp2_with (first | ((with_reducible show Jw (Op.load 26 _));refine wpList_load_has rfl 26 _ rfl rfl (d0) agg_Flat rfl ?_) | (go_at_call 44;refine (HCD.out w0 HX.out).mono ?_;rintro r w1 ⟨rfl,hx1⟩))
  go_ret
  exact ⟨by rw [b1];rfl,HX.out.trans hx1⟩
set_option maxRecDepth 100000 in
set_option maxHeartbeats 2000000 in
theorem Fold_calls (d:Flat) (v:Value) (e:E) (cs:List Value) (w:World) (hF:FlatV w v d) (hok:d.ok) (hV:VE w cs e) (hwf:e.wf) (hn:nodes e ≤ 1048576) :
  Calls Tryz.prog 23 #[v,.agg cs.toArray] w fun r w'=>∃ cs',r=.returned (.tuple #[.agg cs'.toArray,.int .i64 (foldR d e).2])∧FV VE w.heap.size w' cs' (foldR d e).1∧Ext w w':=by
 have HMY:=Lib.hid (fun W (h:Ext w W)=>mayE_calls d v e cs W (hF.ext h) hok (hV.ext h) hwf hn)
 have HVE:=Lib.hid (fun W (h:Ext w W)=>hV.ext h)
 have HWF:=Lib.hid hwf
 have HN:=Lib.hid hn
 have h8:cs.length=8:=by obtain ⟨s,rfl,-⟩:=hV;rfl
 obtain ⟨sv,pv,cv,rfl,hS,hP,hC⟩:=hF
 have hone : [sv,pv,cv].all (·.oneCell')=true:=by simp [hS.one,hP.one,hC.one]
 have HSG:=Lib.hid (fun W (h:Ext w W)=>hS.ext h)
 have x1:=ext_alloc w (.cells [sv,pv,cv].toArray 26)
 have x2:=ext_alloc (w.alloc (.cells [sv,pv,cv].toArray 26)) (.cells cs.toArray 44)
 have x3:=ext_alloc ((w.alloc (.cells [sv,pv,cv].toArray 26)).alloc (.cells cs.toArray 44)) (.cells (zE.cells (.slice none 0 0)).toArray 44)
 have hD:=((Blk.new w [sv,pv,cv].toArray 26).ext x2).ext x3
 have hE:=(Blk.new (w.alloc (.cells [sv,pv,cv].toArray 26)) cs.toArray 44).ext x3
 have hR:=Blk.new ((w.alloc (.cells [sv,pv,cv].toArray 26)).alloc (.cells cs.toArray 44)) (zE.cells (.slice none 0 0)).toArray 44
 have hX:=(x1.trans x2).trans x3
 have HSZ:=Lib.hid (show (((w.alloc (.cells [sv,pv,cv].toArray 26)).alloc (.cells cs.toArray 44)).alloc (.cells (zE.cells (.slice none 0 0)).toArray 44)).heap.size=w.heap.size + 1 + 1 + 1 by simp only [World.size_alloc])
 simp only [World.size_alloc] at hE hR
 clear x1 x2 x3 hS hP hC hok hV hwf hn
 obtain ⟨OUT,hout⟩ : ∃ o,foldR d e=o:=⟨_,rfl⟩
 have HOUT:=Lib.hid hout
 rw [hout]
 clear hout
 obtain ⟨q,hq⟩ : ∃ q,mayM d e=q:=⟨_,rfl⟩
 have HQ:=Lib.hid hq
 rw [hq] at HMY
 clear hq
 rw [zE_cells] at *
 go_enter Tryz.func23,Tryz.ntmps23
 go_upto_region 1 with fail
 generalize ((w.alloc _).alloc _).alloc _=w0 at *
 have HD:=Lib.hid hD
 have HE:=Lib.hid hE
 have HR:=Lib.hid hR
 have HX:=Lib.hid hX
 have d0:=hD.has
 have e0:=hE.has
 clear hD hE hR hX
 cases q
 ·obtain rfl:OUT=(zE,1):=by rw [← HOUT.out];unfold foldR;rw [HQ.out];rfl
  go_wp2_with (first | ((with_reducible show Jw (Op.load 26 _));refine wpList_load_has rfl 26 _ rfl rfl (d0) agg_Flat rfl ?_) | ((with_reducible show Jw (Op.load 44 _));refine wpList_load_has rfl 44 _ rfl rfl (e0) agg_E h8 ?_) | (go_at_call 55;refine (HMY.out w0 HX.out).mono ?_;rintro r w1 ⟨rfl,hx1⟩) | ((with_reducible show Jw (Op.store 44 _ _));refine wpList_store_blk rfl 44 _ _ rfl (HR.out.ext hx1) rfl (cs:=zE.cells (.slice none 0 0)) (rfl) agg_E (rfl) rfl (rfl) ?_;intro w6 hb6 hg6) | ((with_reducible show bodyPost _ _ _ _ _ _);refine Hid.out ?_))
  refine Lib.hid ?_
  refine post_ret_blk2 rfl rfl rfl hb6.has agg_E rfl rfl ⟨_,rfl,fv_leafE _ _ _ rfl,(HX.out.trans hx1).grown hg6 (by omega)⟩
 ·obtain rfl:OUT=(foldM d.signals e,0):=by rw [← HOUT.out];unfold foldR;rw [HQ.out];rfl
  have hck:checkM d=0∧checkEM d.signals e=0:=by
   have h1:=HQ.out
   unfold mayM at h1
   simpa using h1
  have HLS:=Lib.hid (checkM_w hck.1)
  have HWS:=Lib.hid (checkEM_ws (fun x hx=>(checkM_w hck.1 x hx).2) hck.2).1
  clear hck
  go_upto_region 3 with (first | ((with_reducible show Jw (Op.load 26 _));refine wpList_load_has rfl 26 _ rfl rfl (d0) agg_Flat rfl ?_) | ((with_reducible show Jw (Op.load 44 _));refine wpList_load_has rfl 44 _ rfl rfl (e0) agg_E h8 ?_) | (go_at_call 55;refine (HMY.out w0 HX.out).mono ?_;rintro r w1 ⟨rfl,hx1⟩))
  have HX1:=Lib.hid (HX.out.trans hx1)
  have HD1:=Lib.hid (HD.out.ext hx1)
  have HE1:=Lib.hid (HE.out.ext hx1)
  have HR1:=Lib.hid (HR.out.ext hx1)
  have HS1:=Lib.hid hx1.size
  clear hx1 d0 e0
  refine wp_region_held_drew (S:=fun W=>Ext w W∧Blk W w.heap.size [sv,pv,cv].toArray 26∧Blk W (w.heap.size + 1) cs.toArray 44) (by kernel_rfl) ⟨HX1.out.drew,HD1.out.drew,HE1.out.drew⟩ (fun hHeld=>?_)
  try simp only [J]
  (refine Jt 0 (.agg cs.toArray) rfl (yif_load rfl 44 _ rfl rfl (fun W hW=>hW.2.2.has) agg_E h8) hHeld ?_;try simp only [J])
  (refine Jt 1 (.agg [sv,pv,cv].toArray) rfl (yif_load rfl 26 _ rfl rfl (fun W hW=>hW.2.1.has) agg_Flat rfl) hHeld ?_;try simp only [J])
  (refine wpAnyH_ready (rs:=[2]) (by kernel_rfl) (by simp) ?_;refine AllReadyH.cons rfl (fun K hK=>?_) AllReadyH.nil)
  go_simp
  refine (folded_calls _ _ _ hone _).mono ?_
  rintro r w5 ⟨D5,rfl,hx5,hD5⟩
  refine hK.out _ _ ⟨hHeld.1.trans hx5,hHeld.2.1.ext hx5,hHeld.2.2.ext hx5⟩ (fun hHeld=>?_)
  clear hK K
  try simp only [J]
  have hup:=upE_calls 99 #[.pointer (some ⟨D5,0,none⟩)] leads_f1 (foldM d.signals) w5 (fun e=>WS d.signals e∧e.wf∧nodes e ≤ 1048576)
   (fun e h x hx=>⟨((WS_iff _ e).1 h.1).2 x hx,((E.wf_iff e).1 h.2.1).2.2.2.2.2.2.2 x hx,by have:=nodes_eq e;have:=le_sumBy nodes e.l x hx;have:=h.2.2;omega⟩)
   (fun e h=>folded1_makes hone hD5 (HSG.out w5 hHeld.1) HLS.out e h.1 h.2.1 h.2.2) e ⟨HWS.out,HWF.out,HN.out⟩ cs w5 (Below.refl _ _) (HVE.out w5 hHeld.1) HN.out
  have HUP:=Lib.hid hup
  clear hup hD5
  (refine wpAnyH_ready (rs:=[3]) (by kernel_rfl) (by simp) ?_;refine AllReadyH.cons rfl (fun K hK=>?_) AllReadyH.nil)
  go_simp
  refine HUP.out.mono ?_
  rintro r w6 ⟨cs6,rfl,hfv6,hx6⟩
  have HFV6:=Lib.hid hfv6
  refine hK.out _ _ ⟨hHeld.1.trans hx6,hHeld.2.1.ext hx6,hHeld.2.2.ext hx6⟩ (fun hHeld=>?_)
  clear hK K HUP hfv6
  try simp only [J]
  have hsz:=hHeld.1.size
  have HSB:=Lib.hid (show w.heap.size + 1 + 1 < w5.heap.size by have h1:=HSZ.out;have h2:=HS1.out;have h3:w1.heap.size ≤ w5.heap.size:=hx5.size;omega)
  clear hsz
  (refine wpAnyH_ready (rs:=[4]) (by kernel_rfl) (by simp) ?_;refine AllReadyH.cons rfl (fun K hK=>?_) AllReadyH.nil)
  refine step_store_blk' rfl 44 _ _ rfl ((HR1.out.drew.ext hx5).ext hx6) rfl (cs:=cs6) rfl agg_E HFV6.out.lenE rfl HFV6.out.oneE ?_
  intro w8 hb8 hg8
  refine hK.out _ _ ⟨hHeld.1.grown hg8 (by omega),hHeld.2.1.grown hg8 (by omega),hHeld.2.2.grown hg8 (by omega)⟩ (fun hHeld=>?_)
  clear hK K
  try simp only [J]
  (refine Jt 5 (.int .i64 0) rfl (yif_load1 rfl fun _ _=>rfl) hHeld ?_;try simp only [J])
  refine wpAnyH_done (by kernel_rfl) ?_ _
  go_wp2_with ((with_reducible show bodyPost _ _ _ _ _ _);refine Hid.out ?_)
  refine Lib.hid ?_
  refine post_ret_blk2 rfl rfl rfl hb8.has agg_E HFV6.out.lenE rfl ⟨_,rfl,?_,hHeld.1⟩
  exact (HFV6.out.since (Since.of_grown hg8 HSB.out)).mono (by have:=HSZ.out;have:=HSB.out;omega)
open Go.RowKit
def bitsM (ls:List Signal) (e:E):List Int:=allNums (offsM ls ls.length) (partsE ls e)
def lo0 (e:E):Int:=if e.op=2 then e.lo else 0
def hi0 (ls:List Signal) (e:E):Int:=if e.op=2 then e.hi else if e.op=3 then sigW ls e.sig - 1 else -1
def ownB (ls:List Signal) (e:E) (k:Nat):List Int:=(List.range k).map fun (j:Nat)=>lo0 e + sumW ls e.sig.toNat + (j:Int)
def cntB (ls:List Signal) (e:E):Nat:=(hi0 ls e - lo0 e + 1).toNat
theorem ownB_succ (ls:List Signal) (e:E) (k:Nat):ownB ls e (k + 1)=ownB ls e k ++ [lo0 e + sumW ls e.sig.toNat + (k:Int)]:=by
 unfold ownB;rw [List.range_succ,List.map_append];rfl
theorem ownB_split (ls:List Signal) (e:E) (j m:Nat):∃ post,ownB ls e (j + 1 + m)=ownB ls e j ++ (lo0 e + sumW ls e.sig.toNat + (j:Int)) :: post:=by
 induction m with
 | zero=>exact ⟨[],ownB_succ ls e j⟩
 | succ m ih =>
  obtain ⟨post,hp⟩:=ih
  exact ⟨post ++ [lo0 e + sumW ls e.sig.toNat + ((j + 1 + m:Nat):Int)],by rw [← Nat.add_assoc,ownB_succ,hp,List.append_assoc];rfl⟩
theorem ws_sig {ls:List Signal} (hls:∀ x ∈ ls,1 ≤ x.w∧x.w ≤ 64) {e:E} (h:WS ls e):0 ≤ e.sig∧e.sig ≤ ls.length∧(e.op=3→e.sig < ls.length)∧0 ≤ lo0 e∧lo0 e ≤ 64∧-1 ≤ hi0 ls e∧hi0 ls e ≤ 64∧(e.op=2 ∨ e.op=3→e.sig < ls.length):=by
 have hls':∀ x ∈ ls,x.w ≤ 64:=fun x hx=>(hls x hx).2
 obtain ⟨h0,-⟩:=(WS_iff ls e).1 h
 unfold wsN at h0
 unfold lo0 hi0
 rcases h0 with ⟨ho,-,-,-,-,hs,-⟩ | ⟨ho,-,hs,-⟩ | ⟨ho,-,h1,h2,-⟩ | ⟨ho,-,-,hs,-⟩ | ⟨ho,-,-,hs,-⟩ | ⟨ho,-,-,hs,-⟩ | ⟨ho,-,-,-,-,hs,-⟩ | ⟨ho,-,-,-,-,hs,-⟩
 case inr.inl=>have:=slice_le ls hls' hs;rw [if_pos ho,if_pos ho];omega
 case inr.inr.inl =>
  obtain ⟨k,hk⟩:=Int.eq_ofNat_of_zero_le h1
  have hlt:k < ls.length:=by omega
  have hsw:sigW ls e.sig=ls[k].w:=by rw [hk];simp [sigW,List.getElem?_eq_getElem hlt]
  have:=hls _ (List.getElem_mem hlt)
  rw [if_neg (by omega),if_neg (by omega),if_pos ho,hsw];omega
 all_goals rw [if_neg (by omega),if_neg (by omega),if_neg (by omega)];omega
theorem ownB_spans {ls:List Signal} (hls:∀ x ∈ ls,1 ≤ x.w∧x.w ≤ 64) {e:E} (h:WS ls e):ownB ls e (cntB ls e)=allNums (offsM ls ls.length) (spans0 ls e.op e.sig e.hi e.lo):=by
 obtain ⟨h0,h1,h2,-,-,-,-,h3⟩:=ws_sig hls h
 unfold ownB cntB lo0 hi0 spans0
 by_cases o2:e.op=2
 ·rw [if_pos o2,if_pos o2,if_pos o2]
  unfold allNums numsOf
  simp only [List.map_cons,List.map_nil,List.flatten_cons,List.flatten_nil,List.append_nil]
  rw [offsM_getD ls _ _ (by omega)]
  exact List.map_congr_left fun j _=>by omega
 ·rw [if_neg o2,if_neg o2,if_neg o2]
  by_cases o3:e.op=3
  ·rw [if_pos o3,if_pos o3]
   unfold allNums numsOf
   simp only [List.map_cons,List.map_nil,List.flatten_cons,List.flatten_nil,List.append_nil]
   rw [offsM_getD ls _ _ (by omega)]
   exact List.map_congr_left fun j _=>by omega
  ·rw [if_neg o3,if_neg o3];rfl
def RelD (fr:Nat→(Nat→Value)→List Deferred→Act) (I:Nat→List Deferred→World→Prop):Act→World→Prop:=fun a w=>∃ k f ds,a=fr k f ds∧I k ds w
theorem RelD.intro {fr:Nat→(Nat→Value)→List Deferred→Act} {I:Nat→List Deferred→World→Prop} {a:Act} {w:World} (k:Nat) (h:a=fr k (fun i=>a.tmps.getD i undef) a.defers) (hI:I k a.defers w):RelD fr I a w:=⟨k,_,_,h,hI⟩
theorem someF {fr:(Nat→Value)→Act} {a:Act} (h:a=fr (fun i=>a.tmps.getD i undef)):∃ f,a=fr f:=⟨_,h⟩
theorem allNums_flat (offs:List Int) (f:E→List Span) (l:List E):allNums offs ((l.map f).flatten)=(l.map fun x=>allNums offs (f x)).flatten:=by
 induction l with
 | nil=>rfl
 | cons x l ih=>rw [List.map_cons,List.flatten_cons,allNums_append,ih];rfl
theorem bitsM_eq {ls:List Signal} (hls:∀ x ∈ ls,1 ≤ x.w∧x.w ≤ 64) {e:E} (h:WS ls e):bitsM ls e=ownB ls e (cntB ls e) ++ (e.l.map (bitsM ls)).flatten:=by
 unfold bitsM
 rw [partsE_eq,allNums_append,allNums_flat,ownB_spans hls h]
theorem bits_calls (v:Value) (sv pv cv:Value) (hv:v=.agg #[sv,pv,cv]) (h1 : [sv,pv,cv].all (·.oneCell')=true) (x:E) (s:Value) (hs:s.oneCell'=true) (w:World) :
  Calls Tryz.prog 61 #[v,.agg (x.cells s).toArray] w fun r w'=>∃ Eb Db,Eb=w.heap.size + 1∧Db=w.heap.size∧r=.returned (.func (.func 108) #[] #[.pointer (some ⟨Eb,0,none⟩),.pointer (some ⟨Db,0,none⟩)]) ∧
   w'=(w.alloc (.cells [sv,pv,cv].toArray 26)).alloc (.cells (x.cells s).toArray 44):=by
 subst hv
 go_enter Tryz.func61,Tryz.ntmps61
 go_wp2_with fail
 go_ret
 exact ⟨_,_,rfl,rfl,rfl,rfl⟩
theorem leads_bits1:Leads Tryz.prog 108:=leads_of Tryz.func108 (by kernel_rfl) rfl
def BitsOk (ls:List Signal) (e:E):Prop:=∀ (n0:Nat) (wb w:World) (sv pv cv s:Value) (D Eb:Nat),Sigs wb sv ls→Es wb s e.l→[sv,pv,cv].all (·.oneCell')=true→wb.heap.size ≤ n0→Ext wb w→Blk w D #[sv,pv,cv] 26→Blk w Eb (e.cells s).toArray 44 →
 n0 ≤ w.heap.size→WS ls e→SeqV Tryz.prog n0 108 #[.pointer (some ⟨Eb,0,none⟩),.pointer (some ⟨D,0,none⟩)] ((bitsM ls e).map (Value.int .i64)) w
set_option maxRecDepth 100000 in
set_option maxHeartbeats 4000000 in
theorem bits1_step (ls:List Signal) (hls:∀ x ∈ ls,1 ≤ x.w∧x.w ≤ 64) (hlen:ls.length ≤ 1048576) (e:E) (ih:∀ x ∈ e.l,BitsOk ls x):BitsOk ls e:=by
 intro n0 wb w sv pv cv s D Eb hS hEs h3 hn0 hxb hD hE hnw hws l J W hHW hnW hlW hJ hY hJ0
 have IH:=Lib.hid ih
 have HLS:=Lib.hid hls
 have HLEN:=Lib.hid hlen
 have HS:=Lib.hid hS
 have H3:=Lib.hid h3
 have HWS:=Lib.hid hws
 obtain ⟨sg1,sg2,sg3,lo1,lo2,hi1,hi2,-⟩:=ws_sig hls hws
 obtain ⟨a',b',o',cap',hs',hc1',hc2',hsa,hsr⟩:=hS.open
 obtain ⟨ae,be,oe,cape,hse,hce1,hce2,hea,her⟩:=hEs.open
 subst hs'
 subst hse
 have HSA:=Lib.hid hsa
 have HSR:=Lib.hid hsr
 have HEA:=Lib.hid hea
 have HER:=Lib.hid her
 obtain ⟨pre,hpre0,hpreS,hpreL⟩ : ∃ pre:Nat→List Int,pre 0=ownB ls e (cntB ls e)∧(∀ k (hk:k < e.l.length),pre (k + 1)=pre k ++ bitsM ls e.l[k])∧pre e.l.length=bitsM ls e :=
  ⟨fun k=>ownB ls e (cntB ls e) ++ ((e.l.take k).map (bitsM ls)).flatten,by simp only [List.take_zero,List.map_nil,List.flatten_nil,List.append_nil],fun k hk=>by simp only [take_snoc _ _ hk,List.map_append,List.flatten_append,List.map_cons,List.map_nil,List.flatten_cons,List.flatten_nil,List.append_nil,List.append_assoc],by simp only [List.take_length];rw [bitsM_eq hls hws]⟩
 have hpost:∀ k,k ≤ e.l.length→∃ post,bitsM ls e=pre k ++ post:=by
  have hm:∀ m k,k + m=e.l.length→∃ post,bitsM ls e=pre k ++ post:=by
   intro m
   induction m with
   | zero=>intro k hk;exact ⟨[],by rw [← hpreL,← hk];simp⟩
   | succ m ih =>
    intro k hk
    obtain ⟨post,hp⟩:=ih (k + 1) (by omega)
    exact ⟨_,by rw [hp,hpreS k (by omega),List.append_assoc]⟩
  exact fun k hk=>hm (e.l.length - k) k (by omega)
 have HPL:=Lib.hid hpreL
 have HP0:=Lib.hid hpre0
 have HPS:=Lib.hid hpreS
 have HPO:=Lib.hid hpost
 clear hpre0 hpreS hpreL hpost
 have HY:=Lib.hid hY
 have HJ:=Lib.hid hJ
 have HXW:=Lib.hid (hHW.ext hxb hn0)
 have hDW:=hHW.blk hD (by decide)
 have hEW:=hHW.blk hE (by decide)
 have hX:=ext_alloc W (.cells #[.func (.yield l) #[] #[]] 129)
 have hbY:=Blk.new W #[.func (.yield l) #[] #[]] 129
 have HBY:=Lib.hid hbY
 have HBD:=Lib.hid (hDW.ext hX)
 have HBE:=Lib.hid (hEW.ext hX)
 have HX:=Lib.hid hX
 have HJ1:=Lib.hid (HJ.out.alloc (.cells #[.func (.yield l) #[] #[]] 129) hJ0)
 obtain ⟨ks,hks⟩ : ∃ ks:Nat,e.sig=ks:=⟨e.sig.toNat,by omega⟩
 have HKS:=Lib.hid hks
 have hkl:ks ≤ ls.length:=by omega
 obtain ⟨L0,hL0⟩ : ∃ x,lo0 e=x:=⟨_,rfl⟩
 obtain ⟨H0,hH0⟩ : ∃ x,hi0 ls e=x:=⟨_,rfl⟩
 have HL0:=Lib.hid hL0
 have HH0:=Lib.hid hH0
 rw [hL0] at lo1 lo2
 rw [hH0] at hi1 hi2
 clear ih hls hlen hS h3 hws hsa hsr hea her hEs hY hJ hD hE hbY hDW hEW hX hL0 hH0 hJ0
 refine callsIn_wide.1 (callsIn_of_wp_marks (n:=0) Tryz.func108 rfl trivial ?_);rw [wpIn_wide];simp only [Tryz.ntmps108,List.size_toArray,List.length_cons,List.length_nil,Nat.reduceAdd,Nat.reduceSub,Array.replicate_succ,Array.replicate_zero,List.push_toArray,List.append_toArray,List.nil_append,List.cons_append]
 let hfn:=bodyPost Tryz.prog Tryz.f108
 go_upto_region 1 with fail
 generalize W.alloc _=wY at *
 have g0:=HBE.out.has 0 _ rfl
 go_upto_block 0 with fail
 go_cut [4,5] from 14 to 29 (fun u v wr=>u=.int .i64 L0∧v=.int .i64 H0∧Ext wY wr)
 case first =>
  rename_i cJ cK hcJ hcK
  by_cases o2:e.op=2
  ·have b2:(e.op == 2)=true:=by rw [beq_iff_eq];exact o2
   have HO2:=Lib.hid o2
   have g4:=HBE.out.has 4 _ rfl
   have g5:=HBE.out.has 5 _ rfl
   clear o2
   go_upto_region 4 with fail
   go_quiet (fail)
   refine hcK _ _ (Met.intro (hcJ _ _ ?_))
   (repeat apply Exists.intro)
   refine ⟨?rel,rfl⟩
   exact ⟨by rw [← HL0.out];unfold lo0;rw [if_pos HO2.out],by rw [← HH0.out];unfold hi0;rw [if_pos HO2.out],Ext.drewNB (Below.refl _ _) _⟩
  ·have b2:(e.op == 2)=false:=by rw [beq_eq_false_iff_ne];exact o2
   have HO2:=Lib.hid o2
   clear o2
   by_cases o3:e.op=3
   ·have b3:(e.op == 3)=true:=by rw [beq_iff_eq];exact o3
    have HO3:=Lib.hid o3
    have hkl2:ks < ls.length:=by have:=sg3 o3;omega
    obtain rfl:=HSA.out (by omega)
    have g1:=HBD.out.has 0 _ rfl
    have g3:=HBE.out.has 3 _ rfl
    rw [HKS.out] at g3
    have hgs:=(Sigs.get (HSR.out.mono fun x _ b o h=>SigAt.ext' (HXW.out.trans HX.out) h) hkl2:Has _ b' (o' + ks * 4) ls[ks].cells)
    have g6:=hgs 1 _ rfl
    have hww:=HLS.out _ (List.getElem_mem hkl2)
    have hwe:sigW ls e.sig=ls[ks].w:=by rw [HKS.out];simp [sigW,List.getElem?_eq_getElem hkl2]
    have HWE:=Lib.hid hwe
    have i1:(ks:Int) < (ls.length:Int):=by omega
    clear o3 hwe hgs
    go_wp2_with fail
    go_meet
    exact ⟨by rw [← HL0.out];unfold lo0;rw [if_neg HO2.out],by rw [← HH0.out];unfold hi0;rw [if_neg HO2.out,if_pos HO3.out,HWE.out],Below.refl _ _⟩
   ·have b3:(e.op == 3)=false:=by rw [beq_eq_false_iff_ne];exact o3
    have HO3:=Lib.hid o3
    clear o3
    go_wp2_with fail
    go_meet
    exact ⟨by rw [← HL0.out];unfold lo0;rw [if_neg HO2.out],by rw [← HH0.out];unfold hi0;rw [if_neg HO2.out,if_neg HO3.out],Below.refl _ _⟩
 case rest =>
  obtain ⟨rfl,rfl,hx1⟩:=hcut
  have HX1:=Lib.hid hx1
  have HBE1:=Lib.hid (HBE.out.ext hx1)
  have HBD1:=Lib.hid (HBD.out.ext hx1)
  have g1:=HBD1.out.has 0 _ rfl
  have g3:=HBE1.out.has 3 _ rfl
  rw [HKS.out] at g3
  clear hx1 g0
  go_wp2_with fail
  clear sg3 g1 g3
  go_loopw [4,5,7,36] (fun u v _ i wr=>∃ k:Nat,k ≤ ks∧i=.int .i64 k∧u=.int .i64 (L0 + sumW ls k)∧v=.int .i64 (H0 + sumW ls k)∧Ext wY wr) (fun _ _ _ i _=>ks - (intOf i).toNat)
  case atStart=>exact ⟨0,Nat.zero_le _,rfl,by simp [sumW],by simp [sumW],HX1.out⟩
  case round =>
   obtain ⟨k,hk,rfl,rfl,rfl,hx2⟩:=hrel
   have HX2:=Lib.hid hx2
   clear hx2
   have hsb:=sumW_le ls HLS.out k (by omega)
   by_cases hlt:k < ks
   ·have hkl2:k < ls.length:=by omega
    obtain rfl:=HSA.out (by omega)
    have hgs:=(Sigs.get (HSR.out.mono fun x _ b o h=>SigAt.ext' ((HXW.out.trans HX.out).trans HX2.out) h) hkl2:Has _ b' (o' + k * 4) ls[k].cells)
    have hww:=HLS.out _ (List.getElem_mem hkl2)
    have HSS:=Lib.hid (sumW_succ ls k hkl2)
    have hex:=ext_alloc wr (.cells ls[k].cells.toArray 36)
    have hbx:=Has.alloc wr ls[k].cells 36
    have i1:(k:Int) < (ks:Int):=by omega
    have hl3:sumW ls k ≤ 67108864:=by have:=HLEN.out;omega
    generalize sumW ls k=sk at *
    generalize ls[k]=sgk at *
    go_upto_region 10 with (first | ((with_reducible show Jw (Op.load 36 _));refine wpList_load_has rfl 36 _ rfl rfl (hgs) agg_Signal rfl ?_) | ((with_reducible show Jw (Op.store 36 _ _));refine wpList_store_new rfl 36 _ _ rfl rfl (by first | rfl | simp) rfl agg_Signal (rfl) rfl (rfl) ?_))
    generalize wr.alloc _=w2 at *
    have HX3:=Lib.hid (HX2.out.trans hex)
    have gw:=hbx 1 _ rfl
    clear hex hgs
    have w1:IntKind.i64.wrap (L0 + sk + sgk.w)=L0 + (sk + sgk.w):=by rw [IntKind.wrap_i64];omega
    have w2':IntKind.i64.wrap (H0 + sk + sgk.w)=H0 + (sk + sgk.w):=by rw [IntKind.wrap_i64];omega
    go_quiet (fail)
    go_wp2_with fail
    go_roundw
    case rel=>exact ⟨k + 1,by omega,by go_num,by rw [HSS.out],by rw [HSS.out],HX3.out.drewNB _⟩
    case measure=>simp [intOf];omega
   ·obtain rfl:k=ks:=by omega
    have hl3:sumW ls k ≤ 67108864:=by have:=HLEN.out;omega
    obtain ⟨off,hoff⟩ : ∃ x,sumW ls k=x:=⟨_,rfl⟩
    have HOFF:=Lib.hid hoff
    have hob:0 ≤ off∧off ≤ 67108864:=by omega
    rw [hoff]
    clear hsb hlt hl3 hoff
    obtain ⟨n,hcnt⟩ : ∃ n,cntB ls e=n:=⟨_,rfl⟩
    have HCNT:=Lib.hid hcnt
    have hn:(H0 + off < L0 + off∧n=0) ∨ (n:Int)=H0 - L0 + 1:=by
     have h1:=hcnt
     unfold cntB at h1
     rw [HL0.out,HH0.out] at h1
     omega
    clear hcnt
    have hJ2:=own_ext HJ.out HJ1.out HX2.out
    have HH2:=Lib.hid ((HardV.of_ext HX.out hnW).trans (HardV.of_ext HX2.out (by have:=HX.out.size;omega)))
    have hsz2:W.heap.size < wr.heap.size:=by have:=HBY.out.lt;have:=HX2.out.size;omega
    have HBE2:=Lib.hid (HBE.out.ext HX2.out)
    have HBD2:=Lib.hid (HBD.out.ext HX2.out)
    have HBY2:=Lib.hid (HBY.out.ext HX2.out)
    go_wp2_with fail
    go_loopw [8] (fun v wr=>∃ j:Nat,j ≤ n∧v=.int .i64 (L0 + off + j)∧J ((ownB ls e j).map (Value.int .i64)) wr∧HardV n0 W wr∧W.heap.size < wr.heap.size∧Blk wr Eb (e.cells (.slice ae e.l.length cape)).toArray 44∧Blk wr D #[.slice a' ls.length cap',pv,cv] 26∧Blk wr W.heap.size #[.func (.yield l) #[] #[]] 129) (fun v _=>(L0 + off + n - intOf v).toNat)
    case atStart=>exact ⟨0,Nat.zero_le _,by go_num,hJ2,HH2.out,hsz2,HBE2.out,HBD2.out,HBY2.out⟩
    case round =>
     obtain ⟨j,hj,rfl,hJj,hHj,hsj,hEj,hDj,hYj⟩:=hrel
     have HJJ:=Lib.hid hJj
     have HHJ:=Lib.hid hHj
     have HEJ:=Lib.hid hEj
     have HDJ:=Lib.hid hDj
     have HYJ:=Lib.hid hYj
     clear hJ2 hsz2 hJj hHj hEj hDj hYj
     by_cases hlt:j < n
     ·have hle:(L0 + off + (j:Int)) ≤ H0 + off:=by omega
      have q1:decide (L0 + off + (j:Int) ≤ H0 + off)=true:=decide_eq_true hle
      have y0:wr.cell? ⟨W.heap.size,0,none⟩=some (.func (.yield l) #[] #[]):=by rw [HYJ.out.cell];rfl
      have hsig:(e.sig).toNat=k:=by rw [HKS.out];rfl
      have hown:ownB ls e (j + 1)=ownB ls e j ++ [L0 + off + (j:Int)]:=by rw [ownB_succ,HL0.out,hsig,HOFF.out]
      have HOWN:=Lib.hid hown
      have hpo:∃ post,(bitsM ls e).map (Value.int .i64)=(ownB ls e j).map (Value.int .i64) ++ (Value.int .i64 (L0 + off + (j:Int))) :: post:=by
       obtain ⟨p1,h1⟩:=HPO.out 0 (Nat.zero_le _)
       obtain ⟨p2,h2⟩:=ownB_split ls e j (n - j - 1)
       rw [show j + 1 + (n - j - 1)=n by omega,HL0.out,hsig,HOFF.out] at h2
       rw [HP0.out,HCNT.out,h2] at h1
       exact ⟨_,by rw [h1,List.map_append,List.map_append,List.map_cons,List.append_assoc,List.cons_append]⟩
      have HYY:=Lib.hid (HY.out _ _ wr HJJ.out hpo (by omega))
      clear hle hown hsig hpo
      go_upto_region 15 with fail
      refine wp_region_in ?_
      iterate 2 (refine listIn_op rfl rfl fun K hK=>?_;go_simp;refine hK _ _ ?_;clear hK)
      refine listIn_yield rfl _ _ _ rfl rfl rfl (HYY.out) ?_
      rintro w5 ⟨hJ5,hH5,hK5⟩
      iterate 1 (refine listIn_op rfl rfl fun K hK=>?_;go_simp;refine hK _ _ ?_;clear hK)
      unfold wpListIn
      have hs5:W.heap.size < w5.heap.size:=by have:=hH5.below.size;omega
      have HJ5:=Lib.hid hJ5
      have HH5:=Lib.hid hH5
      clear hJ5 hH5 hK5 y0 q1
      go_wp2_with fail
      go_roundw
      case rel=>exact ⟨j + 1,by omega,by go_num,by rw [HOWN.out,List.map_append];exact HJ5.out,HHJ.out.trans HH5.out,hs5,HH5.out.blk HEJ.out (by decide),HH5.out.blk HDJ.out (by decide),HH5.out.blk HYJ.out (by decide)⟩
      case measure=>simp [intOf];omega
     ·obtain rfl:j=n:=by omega
      have q1:decide (L0 + off + (j:Int) ≤ H0 + off)=false:=decide_eq_false (by omega)
      have g7:=HEJ.out.has 7 _ rfl
      clear hlt
      have hJ3:J ((pre 0).map (Value.int .i64)) wr:=by rw [HP0.out,HCNT.out];exact HJJ.out
      go_wp2_with fail
      clear HP0 HCNT HOFF hn hob HJJ q1
      refine wp_loop (RelD (fun k f ds=>⟨#[.func (.yield l) #[] #[],.pointer (some ⟨Eb,0,Option.none⟩),.pointer (some ⟨D,0,Option.none⟩),.pointer (some ⟨W.heap.size,0,Option.none⟩),f 4,f 5,f 6,f 7,f 8,f 9,f 10,f 11,f 12,f 13,f 14,f 15,f 16,f 17,f 18,f 19,f 20,f 21,f 22,f 23,f 24,f 25,f 26,f 27,f 28,f 29,f 30,f 31,f 32,f 33,f 34,f 35,f 36,f 37,f 38,f 39,f 40,f 41,f 42,f 43,f 44,f 45,f 46,f 47,f 48,f 49,f 50,f 51,f 52,f 53,f 54,f 55,f 56,f 57,f 58,f 59,.slice ae e.l.length cape,.int .i64 e.l.length,.int .i64 (k:Int),f 63,f 64,f 65,f 66,f 67,f 68,f 69,f 70,f 71,f 72,f 73,f 74],ds⟩) (fun k ds wr =>
       k ≤ e.l.length∧J ((pre k).map (Value.int .i64)) wr∧HardV n0 W wr∧Marks W.heap.size ds wr∧Blk wr D #[.slice a' ls.length cap',pv,cv] 26∧Blk wr W.heap.size #[.func (.yield l) #[] #[]] 129∧W.heap.size < wr.heap.size)) (fun a _=>e.l.length - (intOf (a.tmps.getD 62 undef)).toNat)
       (RelD.intro 0 rfl ⟨Nat.zero_le _,hJ3,HHJ.out,Marks.nil _ _,HDJ.out,HYJ.out,hsj⟩) ?_
      clear hJ3 HHJ HDJ HYJ HEJ hsj g7
      rintro a wr ⟨k,f,ds,rfl,hk,hJk,hHk,hMk,hDk,hYk,hsk⟩
      have HJK:=Lib.hid hJk
      have HHK:=Lib.hid hHk
      have HMK:=Lib.hid hMk
      have HYK:=Lib.hid hYk
      have HDK:=Lib.hid hDk
      clear hJk hHk hMk hYk hDk
      have HXK:=Lib.hid (HHK.out.ext HXW.out hn0)
      by_cases hlt:k < e.l.length
      ·obtain ⟨s1,hhas,hes⟩:=Es.get HER.out hlt
       obtain rfl:=HEA.out (by omega)
       obtain ⟨post,hpo⟩:=HPO.out (k + 1) hlt
       have hps:=HPS.out k hlt
       have hih:=IH.out _ (List.getElem_mem hlt)
       have hio:=((WS_iff ls e).1 HWS.out).2 _ (List.getElem_mem hlt)
       generalize e.l[k]=ek at *
       have HPS2:=Lib.hid hps
       have HPO2:=Lib.hid hpo
       have HIH:=Lib.hid hih
       have HIK:=Lib.hid hio
       have HES:=Lib.hid hes
       have HH1:=Lib.hid (hhas.ext HXK.out)
       clear hps hpo hih hio hes hhas
       have hx4:=ext_alloc wr (.cells (ek.cells s1).toArray 44)
       have hb4:=Blk.new wr (ek.cells s1).toArray 44
       have hJ4:=HJ.out.alloc (.cells (ek.cells s1).toArray 44) HJK.out
       have hs4:(wr.alloc (.cells (ek.cells s1).toArray 44)).heap.size=wr.heap.size + 1:=by simp
       have hD4:=HDK.out.ext hx4
       go_upto_region 19 with (first | ((with_reducible show Jw (Op.load 44 _));refine wpList_load_has rfl 44 _ rfl rfl (HH1.out) agg_E rfl ?_) | ((with_reducible show Jw (Op.store 44 _ _));refine wpList_store_new rfl 44 _ _ rfl rfl (by first | rfl | simp) rfl agg_E (rfl) rfl (by simp [HES.out.one,one_int]) ?_))
       generalize wr.alloc _=w4 at *
       go_wp2_with (first | ((with_reducible show Jw (Op.load 26 _));refine wpList_load_has rfl 26 _ rfl rfl (hD4.has) agg_Flat rfl ?_) | ((with_reducible show Jw (Op.load 44 _));refine wpList_load_has rfl 44 _ rfl rfl (hb4.has) agg_E rfl ?_) | (go_at_call 61;refine (bits_calls _ _ _ _ rfl (by simpa using H3.out) ek s1 HES.out.one _).mono ?_;rintro r w6 ⟨E6,D6,hE6e,hD6e,rfl,rfl⟩))
       have hx6:=(ext_alloc w4 (.cells #[.slice a' ls.length cap',pv,cv] 26)).trans (ext_alloc _ (.cells (ek.cells s1).toArray 44))
       have hbD:=(Blk.new w4 #[.slice a' ls.length cap',pv,cv] 26).ext (ext_alloc _ (.cells (ek.cells s1).toArray 44))
       have hbE:=Blk.new (w4.alloc (.cells #[.slice a' ls.length cap',pv,cv] 26)) (ek.cells s1).toArray 44
       have hJ6:=HJ.out.alloc (.cells (ek.cells s1).toArray 44) (HJ.out.alloc (.cells #[.slice a' ls.length cap',pv,cv] 26) hJ4)
       have hs6:((w4.alloc (.cells #[.slice a' ls.length cap',pv,cv] 26)).alloc (.cells (ek.cells s1).toArray 44)).heap.size=w4.heap.size + 2:=by simp
       rw [show (w4.alloc (.cells #[.slice a' ls.length cap',pv,cv] 26)).heap.size=w4.heap.size + 1 by simp] at hbE
       have hM6:=(HMK.out.ext hx4).ext hx6
       have hY6:=(HYK.out.ext hx4).ext hx6
       have hD6:=hD4.ext hx6
       have hH6:=(HHK.out.trans (HardV.of_ext hx4 (by omega))).trans (HardV.of_ext hx6 (by omega))
       rw [hs4] at hE6e hD6e hbE hbD hs6
       subst hE6e hD6e
       generalize (w4.alloc _).alloc _=w6 at *
       have hlt6:∀ M,markOf M ∈ ds→M < w6.heap.size:=fun M hM=>hM6.lt hM
       have HLT6:=Lib.hid hlt6
       have HX6:=Lib.hid (hH6.ext HXW.out hn0)
       have hseq:SeqV Tryz.prog n0 108 #[.pointer (some ⟨wr.heap.size + 1 + 1,0,none⟩),.pointer (some ⟨wr.heap.size + 1,0,none⟩)] ((bitsM ls ek).map (Value.int .i64)) w6:=HIH.out n0 wb w6 (.slice a' ls.length cap') pv cv s1 (wr.heap.size + 1) (wr.heap.size + 1 + 1) HS.out HES.out H3.out hn0 HX6.out hbD hbE (by omega) HIK.out
       have HSEQ:=Lib.hid hseq
       clear hseq HIH HIK
       generalize bitsM ls ek=pk at *
       refine wp_rangeV (n0:=n0) rfl leads_bits1 HSEQ.out rfl (by omega)
        (fun pre' Wx=>J ((pre k).map (Value.int .i64) ++ pre') Wx∧HardV n0 W Wx∧Marks W.heap.size ds Wx∧Blk Wx D #[.slice a' ls.length cap',pv,cv] 26∧Blk Wx W.heap.size #[.func (.yield l) #[] #[]] 129∧W.heap.size < Wx.heap.size)
        (fun s A B row hs hg hr=>⟨HJ.out _ A B row hs.1 hg (fun r e=>⟨by have:=(hr r e).1;omega,(hr r e).2⟩),own_hardV hs.2.1 (by omega) (by have:=hs.2.2.2.2.2;omega) hg hr,own_marks hs.2.2.1 HLT6.out hg hr,own_blk hs.2.2.2.1 hg hr,own_blk hs.2.2.2.2.1 hg hr,own_size hs.2.2.2.2.2 hg⟩)
        ⟨by simpa using hJ6,hH6,hM6,hD6,hY6,by omega⟩
        (fun pre' x aM Wx=>(J ((pre k).map (Value.int .i64) ++ pre') Wx∧HardV n0 W Wx∧Marks W.heap.size ds Wx∧Blk Wx D #[.slice a' ls.length cap',pv,cv] 26∧Blk Wx W.heap.size #[.func (.yield l) #[] #[]] 129∧W.heap.size < Wx.heap.size)∧∃ f:Nat→Value,aM=⟨#[.func (.yield l) #[] #[],.pointer (some ⟨Eb,0,Option.none⟩),.pointer (some ⟨D,0,Option.none⟩),.pointer (some ⟨W.heap.size,0,Option.none⟩),f 4,f 5,f 6,f 7,f 8,f 9,f 10,x,f 12,f 13,f 14,f 15,f 16,f 17,f 18,f 19,f 20,f 21,f 22,f 23,f 24,f 25,f 26,f 27,f 28,f 29,f 30,f 31,f 32,f 33,f 34,f 35,f 36,f 37,f 38,f 39,f 40,f 41,f 42,f 43,f 44,f 45,f 46,f 47,f 48,f 49,f 50,f 51,f 52,f 53,f 54,f 55,f 56,f 57,f 58,f 59,.slice (some ⟨be,oe,Option.none⟩) e.l.length cape,.int .i64 e.l.length,.int .i64 (k:Int),f 63,f 64,f 65,f 66,f 67,f 68,f 69,f 70,f 71,f 72,f 73,f 74],[]⟩)
        (fun pre' x aM s A B row hs hg hr=>⟨⟨HJ.out _ A B row hs.1.1 hg (fun r e=>⟨by have:=(hr r e).1;omega,(hr r e).2⟩),own_hardV hs.1.2.1 (by omega) (by have:=hs.1.2.2.2.2.2;omega) hg hr,own_marks hs.1.2.2.1 HLT6.out hg hr,own_blk hs.1.2.2.2.1 hg hr,own_blk hs.1.2.2.2.2.1 hg hr,own_size hs.1.2.2.2.2.2 hg⟩,hs.2⟩) ?assign ?body ?done
       case assign =>
        rintro l' m pre' x Wx ⟨q1,q2,q3,q4,q5,q6⟩ - hsz
        refine regionIn_of_list (r:=some l') (by kernel_rfl) (by rintro ⟨_,_,h⟩;exact h) ?_
        go_wp2_with fail
        exact ⟨keepsFrom_ext (Below.refl _ _),HardV.refl _ _,⟨q1,q2,q3,q4,q5,q6⟩,someF rfl⟩
       case body =>
        rintro l' m pre' x aM Wx ⟨⟨q1,q2,q3,q4,q5,q6⟩,f,rfl⟩ ⟨post',hxp⟩ hsz
        obtain ⟨post,hpo⟩ : ∃ post,(bitsM ls e).map (Value.int .i64)=((pre k).map (Value.int .i64) ++ pre') ++ x :: post:=⟨post' ++ post.map (Value.int .i64),by rw [HPO2.out,HPS2.out,List.map_append,List.map_append,hxp];simp⟩
        refine wpIn_block ?_
        refine wpIn_seq ?_
        refine regionIn_list (F:=FW (some l')) ?_
        refine listIn_op rfl rfl fun K hK=>?_
        have y0:Wx.cell? ⟨W.heap.size,0,none⟩=some (.func (.yield l) #[] #[]):=by rw [q5.cell];rfl
        go_simp
        refine hK _ _ ?_
        clear hK y0
        refine listIn_op rfl rfl fun K hK=>?_
        go_simp
        refine hK _ _ ?_
        clear hK
        refine listIn_yield rfl _ _ _ rfl rfl rfl (HY.out _ x Wx q1 ⟨post,hpo⟩ (by omega)) ?_
        rintro W3 ⟨hJ3,hH3,hK3⟩
        refine listIn_op rfl rfl fun K hK=>?_
        go_simp
        refine hK _ _ ?_
        clear hK
        unfold wpListIn
        have hres:KeepsFrom w6.heap.size Wx W3∧HardV n0 Wx W3∧(J ((pre k).map (Value.int .i64) ++ (pre' ++ [x])) W3∧HardV n0 W W3∧Marks W.heap.size ds W3∧Blk W3 D #[.slice a' ls.length cap',pv,cv] 26∧Blk W3 W.heap.size #[.func (.yield l) #[] #[]] 129∧W.heap.size < W3.heap.size) :=
         ⟨keepsFrom_up hK3 (by omega),hH3,by simpa using hJ3,q2.trans hH3,q3.keeps hK3,hH3.blk q4 (by decide),hH3.blk q5 (by decide),by have:=hH3.below.size;omega⟩
        have HRES:=Lib.hid hres
        clear hres
        show Code.wpIn _ _ _ _ _ _ _
        refine wpIn_cond_false rfl ?_
        refine wpIn_skip ?_
        exact HRES.out
       case done =>
        rintro M Wx hM ⟨q1,q2,q3,q4,q5,q6⟩ hh hdef
        go_wp2_with fail
        have hq1:J ((pre (k + 1)).map (Value.int .i64)) Wx:=by rw [HPS2.out,List.map_append];exact q1
        exact ⟨RelD.intro (k + 1) rfl ⟨by omega,hq1,q2,q3.cons HLT6.out hM (by omega) hdef,q4,q5,q6⟩,by simp [intOf];omega⟩
      ·obtain rfl:k=e.l.length:=by omega
       go_wp2_with fail
       refine leaves_marks (B:=W.heap.size) (fun _ Wx=>J ((bitsM ls e).map (Value.int .i64)) Wx∧HardV n0 W Wx∧W.heap.size < Wx.heap.size) (fun s A B row hs hg hr=>⟨HJ.out _ A B row hs.1 hg hr,own_hardV hs.2.1 hnW (by have:=hs.2.2;omega) hg hr,own_size hs.2.2 hg⟩) ?_ ds wr HMK.out ⟨by rw [← HPL.out];exact HJK.out,HHK.out,hsk⟩
       rintro Wx ⟨q1,q2,q3⟩
       exact ⟨.tuple #[],by simp [results,Tryz.results108,go_sem],⟨_,rfl⟩,q1,q2⟩
theorem bits1_seq (ls:List Signal) (hls:∀ x ∈ ls,1 ≤ x.w∧x.w ≤ 64) (hlen:ls.length ≤ 1048576) (e:E):BitsOk ls e:=by
 induction e using E.ind with
 | h e ih=>exact bits1_step ls hls hlen e ih
end Go.Proofs.YtemabheegnngdaaGreat
