/- Laws and walks that a claim of this seat leans on: Next, Order, LookM, Mark5, RefL. -/
import Derived.Test.YtaipaccpaljecaaGreatR06
import Derived.Test.YtaipaccpaljecaaGreatR14
import Derived.WalkMore
import Derived.Deep.LoopGhost
import Derived.Test.YtaipaccpaljecaaGreatR13
import Derived.Test.YtaipaccpaljecaaGreatR24
import Derived.Test.YtaipaccpaljecaaGreatR00
set_option maxRecDepth 100000
set_option maxHeartbeats 8000000
set_option linter.all false
namespace Go.Proofs.YtaipaccpaljecaaGreat
open Go.RowKit
/-! ### (graph).next: the least process of wires that can come -/
/-! ### (graph).order -/
theorem info_bool:(Tryz.prog.info? 4).map (fun i=>(i.zero,i.size,i.bytes))=some (some (.bool false),1,1):=by kernel_rfl
/-! ### plain: what is found of a design -/
/-! ### filigreeref11.always -/
def AlwRSaid (d:Flat) (l:List T):Prop:=∀ (ov lv:Value) (w:World),Ints w ov (offsD d)->Ts w lv l ->
 Calls Tryz.prog 72 #[ov,lv] w fun r w'=>∃ u,r=.returned u/\Bools w' u (setB (nB d) (alwM (offsD d) l))/\Ext w w'
def interK (ls:List (List Int)) (k:Nat):List Int:=(ls.headD []).filter fun x=>(ls.take k).all fun m=>m.contains x
theorem interK_one {ls:List (List Int)} {x:List Int} {r:List (List Int)} (h:ls=x::r) (y:Int):y∈interK ls 1↔y∈x:=by
 subst h;simp [interK,List.mem_filter]
theorem interK_succ (ls:List (List Int)) {k:Nat} (hk:k<ls.length) (y:Int):y∈interK ls (k+1)↔y∈interK ls k/\y∈ls[k]:=by
 unfold interK
 rw [take_snoc _ _ hk]
 simp only [List.mem_filter,List.all_append,List.all_cons,List.all_nil,Bool.and_true,Bool.and_eq_true,List.contains_eq_mem,decide_eq_true_eq]
 rw [and_assoc]
theorem interK_full (ls:List (List Int)):interK ls ls.length=metM ls:=by unfold interK metM;rw [List.take_length]
theorem alwM_mem (offs:List Int) (l:List T) (x:Int):x∈alwM offs l↔x∈alwP offs l:=by unfold alwM;rw [setI_mem]
theorem made_row (w:World) (n:Nat) (hn:n<=9223372036854775807):BoolRow w.heap.size (.slice (some ⟨w.heap.size,0,none⟩) n n) (setB n []) (w.alloc (.cells (List.replicate n (Value.bool false)).toArray 4)):=by
 rw [setB_nil]
 exact BoolRow.made (Nat.le_refl _) hn
theorem made_bools {n:Nat}:(madeCells (Value.bool false).cells (n*1))=(List.replicate n (Value.bool false)).toArray:=by rw [Nat.mul_one];exact madeCells_one _ _
theorem alwR_step {d:Flat} (hok:d.ok) (hck:checkM d=0) (l:List T) (hst:∀ t∈l,StD d.signals t) (hnb:sumBy nodesT l<=1048576) (ih1:∀ t∈l,AlwRSaid d t.l) (ih2:∀ t∈l,∀ x∈t.l,AlwRSaid d x.l):AlwRSaid d l:=by
 intro ov lv w hO hL
 have hw:=checkM_w hck
 have hnB:=nBits_le hok hck
 have hob:=offsM_bound d.signals hw hok.signals
 have hnn:nB d<=67108864:=by unfold nB;omega
 have hnBe:sumW d.signals d.signals.length=((nB d:Nat):Int):=by show nBits d=_;unfold nB;omega
 have hlen:=Nat.le_trans (length_le_sumBy nodesT l fun t _=>nodesT_pos t) hnb
 have hsl:=hok.signals
 have hone2:=hO.one
 have HSC:=Jh (fun (t:T) (ht:t∈l) (ho1:t.op=1) (iv:Value) W (hx:Ext w W) (hI:Bools W iv (setB (nB d) [])) =>
  span_calls (nB d) [] (offsD d) (ownS t) iv ov W hI (hO.ext hx) (by omega) (numOk_slice d.signals hw (((StD_iff d.signals t).1 (hst t ht)).1 ho1)) (spanR d.signals hw (slice_span (((StD_iff d.signals t).1 (hst t ht)).1 ho1)) rfl) hob)
 have HST:=Jh (fun (t:T) (ht:t∈l)=>((StD_iff d.signals t).1 (hst t ht)).2.1)
 have HTL:=Jh (fun (t:T) (ht:t∈l)=>(by
  have h1:=le_sumBy nodesT l t ht
  have h2:=nodesT_eq t
  have h3:=length_le_sumBy nodesT t.l fun t _=>nodesT_pos t
  omega:t.l.length<=1048576))
 have IH1:=Jh ih1
 have IH2:=Jh ih2
 have HOV:=Jh hO
 have HTK:=Jh (fun k (h:k<l.length)=>alwP_take (offsD d) l k h)
 have HNE:=Jh hnBe
 obtain ⟨a9,b9,o9,c9,rfl,he1,he2,ha9,hr9⟩:=hO.open
 have hol:(offsD d).length=d.signals.length+1:=offsM_length _ _
 obtain rfl:=ha9 (by omega)
 have hz:=Ints.cell (k:=d.signals.length) hr9 (by omega)
 have hzl:(offsD d)[d.signals.length]'(by omega)=((nB d:Nat):Int):=by
  have:=offsM_last d.signals d.signals.length
  rw [hnBe,List.getElem?_eq_getElem (by show _<(offsD d).length;omega)] at this
  injection this
 rw [hzl] at hz
 rw [hol]
 rw [hol] at he1
 obtain ⟨a,b,o,cap,rfl,hc1,hc2,ha,hr⟩:=hL.open
 have HR:=Jh hr
 have HA:=Jh ha
 rw [hol] at HOV HSC hone2
 clear hw hnB hob hst hnb ih1 ih2 hO hL hr ha hr9 ha9 hzl hnBe
 go_enter Tryz.func72,Tryz.ntmps72
 go_wp2_with ((with_reducible show Jw (Op.makeSlice _ _ _));refine Hid.out ?_)
 refine Jh ?_
 clear hz
 refine wpList_mk rfl _ _ _ rfl (n:=nB d) rfl rfl Tryz.underlying100 info_bool (by omega) (by omega) ?_
 rw [made_bools]
 have hx1:=ext_alloc w (.cells (List.replicate (nB d) (Value.bool false)).toArray 4)
 have hr1:=made_row w (nB d) (by omega)
 generalize w.alloc _=w1 at *
 have HR1:=Jh hr1.cells
 have HX1:=Jh hx1
 clear hr1 hx1
 go_wp2_with fail
 go_loopw [6,7] (fun u i wr=>∃ k:Nat,k<=l.length/\i=.int .i64 k/\Bools wr u (setB (nB d) (alwP (offsD d) (l.take k)))/\Ext w wr) (fun _ i _=>l.length-(intOf i).toNat)
 case atStart=>exact ⟨0,Nat.zero_le _,rfl,by simpa [alwP] using HR1.out,HX1.out⟩
 case round =>
  obtain ⟨k,hk,rfl,hrow,hx⟩:=hrel
  obtain ⟨wo,rfl⟩:∃ wo,wo=wr:=⟨_,rfl⟩
  have HROW:=Jh hrow
  have HXR:=Jh hx
  clear hrow hx
  by_cases hlt:k<l.length
  ·obtain rfl:=HA.out (by omega)
   obtain ⟨s1,s2,hhas,he,ht⟩:=Ts.get HR.out hlt
   have htk:=HTK.out k hlt
   have hi1:=IH1.out _ (List.getElem_mem hlt)
   have hi2:=IH2.out _ (List.getElem_mem hlt)
   have hsc:=HSC.out _ (List.getElem_mem hlt)
   have hst:=HST.out _ (List.getElem_mem hlt)
   have htl:=HTL.out _ (List.getElem_mem hlt)
   generalize l[k]=t at *
   have HTT:=Jh ht
   have HI1:=Jh hi1
   have HI2:=Jh hi2
   have HSC1:=Jh hsc
   have HST1:=Jh hst
   have HTK1:=Jh htk
   have HH1:=Jh (hhas.ext HXR.out)
   have HE1:=he.one
   have HT2:=ht.one
   have HALT:=Jh (alt_eq (offsD d) t)
   clear hhas he ht hi1 hi2 hsc hst htk
   have hx4:=ext_alloc wo (.cells (t.cells s1 s2).toArray 60)
   have hb4:=Blk.new wo (t.cells s1 s2).toArray 60
   go_upto_region 7 with (first | ((with_reducible show Jl 60);refine Jm 60 (HH1.out) agg_T rfl ?_) | ((with_reducible show Js 60);refine wpList_store_new rfl 60 _ _ rfl rfl (by first | rfl | simp) rfl agg_T (rfl) rfl (by simp [HE1,HT2,one_int]) ?_))
   generalize wo.alloc _=w4 at *
   have HB4:=Jh hb4
   have HX4:=Jh hx4
   clear hb4 hx4
   go_wp2_with ((with_reducible show Jw (Op.makeSlice _ _ _));refine Hid.out ?_)
   refine Jh ?_
   refine wpList_mk rfl _ _ _ rfl (n:=nB d) rfl rfl Tryz.underlying100 info_bool (by omega) (by omega) ?_
   rw [made_bools]
   have hx5:=ext_alloc w4 (.cells (List.replicate (nB d) (Value.bool false)).toArray 4)
   have hr5:=made_row w4 (nB d) (by omega)
   generalize w4.alloc _=w5 at *
   have HR5:=Jh hr5.cells
   have HX5:=Jh (HX4.out.trans hx5)
   have HB5:=Jh (HB4.out.ext hx5)
   have HXW:=Jh (HXR.out.trans HX5.out)
   have g0:=HB5.out.has 0 _ rfl
   rw [Nat.zero_add] at g0
   clear hr5 hx5
   go_upto_block 2 with fail
   go_cut [9] from 31 to 74 (fun u wx=>Bools wx u (setB (nB d) (alt (offsD d) t))/\Ext w5 wx)
   case first =>
    by_cases o1:t.op=1
    ·have HP:=Jh (show setB (nB d) ([]++numsOf (offsD d) (ownS t))=setB (nB d) (alt (offsD d) t) by
      rw [HALT.out,if_pos o1]
      refine setB_ext fun x=>?_
      rw [numbersM_set,setI_mem,allNums_one,List.nil_append])
     have HC:=Jh (HSC1.out o1 _ _ HXW.out HR5.out)
     rw [HP.out] at HC
     have g1:=HB5.out.has 1 _ rfl
     have g2:=HB5.out.has 2 _ rfl
     have g3:=HB5.out.has 3 _ rfl
     rw [Nat.zero_add] at g1 g2 g3
     go_wp2_with (first | (go_at_call 96;refine HC.out.mono ?_;rintro r w6 ⟨u6,rfl,hu6,hx6⟩))
     go_meet
     exact ⟨hu6.cells,hx6⟩
    ·by_cases o2:t.op=2\/t.op=3
     ·have hl0:=HST1.out o2
      have HP:=Jh (show setB (nB d) (interK (t.l.map fun x=>alwM (offsD d) x.l) t.l.length)=setB (nB d) (alt (offsD d) t) by
       rw [HALT.out,if_neg o1,if_pos o2,<-interK_full,List.length_map])
      obtain ⟨x0,l0,hl⟩:∃ x l0,t.l=x::l0:=List.exists_cons_of_length_pos hl0
      have HK1:=Jh (show setB (nB d) (alwM (offsD d) (t.l[0]).l)=setB (nB d) (interK (t.l.map fun x=>alwM (offsD d) x.l) 1) from
       setB_ext fun x=>(interK_one (ls:=t.l.map fun x=>alwM (offsD d) x.l) (x:=alwM (offsD d) (t.l[0]).l) (r:=l0.map fun x=>alwM (offsD d) x.l) (by simp [hl]) x).symm)
      obtain ⟨a2,b2,oo2,cap2,rfl,hd1,hd2,ha2,hr2⟩:=HTT.out.open
      obtain rfl:=ha2 hl0
      have HR2:=Jh hr2
      have g5:=HB5.out.has 5 _ rfl
      rw [Nat.zero_add] at g5
      obtain ⟨q1,q2,qh,qe,qt⟩:=Ts.get hr2 hl0
      have HC:=Jh (HI2.out _ (List.getElem_mem hl0) _ q2 w5 (HOV.out.ext HXW.out) (qt.ext HXW.out))
      rw [HK1.out] at HC
      have y5:=qh.ext HXW.out 5 _ rfl
      rw [Nat.zero_mul,Nat.add_zero] at y5
      have hnb2:(t.op==1)=false:=by rw [beq_eq_false_iff_ne];exact o1
      clear hr2 qh qe qt hl x0 l0 ha2
      rcases o2 with o2 | o2
      all_goals (
       go_upto_region 14 with fail
       clear g0 hnb2 o1 o2
       go_upto_region 15 with (first | (go_at_call 72;refine HC.out.mono ?_;rintro r w6 ⟨u6,rfl,hu6,hx6⟩))
       have HU6:=Jh hu6
       have HX6:=Jh hx6
       clear hu6 hx6 y5 g5
       go_wp2_with fail
       go_loopw [9,10] (fun u i wi=>∃ j:Nat,1<=j/\j<=t.l.length/\i=.int .i64 j/\Bools wi u (setB (nB d) (interK (t.l.map fun x=>alwM (offsD d) x.l) j))/\Ext w5 wi) (fun _ i _=>t.l.length-(intOf i).toNat)
       case atStart=>exact ⟨1,Nat.le_refl _,hl0,rfl,HU6.out,HX6.out⟩
       case round =>
        obtain ⟨j,hj1,hj,rfl,hrow,hx⟩:=hrel
        have HROWI:=Jh hrow
        have HXI:=Jh hx
        have g5:=(HB5.out.ext hx).has 5 _ rfl
        rw [Nat.zero_add] at g5
        clear hrow hx
        by_cases hjl:j<t.l.length
        ·obtain ⟨q1,q2,qh,qe,qt⟩:=Ts.get HR2.out hjl
         have HC:=Jh (HI2.out _ (List.getElem_mem hjl) _ q2 wr (HOV.out.ext (HXW.out.trans HXI.out)) (qt.ext (HXW.out.trans HXI.out)))
         have HIK:=Jh (fun (y:Int)=>interK_succ (t.l.map fun x=>alwM (offsD d) x.l) (k:=j) (by simpa using hjl) y)
         simp only [List.getElem_map] at HIK
         have y5:=qh.ext (HXW.out.trans HXI.out) 5 _ rfl
         generalize t.l[j]=x at *
         have HBO:=Jh (fun W u (hx:Ext wr W) (hu:Bools W u (setB (nB d) (alwM (offsD d) x.l)))=>both_calls11 (nB d) _ _ (interK (t.l.map fun x=>alwM (offsD d) x.l) (j+1)) _ u W (HROWI.out.mono fun x _ b o h=>Has.ext h hx) hu (by omega)
          (fun q hq=>by rw [<-Bool.decide_and];exact decide_eq_decide.2 (HIK.out (q:Int))))
         clear qh qe qt
         go_wp2_with (first | (go_at_call 72;refine HC.out.mono ?_;rintro r w7 ⟨u7,rfl,hu7,hx7⟩) | (go_at_call 98;refine (HBO.out _ _ hx7 hu7).mono ?_;rintro r w8 ⟨u8,rfl,hu8,hx8⟩))
         go_roundw
         case rel=>exact ⟨j+1,by omega,hjl,by go_num,hu8.cells,HXI.out.trans (hx7.trans hx8)⟩
         case measure=>simp [intOf];omega
        ·obtain rfl:j=t.l.length:=by omega
         rw [HP.out] at HROWI
         go_wp2_with fail
         go_meet
         exact ⟨HROWI.out,HXI.out⟩)
     ·have b1:(t.op==1)=false:=by rw [beq_eq_false_iff_ne];exact o1
      have b2:(t.op==2)=false:=by rw [beq_eq_false_iff_ne];omega
      have b3:(t.op==3)=false:=by rw [beq_eq_false_iff_ne];omega
      have HP:=Jh (show alwM (offsD d) t.l=alt (offsD d) t by rw [HALT.out,if_neg o1,if_neg o2])
      have HC:=Jh (HI1.out _ s2 w5 (HOV.out.ext HXW.out) (HTT.out.ext HXW.out))
      rw [HP.out] at HC
      have g5:=HB5.out.has 5 _ rfl
      rw [Nat.zero_add] at g5
      clear o1 o2
      go_wp2_with (first | (go_at_call 72;refine HC.out.mono ?_;rintro r w6 ⟨u6,rfl,hu6,hx6⟩))
      go_meet
      exact ⟨hu6,hx6⟩
   case rest =>
    obtain ⟨hu,hxc⟩:=hcut
    have HXC:=Jh (HXW.out.trans hxc)
    have HEI:=Jh (either_calls11 (nB d) _ _ (alwP (offsD d) (l.take (k+1))) _ _ _ (HROW.out.mono fun x _ b o h=>Has.ext h (HX5.out.trans hxc)) hu (by omega) (fun q hq=>by
     rw [HTK1.out,<-Bool.decide_or];exact decide_eq_decide.2 List.mem_append))
    clear g0 hu hxc
    go_wp2_with (first | (go_at_call 99;refine HEI.out.mono ?_;rintro r w8 ⟨u8,rfl,hu8,hx8⟩))
    go_roundw
    case rel=>exact ⟨k+1,hlt,by go_num,hu8.cells,HXC.out.trans hx8⟩
    case measure=>simp [intOf];omega
  ·obtain rfl:k=l.length:=by omega
   rw [List.take_length] at HROW
   have HP:=Jh (show setB (nB d) (alwP (offsD d) l)=setB (nB d) (alwM (offsD d) l) from setB_ext fun x=>(alwM_mem _ _ x).symm)
   rw [HP.out] at HROW
   go_wp2_with fail
   go_ret
   exact ⟨_,rfl,HROW.out,HXR.out⟩
theorem alwR_calls {d:Flat} (hok:d.ok) (hck:checkM d=0) (l:List T) (hst:∀ t∈l,StD d.signals t) (hnb:sumBy nodesT l<=1048576):AlwRSaid d l:=by
 have key:∀ t:T,StD d.signals t->nodesT t<=1048576->AlwRSaid d t.l/\∀ x∈t.l,AlwRSaid d x.l:=by
  intro t
  induction t using T.ind with
  | h t ih =>
   intro h1 h2
   have h3:=((StD_iff d.signals t).1 h1).2.2.2
   have h4:=nodesT_eq t
   have ih':∀ x∈t.l,AlwRSaid d x.l/\∀ y∈x.l,AlwRSaid d y.l:=fun x hx=>ih x hx (h3 x hx) (by have:=le_sumBy nodesT t.l x hx;omega)
   exact ⟨alwR_step hok hck t.l h3 (by omega) (fun x hx=>(ih' x hx).1) (fun x hx=>(ih' x hx).2),fun x hx=>(ih' x hx).1⟩
 exact alwR_step hok hck l hst hnb (fun t ht=>(key t (hst t ht) (by have:=le_sumBy nodesT l t ht;omega)).1) (fun t ht=>(key t (hst t ht) (by have:=le_sumBy nodesT l t ht;omega)).2)
/-! ### the document's answer for layer 9, in plain words -/
def partsR (op:Int) (len:Nat):Bool :=
 if op=1\/op=2 then decide (len=0) else if op=3\/op=4\/op=8 then decide (len=1) else if op=5 then decide (len=2) else if op=6 then decide (len=3) else if op=7 then decide (1<=len) else false
def fieldsR (ls:List Signal) (op w v sig hi lo n:Int):Bool :=
 if (op≠1/\v≠0)\/(¬(op=2\/op=3)/\sig≠0)\/(op≠2/\(hi≠0\/lo≠0))\/(op≠4/\op≠5/\op≠8/\n≠0) then false
 else if op=1 then decide (0<=w)&&decide (w<=64)&&(decide (w=0)||holds w v)
 else if op=2 then slice ls sig hi lo
 else if op=3 then decide (0<=sig)&&decide (sig<ls.length)
 else if op=4 then decide (1<=n)&&decide (n<=6)
 else if op=5 then decide (11<=n)&&decide (n<=26)
 else if op=8 then decide (31<=n)&&decide (n<=33)&&decide (1<=w)&&decide (w<=64)
 else true
theorem shape0_parts (ls:List Signal) (op w v sig hi lo n:Int) (len:Nat):shape0 ls op w v sig hi lo n len=(partsR op len&&fieldsR ls op w v sig hi lo n):=by
 unfold shape0 partsR fieldsR
 generalize holds w v=hv
 generalize slice ls sig hi lo=sv
 by_cases h1:op=1
 ·subst h1;rw [Bool.eq_iff_iff];cases hv<;>simp<;>(try omega)
 by_cases h2:op=2
 ·subst h2;rw [Bool.eq_iff_iff];cases sv<;>simp<;>(try omega)
 by_cases h3:op=3
 ·subst h3;rw [Bool.eq_iff_iff];simp<;>(try omega)
 by_cases h4:op=4
 ·subst h4;rw [Bool.eq_iff_iff];simp<;>(try omega)
 by_cases h5:op=5
 ·subst h5;rw [Bool.eq_iff_iff];simp<;>(try omega)
 by_cases h6:op=6
 ·subst h6;rw [Bool.eq_iff_iff];simp<;>(try omega)
 by_cases h7:op=7
 ·subst h7;rw [Bool.eq_iff_iff];simp<;>(try omega)
 by_cases h8:op=8
 ·subst h8;rw [Bool.eq_iff_iff];simp<;>(try omega)
 simp [h1,h2,h3,h4,h5,h6,h7,h8]
/-! ### signals -/
def sigNum (x:Signal):Bool:=decide (1<=x.w)&&decide (x.w<=64)&&decide (1<=x.kind)&&decide (x.kind<=4)&&(decide (x.kind=4)||decide (x.init=0))
theorem sigOk_eq (seen:List (List UInt8)) (x:Signal):sigOk seen x=(!(seen.contains x.name.data.toList)&&sigNum x):=by
 unfold sigOk sigNum;simp only [Bool.and_assoc]
theorem sigsOk_iff (ls:List Signal):∀ seen,sigsOk seen ls=true↔∀ k (h:k<ls.length),(ls[k].name.data.toList ∉ seen)/\sigNum ls[k]=true/\∀ j (hj:j<k),ls[j].name.data.toList≠ls[k].name.data.toList:=by
 induction ls with
 | nil=>intro seen;simp [sigsOk]
 | cons x l ih =>
  intro seen
  rw [sigsOk,sigOk_eq,Bool.and_eq_true,Bool.and_eq_true,ih]
  simp only [Bool.not_eq_true',List.contains_eq_mem,decide_eq_false_iff_not,List.mem_cons,not_or]
  constructor
  ·rintro ⟨⟨h1,h2⟩,h3⟩ k hk
   cases k with
   | zero=>exact ⟨h1,h2,fun j hj=>absurd hj (by omega)⟩
   | succ k =>
    obtain ⟨⟨g0,g1⟩,g2,g3⟩:=h3 k (by simpa using hk)
    refine ⟨g1,g2,fun j hj=>?_⟩
    cases j with
    | zero=>simp only [Jb,Jc];exact fun h=>g0 h.symm
    | succ j=>simpa using g3 j (by omega)
  ·intro h
   have h0:=h 0 (by simp)
   refine ⟨⟨h0.1,h0.2.1⟩,fun k hk=>?_⟩
   obtain ⟨g1,g2,g3⟩:=h (k+1) (by simpa using hk)
   refine ⟨⟨?_,g1⟩,g2,fun j hj=>?_⟩
   ·have:=g3 0 (by omega)
    simp only [Jb,Jc] at this
    exact fun h=>this h.symm
   ·simpa using g3 (j+1) (by omega)
/-! ### how many bits -/
def bits5 (l:List Signal):Nat:=sumBy (fun s=>(min (max s.w 0) 5000).toNat) l
theorem bits5_iff (l:List Signal):∀ a:Nat,a+bits5 l<=4096↔a+bitsN l<=4096:=by
 unfold bits5 bitsN
 induction l with
 | nil=>intro a;simp [sumBy]
 | cons x l ih =>
  intro a
  simp only [sumBy]
  by_cases h:x.w<=4097
  ·have e:(min (max x.w 0) 5000).toNat=(max 0 (min x.w 4097)).toNat:=by omega
   rw [e,<-Nat.add_assoc,<-Nat.add_assoc]
   exact ih _
  ·omega
theorem bits5_le (l:List Signal):bits5 l<=5000*l.length:=by
 unfold bits5
 induction l with
 | nil=>simp [sumBy]
 | cons x l ih=>simp only [sumBy,List.length_cons];omega
/-! ### expressions, sized -/
theorem sizeE_bit (e:E):sizeE e (-1)=if 1<own e then .error 91 else sizeE e 1:=by
 rw [sizeE_eq,sizeE_eq e 1];by_cases h:1<own e<;>simp [h]
def underM (x:E) (ws:List Int):Except Int E:=match sizeE.sizeL x.l ws with | .error f=>.error f | .ok l'=>.ok ⟨x.op,x.w,x.v,x.sig,x.hi,x.lo,x.n,l'⟩
def unaryM (x:E) (w:Int):Except Int E:=if x.n<=2 then underM x [w] else if w≠1 then .error 90 else if x.n=6 then underM x [-1] else underM x [0]
def binaryM (x:E) (w:Int):Except Int E :=
 if x.n<=16 then underM x [w,w] else if x.n<=18 then underM x [w,0] else if w≠1 then .error 90 else if 25<=x.n then underM x [-1,-1] else underM x [told (own.fst x.l) 32,told (own.fst x.l) 32]
def extM (e:E) (w2:Int):Except Int E :=
 if e.w≠w2 then .error 90
 else match underM ⟨e.op,w2,e.v,e.sig,e.hi,e.lo,e.n,e.l⟩ [0] with
  | .error f=>.error f
  | .ok y=>if (e.n≠33/\w2<sizeE.hdW y.l)\/(e.n=33/\sizeE.hdW y.l<w2) then .error 90 else .ok y
def sizedM (e:E) (w2:Int):Except Int E :=
 if e.op=1 then (if e.w≠0/\e.w≠w2 then .error 90 else if e.w=0/\holds w2 e.v=false then .error 92 else .ok ⟨e.op,w2,e.v,e.sig,e.hi,e.lo,e.n,e.l⟩)
 else if e.op=2\/e.op=3 then (if own e≠w2 then .error 90 else underM ⟨e.op,w2,e.v,e.sig,e.hi,e.lo,e.n,e.l⟩ [0])
 else if e.op=4 then unaryM ⟨e.op,w2,e.v,e.sig,e.hi,e.lo,e.n,e.l⟩ w2
 else if e.op=5 then binaryM ⟨e.op,w2,e.v,e.sig,e.hi,e.lo,e.n,e.l⟩ w2
 else if e.op=6 then underM ⟨e.op,w2,e.v,e.sig,e.hi,e.lo,e.n,e.l⟩ [-1,w2,w2]
 else if e.op=7 then (if own e=0\/own e≠w2\/64<own e then .error 90 else underM ⟨e.op,w2,e.v,e.sig,e.hi,e.lo,e.n,e.l⟩ (List.replicate e.l.length 0))
 else extM e w2
theorem shape_inv {ls:List Signal} {e:E} (h:shape ls e=true) :
  (e.op=1/\e.l=[]/\0<=e.w/\e.w<=64/\e.sig=0/\e.hi=0/\e.lo=0/\e.n=0)\/(e.op=2/\e.l=[]/\slice ls e.sig e.hi e.lo=true)\/(e.op=3/\e.l.length=1)\/(e.op=4/\e.l.length=1/\1<=e.n/\e.n<=6) \/
  (e.op=5/\e.l.length=2/\11<=e.n/\e.n<=26)\/(e.op=6/\e.l.length=3)\/(e.op=7/\0<e.l.length)\/(e.op=8/\e.l.length=1/\31<=e.n/\e.n<=33/\1<=e.w/\e.w<=64):=by
 rw [shape_eq,Bool.and_eq_true] at h
 have h0:=h.1
 unfold shape0 at h0
 repeat' split at h0
 all_goals try simp only [Bool.and_eq_true,decide_eq_true_eq] at h0
 ·exact .inl ⟨by assumption,List.eq_nil_of_length_eq_zero (by omega),by omega,by omega,by omega,by omega,by omega,by omega⟩
 ·exact .inr (.inl ⟨by assumption,List.eq_nil_of_length_eq_zero (by omega),h0.1.2⟩)
 ·exact .inr (.inr (.inl ⟨by assumption,by omega⟩))
 ·exact .inr (.inr (.inr (.inl ⟨by assumption,by omega,by omega,by omega⟩)))
 ·exact .inr (.inr (.inr (.inr (.inl ⟨by assumption,by omega,by omega,by omega⟩))))
 ·exact .inr (.inr (.inr (.inr (.inr (.inl ⟨by assumption,by omega⟩)))))
 ·exact .inr (.inr (.inr (.inr (.inr (.inr (.inl ⟨by assumption,by omega⟩))))))
 ·exact .inr (.inr (.inr (.inr (.inr (.inr (.inr ⟨by assumption,by omega,by omega,by omega,by omega,by omega⟩))))))
 ·cases h0
theorem sizeE_ref {ls:List Signal} (e:E) (w:Int) (hw:0<=w) (hs:shape ls e=true):sizeE e w=sizedM e (told w (told (own e) 32)):=by
 rw [sizeE_eq,if_neg (by omega),if_neg (by omega:¬ w = -1)]
 generalize hw2:told w (told (own e) 32)=w2
 have ho:=own_eq e
 obtain ⟨op,ew,v,sig,hi,lo,n,l⟩:=e
 rcases shape_inv hs with h | h | h | h | h | h | h | h<;>simp only at h ho ⊢
 ·obtain ⟨rfl,rfl,h3,h4,rfl,rfl,rfl,rfl⟩:=h
  by_cases h0:ew=0
  ·subst h0
   cases hh:holds w2 v<;>simp [sizedM,hh]
  ·simp only [sizedM,wantedL,ho]
   by_cases h5:ew=w2
   ·subst h5;simp [h0,sizeE.sizeL]
   ·simp [h0,h5]
 ·obtain ⟨rfl,rfl,h3⟩:=h
  simp only [sizedM,wantedL,underM]
  by_cases h5:own ⟨2,ew,v,sig,hi,lo,n,[]⟩=w2<;>simp [h5,sizeE.sizeL]
 ·obtain ⟨rfl,h2⟩:=h
  simp only [sizedM,wantedL,underM]
  by_cases h5:own ⟨3,ew,v,sig,hi,lo,n,l⟩=w2
  ·simp [h5,h2]
   cases sizeE.sizeL l [0]<;>first | rfl | simp
  ·simp [h5]
 ·obtain ⟨rfl,h2,h3,h4⟩:=h
  have hw4:wantedL ⟨4,ew,v,sig,hi,lo,n,l⟩ w2=(if n<=2 then some [w2] else if w2≠1 then none else if n=6 then some [-1] else some [0]):=by
   unfold wantedL
   simp only [h2]
   repeat' split
   all_goals first | rfl | (exfalso;omega) | (exfalso;simp_all;done) | (exfalso;simp_all;omega)
  rw [hw4]
  by_cases h5:n<=2
  ·simp [sizedM,unaryM,underM,h5];cases sizeE.sizeL l [w2]<;>first | rfl | simp
  ·by_cases h7:w2=1
   ·by_cases h6:n=6
    ·simp [sizedM,unaryM,underM,h6,h7];cases sizeE.sizeL l [-1]<;>first | rfl | simp
    ·simp [sizedM,unaryM,underM,h5,h6,h7];cases sizeE.sizeL l [0]<;>first | rfl | simp
   ·simp [sizedM,unaryM,underM,h5,h7]
 ·obtain ⟨rfl,h2,h3,h4⟩:=h
  have hw5:wantedL ⟨5,ew,v,sig,hi,lo,n,l⟩ w2=(if n<=16 then some [w2,w2] else if n<=18 then some [w2,0] else if w2≠1 then none else if 25<=n then some [-1,-1] else some [told (own.fst l) 32,told (own.fst l) 32]):=by
   unfold wantedL
   simp only [h2]
   repeat' split
   all_goals first | rfl | (exfalso;omega) | (exfalso;simp_all;done) | (exfalso;simp_all;omega)
  rw [hw5]
  by_cases h5:n<=16
  ·simp [sizedM,binaryM,underM,h5];cases sizeE.sizeL l [w2,w2]<;>first | rfl | simp
  ·by_cases h6:n<=18
   ·simp [sizedM,binaryM,underM,h5,h6];cases sizeE.sizeL l [w2,0]<;>first | rfl | simp
   ·by_cases h8:w2=1
    ·by_cases h7:25<=n
     ·simp [sizedM,binaryM,underM,h5,h6,h7,h8];cases sizeE.sizeL l [-1,-1]<;>first | rfl | simp
     ·simp [sizedM,binaryM,underM,h5,h6,h7,h8];cases sizeE.sizeL l _<;>first | rfl | simp
    ·simp [sizedM,binaryM,underM,h5,h6,h8]
 ·obtain ⟨rfl,h2⟩:=h
  simp only [sizedM,wantedL,underM,h2]
  simp [List.replicate]
  cases sizeE.sizeL l [-1,w2,w2]<;>first | rfl | simp
 ·obtain ⟨rfl,h2⟩:=h
  simp only [sizedM,wantedL,underM]
  by_cases h5:own ⟨7,ew,v,sig,hi,lo,n,l⟩=0\/own ⟨7,ew,v,sig,hi,lo,n,l⟩≠w2\/64<own ⟨7,ew,v,sig,hi,lo,n,l⟩
  ·simp [h5]
  ·simp [h5]
   cases sizeE.sizeL l _<;>first | rfl | simp
 ·obtain ⟨rfl,h2,h3,h4,h5,h6⟩:=h
  simp only [sizedM,wantedL,extM,underM,ho,h2]
  by_cases h7:ew=w2
  ·subst h7
   simp
   cases sizeE.sizeL l [0] with
   | error f=>simp
   | ok y =>
    simp only
    by_cases hc:n=33
    ·subst hc;simp
    ·simp [hc]
  ·simp [h7]
/-! ### statements, sized: the first error stays -/
theorem accum_append {α β σ:Type} (f:σ->α->β × σ) (l r:List α):∀ s,accum f s (l++r)=((accum f s l).1++(accum f (accum f s l).2 r).1,(accum f (accum f s l).2 r).2):=by
 induction l with
 | nil=>intro s;rfl
 | cons y l ih=>intro s;simp only [List.cons_append,accum,ih]
theorem accum_stays {α β:Type} (f:Int->α->β × Int) (l:List α) (hf:∀ x∈l,∀ s,s≠0->(f s x).2=s) (s:Int) (hs:s≠0):(accum f s l).2=s:=by
 induction l with
 | nil=>rfl
 | cons x l ih =>
  simp only [accum]
  rw [hf x (by simp) s hs]
  exact ih fun y hy=>hf y (by simp [hy])
theorem accum_stop {α β:Type} (f:Int->α->β × Int) (l:List α) (hf:∀ x∈l,∀ s,s≠0->(f s x).2=s) (s:Int) (k:Nat) (h:(accum f s (l.take k)).2≠0):(accum f s l).2=(accum f s (l.take k)).2:=by
 have e:=accum_append f (l.take k) (l.drop k) s
 rw [List.take_append_drop] at e
 rw [e]
 exact accum_stays f _ (fun x hx=>hf x (List.mem_of_mem_drop hx)) _ h
theorem szE_err (e:E) (w s:Int) (h:s≠0):(szE s e w).2=s:=by unfold szE;rw [if_pos h]
theorem szEs_err (w s:Int) (l:List E) (h:s≠0):(szEs s w l).2=s:=accum_stays _ l (fun x _ s h=>szE_err x w s h) s h
theorem szT_err (ls:List Signal) (ck:Bool) (t:T):∀ lab s:Int,s≠0->(szT ls ck t lab s).2=s:=by
 induction t using T.ind with
 | h t ih =>
  intro lab s h
  rw [szT_eq]
  have h0:szErr0 ls ck t s=s:=by unfold szErr0;rw [if_neg (fun h'=>h h'.2.1)]
  rw [h0,szEs_err _ _ _ h]
  exact accum_stays _ _ (fun x hx s h=>ih x hx _ s h) s h
theorem szTL_err (ls:List Signal) (ck:Bool) (l:List T) (lab s:Int) (h:s≠0):(szTL ls ck lab s l).2=s:=accum_stays _ l (fun x _ s h=>szT_err ls ck x lab s h) s h
theorem szTL_stop (ls:List Signal) (ck:Bool) (l:List T) (lab s:Int) (k:Nat) (h:(szTL ls ck lab s (l.take k)).2≠0):(szTL ls ck lab s l).2=(szTL ls ck lab s (l.take k)).2 :=
 accum_stop _ l (fun x _ s h=>szT_err ls ck x lab s h) s k h
theorem szEs_stop (w s:Int) (l:List E) (k:Nat) (h:(szEs s w (l.take k)).2≠0):(szEs s w l).2=(szEs s w (l.take k)).2:=accum_stop _ l (fun x _ s h=>szE_err x w s h) s k h
theorem szPs_stop (ls:List Signal) (s:Int) (l:List Proc) (k:Nat) (h:(szPs ls s (l.take k)).2≠0):(szPs ls s l).2=(szPs ls s (l.take k)).2 :=
 accum_stop (fun s (p:Proc)=>((⟨p.clocked,(szTL ls p.clocked 0 s p.l).1⟩:Proc),(szTL ls p.clocked 0 s p.l).2)) l (fun x _ s h=>szTL_err ls x.clocked x.l 0 s h) s k h
theorem szCs_err (l:List Chk) (s:Int) (h:s≠0):(szCs s l).2=s:=accum_stays (fun s (c:Chk)=>((⟨c.name,(szE s c.e (-1)).1⟩:Chk),(szE s c.e (-1)).2)) l (fun x _ s h=>szE_err x.e (-1) s h) s h
theorem szCs_stop (s:Int) (l:List Chk) (k:Nat) (h:(szCs s (l.take k)).2≠0):(szCs s l).2=(szCs s (l.take k)).2:=accum_stop (fun s (c:Chk)=>((⟨c.name,(szE s c.e (-1)).1⟩:Chk),(szE s c.e (-1)).2)) l (fun x _ s h=>szE_err x.e (-1) s h) s k h
theorem accum_congr {α β σ:Type} (f g:σ->α->β × σ) (l:List α) (h:∀ x∈l,∀ s,f s x=g s x):∀ s,accum f s l=accum g s l:=by
 induction l with
 | nil=>intro s;rfl
 | cons x l ih=>intro s;simp only [accum,h x (by simp),ih (fun y hy=>h y (by simp [hy]))]
theorem szT_lab (ls:List Signal) (ck:Bool) (t:T):shapeT ls t=true->∀ a b s:Int,szT ls ck t a s=szT ls ck t b s:=by
 induction t using T.ind with
 | h t ih =>
  intro ht a b s
  have hl:∀ l:List T,(∀ x∈l,x∈t.l)->l.all (shapeT ls)=true->∀ s,szTL ls ck a s l=szTL ls ck b s l:=by
   intro l hm ha s
   exact accum_congr _ _ _ (fun x hx s=>ih x (hm x hx) (List.all_eq_true.1 ha x hx) a b s) s
  rw [szT_eq,szT_eq]
  rw [shapeT_eq] at ht
  split at ht
  ·cases ht
  ·split at ht
   ·rename_i h3
    have hw:szW t a=szW t b:=by unfold szW;rw [if_neg (by omega),if_neg (by omega),if_pos h3,if_neg (by omega),if_neg (by omega),if_pos h3]
    rw [if_pos h3,if_pos h3,hw]
   ·split at ht
    ·rename_i h3 h1
     have hw:szW t a=szW t b:=by unfold szW;rw [if_pos h1,if_pos h1]
     simp only [Bool.and_eq_true,decide_eq_true_eq] at ht
     have hn:t.l=[]:=List.eq_nil_of_length_eq_zero ht.1.2
     rw [if_neg h3,if_neg h3,hw,hn];rfl
    ·split at ht
     ·rename_i h3 h1 h2
      have hw:szW t a=szW t b:=by unfold szW;rw [if_neg h1,if_pos h2,if_neg h1,if_pos h2]
      rw [Bool.and_eq_true] at ht
      rw [if_neg h3,if_neg h3,hw,hl t.l (fun _ h=>h) ht.2]
     ·split at ht
      ·rename_i h3 h1 h2 h5
       simp only [Bool.and_eq_true,decide_eq_true_eq] at ht
       have hn:t.e=[]:=List.eq_nil_of_length_eq_zero ht.1
       have e0:∀ w s,szEs s w []=([],s):=fun _ _=>rfl
       rw [if_neg h3,if_neg h3,hn,e0,e0,hl t.l (fun _ h=>h) ht.2]
      ·cases ht
theorem szTL_lab {ls:List Signal} {ck:Bool} {l:List T} (h:l.all (shapeT ls)=true) (a b s:Int):szTL ls ck a s l=szTL ls ck b s l :=
 accum_congr _ _ _ (fun x hx s=>szT_lab ls ck x (List.all_eq_true.1 h x hx) a b s) s
end Go.Proofs.YtaipaccpaljecaaGreat
