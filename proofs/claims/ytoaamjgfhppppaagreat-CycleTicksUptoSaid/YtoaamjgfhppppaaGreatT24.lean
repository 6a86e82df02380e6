/- Laws and walks that a claim of this seat leans on: Play1, Play2, Play3, Play4. -/
import Derived.Test.YtoaamjgfhppppaaGreatT23
import Derived.Test.YtoaamjgfhppppaaGreatT20
import Derived.Test.YtoaamjgfhppppaaGreatT00
set_option maxRecDepth 100000
set_option maxHeartbeats 8000000
set_option linter.all false
namespace Go.Proofs.YtoaamjgfhppppaaGreat
open Go.RowKit
abbrev plCells (sv pv cv wasv nv:Value) (ck:Bool):List Value:=[sv,pv,cv,wasv,nv,.bool ck]
theorem plVal_calls (d:Flat) (hok:d.ok) (hc:checkM d=0) (sv pv cv wasv nv:Value) (was v:List Nat) (ck:Bool) (P:Nat) (e:E) (cs:List Value) (w:World) (hF:FlatV w (.agg #[sv,pv,cv]) d) (hw:Us w wasv was) (hn:Us w nv v) (hvw:Val2 d.signals was) (hvv:Val2 d.signals v)
  (hB:Blk w P (plCells sv pv cv wasv nv ck).toArray 81) (hV:VE w cs e) (hws:WS d.signals e/\e.wf/\nodes e<=65536/\deep e<=64) :
  Calls Tryz.prog 104 #[.pointer (some ⟨P,0,none⟩),.agg cs.toArray] w fun r w'=>r=.returned (.int .u64 ((evM (if ck then was else v) e:Nat):Int))/\Ext w w':=by
 have hls:∀ x∈d.signals,x.w<=64:=fun x hx=>(checkM_w hc x hx).2
 have H1:=Jh (fun W (h:Ext w W)=>Eval_calls d _ was wasv e cs W (hF.ext h) hok (hw.ext h) (val2_us64 hls hvw) (hV.ext h) hws.2.1 (by omega))
 have H2:=Jh (fun W (h:Ext w W)=>Eval_calls d _ v nv e cs W (hF.ext h) hok (hn.ext h) (val2_us64 hls hvv) (hV.ext h) hws.2.1 (by omega))
 rw [evalM_of hc hvw hws.1 hws.2.2.1 hws.2.2.2] at H1
 rw [evalM_of hc hvv hws.1 hws.2.2.1 hws.2.2.2] at H2
 have h8:cs.length=8:=by obtain ⟨s,rfl,-⟩:=hV;rfl
 have hX:=ext_alloc w (.cells cs.toArray 72)
 have hE:=Blk.new w cs.toArray 72
 have hP:=hB.ext hX
 have hs3:=hF
 obtain ⟨s',p',c',he,-⟩:=hs3
 clear hF hw hn hvw hvv hV hws hls hok hc hB he
 obtain ⟨r1,hr1⟩:∃ r,evM was e=r:=⟨_,rfl⟩
 obtain ⟨r2,hr2⟩:∃ r,evM v e=r:=⟨_,rfl⟩
 obtain ⟨rr,hrr⟩:∃ r,evM (if ck then was else v) e=r:=⟨_,rfl⟩
 rw [hr1] at H1
 rw [hr2] at H2
 rw [hrr]
 have HRR:=Jh hrr
 have HR1:=Jh hr1
 have HR2:=Jh hr2
 clear hrr hr1 hr2
 go_enter Tryz.func104,Tryz.ntmps104
 go_upto_region 1 with fail
 generalize w.alloc _=w0 at *
 have HX:=Jh hX
 have HE:=Jh hE
 have HP:=Jh hP
 have y4:=hP.has 4 _ rfl
 have y5:=hP.has 5 _ rfl
 have y3:=hP.has 3 _ rfl
 clear hX hE hP
 cases ck
 ·go_upto_region 4 with fail
  clear y3 y4 y5
  obtain rfl:r2=rr:=by rw [<-HRR.out,<-HR2.out];rfl
  refine Jg w0 fun hH=>?_
  try simp only [J]
  (refine Jt 0 (.pointer (some ⟨P,0,none⟩)) rfl (yif_load1 rfl fun _ _=>rfl) hH ?_;try simp only [J])
  (refine Jt 1 (.pointer (some ⟨P,0,none⟩)) rfl (yif_load1 rfl (by intro W hW;clear hW;go_simp)) hH ?_;try simp only [J])
  (refine Jt 2 (.pointer (some ⟨P,0,none⟩)) rfl (yif_load1 rfl (by intro W hW;clear hW;go_simp)) hH ?_;try simp only [J])
  (refine Jt 3 (.agg [sv,pv,cv].toArray) rfl (yif_load rfl 26 _ rfl rfl (fun W hW=>fun j u hj=>(HP.out.ext hW).has j u (by match j,hj with | 0,hj=>exact hj | 1,hj=>exact hj | 2,hj=>exact hj | j+3,hj=>exact absurd hj (by simp))) agg_Flat rfl) hH ?_;try simp only [J])
  (refine Jt 4 (nv) rfl (yif_load1 rfl fun _ _=>rfl) hH ?_;try simp only [J])
  (refine Jt 5 (.agg cs.toArray) rfl (yif_load rfl 72 _ rfl rfl (fun W hW=>(HE.out.ext hW).has) agg_E h8) hH ?_;try simp only [J])
  (refine Jr 6 rfl fun K hK=>?_)
  go_simp
  refine (H2.out _ (HX.out.trans hH)).mono ?_
  rintro r w3 ⟨rfl,hx3⟩
  refine hK.out _ _ (hH.trans hx3) (fun hH=>?_)
  clear hK K
  try simp only [J]
  (refine Jt 7 (.tuple #[.int .u64 ((r2:Nat):Int),.int .i64 0]) rfl (yif_load1 rfl fun _ _=>rfl) hH ?_;try simp only [J])
  (refine Jt 8 (.int .u64 ((r2:Nat):Int)) rfl (yif_load1 rfl (by intro W hW;clear hW;go_simp)) hH ?_;try simp only [J])
  (refine Jt 9 (.int .i64 0) rfl (yif_load1 rfl (by intro W hW;clear hW;go_simp)) hH ?_;try simp only [J])
  (refine Jt 10 (.int .u64 ((r2:Nat):Int)) rfl (yif_load1 rfl fun _ _=>rfl) hH ?_;try simp only [J])
  (refine Jt 11 (.int .i64 0) rfl (yif_load1 rfl fun _ _=>rfl) hH ?_;try simp only [J])
  refine Jz ?_
  go_wp2_with fail
  go_ret
  exact ⟨rfl,HX.out.trans hH⟩
 ·go_upto_region 4 with fail
  clear y3 y4 y5
  obtain rfl:r1=rr:=by rw [<-HRR.out,<-HR1.out];rfl
  refine Jg w0 fun hH=>?_
  try simp only [J]
  (refine Jt 0 (.pointer (some ⟨P,0,none⟩)) rfl (yif_load1 rfl fun _ _=>rfl) hH ?_;try simp only [J])
  (refine Jt 1 (.pointer (some ⟨P,0,none⟩)) rfl (yif_load1 rfl (by intro W hW;clear hW;go_simp)) hH ?_;try simp only [J])
  (refine Jt 2 (.pointer (some ⟨P,0,none⟩)) rfl (yif_load1 rfl (by intro W hW;clear hW;go_simp)) hH ?_;try simp only [J])
  (refine Jt 3 (.agg [sv,pv,cv].toArray) rfl (yif_load rfl 26 _ rfl rfl (fun W hW=>fun j u hj=>(HP.out.ext hW).has j u (by match j,hj with | 0,hj=>exact hj | 1,hj=>exact hj | 2,hj=>exact hj | j+3,hj=>exact absurd hj (by simp))) agg_Flat rfl) hH ?_;try simp only [J])
  (refine Jt 4 (wasv) rfl (yif_load1 rfl fun _ _=>rfl) hH ?_;try simp only [J])
  (refine Jt 5 (.agg cs.toArray) rfl (yif_load rfl 72 _ rfl rfl (fun W hW=>(HE.out.ext hW).has) agg_E h8) hH ?_;try simp only [J])
  (refine Jr 6 rfl fun K hK=>?_)
  go_simp
  refine (H1.out _ (HX.out.trans hH)).mono ?_
  rintro r w3 ⟨rfl,hx3⟩
  refine hK.out _ _ (hH.trans hx3) (fun hH=>?_)
  clear hK K
  try simp only [J]
  (refine Jt 7 (.tuple #[.int .u64 ((r1:Nat):Int),.int .i64 0]) rfl (yif_load1 rfl fun _ _=>rfl) hH ?_;try simp only [J])
  (refine Jt 8 (.int .u64 ((r1:Nat):Int)) rfl (yif_load1 rfl (by intro W hW;clear hW;go_simp)) hH ?_;try simp only [J])
  (refine Jt 9 (.int .i64 0) rfl (yif_load1 rfl (by intro W hW;clear hW;go_simp)) hH ?_;try simp only [J])
  (refine Jt 10 (.int .u64 ((r1:Nat):Int)) rfl (yif_load1 rfl fun _ _=>rfl) hH ?_;try simp only [J])
  (refine Jt 11 (.int .i64 0) rfl (yif_load1 rfl fun _ _=>rfl) hH ?_;try simp only [J])
  refine Jz ?_
  go_wp2_with fail
  go_ret
  exact ⟨rfl,HX.out.trans hH⟩
/-! what CaseT looks for -/
theorem plOne11_calls (B:Nat) (x:Int) (e:E) (cs:List Value) (w:World) (hB:Blk w B #[.int .u64 x] 39) (hV:VE w cs e) :
  Calls Tryz.prog 108 #[.agg cs.toArray,.pointer (some ⟨B,0,none⟩)] w fun r w'=>r=.returned (.bool (decide (e.v=x)))/\Ext w w':=by
 obtain ⟨s,rfl,-⟩:=hV
 have hX:=ext_alloc w (.cells (e.cells s).toArray 72)
 have y2:=(Blk.new w (e.cells s).toArray 72).has 2 _ rfl
 have yx:=(hB.ext hX).has 0 _ rfl
 have hlt:=hB.lt
 clear hB
 go_enter Tryz.func108,Tryz.ntmps108
 go_upto_region 1 with fail
 generalize w.alloc _=w0 at *
 go_wp2_with fail
 go_ret
 exact ⟨ret_bool (by rfl),hX⟩
theorem leads_plOne11:Leads Tryz.prog 108:=leads_of Tryz.func108 (by kernel_rfl) rfl
theorem plOne1_calls (B:Nat) (x:Int) (t:T) (cs:List Value) (w:World) (hB:Blk w B #[.int .u64 x] 39) (hV:VT w cs t) :
  Calls Tryz.prog 106 #[.agg cs.toArray,.pointer (some ⟨B,0,none⟩)] w fun r w'=>r=.returned (.bool (t.e.any fun e=>decide (e.v=x)))/\Ext w w':=by
 obtain ⟨s,s',rfl,hE,-⟩:=hV
 have hX:=ext_alloc w (.cells (t.cells s s').toArray 97)
 have y4:=(Blk.new w (t.cells s s').toArray 97).has 4 _ rfl
 have HC:=Jh (fun W (h:Ext w W)=>ContainsFunc_E 108 #[.pointer (some ⟨B,0,none⟩)] (fun e=>decide (e.v=x)) t.e s W (hE.ext h) leads_plOne11 (fun wr hwr k hk cs hcs=>plOne11_calls B x _ cs wr (hB.ext (h.trans hwr)) hcs))
 obtain ⟨a,b,ob,cap,rfl,-,-,-,-⟩:=hE.open
 clear hB hE
 generalize (t.e.any fun e=>decide (e.v=x))=q at *
 go_enter Tryz.func106,Tryz.ntmps106
 go_upto_region 1 with fail
 generalize w.alloc _=w0 at *
 go_wp2_with (first | (go_at_call 107;refine (HC.out _ hX).mono ?_;rintro r w1 ⟨rfl,hx1⟩))
 go_ret
 exact ⟨rfl,hX.trans hx1⟩
theorem leads_plOne1:Leads Tryz.prog 106:=leads_of Tryz.func106 (by kernel_rfl) rfl
theorem plArm_calls (B:Nat) (x:Int) (l:List T) (sl:Value) (w:World) (hB:Blk w B #[.int .u64 x] 39) (hL:Ts w sl l) :
  Calls Tryz.prog 105 #[sl,.func (.func 106) #[] #[.pointer (some ⟨B,0,none⟩)]] w fun r w'=>r=.returned (.int .i64 (idxOf (fun a:T=>a.e.any fun e=>decide (e.v=x)) l))/\Ext w w' :=
 IndexFunc_T _ _ _ l sl w hL leads_plOne1 (fun wr hwr k hk cs hcs=>plOne1_calls B x _ cs wr (hB.ext hwr) hcs)
theorem Blk.grownR {w w':World} {B:Nat} {cs:Array Value} {T:TypeId} {R:Option Nat} (h:Blk w B cs T) (hg:w.grownBy w' R) (hne:∀ k,R=some k->k≠B):Blk w' B cs T :=
 (hg.block B h.lt (fun e=>hne B e.symm rfl)).trans h
theorem gbR_refl (w:World) (R:Option Nat):w.grownBy w R:=⟨rfl,rfl,rfl,Nat.le_refl _,fun _ _ _=>rfl⟩
theorem gbR_ext {w w':World} (h:Ext w w') (R:Option Nat):w.grownBy w' R:=⟨h.os,h.tape,h.output,h.size,fun k hk _=>h.block k hk⟩
theorem gbR_trans {a b c:World} {R:Option Nat} (h:a.grownBy b R) (k:b.grownBy c R):a.grownBy c R :=
 ⟨k.os.trans h.os,k.tape.trans h.tape,k.output.trans h.output,Nat.le_trans h.size k.size,fun j hj hne=>(k.block j (Nat.lt_of_lt_of_le hj h.size) hne).trans (h.block j hj hne)⟩
structure Pl (d:Flat) (sv pv cv wasv:Value) (was:List Nat) (wb:World):Prop where
 ok:d.ok
 hc:checkM d=0
 flat:FlatV wb (.agg #[sv,pv,cv]) d
 us:Us wb wasv was
 vw:Val2 d.signals was
structure PlW (d:Flat) (sv pv cv wasv nv:Value) (ck:Bool) (P:Nat) (wb:World) (v:List Nat) (w:World):Prop where
 ext:Ext wb w
 val:Val2 d.signals v
 row:WordRow wb.heap.size nv v w
 blk:Blk w P (plCells sv pv cv wasv nv ck).toArray 81
abbrev PlPost (nv:Value) (wb:World) (v:List Nat) (w:World) (r:Ending) (w':World):Prop:=r=.returned (.tuple #[])/\WordRow wb.heap.size nv v w'/\w.grownBy w' nv.ownBlock
section
variable {d:Flat} {sv pv cv wasv nv:Value} {was v:List Nat} {ck:Bool} {P:Nat} {wb w w':World}
theorem PlW.grown {v':List Nat} (h:PlW d sv pv cv wasv nv ck P wb v w) (hv:Val2 d.signals v') (hr:WordRow wb.heap.size nv v' w') (hg:w.grownBy w' nv.ownBlock):PlW d sv pv cv wasv nv ck P wb v' w' :=
 ⟨Below.grown h.ext hg h.ext.size (fun k hk=>(hr.at hk).1),hv,hr,h.blk.grownR hg (fun k hk=>h.row.ne h.blk (by decide) hk)⟩
theorem PlW.ext' (h:PlW d sv pv cv wasv nv ck P wb v w) (hx:Ext w w'):PlW d sv pv cv wasv nv ck P wb v w' :=
 ⟨h.ext.trans hx,h.val,h.row.ext hx,h.blk.ext hx⟩
theorem plVal (H:Pl d sv pv cv wasv was wb) (h:PlW d sv pv cv wasv nv ck P wb v w) (e:E) (cs:List Value) (hV:VE w cs e) (hws:WS d.signals e/\e.wf/\nodes e<=65536/\deep e<=64) :
  Calls Tryz.prog 104 #[.pointer (some ⟨P,0,none⟩),.agg cs.toArray] w fun r w'=>r=.returned (.int .u64 ((evM (if ck then was else v) e:Nat):Int))/\Ext w w' :=
 plVal_calls d H.ok H.hc sv pv cv wasv nv was v ck P e cs w (H.flat.ext h.ext) (H.us.ext h.ext) h.row.cells H.vw h.val h.blk hV hws
end
def PlSaid (d:Flat) (sv pv cv wasv nv:Value) (was:List Nat) (ck:Bool) (P:Nat) (wb:World) (t:T):Prop :=
 ∀ (v:List Nat) (cs:List Value) (w:World),PlW d sv pv cv wasv nv ck P wb v w->VT wb cs t->Calls Tryz.prog 71 #[.pointer (some ⟨P,0,none⟩),.agg cs.toArray] w (PlPost nv wb (oneM ck was t v) w)
def PlAll (d:Flat) (sv pv cv wasv nv:Value) (was:List Nat) (ck:Bool) (P:Nat) (wb:World) (l:List T):Prop :=
 ∀ (v:List Nat) (sl:Value) (w:World),PlW d sv pv cv wasv nv ck P wb v w->Ts wb sl l->Calls Tryz.prog 43 #[.pointer (some ⟨P,0,none⟩),sl] w (PlPost nv wb (allM ck was l v) w)
theorem plAll_of {d:Flat} {sv pv cv wasv nv:Value} {was:List Nat} {ck:Bool} {P:Nat} {wb:World} (H:Pl d sv pv cv wasv was wb) (l:List T) (hln:l.length<=1048576) (hl:∀ t∈l,PlSaid d sv pv cv wasv nv was ck P wb t/\RunOk d.signals ck t):PlAll d sv pv cv wasv nv was ck P wb l:=by
 intro v sl w hW hL
 have hls:∀ x∈d.signals,x.w<=64:=fun x hx=>(checkM_w H.hc x hx).2
 obtain ⟨pre,hpre0,hpreS,hpreL⟩:∃ pre:Nat->List Nat,pre 0=v/\(∀ k (hk:k<l.length),pre (k+1)=oneM ck was l[k] (pre k))/\pre l.length=allM ck was l v :=
  ⟨fun k=>allM ck was (l.take k) v,by simp only [List.take_zero];exact allM_nil _ _ _,fun k hk=>by simp only [take_snoc _ _ hk,allM_append,allM_cons,allM_nil],by simp only [List.take_length]⟩
 have HS:=Jh hpreS
 have HLL:=Jh hpreL
 have HPL:=Jh hl
 have HV:=Jh (show ∀ k (hk:k<l.length) u,Val2 d.signals u->Val2 d.signals (oneM ck was l[k] u) from fun k hk u hu=>(oneM_ok hls H.vw l[k] (hl _ (List.getElem_mem hk)).2).1 u hu)
 have HTS:=Jh (fun W (h:Ext wb W)=>hL.ext h)
 obtain ⟨a,b,o,cap,rfl,hc1,hc2,ha,hr⟩:=hL.open
 have HA:=Jh ha
 have HR:=Jh hr
 have HW:=Jh hW
 have H0:=Jh hpre0
 clear hL ha hr hW hl hpre0 hpreS hpreL hls
 go_enter Tryz.func43,Tryz.ntmps43
 go_wp2_with fail
 go_loopw [8] (fun i wr=>∃ k:Nat,k<=l.length/\i=.int .i64 k/\PlW d sv pv cv wasv nv ck P wb (pre k) wr/\w.grownBy wr nv.ownBlock) (fun i _=>l.length-(intOf i).toNat)
 case atStart=>exact ⟨0,Nat.zero_le _,rfl,by rw [H0.out];exact HW.out,gbR_refl _ _⟩
 case round =>
  obtain ⟨k,hk,rfl,hw1,hgr⟩:=hrel
  have HW1:=Jh hw1
  have HGR:=Jh hgr
  clear hw1 hgr
  by_cases hlt:k<l.length
  ·obtain rfl:=HA.out (by omega)
   have hsaid:=(HPL.out _ (List.getElem_mem hlt)).1
   have hval:=HV.out k hlt _ HW1.out.val
   have hstep:=HS.out k hlt
   obtain ⟨s1,s2,hhas,he,ht⟩:=Ts.get HR.out hlt
   rw [<-hstep] at hval
   generalize l[k]=t at *
   have HVAL:=Jh hval
   have HST:=Jh hstep
   have HVT:=Jh (show VT wb (t.cells s1 s2) t from ⟨s1,s2,rfl,he,ht⟩)
   have HH1:=Jh (hhas.ext HW1.out.ext)
   have HSD:=Jh hsaid
   have HE1:=he.one
   have HT2:=ht.one
   clear hsaid hval hstep hhas he ht
   have hx4:=ext_alloc wr (.cells (t.cells s1 s2).toArray 97)
   have hb4:=Blk.new wr (t.cells s1 s2).toArray 97
   have HX4:=Jh hx4
   have HB4:=Jh hb4
   clear hx4 hb4
   go_upto_region 3 with (first | ((with_reducible show Jl 97);refine Jm 97 (HH1.out) agg_T rfl ?_) | ((with_reducible show Js 97);refine wpList_store_new rfl 97 _ _ rfl rfl (by first | rfl | simp) rfl agg_T (rfl) rfl (by simp [HE1,HT2,one_int]) ?_))
   generalize wr.alloc _=w4 at *
   have hW4:=HW1.out.ext' HX4.out
   have HC:=Jh (HSD.out _ _ _ hW4 HVT.out)
   have HG4:=Jh (gbR_trans HGR.out (gbR_ext HX4.out _))
   have HW4:=Jh hW4
   clear hW4
   go_wp2_with (first | ((with_reducible show Jl 97);refine Jm 97 (HB4.out.has) agg_T rfl ?_) | (go_at_call 71;refine (HC.out).mono ?_;rintro r w5 ⟨rfl,hr5,hg5⟩))
   go_roundw
   case rel=>exact ⟨k+1,hlt,by go_num,HW4.out.grown HVAL.out (by rw [HST.out];exact hr5) hg5,gbR_trans HG4.out hg5⟩
   case measure=>simp [intOf];omega
  ·obtain rfl:k=l.length:=by omega
   go_wp2_with fail
   all_goals go_end0
   exact ⟨rfl,by rw [<-HLL.out];exact HW1.out.row,HGR.out⟩
theorem plOne_set {d:Flat} {sv pv cv wasv nv:Value} {was:List Nat} {ck:Bool} {P:Nat} {wb:World} (H:Pl d sv pv cv wasv was wb) {t:T} (hr:RunOk d.signals ck t) (ho:t.op=1):PlSaid d sv pv cv wasv nv was ck P wb t:=by
 intro v cs w hW hV
 have hls:∀ x∈d.signals,x.w<=64:=fun x hx=>(checkM_w H.hc x hx).2
 obtain ⟨h1,h2,-⟩:=(RunOk_iff _ _ t).1 hr
 obtain ⟨hsl,x,hx,hxw⟩:slice d.signals t.sig t.hi t.lo=true/\∃ x,t.e=[x]/\x.w=t.hi-t.lo+1:=by
  rcases h2 with ⟨-,a,-,b,-⟩ | ⟨o,-⟩ | ⟨o,-⟩ | o | o
  ·exact ⟨a,b⟩
  all_goals omega
 obtain ⟨q1,q2,q3,q4,q5,-⟩:=slice_le d.signals hls hsl
 have q6:=sigW_le d.signals hls t.sig
 have hx1:=h1 x (by simp [hx])
 have hev:=ev_lt (vs:=if ck then was else v) hls x hx1.1 hx1.2.1
 have hone:oneM ck was t v=setV v t.sig t.hi t.lo (evM (if ck then was else v) x):=by rw [oneM_1 ck was v ho,hx];rfl
 rw [hxw] at hev
 obtain ⟨sg,hsg⟩:=Int.eq_ofNat_of_zero_le q1
 obtain ⟨lo,hlo⟩:=Int.eq_ofNat_of_zero_le q3
 obtain ⟨hi,hhi⟩:=Int.eq_ofNat_of_zero_le (Int.le_trans q3 q4)
 have hvl:=hW.val.1
 have hsv:sg<v.length:=by omega
 obtain ⟨g,cap,hnv,hN,hcl⟩:=hW.row.open1 (by omega)
 have hv64:=val2_us64 hls hW.val _ (List.getElem_mem hsv)
 have hc1:=hcl sg _ (List.getElem?_eq_getElem hsv)
 have hf1:w.frozen? ⟨g,sg,none⟩=false:=by
  have h:=hW.row
  rw [hnv] at h
  obtain ⟨-,cur,hcur⟩:=h.at rfl
  exact Blk.frozen (cs:=cur) (T:=39) hcur sg
 have hrow:=hW.row
 rw [hnv] at hrow
 have hrow':=hrow.set sg hsv (setBits v[sg] hi lo (evM (if ck then was else v) x))
 have hset:setV v t.sig t.hi t.lo (evM (if ck then was else v) x)=v.set sg (setBits v[sg] hi lo (evM (if ck then was else v) x)):=by
  unfold setV
  rw [hsg,hlo,hhi,Int.toNat_natCast,Int.toNat_natCast,Int.toNat_natCast,List.getD_eq_getElem?_getD,List.getElem?_eq_getElem hsv,Option.getD_some]
 rw [hlo,hhi,show ((hi:Int)-lo+1).toNat=hi+1-lo by omega] at hev
 have hlh:lo<=hi:=by omega
 have h64:hi<64:=by omega
 obtain ⟨-,cur,hcur⟩:=hW.row.at (k:=g) (by rw [hnv];rfl)
 have hgw:g<w.heap.size:=(Array.getElem?_eq_some_iff.1 hcur).1
 have hPg:P≠g:=fun e=>hW.row.ne hW.blk (by decide) (k:=g) (by rw [hnv];rfl) e.symm
 obtain ⟨se,sl,rfl,he,-⟩:=hV
 obtain ⟨ae,be,oe,ce,rfl,hce1,hce2,hae,her⟩:=he.open
 rw [hx] at hce1 hae her
 obtain rfl:=hae (by simp)
 obtain ⟨sx,hxh,hxs⟩:=Es.get her (k:=0) (by simp)
 have hxh:Has wb be oe (x.cells sx):=by simpa using hxh
 have hxs:Es wb sx x.l:=by simpa using hxs
 have htc:t.cells (.slice (some ⟨be,oe,none⟩) t.e.length ce) sl=[.int .i64 1,.int .i64 (sg:Int),.int .i64 (hi:Int),.int .i64 (lo:Int),.slice (some ⟨be,oe,none⟩) 1 ce,sl]:=by
  unfold T.cells;rw [ho,hsg,hhi,hlo,hx];rfl
 rw [htc,hone,hset]
 have x0:=ext_alloc w (.cells [.int .i64 1,.int .i64 (sg:Int),.int .i64 (hi:Int),.int .i64 (lo:Int),.slice (some ⟨be,oe,none⟩) 1 ce,sl].toArray 97)
 have hT:=Blk.new w [.int .i64 1,.int .i64 (sg:Int),.int .i64 (hi:Int),.int .i64 (lo:Int),.slice (some ⟨be,oe,none⟩) 1 ce,sl].toArray 97
 have HVAL:=Jh (fun W (h:Ext w W)=>plVal H (hW.ext' h) x _ ⟨sx,rfl,hxs.ext (hW.ext.trans h)⟩ hx1)
 have HXH:=Jh (fun W (h:Ext w W)=>hxh.ext (hW.ext.trans h))
 have HP:=Jh (fun W (h:Ext w W)=>hW.blk.ext h)
 have HC:=Jh (fun W (h:Ext w W)=>show W.cell? ⟨g,sg,none⟩=some (W64 v[sg]) from (h.cell (p:=⟨g,sg,none⟩) hgw).trans hc1)
 have HFZ:=Jh (fun W (h:Ext w W)=>show W.frozen? ⟨g,sg,none⟩=false from (h.frozen (p:=⟨g,sg,none⟩) hgw).trans hf1)
 have HROW:=Jh (fun W (h:Ext w W)=>((hnv ▸ hW.row:WordRow wb.heap.size (.slice (some ⟨g,0,none⟩) v.length cap) v w).ext h).set sg hsv (setBits v[sg] hi lo (evM (if ck then was else v) x)))
 subst hnv
 have HSW:=Jh (set_word hlh h64 hv64 hev)
 have HMS:=Jh (mask_shift hlh h64)
 have HML:=Jh (maskN_lt hlh h64)
 have HN:=Jh hN
 have hvl2:v.length<=1048576:=by have:=H.ok.signals;omega
 clear hrow hrow' hone hset hls h1 h2 hsl hx hxw q1 q2 q3 q4 q5 q6 hx1 hev hsg hlo hhi hvl hcl hv64 hc1 hf1 hcur he hce1 hce2 hae her hxh hxs htc hr ho
 generalize evM (if ck then was else v) x=X at *
 generalize v[sg]=y at *
 generalize maskN hi lo=M at *
 go_enter Tryz.func71,Tryz.ntmps71
 go_upto_region 1 with fail
 generalize w.alloc _=w0 at *
 have HT:=Jh hT
 have y0:=hT.has 0 _ rfl
 have y4:=hT.has 4 _ rfl
 have e0:=HXH.out w0 x0
 have HV0:=Jh (HVAL.out w0 x0)
 clear hT
 go_upto_region 5 with (first | ((with_reducible show Jl 72);refine Jm 72 (e0) agg_E rfl ?_) | (go_at_call 104;refine (HV0.out).mono ?_;rintro r w1 ⟨rfl,hx1⟩))
 have HX1:=Jh (x0.trans hx1)
 have HT1:=Jh (HT.out.ext hx1)
 have HP1:=Jh (HP.out w1 HX1.out)
 clear hx1 x0 y0 y4 e0 HV0 HVAL HT
 refine Jg w1 fun hH=>?_
 try simp only [J]
 (refine Jt 0 (.pointer (some ⟨w.heap.size,2,none⟩)) rfl (yif_load1 rfl (by intro W hW;clear hW;go_simp)) hH ?_;try simp only [J])
 (refine Jt 1 (.int .i64 (hi:Int)) rfl (yif_load1 rfl (by intro W hW;have z:=(HT1.out.ext hW).has 2 _ rfl;clear hW;go_simp)) hH ?_;try simp only [J])
 (refine Jt 2 (.pointer (some ⟨w.heap.size,3,none⟩)) rfl (yif_load1 rfl (by intro W hW;clear hW;go_simp)) hH ?_;try simp only [J])
 (refine Jt 3 (.int .i64 (lo:Int)) rfl (yif_load1 rfl (by intro W hW;have z:=(HT1.out.ext hW).has 3 _ rfl;clear hW;go_simp)) hH ?_;try simp only [J])
 (refine Jt 4 (.int .i64 ((hi-lo:Nat):Int)) rfl (yif_load1 rfl (by intro W hW;clear hW;go_simp;rw [IntKind.wrap_i64];omega)) hH ?_;try simp only [J])
 (refine Jt 5 (.int .i64 ((63-(hi-lo):Nat):Int)) rfl (yif_load1 rfl (by intro W hW;clear hW;go_simp;rw [IntKind.wrap_i64];omega)) hH ?_;try simp only [J])
 (refine Jt 6 (.int .u64 ((18446744073709551615:Int).fdiv (2^(63-(hi-lo))))) rfl (yif_load1 rfl (by intro W hW;clear hW;go_simp;exact (Int.fdiv_eq_ediv_of_nonneg _ (Int.le_of_lt (Int.pow_pos (by decide)))).symm)) hH ?_;try simp only [J])
 (refine Jt 7 (.pointer (some ⟨w.heap.size,3,none⟩)) rfl (yif_load1 rfl (by intro W hW;clear hW;go_simp)) hH ?_;try simp only [J])
 (refine Jt 8 (.int .i64 (lo:Int)) rfl (yif_load1 rfl (by intro W hW;have z:=(HT1.out.ext hW).has 3 _ rfl;clear hW;go_simp)) hH ?_;try simp only [J])
 (refine Jt 9 (.int .u64 (M:Int)) rfl (yif_load1 rfl (by intro W hW;clear hW;go_simp;exact HMS.out)) hH ?_;try simp only [J])
 (refine Jt 10 (.int .u64 ((18446744073709551615-M:Nat):Int)) rfl (yif_load1 rfl (by intro W hW;clear hW;go_simp;exact n_not HML.out)) hH ?_;try simp only [J])
 (refine Jt 11 (.int .u64 ((18446744073709551615-M:Nat):Int)) rfl (yif_load1 rfl fun _ _=>rfl) hH ?_;try simp only [J])
 refine Jz ?_
 have HX2:=Jh (HX1.out.trans hH)
 have HT2:=Jh (HT1.out.ext hH)
 have HP2:=Jh (HP1.out.ext hH)
 clear hH HX1 HT1 HP1 HMS HML HXH
 generalize w1.drew=w2 at *
 go_upto_region 6 with fail
 refine wp_region_held_drew (S:=fun W=>Blk W w.heap.size [.int .i64 1,.int .i64 (sg:Int),.int .i64 (hi:Int),.int .i64 (lo:Int),.slice (some ⟨be,oe,none⟩) 1 ce,sl].toArray 97/\Blk W P (plCells sv pv cv wasv (.slice (some ⟨g,0,none⟩) v.length cap) ck).toArray 81) (by kernel_rfl) ⟨HT2.out.drew,HP2.out.drew⟩ (fun hH=>?_)
 try simp only [J]
 (refine Jt 0 (.pointer (some ⟨P,0,none⟩)) rfl (yif_load1 rfl fun _ _=>rfl) hH ?_;try simp only [J])
 (refine Jt 1 (.pointer (some ⟨P,0,none⟩)) rfl (yif_load1 rfl (by intro W hW;clear hW;go_simp)) hH ?_;try simp only [J])
 (refine Jt 2 (.pointer (some ⟨P,4,none⟩)) rfl (yif_load1 rfl (by intro W hW;clear hW;go_simp)) hH ?_;try simp only [J])
 (refine Jt 3 (.slice (some ⟨g,0,none⟩) v.length cap) rfl (yif_load1 rfl (by intro W hW;have z:=hW.2.has 4 _ rfl;clear hW;go_simp)) hH ?_;try simp only [J])
 (refine Jt 4 (.pointer (some ⟨w.heap.size,1,none⟩)) rfl (yif_load1 rfl (by intro W hW;clear hW;go_simp)) hH ?_;try simp only [J])
 (refine Jt 5 (.int .i64 (sg:Int)) rfl (yif_load1 rfl (by intro W hW;have z:=hW.1.has 1 _ rfl;clear hW;go_simp)) hH ?_;try simp only [J])
 (refine Jt 6 (.pointer (some ⟨P,0,none⟩)) rfl (yif_load1 rfl fun _ _=>rfl) hH ?_;try simp only [J])
 (refine Jt 7 (.pointer (some ⟨P,0,none⟩)) rfl (yif_load1 rfl (by intro W hW;clear hW;go_simp)) hH ?_;try simp only [J])
 (refine Jt 8 (.pointer (some ⟨P,4,none⟩)) rfl (yif_load1 rfl (by intro W hW;clear hW;go_simp)) hH ?_;try simp only [J])
 (refine Jt 9 (.slice (some ⟨g,0,none⟩) v.length cap) rfl (yif_load1 rfl (by intro W hW;have z:=hW.2.has 4 _ rfl;clear hW;go_simp)) hH ?_;try simp only [J])
 (refine Jt 10 (.pointer (some ⟨w.heap.size,1,none⟩)) rfl (yif_load1 rfl (by intro W hW;clear hW;go_simp)) hH ?_;try simp only [J])
 (refine Jt 11 (.int .i64 (sg:Int)) rfl (yif_load1 rfl (by intro W hW;have z:=hW.1.has 1 _ rfl;clear hW;go_simp)) hH ?_;try simp only [J])
 (refine Jt 12 (.pointer (some ⟨g,sg,none⟩)) rfl (yif_load1 rfl (by intro W hW;clear hW;go_simp;try (intro h;omega))) hH ?_;try simp only [J])
 (refine Jt 14 (.int .u64 ((18446744073709551615-M:Nat):Int)) rfl (yif_load1 rfl fun _ _=>rfl) hH ?_;try simp only [J])
 (refine Jt 16 (.int .u64 (X:Int)) rfl (yif_load1 rfl fun _ _=>rfl) hH ?_;try simp only [J])
 (refine Jt 17 (.pointer (some ⟨w.heap.size,3,none⟩)) rfl (yif_load1 rfl (by intro W hW;clear hW;go_simp)) hH ?_;try simp only [J])
 (refine Jt 18 (.int .i64 (lo:Int)) rfl (yif_load1 rfl (by intro W hW;have z:=hW.1.has 3 _ rfl;clear hW;go_simp)) hH ?_;try simp only [J])
 (refine Jt 19 (.int .u64 (IntKind.u64.wrap ((X:Int)*2^lo))) rfl (yif_load1 rfl (by intro W hW;clear hW;go_simp)) hH ?_;try simp only [J])
 have c1:=HC.out _ (HX2.out.trans (Below.drew (Below.refl _ w2)))
 (refine Jr 13 rfl fun K hK=>?_)
 go_simp
 refine hK.out _ _ hH (fun hH=>?_)
 clear hK K c1
 try simp only [J]
 (refine Jt 15 (.int .u64 (bits .and .u64 (y:Int) ((18446744073709551615-M:Nat):Int))) rfl (yif_load1 rfl (by intro W hW;clear hW;go_simp)) hH ?_;try simp only [J])
 (refine Jt 20 (.int .u64 ((setBits y hi lo X:Nat):Int)) rfl (yif_load1 rfl (by intro W hW;clear hW;go_simp;exact HSW.out)) hH ?_;try simp only [J])
 (refine Jt 21 (.pointer (some ⟨g,sg,none⟩)) rfl (yif_load1 rfl (by intro W hW;clear hW;go_simp;try (intro h;omega))) hH ?_;try simp only [J])
 have hxd:Ext w w2.drew:=HX2.out.trans (Below.drew (Below.refl _ w2))
 have f1:=HFZ.out _ hxd
 have c1:=HC.out _ hxd
 have HRN:=Jh (HROW.out _ hxd)
 have HGN:=Jh (gbR_trans (gbR_ext hxd (some g)) (gb_set w2.drew g sg (W64 (setBits y hi lo X))))
 clear hxd HSW HC HFZ HROW HX2 HT2 HP2
 generalize setBits y hi lo X=Z at *
 (refine Jr 22 rfl fun K hK=>?_)
 go_simp
 have hw1:Blk (w2.drew.setCell ⟨g,sg,none⟩ (W64 Z)) w.heap.size _ _:=hH.1.grown (gb_set _ g sg _) (by omega)
 have hw2:Blk (w2.drew.setCell ⟨g,sg,none⟩ (W64 Z)) P _ _:=hH.2.grown (gb_set _ g sg _) hPg
 refine hK.out _ _ ⟨hw1,hw2⟩ (fun hH=>?_)
 clear hK K c1 f1 hw1 hw2
 refine Jz ?_
 clear hH
 go_wp2_with fail
 all_goals go_end0
 exact ⟨rfl,HRN.out,HGN.out⟩
theorem arm_idx {l:List T} (h:0<l.length) (x:Int):(idxOf (fun a:T=>a.e.any fun e=>decide (e.v=x)) l<0->armM l x=l.length-1)/\(0<=idxOf (fun a:T=>a.e.any fun e=>decide (e.v=x)) l->idxOf (fun a:T=>a.e.any fun e=>decide (e.v=x)) l=(armM l x:Int)):=by
 unfold idxOf armM
 by_cases c:l.any (fun a:T=>a.e.any fun e=>decide (e.v=x))=true
 ·rw [if_pos c]
  have hlt:l.findIdx (fun a:T=>a.e.any fun e=>decide (e.v=x))<l.length:=List.findIdx_lt_length.2 (by simpa using List.any_eq_true.1 c)
  generalize l.findIdx _=k at *
  exact ⟨fun h=>by omega,fun _=>by rw [Nat.min_eq_left (by omega)]⟩
 ·rw [if_neg c]
  have hge:l.findIdx (fun a:T=>a.e.any fun e=>decide (e.v=x))=l.length:=List.findIdx_eq_length.2 (by
   intro a ha
   have:=List.any_eq_false.1 (by simpa using c:l.any (fun a:T=>a.e.any fun e=>decide (e.v=x))=false) a ha
   simpa using this)
  rw [hge]
  exact ⟨fun _=>by omega,fun h=>by omega⟩
theorem plOne_block {d:Flat} {sv pv cv wasv nv:Value} {was:List Nat} {ck:Bool} {P:Nat} {wb:World} {t:T} (ho:t.op=4\/t.op=5) (hall:PlAll d sv pv cv wasv nv was ck P wb t.l):PlSaid d sv pv cv wasv nv was ck P wb t:=by
 intro v cs w hW hV
 have hone:=oneM_4 ck was (t:=t) v ho
 obtain ⟨se,sl,rfl,he,hl⟩:=hV
 have hall':=hall v sl
 obtain ⟨ae,be,oe,ce,rfl,-,-,-,-⟩:=he.open
 obtain ⟨al,bl,ol,cl,rfl,-,-,-,-⟩:=hl.open
 have x0:=ext_alloc w (.cells (t.cells (.slice ae t.e.length ce) (.slice al t.l.length cl)).toArray 97)
 have hT:=Blk.new w (t.cells (.slice ae t.e.length ce) (.slice al t.l.length cl)).toArray 97
 have HALL:=Jh (hall' _ (hW.ext' x0) hl)
 rw [hone]
 have b1:(t.op==1)=false:=by rw [beq_eq_false_iff_ne];omega
 have b2:(t.op==2)=false:=by rw [beq_eq_false_iff_ne];omega
 have b3:(t.op==3)=false:=by rw [beq_eq_false_iff_ne];omega
 clear hone ho he hl hall hall' hW
 go_enter Tryz.func71,Tryz.ntmps71
 go_upto_region 1 with fail
 generalize w.alloc _=w0 at *
 have y0:=hT.has 0 _ rfl
 have y5:=hT.has 5 _ rfl
 go_wp2_with (first | (go_at_call 43;refine (HALL.out).mono ?_;rintro r w1 ⟨rfl,hr1,hg1⟩))
 all_goals go_end0
 exact ⟨rfl,hr1,gbR_trans (gbR_ext x0 _) hg1⟩
theorem plOne_if {d:Flat} {sv pv cv wasv nv:Value} {was:List Nat} {ck:Bool} {P:Nat} {wb:World} (H:Pl d sv pv cv wasv was wb) {t:T} (hr:RunOk d.signals ck t) (ho:t.op=2) (hall:∀ x∈t.l,PlAll d sv pv cv wasv nv was ck P wb x.l):PlSaid d sv pv cv wasv nv was ck P wb t:=by
 intro v cs w hW hV
 obtain ⟨h1,h2,-⟩:=(RunOk_iff _ _ t).1 hr
 obtain ⟨⟨x,hx⟩,ta,tb,hab⟩:(∃ x,t.e=[x])/\∃ a b,t.l=[a,b]:=by
  rcases h2 with ⟨o,-⟩ | ⟨-,⟨x,hx,-⟩,hab⟩ | ⟨o,-⟩ | o | o
  ·omega
  ·exact ⟨⟨x,hx⟩,hab⟩
  all_goals omega
 have hx1:=h1 x (by simp [hx])
 have hone:oneM ck was t v=if evM (if ck then was else v) x=0 then allM ck was tb.l v else allM ck was ta.l v:=by
  rw [oneM_2 ck was v ho,hx,hab]
  show oneM.nthM ck was [ta,tb] (if evM (if ck then was else v) x=0 then 1 else 0) v=_
  by_cases c:evM (if ck then was else v) x=0
  ·rw [if_pos c,if_pos c,nthM_eq ck was _ 1 v (by simp)];rfl
  ·rw [if_neg c,if_neg c,nthM_eq ck was _ 0 v (by simp)];rfl
 have hA:=hall ta (by simp [hab])
 have hB:=hall tb (by simp [hab])
 obtain ⟨se,sl,rfl,he,hl⟩:=hV
 obtain ⟨ae,be,oe,ce,rfl,hce1,hce2,hae,her⟩:=he.open
 obtain ⟨al,bl,ol,cl,rfl,hcl1,hcl2,hal,hlr⟩:=hl.open
 rw [hx] at hce1 hae her
 rw [hab] at hcl1 hal hlr
 obtain rfl:=hae (by simp)
 obtain rfl:=hal (by simp)
 obtain ⟨sx,hxh,hxs⟩:=Es.get her (k:=0) (by simp)
 have hxh:Has wb be oe (x.cells sx):=by simpa using hxh
 have hxs:Es wb sx x.l:=by simpa using hxs
 obtain ⟨ea,la,hah,hae',hal'⟩:=Ts.get hlr (k:=0) (by simp)
 have hah:Has wb bl ol (ta.cells ea la):=by simpa using hah
 have hae':Es wb ea ta.e:=hae'
 have hal':Ts wb la ta.l:=hal'
 obtain ⟨eb,lb,hbh,hbe',hbl'⟩:=Ts.get hlr (k:=1) (by simp)
 have hbh:Has wb bl (ol+6) (tb.cells eb lb):=by simpa using hbh
 have hbe':Es wb eb tb.e:=hbe'
 have hbl':Ts wb lb tb.l:=hbl'
 have HALA:=Jh (fun W (h:PlW d sv pv cv wasv nv ck P wb v W)=>hA v la W h hal')
 have HALB:=Jh (fun W (h:PlW d sv pv cv wasv nv ck P wb v W)=>hB v lb W h hbl')
 have oa:(ta.cells ea la).all (·.oneCell')=true:=by simp [hae'.one,hal'.one,one_int]
 have ob:(tb.cells eb lb).all (·.oneCell')=true:=by simp [hbe'.one,hbl'.one,one_int]
 obtain ⟨aaa,baa,oaa,caa,rfl,-,-,-,-⟩:=hal'.open
 obtain ⟨aab,bab,oab,cab,rfl,-,-,-,-⟩:=hbl'.open
 have htc:t.cells (.slice (some ⟨be,oe,none⟩) t.e.length ce) (.slice (some ⟨bl,ol,none⟩) t.l.length cl)=[.int .i64 2,.int .i64 t.sig,.int .i64 t.hi,.int .i64 t.lo,.slice (some ⟨be,oe,none⟩) 1 ce,.slice (some ⟨bl,ol,none⟩) 2 cl]:=by
  unfold T.cells;rw [ho,hx,hab];rfl
 rw [htc,hone]
 have x0:=ext_alloc w (.cells [.int .i64 2,.int .i64 t.sig,.int .i64 t.hi,.int .i64 t.lo,.slice (some ⟨be,oe,none⟩) 1 ce,.slice (some ⟨bl,ol,none⟩) 2 cl].toArray 97)
 have hT:=Blk.new w [.int .i64 2,.int .i64 t.sig,.int .i64 t.hi,.int .i64 t.lo,.slice (some ⟨be,oe,none⟩) 1 ce,.slice (some ⟨bl,ol,none⟩) 2 cl].toArray 97
 have HW:=Jh (fun W (h:Ext w W)=>hW.ext' h)
 have HVAL:=Jh (fun W (h:Ext w W)=>plVal H (hW.ext' h) x _ ⟨sx,rfl,hxs.ext (hW.ext.trans h)⟩ hx1)
 have HXH:=Jh (fun W (h:Ext w W)=>hxh.ext (hW.ext.trans h))
 have HAH:=Jh (fun W (h:Ext w W)=>hah.ext (hW.ext.trans h))
 have HBH:=Jh (fun W (h:Ext w W)=>hbh.ext (hW.ext.trans h))
 clear hone h1 h2 hx hab hx1 hA hB he hl hce1 hce2 hcl1 hcl2 hae hal her hlr hxh hxs hah hbh hae' hal' hbe' hbl' htc hr ho hall hW
 generalize evM (if ck then was else v) x=X at *
 obtain ⟨R,hR⟩:∃ R,(if X=0 then allM ck was tb.l v else allM ck was ta.l v)=R:=⟨_,rfl⟩
 have HR:=Jh hR
 rw [hR]
 clear hR
 have hsz:(w.alloc (.cells [.int .i64 2,.int .i64 t.sig,.int .i64 t.hi,.int .i64 t.lo,.slice (some ⟨be,oe,none⟩) 1 ce,.slice (some ⟨bl,ol,none⟩) 2 cl].toArray 97)).heap.size=w.heap.size+1:=by simp
 have HSZ:=Jh hsz
 clear hsz
 go_enter Tryz.func71,Tryz.ntmps71
 go_upto_region 1 with fail
 generalize w.alloc _=w0 at *
 have HT:=Jh hT
 have y0:=hT.has 0 _ rfl
 have y5:=hT.has 5 _ rfl
 have eb1:=HBH.out w0 x0
 have x2:=ext_alloc w0 (.cells (tb.cells eb (.slice aab tb.l.length cab)).toArray 97)
 have hb6:=Blk.new w0 (tb.cells eb (.slice aab tb.l.length cab)).toArray 97
 have X2:=Jh (x0.trans x2)
 have HT2:=Jh (hT.ext x2)
 have HB6:=Jh hb6
 clear hT x0 x2 hb6
 go_upto_region 9 with (first | ((with_reducible show Jl 97);refine Jm 97 (eb1) agg_T rfl ?_) | ((with_reducible show Js 97);refine wpList_store_new rfl 97 _ _ rfl rfl (by first | rfl | simp) rfl agg_T (rfl) rfl (ob) ?_))
 clear y0 y5 eb1
 obtain ⟨B6,hB6⟩:∃ B,w0.heap.size=B:=⟨_,rfl⟩
 rw [hB6] at HB6 ⊢
 have HLE:=Jh (show w.heap.size<=B6 by have:=HSZ.out;omega)
 clear hB6
 generalize w0.alloc _=w2 at *
 have z4:=HT2.out.has 4 _ rfl
 have ex1:=HXH.out w2 X2.out
 have HV2:=Jh (HVAL.out w2 X2.out)
 by_cases hX0:X=0
 ·have c0:((X:Int) != 0)=false:=by rw [bne_eq_false_iff_eq];omega
  obtain rfl:allM ck was tb.l v=R:=by rw [<-HR.out,if_pos hX0]
  clear hX0
  go_upto_region 11 with (first | ((with_reducible show Jl 72);refine Jm 72 (ex1) agg_E rfl ?_) | (go_at_call 104;refine (HV2.out).mono ?_;rintro r w3 ⟨rfl,hx3⟩))
  have X3:=Jh (X2.out.trans hx3)
  have q5:=(HB6.out.ext hx3).has 5 _ rfl
  have HC:=Jh (HALB.out w3 (HW.out w3 X3.out))
  clear hx3 z4 ex1
  go_wp2_with (first | (go_at_call 43;refine (HC.out).mono ?_;rintro r w4 ⟨rfl,hr4,hg4⟩))
  all_goals go_end0
  exact ⟨rfl,hr4,gbR_trans (gbR_ext X3.out _) hg4⟩
 ·have c0:((X:Int) != 0)=true:=by rw [bne_iff_ne];omega
  obtain rfl:allM ck was ta.l v=R:=by rw [<-HR.out,if_neg hX0]
  clear hX0
  go_upto_region 10 with (first | ((with_reducible show Jl 72);refine Jm 72 (ex1) agg_E rfl ?_) | (go_at_call 104;refine (HV2.out).mono ?_;rintro r w3 ⟨rfl,hx3⟩))
  have X3:=Jh (X2.out.trans hx3)
  have HB63:=Jh (HB6.out.ext hx3)
  have z5:=(HT2.out.ext hx3).has 5 _ rfl
  have ea1:=HAH.out w3 X3.out
  clear hx3 z4 ex1
  go_upto_region 11 with (first | ((with_reducible show Jl 97);refine Jm 97 (ea1) agg_T rfl ?_) | ((with_reducible show Js 97);refine wpList_store_blk rfl 97 _ _ rfl (HB63.out) rfl (cs:=ta.cells ea (.slice aaa ta.l.length caa)) (rfl) agg_T (rfl) rfl (oa) ?_;intro w4 hb4 hg4))
  have X4:=Jh (X3.out.grown hg4 HLE.out)
  have q5:=hb4.has 5 _ rfl
  have HC:=Jh (HALA.out w4 (HW.out w4 X4.out))
  clear hb4 hg4 ea1 z5
  go_wp2_with (first | (go_at_call 43;refine (HC.out).mono ?_;rintro r w5 ⟨rfl,hr5,hg5⟩))
  all_goals go_end0
  exact ⟨rfl,hr5,gbR_trans (gbR_ext X4.out _) hg5⟩
theorem plOne_case {d:Flat} {sv pv cv wasv nv:Value} {was:List Nat} {ck:Bool} {P:Nat} {wb:World} (H:Pl d sv pv cv wasv was wb) {t:T} (hr:RunOk d.signals ck t) (hln:t.l.length<=1048576) (ho:t.op=3) (hall:∀ x∈t.l,PlAll d sv pv cv wasv nv was ck P wb x.l):PlSaid d sv pv cv wasv nv was ck P wb t:=by
 intro v cs w hW hV
 obtain ⟨h1,h2,-⟩:=(RunOk_iff _ _ t).1 hr
 obtain ⟨⟨x,hx⟩,hl0⟩:(∃ x,t.e=[x])/\0<t.l.length:=by
  rcases h2 with ⟨o,-⟩ | ⟨o,-⟩ | ⟨-,hx,h,-⟩ | o | o
  ·omega
  ·omega
  ·exact ⟨hx,h⟩
  all_goals omega
 have hx1:=h1 x (by simp [hx])
 obtain ⟨X,hXX⟩:∃ X,evM (if ck then was else v) x=X:=⟨_,rfl⟩
 obtain ⟨K,hK⟩:∃ K,armM t.l (X:Int)=K:=⟨_,rfl⟩
 have hKl:K<t.l.length:=by rw [<-hK];exact armM_lt hl0 _
 have hone:oneM ck was t v=allM ck was t.l[K].l v:=by
  rw [oneM_3 ck was v ho,hx]
  show oneM.nthM ck was t.l (armM t.l (evM (if ck then was else v) x)) v=_
  rw [hXX,hK,nthM_eq ck was _ K v hKl]
 have harm:=arm_idx hl0 (X:Int)
 rw [hK] at harm
 obtain ⟨se,sl,rfl,he,hl⟩:=hV
 have HIX:=Jh (fun B W (h:Ext wb W) (hb:Blk W B #[.int .u64 (X:Int)] 39)=>plArm_calls B (X:Int) t.l sl W hb (hl.ext h))
 obtain ⟨ae,be,oe,ce,rfl,hce1,hce2,hae,her⟩:=he.open
 obtain ⟨al,bl,ol,cl,rfl,hcl1,hcl2,hal,hlr⟩:=hl.open
 rw [hx] at hce1 hae her
 obtain rfl:=hae (by simp)
 obtain rfl:=hal hl0
 obtain ⟨sx,hxh,hxs⟩:=Es.get her (k:=0) (by simp)
 have hxh:Has wb be oe (x.cells sx):=by simpa using hxh
 have hxs:Es wb sx x.l:=by simpa using hxs
 obtain ⟨ea,la,hah,hae',hal'⟩:=Ts.get hlr hKl
 have hA:=hall _ (List.getElem_mem hKl)
 generalize t.l[K]=ta at *
 have HALA:=Jh (fun W (h:PlW d sv pv cv wasv nv ck P wb v W)=>hA v la W h hal')
 obtain ⟨aaa,baa,oaa,caa,rfl,-,-,-,-⟩:=hal'.open
 have htc:t.cells (.slice (some ⟨be,oe,none⟩) t.e.length ce) (.slice (some ⟨bl,ol,none⟩) t.l.length cl)=[.int .i64 3,.int .i64 t.sig,.int .i64 t.hi,.int .i64 t.lo,.slice (some ⟨be,oe,none⟩) 1 ce,.slice (some ⟨bl,ol,none⟩) t.l.length cl]:=by
  unfold T.cells;rw [ho,hx];rfl
 rw [htc,hone]
 have x0:=ext_alloc w (.cells [.int .i64 3,.int .i64 t.sig,.int .i64 t.hi,.int .i64 t.lo,.slice (some ⟨be,oe,none⟩) 1 ce,.slice (some ⟨bl,ol,none⟩) t.l.length cl].toArray 97)
 have hT:=Blk.new w [.int .i64 3,.int .i64 t.sig,.int .i64 t.hi,.int .i64 t.lo,.slice (some ⟨be,oe,none⟩) 1 ce,.slice (some ⟨bl,ol,none⟩) t.l.length cl].toArray 97
 have HW:=Jh (fun W (h:Ext w W)=>hW.ext' h)
 have HVAL:=Jh (fun W (h:Ext w W)=>hXX ▸ plVal H (hW.ext' h) x _ ⟨sx,rfl,hxs.ext (hW.ext.trans h)⟩ hx1)
 have HXH:=Jh (fun W (h:Ext w W)=>hxh.ext (hW.ext.trans h))
 have HAH:=Jh (fun W (h:Ext w W)=>hah.ext (hW.ext.trans h))
 have HXB:=Jh hW.ext
 obtain ⟨I,hI⟩:∃ I,idxOf (fun a:T=>a.e.any fun e=>decide (e.v=(X:Int))) t.l=I:=⟨_,rfl⟩
 have hIl:=idxOf_lt (p:=fun a:T=>a.e.any fun e=>decide (e.v=(X:Int))) (l:=t.l)
 rw [hI] at HIX harm hIl
 have HARM:=Jh harm
 obtain ⟨n,hn⟩:∃ n,t.l.length=n:=⟨_,rfl⟩
 rw [hn] at HARM hKl hl0 hIl x0 hT hcl1 hln ⊢
 rw [hn] at HIX
 clear hone h1 h2 hx hx1 hA he hl hce1 hce2 hcl2 hae hal her hlr hxh hxs hah hae' hal' htc hr ho hall hW hXX hK hI hn harm
 go_enter Tryz.func71,Tryz.ntmps71
 go_upto_region 1 with fail
 generalize w.alloc _=w0 at *
 have HT:=Jh hT
 have y0:=hT.has 0 _ rfl
 have y4:=hT.has 4 _ rfl
 have ex1:=HXH.out w0 x0
 have HV0:=Jh (HVAL.out w0 x0)
 have X0:=Jh x0
 clear hT x0
 go_upto_region 13 with fail
 clear y0
 go_upto_region 14 with (first | ((with_reducible show Jl 72);refine Jm 72 (ex1) agg_E rfl ?_) | (go_at_call 104;refine HV0.out.mono ?_;rintro r w1 ⟨rfl,hx1⟩;have X1:=Jh (X0.out.trans hx1);have HT1:=Jh (HT.out.ext hx1);have x2:=ext_alloc w1 (.cells #[.int .u64 (X:Int)] 39);have hb7:=Blk.new w1 #[.int .u64 (X:Int)] 39))
 have X2:=Jh (X1.out.trans x2)
 have HT2:=Jh (HT1.out.ext x2)
 have HB7:=Jh hb7
 clear hx1 ex1 y4 x2 hb7
 obtain ⟨B7,hB7⟩:∃ B,w1.heap.size=B:=⟨_,rfl⟩
 rw [hB7] at HB7 ⊢
 clear hB7
 generalize w1.alloc _=w2 at *
 have HI2:=Jh (HIX.out B7 w2 (HXB.out.trans X2.out) HB7.out)
 have z5:=HT2.out.has 5 _ rfl
 by_cases hI0:I<0
 ·have hKn:=HARM.out.1 hI0
  obtain rfl:n=K+1:=by omega
  have b0:decide (I<0)=true:=decide_eq_true hI0
  clear hKn hI0
  go_upto_region 17 with (first | (go_at_call 105;refine HI2.out.mono ?_;rintro r w3 ⟨rfl,hx3⟩;have X3:=Jh (X2.out.trans hx3);have q5:=(HT2.out.ext hx3).has 5 _ rfl))
  have e5:=(HAH.out w3 X3.out) 5 _ rfl
  have HC:=Jh (HALA.out w3 (HW.out w3 X3.out))
  clear hx3 z5
  go_wp2_with (first | (go_at_call 43;refine (HC.out).mono ?_;rintro r w4 ⟨rfl,hr4,hg4⟩))
  all_goals go_end0
  exact ⟨rfl,hr4,gbR_trans (gbR_ext X3.out _) hg4⟩
 ·obtain rfl:=HARM.out.2 (by omega)
  have b0:decide ((K:Int)<0)=false:=decide_eq_false hI0
  clear hI0
  go_upto_region 17 with (first | (go_at_call 105;refine HI2.out.mono ?_;rintro r w3 ⟨rfl,hx3⟩;have X3:=Jh (X2.out.trans hx3);have q5:=(HT2.out.ext hx3).has 5 _ rfl))
  have e5:=(HAH.out w3 X3.out) 5 _ rfl
  have HC:=Jh (HALA.out w3 (HW.out w3 X3.out))
  clear hx3 z5
  go_wp2_with (first | (go_at_call 43;refine (HC.out).mono ?_;rintro r w4 ⟨rfl,hr4,hg4⟩))
  all_goals go_end0
  exact ⟨rfl,hr4,gbR_trans (gbR_ext X3.out _) hg4⟩
theorem pl_said {d:Flat} {sv pv cv wasv nv:Value} {was:List Nat} {ck:Bool} {P:Nat} {wb:World} (H:Pl d sv pv cv wasv was wb) (t:T):RunOk d.signals ck t->nodesT t<=1048576->PlSaid d sv pv cv wasv nv was ck P wb t/\PlAll d sv pv cv wasv nv was ck P wb t.l:=by
 induction t using T.ind with
 | h t ih =>
  intro hr hn
  have hr':=(RunOk_iff _ _ t).1 hr
  have hne:=nodesT_eq t
  have hlen:t.l.length<=1048576:=by have:=length_le_sumBy nodesT t.l (fun x _=>nodesT_pos x);omega
  have hsub:∀ x∈t.l,PlSaid d sv pv cv wasv nv was ck P wb x/\PlAll d sv pv cv wasv nv was ck P wb x.l:=fun x hx=>ih x hx (hr'.2.2 x hx) (by have:=le_sumBy nodesT t.l x hx;omega)
  have hall:PlAll d sv pv cv wasv nv was ck P wb t.l:=plAll_of H t.l hlen fun x hx=>⟨(hsub x hx).1,hr'.2.2 x hx⟩
  refine ⟨?_,hall⟩
  rcases hr'.2.1 with ⟨o,-⟩ | ⟨o,-⟩ | ⟨o,-⟩ | o | o
  ·exact plOne_set H hr o
  ·exact plOne_if H hr o fun x hx=>(hsub x hx).2
  ·exact plOne_case H hr hlen o fun x hx=>(hsub x hx).2
  ·exact plOne_block (.inl o) hall
  ·exact plOne_block (.inr o) hall
end Go.Proofs.YtoaamjgfhppppaaGreat
