/- Laws and walks that a claim of this seat leans on: HeldTo, EvalBits. -/
import Derived.Test.YtemabheegnngdaaGreatQ03
import Derived.Test.YtemabheegnngdaaGreatQ23
import Derived.Test.YtemabheegnngdaaGreatQ24
import Derived.Test.YtemabheegnngdaaGreatQ26
import Derived.Test.YtemabheegnngdaaGreatQ00
set_option linter.all false
namespace Go.Proofs.YtemabheegnngdaaGreat
open Go.RowKit
section
variable {P:Program} {ops:Array Oper} {Q:Exit→Act→World→Prop} {md:Region.Mode} {S:World→Prop} {stop:Nat}
def wpAnyT (P:Program) (md:Region.Mode) (ops:Array Oper) (Q:Exit→Act→World→Prop) (S:World→Prop) (stop:Nat):Nat→Array Bool→Act→World→Prop
 | 0,listed,a,w=>Region.ready md ops listed=[]∧Q .normal a w
 | fuel + 1,listed,a,w =>
  (Region.ready md ops listed=[]→Q .normal a w) ∧
  ∀ i ∈ Region.ready md ops listed,wpOp P ops Q i (fun a' w'=>((listed.setIfInBounds i true).getD stop true=false→S w')∧wpAnyT P md ops Q S stop fuel (listed.setIfInBounds i true) a' w') a w
theorem wpAny_of_T:∀ (fuel:Nat) (listed:Array Bool) (a:Act) (w:World),wpAnyT P md ops Q S stop fuel listed a w→wpAny P md ops Q fuel listed a w
 | 0,_,_,_,h=>h
 | fuel + 1,_,_,_,h=>⟨h.1,fun i hi=>wpOp_mono (fun a' w' h'=>wpAny_of_T fuel _ a' w' h'.2) (h.2 i hi)⟩
theorem getD_set_true {l:Array Bool} {i k:Nat} (h:l.getD k true=true):(l.setIfInBounds i true).getD k true=true:=by
 by_cases e:i=k
 ·subst e
  by_cases hi:i < l.size
  ·simp [Array.getD,hi]
  ·simp [Array.getD,hi]
 ·rw [getD_set_ne true e];exact h
theorem wpAnyT_of_held:∀ (fuel:Nat) (listed:Array Bool) (a:Act) (w:World),listed.getD stop true=true→wpAnyH P md ops Q (fun _=>True) fuel listed a w→wpAnyT P md ops Q S stop fuel listed a w
 | 0,_,_,_,_,h=>h
 | fuel + 1,_,_,_,hl,h=>⟨h.1,fun i hi=>wpOp_mono (fun a' w' h'=>⟨fun hf=>(by rw [getD_set_true hl] at hf;cases hf),wpAnyT_of_held fuel _ a' w' (getD_set_true hl) h'.2⟩) (h.2 i hi)⟩
def waitsB (md:Region.Mode) (ops:Array Oper) (stop i:Nat):Bool:=match ops[stop]? with
 | some o=>o.after.toList.any fun e=>Region.binds md e && decide (e.on=i)
 | none=>false
theorem wpAnyT_first {i:Nat} {oi:Oper} {v:Value} (hi:ops[i]? = some oi) (hsel:∀ (j:Nat) (o:Oper) cs b,ops[j]? = some o→o.op ≠ .select cs b)
  (hQ:∀ c a w,Q (.panic c) (a.put oi.dst v) w→Q (.panic c) a w) (his:i ≠ stop) (hwt:waitsB md ops stop i=true) :
  ∀ (fuel:Nat) (listed:Array Bool) (a:Act) (w:World),
   (∀ j oj,ops[j]? = some oj→j ≠ i→listed.getD j true=false→(∀ e ∈ oj.after,Region.binds md e=true→e.on ≠ i)→oi.apart ops oj=true) →
   i ∈ Region.ready md ops listed→YieldsIf P ops S oi v a→S w→listed.getD stop true=false →
   wpAnyT P md ops Q S stop fuel (listed.setIfInBounds i true) (a.put oi.dst v) w→wpAnyT P md ops Q S stop (fuel + 1) listed a w:=by
 intro fuel
 induction fuel with
 | zero =>
  intro listed a w _ hr hy hS _ H
  refine ⟨fun h=>(by rw [h] at hr;cases hr),fun j hj=>?_⟩
  by_cases hji:j=i
  ·subst hji;exact hy.wpOp hi hS ⟨fun _=>hS,H⟩
  ·have:=ready_mono hj hji
   rw [H.1] at this
   cases this
 | succ fuel ih =>
  intro listed a w hfree hr hy hS hst H
  refine ⟨fun h=>(by rw [h] at hr;cases hr),fun j hj=>?_⟩
  by_cases hji:j=i
  ·subst hji;exact hy.wpOp hi hS ⟨fun _=>hS,H⟩
  ·have h1:=H.2 j (ready_mono hj hji)
   obtain ⟨hjun,oj,hoj,hall⟩:=mem_ready.1 hj
   have hnot:∀ e ∈ oj.after,Region.binds md e=true→e.on ≠ i:=fun e he hb heq=>by
    have h1:=hall e he hb
    have h0:=(mem_ready.1 hr).1
    rw [heq] at h1
    rcases Nat.lt_or_ge i listed.size with h' | h'
    ·simp [h'] at h0 h1;rw [h0] at h1;cases h1
    ·simp [Array.getElem?_eq_none h'] at h1
   have hjs:j ≠ stop:=fun e=>by
    subst e
    unfold waitsB at hwt
    rw [hoj] at hwt
    obtain ⟨e,he,hb⟩:=List.any_eq_true.1 hwt
    simp only [Bool.and_eq_true,decide_eq_true_eq] at hb
    exact hnot e (by simpa using he) hb.1 hb.2
   have h2:=wpOp_putIf hoj (hfree j oj hoj hji hjun hnot) (fun cs b=>hsel i oi cs b hi) (fun cs b=>hsel j oj cs b hoj) hQ hy h1
   have hfree':∀ k ok,ops[k]? = some ok→k ≠ i→(listed.setIfInBounds j true).getD k true=false →
     (∀ e ∈ ok.after,Region.binds md e=true→e.on ≠ i)→oi.apart ops ok=true:=fun k ok hk hki hun hno=>by
    refine hfree k ok hk hki ?_ hno
    by_cases hjk:j=k
    ·subst hjk;exact hjun
    ·rw [getD_set_ne true hjk] at hun;exact hun
   have hst':(listed.setIfInBounds j true).getD stop true=false:=by rw [getD_set_ne true hjs];exact hst
   refine wpOp_mono (fun a' w' h3=>?_) h2
   have hst2:((listed.setIfInBounds i true).setIfInBounds j true).getD stop true=false:=by rw [getD_set_ne true hjs,getD_set_ne true his];exact hst
   have hS':=h3.2.1 hst2
   refine ⟨fun _=>hS',ih (listed.setIfInBounds j true) a' w' hfree' (ready_mono hr (Ne.symm hji)) h3.1 hS' hst' ?_⟩
   rw [Array.setIfInBounds_comm _ _ hji]
   exact h3.2.2
theorem wpAnyT_firstP {i:Nat} {oi:Oper} {v:Value} (hi:ops[i]? = some oi) (hsel:∀ (j:Nat) (o:Oper) cs b,ops[j]? = some o→o.op ≠ .select cs b)
  (hQ:∀ c a w,Q (.panic c) (a.put oi.dst v) w→Q (.panic c) a w) (his:i ≠ stop) :
  ∀ (fuel:Nat) (listed:Array Bool) (a:Act) (w:World),
   (∀ j oj,ops[j]? = some oj→j ≠ i→listed.getD j true=false→(∀ e ∈ oj.after,Region.binds md e=true→e.on ≠ i)→oi.apart ops oj=true) →
   i ∈ Region.ready md ops listed→YieldsIf P ops (fun _=>True) oi v a→(listed.getD stop true=false→S w) →
   wpAnyT P md ops Q S stop fuel (listed.setIfInBounds i true) (a.put oi.dst v) w→wpAnyT P md ops Q S stop (fuel + 1) listed a w:=by
 intro fuel
 induction fuel with
 | zero =>
  intro listed a w _ hr hy hS H
  refine ⟨fun h=>(by rw [h] at hr;cases hr),fun j hj=>?_⟩
  by_cases hji:j=i
  ·subst hji;exact hy.wpOp hi trivial ⟨fun h=>hS (by rwa [getD_set_ne true his] at h),H⟩
  ·have:=ready_mono hj hji
   rw [H.1] at this
   cases this
 | succ fuel ih =>
  intro listed a w hfree hr hy hS H
  refine ⟨fun h=>(by rw [h] at hr;cases hr),fun j hj=>?_⟩
  by_cases hji:j=i
  ·subst hji;exact hy.wpOp hi trivial ⟨fun h=>hS (by rwa [getD_set_ne true his] at h),H⟩
  ·have h1:=H.2 j (ready_mono hj hji)
   obtain ⟨hjun,oj,hoj,hall⟩:=mem_ready.1 hj
   have hnot:∀ e ∈ oj.after,Region.binds md e=true→e.on ≠ i:=fun e he hb heq=>by
    have h1:=hall e he hb
    have h0:=(mem_ready.1 hr).1
    rw [heq] at h1
    rcases Nat.lt_or_ge i listed.size with h' | h'
    ·simp [h'] at h0 h1;rw [h0] at h1;cases h1
    ·simp [Array.getElem?_eq_none h'] at h1
   have h2:=wpOp_putIf hoj (hfree j oj hoj hji hjun hnot) (fun cs b=>hsel i oi cs b hi) (fun cs b=>hsel j oj cs b hoj) hQ hy h1
   have hfree':∀ k ok,ops[k]? = some ok→k ≠ i→(listed.setIfInBounds j true).getD k true=false →
     (∀ e ∈ ok.after,Region.binds md e=true→e.on ≠ i)→oi.apart ops ok=true:=fun k ok hk hki hun hno=>by
    refine hfree k ok hk hki ?_ hno
    by_cases hjk:j=k
    ·subst hjk;exact hjun
    ·rw [getD_set_ne true hjk] at hun;exact hun
   refine wpOp_mono (fun a' w' h3=>?_) h2
   have hS':(listed.setIfInBounds j true).getD stop true=false→S w':=fun h=>h3.2.1 (by rw [Array.setIfInBounds_comm _ _ (Ne.symm hji),getD_set_ne true his];exact h)
   refine ⟨hS',ih (listed.setIfInBounds j true) a' w' hfree' (ready_mono hr (Ne.symm hji)) h3.1 hS' ?_⟩
   rw [Array.setIfInBounds_comm _ _ hji]
   exact h3.2.2
theorem wpAnyT_takeP {i:Nat} {oi:Oper} {v:Value} {fuel:Nat} {listed:Array Bool} {a:Act} {w:World} (hi:ops[i]? = some oi)
  (hs:Region.noSelect ops=true) (hf:Region.free md ops listed i=true) (hr:(Region.ready md ops listed).contains i=true) (his:i ≠ stop)
  (hQ:∀ c a w,Q (.panic c) (a.put oi.dst v) w→Q (.panic c) a w) (hy:YieldsIf P ops (fun _=>True) oi v a) (hS:S w)
  (h:wpAnyT P md ops Q S stop fuel (listed.setIfInBounds i true) (a.put oi.dst v) w):wpAnyT P md ops Q S stop (fuel + 1) listed a w :=
 wpAnyT_firstP hi (Region.noSelect_spec hs) hQ his fuel listed a w (Region.free_spec hi hf) (by simpa using hr) hy (fun _=>hS) h
theorem wpAnyT_take {i:Nat} {oi:Oper} {v:Value} {fuel:Nat} {listed:Array Bool} {a:Act} {w:World} (hi:ops[i]? = some oi)
  (hs:Region.noSelect ops=true) (hf:Region.free md ops listed i=true) (hr:(Region.ready md ops listed).contains i=true) (his:i ≠ stop) (hwt:waitsB md ops stop i=true) (hst:listed.getD stop true=false)
  (hQ:∀ c a w,Q (.panic c) (a.put oi.dst v) w→Q (.panic c) a w) (hy:YieldsIf P ops S oi v a) (hS:S w)
  (h:wpAnyT P md ops Q S stop fuel (listed.setIfInBounds i true) (a.put oi.dst v) w):wpAnyT P md ops Q S stop (fuel + 1) listed a w :=
 wpAnyT_first hi (Region.noSelect_spec hs) hQ his hwt fuel listed a w (Region.free_spec hi hf) (by simpa using hr) hy hS hst h
theorem wpAnyT_one {i:Nat} {oi:Oper} {fuel:Nat} {listed:Array Bool} {a:Act} {w:World} (hr:Region.ready md ops listed=[i]) (hi:ops[i]? = some oi)
  (h:∀ K:Act→World→Prop,Shut (∀ a w,((listed.setIfInBounds i true).getD stop true=false→S w)→wpAnyT P md ops Q S stop fuel (listed.setIfInBounds i true) a w→K a w)→if Region.wanted oi (yielded ops a.tmps)=true then Oper.wp P oi a w K Q else K (a.put oi.dst undef) w) :
  wpAnyT P md ops Q S stop (fuel + 1) listed a w:=by
 refine ⟨fun h0=>(by rw [hr] at h0;cases h0),fun j hj=>?_⟩
 rw [hr] at hj
 obtain rfl:=List.mem_singleton.1 hj
 exact wpOp_step hi (fun K hK=>h K (fun a w hS hW=>hK a w ⟨hS,hW⟩))
theorem wp_region_T {id:Nat} {a:Act} {w:World} (hm:P.follows .mixedOrders=true) (hS:S w.drew)
  (h:S w.drew→wpAnyT P .any ops Q S stop ops.size (Array.replicate ops.size false) a w.drew):(Code.region id ops true).wp P Q a w :=
 wp_region_any hm (wpAny_of_T _ _ _ _ (h hS))
end
open Go.RowKit
theorem idx_ve {W:World} {g:Nat} {sg wd v:Int} (h:Has W g 0 ((numE wd v).cells (.slice none 0 0))):VE W ((idxE sg (numE wd v)).cells (.slice (some ⟨g,0,none⟩) 1 1)) (idxE sg (numE wd v)) :=
 ⟨_,rfl,⟨g,0,⟨_,1,rfl,Nat.le_refl _,by simp [maxLen],fun _=>rfl⟩,⟨EAt_iff.2 ⟨_,h,Sl.nil _ _⟩,trivial⟩⟩⟩
theorem num_wf {wd v:Int} (h1:i64r wd) (h2:u64r v):(numE wd v).wf :=
 (E.wf_iff _).2 ⟨(by decide : -9223372036854775808 ≤ (1:Int)∧(1:Int) ≤ 9223372036854775807),h1,h2,i64_0,i64_0,i64_0,i64_0,by intro x hx;cases hx⟩
theorem idx_wf {sg:Int} {x:E} (h1:i64r sg) (hx:x.wf):(idxE sg x).wf :=
 (E.wf_iff _).2 ⟨(by decide : -9223372036854775808 ≤ (3:Int)∧(3:Int) ≤ 9223372036854775807),(by decide : -9223372036854775808 ≤ (1:Int)∧(1:Int) ≤ 9223372036854775807),u64_0,h1,i64_0,i64_0,i64_0,by
  intro y hy
  rcases List.mem_cons.1 hy with rfl | hy
  ·exact hx
  ·cases hy⟩
theorem sig_wf {wd n hi lo:Int} (h1:i64r wd) (h2:i64r n) (h3:i64r hi) (h4:i64r lo):(sigX wd n hi lo).wf :=
 (E.wf_iff _).2 ⟨(by decide : -9223372036854775808 ≤ (2:Int)∧(2:Int) ≤ 9223372036854775807),h1,u64_0,h2,h3,h4,i64_0,by intro x hx;cases hx⟩
theorem cat_wf {wd:Int} {l:List E} (h1:i64r wd) (h:∀ x ∈ l,x.wf):(catE wd l).wf :=
 (E.wf_iff _).2 ⟨(by decide : -9223372036854775808 ≤ (7:Int)∧(7:Int) ≤ 9223372036854775807),h1,u64_0,i64_0,i64_0,i64_0,i64_0,h⟩
set_option maxRecDepth 100000 in
set_option maxHeartbeats 3000000 in
theorem EvalBits_calls (d:Flat) (v:Value) (vs:List Nat) (s:Value) (sg:Int) (far:Nat) (w:World) (hF:FlatV w v d) (hok:d.ok) (hs:Us w s vs) (h64:us64 vs) (_:vs.length + 1 ≤ 1048576) (hsg:i64r sg) (hfar:far < 256) :
  Calls Tryz.prog 9 #[v,s,.int .i64 sg,.int .u8 (far:Int)] w fun r w'=>r=.returned (.bool true)∧Ext w w':=by
 have HSM:=Lib.hid (fun W (h:Ext w W)=>Small_calls d v W (hF.ext h) hok.nodes)
 have HVL:=Lib.hid (fun W (h:Ext w W)=>Values_calls d v vs s W (hF.ext h) hok (hs.ext h) h64)
 have HEV:=Lib.hid (fun x cx W (h:Ext w W) (hx:VE W cx x) (h1:x.wf) (h2:nodes x ≤ 1048576)=>Eval_calls d v vs s x cx W (hF.ext h) hok (hs.ext h) h64 hx h1 h2)
 have HUS:=Lib.hid (fun W (h:Ext w W)=>hs.ext h)
 have HLS:=Lib.hid hok.signals
 have H64:=Lib.hid h64
 have HSG:=Lib.hid hsg
 obtain ⟨sv,pv,cv,rfl,hS,hP,hC⟩:=hF
 obtain ⟨a0,b0,o0,c0,rfl,hc1,hc2,ha0,hr0⟩:=hS.open
 have HA:=Lib.hid ha0
 have HR:=Lib.hid (fun W (h:Ext w W)=>(hr0.mono fun x _ b o hh=>SigAt.ext' h hh:Rows 4 (SigAt W) d.signals b0 o0))
 obtain ⟨av,bv,ov,capv,rfl,hv1,hv2,hav,hvr⟩:=hs.open
 have HAV:=Lib.hid hav
 have HUR:=Lib.hid (fun W (h:Ext w W)=>(hvr.mono fun x _ b o (hh:UAt w x b o)=>Has.ext hh h:Rows 1 (UAt W) vs bv ov))
 have x1:=ext_alloc w (.cells [.slice a0 d.signals.length c0,pv,cv].toArray 26)
 have hD:=Blk.new w [.slice a0 d.signals.length c0,pv,cv].toArray 26
 clear hS hP hC hs h64 hok ha0 hr0 hav hvr hsg
 obtain ⟨nv,hnv⟩ : ∃ nv,vs.length=nv:=⟨_,rfl⟩
 obtain ⟨ns,hns⟩ : ∃ ns,d.signals.length=ns:=⟨_,rfl⟩
 have HNV:=Lib.hid hnv
 have HNS:=Lib.hid hns
 rw [hnv] at HVL HEV HUS HAV hv1 ⊢
 rw [hns] at HSM HVL HEV HA hc1 x1 hD HLS ⊢
 clear hnv hns
 go_enter Tryz.func9,Tryz.ntmps9
 go_upto_region 1 with fail
 generalize w.alloc _=w0 at *
 have HD0:=Lib.hid hD
 have HX0:=Lib.hid x1
 clear hD x1
 go_upto_region 2 with (first | (go_at_call 17;refine (live10_calls _).mono ?_;rintro r w1 ⟨rfl,hx1⟩))
 have HD:=Lib.hid (HD0.out.ext hx1)
 have HX:=Lib.hid (HX0.out.trans hx1)
 clear hx1 HD0 HX0
 have d1:=HD.out.has
 obtain ⟨q,hq⟩ : ∃ q,small d=q:=⟨_,rfl⟩
 rw [hq] at HSM
 clear hq
 cases q
 ·go_wp2_with (first | ((with_reducible show wpList _ _ _ (⟨_,Op.load 26 _,_,_,_,_⟩ :: _) _ _);refine wpList_load_has rfl 26 _ rfl rfl (d1) agg_Flat rfl ?_) | (go_at_call 35;refine (HSM.out w1 HX.out).mono ?_;rintro r w2 ⟨rfl,hx2⟩))
  go_ret
  exact ⟨rfl,HX.out.trans hx2⟩
 by_cases hl:(600:Int) < (nv:Int)
 ·have bl:decide ((600:Int) < (nv:Int))=true:=decide_eq_true hl
  clear hl
  go_wp2_with (first | ((with_reducible show wpList _ _ _ (⟨_,Op.load 26 _,_,_,_,_⟩ :: _) _ _);refine wpList_load_has rfl 26 _ rfl rfl (d1) agg_Flat rfl ?_) | (go_at_call 35;refine (HSM.out w1 HX.out).mono ?_;rintro r w2 ⟨rfl,hx2⟩))
  go_ret
  exact ⟨rfl,HX.out.trans hx2⟩
 have bl:decide ((600:Int) < (nv:Int))=false:=decide_eq_false hl
 clear hl
 obtain ⟨q,hq⟩ : ∃ q,valsOk d vs=q:=⟨_,rfl⟩
 have HQ:=Lib.hid hq
 rw [hq] at HVL
 clear hq
 cases q
 ·go_wp2_with (first | (go_at_call 35;refine (HSM.out w1 HX.out).mono ?_;rintro r w2 ⟨rfl,hx2⟩;have d2:=(HD.out.ext hx2).has) | ((with_reducible show wpList _ _ _ (⟨_,Op.load 26 _,_,_,_,_⟩ :: _) _ _);refine wpList_load_has rfl 26 _ rfl rfl (d1) agg_Flat rfl ?_) | ((with_reducible show wpList _ _ _ (⟨_,Op.load 26 _,_,_,_,_⟩ :: _) _ _);refine wpList_load_has rfl 26 _ rfl rfl (d2) agg_Flat rfl ?_) | (go_at_call 21;refine (HVL.out w2 (HX.out.trans hx2)).mono ?_;rintro r w3 ⟨rfl,hx3⟩))
  go_ret
  exact ⟨rfl,HX.out.trans (hx2.trans hx3)⟩
 have hlen:nv=ns:=by
  have h1:=(valsOk_ck HQ.out).1
  rw [HNV.out,HNS.out] at h1
  exact h1
 subst hlen
 have bn:((nv:Int) != (nv:Int))=false:=by simp
 by_cases hs0:sg < 0
 ·have b0':decide (sg < 0)=true:=decide_eq_true hs0
  clear hs0
  go_wp2_with (first | (go_at_call 35;refine (HSM.out w1 HX.out).mono ?_;rintro r w2 ⟨rfl,hx2⟩;have d2:=(HD.out.ext hx2).has) | ((with_reducible show wpList _ _ _ (⟨_,Op.load 26 _,_,_,_,_⟩ :: _) _ _);refine wpList_load_has rfl 26 _ rfl rfl (d1) agg_Flat rfl ?_) | ((with_reducible show wpList _ _ _ (⟨_,Op.load 26 _,_,_,_,_⟩ :: _) _ _);refine wpList_load_has rfl 26 _ rfl rfl (d2) agg_Flat rfl ?_) | (go_at_call 21;refine (HVL.out w2 (HX.out.trans hx2)).mono ?_;rintro r w3 ⟨rfl,hx3⟩;have d3:=(HD.out.ext (hx2.trans hx3)).has 0 _ rfl))
  go_ret
  exact ⟨rfl,HX.out.trans (hx2.trans hx3)⟩
 obtain ⟨k,rfl⟩:=Int.eq_ofNat_of_zero_le (show 0 ≤ sg by omega)
 have b0':decide ((k:Int) < 0)=false:=decide_eq_false hs0
 clear hs0
 by_cases hkn:nv ≤ k
 ·have b1:decide (nv ≤ k)=true:=decide_eq_true hkn
  clear hkn
  go_wp2_with (first | (go_at_call 35;refine (HSM.out w1 HX.out).mono ?_;rintro r w2 ⟨rfl,hx2⟩;have d2:=(HD.out.ext hx2).has) | ((with_reducible show wpList _ _ _ (⟨_,Op.load 26 _,_,_,_,_⟩ :: _) _ _);refine wpList_load_has rfl 26 _ rfl rfl (d1) agg_Flat rfl ?_) | ((with_reducible show wpList _ _ _ (⟨_,Op.load 26 _,_,_,_,_⟩ :: _) _ _);refine wpList_load_has rfl 26 _ rfl rfl (d2) agg_Flat rfl ?_) | (go_at_call 21;refine (HVL.out w2 (HX.out.trans hx2)).mono ?_;rintro r w3 ⟨rfl,hx3⟩;have d3:=(HD.out.ext (hx2.trans hx3)).has 0 _ rfl))
  go_ret
  exact ⟨rfl,HX.out.trans (hx2.trans hx3)⟩
 have b1:decide (nv ≤ k)=false:=decide_eq_false hkn
 have hklt:k < d.signals.length:=by rw [HNS.out];omega
 have hkv:k < vs.length:=by rw [HNV.out];omega
 obtain rfl:=HA.out (by omega)
 obtain rfl:=HAV.out (by omega)
 have HSGN:=Lib.hid (fun W (h:Ext w W)=>Sigs.get (HR.out W h) hklt)
 have HUGN:=Lib.hid (fun W (h:Ext w W)=>Us.get (HUR.out W h) hkv)
 have hgd:vs.getD k 0=vs[k]:=by simp [List.getD_eq_getElem?_getD,List.getElem?_eq_getElem hkv]
 obtain ⟨⟨n1,n2⟩,l1,l2,l3,l4⟩:=bits_law HQ.out hklt
 rw [hgd] at l1 l2 l3
 simp only [hgd] at l4
 have hx64:=H64.out _ (List.getElem_mem hkv)
 have hkb:k < nv:=by omega
 clear hgd hkn H64 HA HAV
 generalize d.signals[k]=sig at *
 generalize vs[k]=x at *
 obtain ⟨n,hn⟩ : ∃ n,sig.w=n:=⟨_,rfl⟩
 have HSW:=Lib.hid hn
 rw [hn] at n1 n2 l1 l2 l3
 obtain ⟨N,rfl⟩:=Int.eq_ofNat_of_zero_le (show 0 ≤ n by omega)
 rw [Int.toNat_natCast] at l1 l2
 have L1:=Lib.hid l1
 have L2:=Lib.hid l2
 have L3:=Lib.hid l3
 have L4:=Lib.hid l4
 have hN1:1 ≤ N:=by omega
 have hN2:N ≤ 64:=by omega
 clear HR HUR hn l1 l2 l3 l4 n1 n2
 go_upto_region 4 with (first | (go_at_call 35;refine (HSM.out w1 HX.out).mono ?_;rintro r w2 ⟨rfl,hx2⟩;have d2:=(HD.out.ext hx2).has) | ((with_reducible show wpList _ _ _ (⟨_,Op.load 26 _,_,_,_,_⟩ :: _) _ _);refine wpList_load_has rfl 26 _ rfl rfl (d1) agg_Flat rfl ?_) | ((with_reducible show wpList _ _ _ (⟨_,Op.load 26 _,_,_,_,_⟩ :: _) _ _);refine wpList_load_has rfl 26 _ rfl rfl (d2) agg_Flat rfl ?_) | (go_at_call 21;refine (HVL.out w2 (HX.out.trans hx2)).mono ?_;rintro r w3 ⟨rfl,hx3⟩;have d3:=(HD.out.ext (hx2.trans hx3)).has 0 _ rfl))
 have HX3:=Lib.hid (HX.out.trans (hx2.trans hx3))
 have HD3:=Lib.hid (HD.out.ext (hx2.trans hx3))
 have g1:w3.cell? ⟨b0,o0 + k * 4 + 1,none⟩=some (.int .i64 (N:Int)):=by
  have:=HSGN.out w3 HX3.out 1 _ rfl
  rw [HSW.out] at this
  exact this
 clear hx2 hx3 HSM HVL HX HD d1 d2 HSGN HSW
 go_upto_region 6 with (((with_reducible show wpList _ _ _ (⟨_,Op.store 44 _ _,_,_,_,_⟩ :: _) _ _);refine wpList_store_new rfl 44 _ _ rfl rfl (by first | rfl | simp) rfl agg_E (rfl) rfl (by simp [Value.oneCell',one_int]) ?_))
 have hxP:=ext_alloc w3 (.cells #[.int .i64 7,.int .i64 (N:Int),.int .u64 0,.int .i64 0,.int .i64 0,.int .i64 0,.int .i64 0,.slice none 0 0] 44)
 have hP:=Blk.new w3 #[.int .i64 7,.int .i64 (N:Int),.int .u64 0,.int .i64 0,.int .i64 0,.int .i64 0,.int .i64 0,.slice none 0 0] 44
 have hsP:w3.heap.size < (w3.alloc (.cells #[.int .i64 7,.int .i64 (N:Int),.int .u64 0,.int .i64 0,.int .i64 0,.int .i64 0,.int .i64 0,.slice none 0 0] 44)).heap.size:=by simp
 generalize w3.alloc _=w4 at *
 replace hP:Blk w4 w3.heap.size ((catE (N:Int) []).cells (.slice none 0 0)).toArray 44:=hP
 obtain ⟨P,hPe⟩ : ∃ P,w3.heap.size=P:=⟨_,rfl⟩
 have HPE:=Lib.hid hPe
 rw [hPe] at hP hsP ⊢
 have HP4:=Lib.hid hP
 have HX34:=Lib.hid hxP
 have HSP:=Lib.hid hsP
 clear hPe hP hxP hsP g1
 go_wp2_with fail
 go_loopw [12] (fun i wx=>∃ (m:Nat) (u:Value),m ≤ N∧i=.int .i64 ((m:Int) - 1)∧RowIs VE 44 8 (P + 1) u (bitL (k:Int) (N - m) m) wx∧Blk wx P ((catE (N:Int) []).cells u).toArray 44∧Ext w3 wx) (fun i _=>(intOf i + 1).toNat)
 case atStart=>exact ⟨N,.slice none 0 0,Nat.le_refl _,rfl,by rw [Nat.sub_self];exact RowIs.nil,HP4.out,HX34.out⟩
 case round =>
  obtain ⟨m,u,hm,rfl,hrow,hP,hx⟩:=hrel
  have HROW:=Lib.hid hrow
  have HP:=Lib.hid hP
  have HXR:=Lib.hid hx
  clear hrow hP hx
  rcases Nat.eq_zero_or_pos m with rfl | hm0
  ·rw [Nat.sub_zero] at HROW
   have HX6:=Lib.hid (HX3.out.trans HXR.out)
   have hsl:=RowIs.sl (V:=VE) (At:=EAt) (fun _ _ _ _ _ h hv=>VE.at h hv) HROW.out (Since.refl _ wr)
   have hve:VE wr ((catE (N:Int) []).cells u) (catE (N:Int) (bitL (k:Int) N 0)):=⟨u,rfl,hsl⟩
   have hwf:(catE (N:Int) (bitL (k:Int) N 0)).wf:=cat_wf (by unfold i64r;omega) (fun y hy=>by
    obtain ⟨i,h1,h2,rfl⟩:=bitL_mem hy
    exact idx_wf HSG.out (num_wf (by unfold i64r;decide) (by unfold u64r;omega)))
   have hnd:nodes (catE (N:Int) (bitL (k:Int) N 0)) ≤ 1048576:=by
    rw [nodes_eq]
    have:=(bitL_sum (k:Int) N 0).2.1
    show 1 + sumBy nodes (bitL (k:Int) N 0) ≤ _
    omega
   have HE1:=Lib.hid (HEV.out _ _ wr HX6.out hve hwf hnd)
   rw [L2.out] at HE1
   have HE2:=Lib.hid (fun W (h:Ext w W)=>HEV.out (sigX (N:Int) (k:Int) ((N:Int) - 1) 0) ((sigX (N:Int) (k:Int) ((N:Int) - 1) 0).cells (.slice none 0 0)) W h ⟨_,rfl,Sl.nil _ _⟩ (sig_wf (by unfold i64r;omega) HSG.out (by unfold i64r;omega) i64_0) (by show 1 ≤ 1048576;omega))
   rw [L3.out] at HE2
   have HE3:=Lib.hid (fun W (h:Ext w W) B (hb:Has W B 0 ((numE 8 (far:Int)).cells (.slice none 0 0)))=>HEV.out (idxE (k:Int) (numE 8 (far:Int))) ((idxE (k:Int) (numE 8 (far:Int))).cells (.slice (some ⟨B,0,none⟩) 1 1)) W h (idx_ve hb) (idx_wf HSG.out (num_wf (by unfold i64r;decide) (by unfold u64r;omega))) (by show 2 ≤ 1048576;omega))
   rw [L4.out far hfar] at HE3
   obtain ⟨c,hc⟩ : ∃ c,x / 2 ^ far % 2=c:=⟨_,rfl⟩
   rw [hc] at HE3
   have HC:=Lib.hid hc
   have HDR:=Lib.hid (HD3.out.ext HXR.out)
   have dr:=HDR.out.has
   have pr:=HP.out.has
   clear hsl hve hwf hnd hc HEV L2 L3 L4 HROW HP
   go_upto_region 11 with (first | ((with_reducible show wpList _ _ _ (⟨_,Op.load 26 _,_,_,_,_⟩ :: _) _ _);refine wpList_load_has rfl 26 _ rfl rfl (dr) agg_Flat rfl ?_) | ((with_reducible show wpList _ _ _ (⟨_,Op.load 44 _,_,_,_,_⟩ :: _) _ _);refine wpList_load_has rfl 44 _ rfl rfl (pr) agg_E rfl ?_) | (go_at_call 19;refine (HE1.out).mono ?_;rintro r w5 ⟨rfl,hx5⟩))
   have HD5:=Lib.hid (HDR.out.ext hx5)
   have HX5:=Lib.hid (HX6.out.trans hx5)
   clear dr pr hx5 HE1 HDR HX6
   refine wp_region_held_drew (S:=fun W=>Ext w5 W) (by kernel_rfl) (Below.drew (Below.refl _ _)) (fun hHeld=>?_)
   try simp only [J]
   (refine Jt 0 (.agg #[.slice (some ⟨b0,o0,none⟩) nv c0,pv,cv]) rfl (yif_load rfl 26 _ rfl rfl (cs:=[.slice (some ⟨b0,o0,none⟩) nv c0,pv,cv]) (fun W hW=>(HD5.out.ext hW).has) agg_Flat rfl) hHeld ?_;try simp only [J])
   (refine Jt 1 (.slice (some ⟨bv,ov,none⟩) nv capv) rfl (yif_load1 rfl fun _ _=>rfl) hHeld ?_;try simp only [J])
   (refine Jt 2 (.int .i64 (N:Int)) rfl (yif_load1 rfl fun _ _=>rfl) hHeld ?_;try simp only [J])
   (refine Jt 3 (.int .i64 (k:Int)) rfl (yif_load1 rfl fun _ _=>rfl) hHeld ?_;try simp only [J])
   (refine Jt 4 (.int .i64 (N:Int)) rfl (yif_load1 rfl fun _ _=>rfl) hHeld ?_;try simp only [J])
   (refine Jt 5 (.int .i64 ((N:Int) - 1)) rfl (yif_load1 rfl (by intro W hW;clear hW;go_simp;rw [IntKind.wrap_i64];omega)) hHeld ?_;try simp only [J])
   (refine wpAnyH_ready (rs:=[6]) (by kernel_rfl) (by simp) ?_;refine AllReadyH.cons rfl (fun K hK=>?_) AllReadyH.nil)
   go_simp
   refine (sig_calls (N:Int) (k:Int) ((N:Int) - 1) 0 _).mono ?_
   rintro r w6 ⟨rfl,hx6⟩
   refine hK.out _ _ (hHeld.trans hx6) (fun hHeld=>?_)
   clear hK K hx6
   try simp only [J]
   (refine wpAnyH_ready (rs:=[7]) (by kernel_rfl) (by simp) ?_;refine AllReadyH.cons rfl (fun K hK=>?_) AllReadyH.nil)
   go_simp
   refine (HE2.out w6 (HX5.out.trans hHeld)).mono ?_
   rintro r w7 ⟨rfl,hx7⟩
   refine hK.out _ _ (hHeld.trans hx7) (fun hHeld=>?_)
   clear hK K hx7
   try simp only [J]
   (refine Jt 8 (.tuple #[.int .u64 (x:Int),.int .i64 0]) rfl (yif_load1 rfl fun _ _=>rfl) hHeld ?_;try simp only [J])
   (refine Jt 9 (.int .u64 (x:Int)) rfl (yif_load1 rfl (by intro W hW;clear hW;go_simp)) hHeld ?_;try simp only [J])
   (refine Jt 10 (.int .i64 0) rfl (yif_load1 rfl (by intro W hW;clear hW;go_simp)) hHeld ?_;try simp only [J])
   (refine Jt 11 (.int .u64 (x:Int)) rfl (yif_load1 rfl fun _ _=>rfl) hHeld ?_;try simp only [J])
   (refine Jt 12 (.int .i64 0) rfl (yif_load1 rfl fun _ _=>rfl) hHeld ?_;try simp only [J])
   refine wpAnyH_done (by kernel_rfl) ?_ _
   have HD7:=Lib.hid (HD5.out.ext hHeld)
   have HX7:=Lib.hid (HX5.out.trans hHeld)
   clear hHeld HD5 HX5 HE2
   go_upto_region 12 with fail
   refine wp_region_held_drew (S:=fun W=>Ext w7 W) (by kernel_rfl) (Below.drew (Below.refl _ _)) (fun hHeld=>?_)
   try simp only [J]
   (refine Jt 0 (.agg #[.slice (some ⟨b0,o0,none⟩) nv c0,pv,cv]) rfl (yif_load rfl 26 _ rfl rfl (cs:=[.slice (some ⟨b0,o0,none⟩) nv c0,pv,cv]) (fun W hW=>(HD7.out.ext hW).has) agg_Flat rfl) hHeld ?_;try simp only [J])
   (refine Jt 1 (.slice (some ⟨bv,ov,none⟩) nv capv) rfl (yif_load1 rfl fun _ _=>rfl) hHeld ?_;try simp only [J])
   (refine Jt 2 (.int .i64 (k:Int)) rfl (yif_load1 rfl fun _ _=>rfl) hHeld ?_;try simp only [J])
   (refine Jt 3 (.int .u8 (far:Int)) rfl (yif_load1 rfl fun _ _=>rfl) hHeld ?_;try simp only [J])
   (refine Jt 4 (.int .u64 (far:Int)) rfl (yif_load1 rfl (by intro W hW;clear hW;go_simp;rw [IntKind.wrap_u64];omega)) hHeld ?_;try simp only [J])
   (refine wpAnyH_ready (rs:=[5]) (by kernel_rfl) (by simp) ?_;refine AllReadyH.cons rfl (fun K hK=>?_) AllReadyH.nil)
   go_simp
   refine (num_calls 8 (far:Int) _).mono ?_
   rintro r w8 ⟨rfl,hx8⟩
   refine hK.out _ _ (hHeld.trans hx8) (fun hHeld=>?_)
   clear hK K hx8
   try simp only [J]
   (refine wpAnyH_ready (rs:=[6]) (by kernel_rfl) (by simp) ?_;refine AllReadyH.cons rfl (fun K hK=>?_) AllReadyH.nil)
   refine step_bs1 rfl _ _ rfl appE rfl (cs:=(numE 8 (far:Int)).cells (.slice none 0 0)) rfl rfl (by decide) ?_
   have hx9:=ext_alloc w8 (.cells ((numE 8 (far:Int)).cells (.slice none 0 0)).toArray 44)
   have hb9:=Has.alloc w8 ((numE 8 (far:Int)).cells (.slice none 0 0)) 44
   refine hK.out _ _ (hHeld.trans hx9) (fun hHeld=>?_)
   clear hK K hx9
   generalize w8.alloc _=w9 at *
   generalize w8.heap.size=B9 at *
   have HB9:=Lib.hid hb9
   clear hb9
   try simp only [J]
   (refine Jt 7 (.agg #[.int .i64 3,.int .i64 1,.int .u64 0,.int .i64 (k:Int),.int .i64 0,.int .i64 0,.int .i64 0,.slice (some ⟨B9,0,none⟩) 1 1]) rfl (yif_load1 rfl (by intro W hW;clear hW;go_simp)) hHeld ?_;try simp only [J])
   (refine wpAnyH_ready (rs:=[8]) (by kernel_rfl) (by simp) ?_;refine AllReadyH.cons rfl (fun K hK=>?_) AllReadyH.nil)
   go_simp
   refine (HE3.out w9 (HX7.out.trans hHeld) B9 HB9.out).mono ?_
   rintro r w10 ⟨rfl,hx10⟩
   refine hK.out _ _ (hHeld.trans hx10) (fun hHeld=>?_)
   clear hK K hx10
   try simp only [J]
   (refine Jt 9 (.tuple #[.int .u64 (c:Int),.int .i64 0]) rfl (yif_load1 rfl fun _ _=>rfl) hHeld ?_;try simp only [J])
   (refine Jt 10 (.int .u64 (c:Int)) rfl (yif_load1 rfl (by intro W hW;clear hW;go_simp)) hHeld ?_;try simp only [J])
   (refine Jt 11 (.int .i64 0) rfl (yif_load1 rfl (by intro W hW;clear hW;go_simp)) hHeld ?_;try simp only [J])
   (refine Jt 12 (.int .u64 (c:Int)) rfl (yif_load1 rfl fun _ _=>rfl) hHeld ?_;try simp only [J])
   (refine Jt 13 (.int .i64 0) rfl (yif_load1 rfl fun _ _=>rfl) hHeld ?_;try simp only [J])
   refine wpAnyH_done (by kernel_rfl) ?_ _
   have HX10:=Lib.hid (HX7.out.trans hHeld)
   have xc:=HUGN.out w10 HX10.out
   clear hHeld HD7 HX7 HE3 HB9 HUGN
   have hfw:IntKind.i64.wrap (far:Int)=(far:Int):=by rw [IntKind.wrap_i64];omega
   by_cases hfn:far < N
   ·have b2:decide (far < N)=true:=decide_eq_true hfn
    have hsh:=n_shr x far
    have han:=and_one (x / 2 ^ far) (Nat.lt_of_le_of_lt (Nat.div_le_self _ _) hx64)
    rw [HC.out] at han
    have hmin:min far 64=far:=Nat.min_eq_left (by omega)
    generalize x / 2 ^ far=q at *
    clear hfn
    go_wp2_with fail
    go_ret
    exact ⟨rfl,HX10.out⟩
   ·have b2:decide (far < N)=false:=decide_eq_false hfn
    obtain rfl:c=0:=by
     rw [← HC.out,Nat.div_eq_of_lt (Nat.lt_of_lt_of_le L1.out (Nat.pow_le_pow_right (by decide) (by omega)))]
    clear hfn
    go_wp2_with fail
    go_ret
    exact ⟨rfl,HX10.out⟩
  ·obtain ⟨j,rfl⟩ : ∃ j,m=j + 1:=⟨m - 1,by omega⟩
   rw [show (((j + 1:Nat):Int) - 1)=(j:Int) by omega]
   have hbl:bitL (k:Int) (N - j) j=bitL (k:Int) (N - (j + 1)) (j + 1) ++ [idxE (k:Int) (numE 7 (j:Int))]:=by rw [← bitL_snoc,show N - (j + 1) + 1=N - j by omega]
   have HBL:=Lib.hid hbl
   have hwj:IntKind.u64.wrap (j:Int)=(j:Int):=by rw [IntKind.wrap_u64];omega
   have hll:=bitL_length (k:Int) (N - (j + 1)) (j + 1)
   have HLL:=Lib.hid (show (bitL (k:Int) (N - (j + 1)) (j + 1)).length + 1 ≤ 16777216 by omega)
   generalize bitL (k:Int) (N - (j + 1)) (j + 1)=L at *
   clear hbl hll hm0
   go_upto_region 9 with fail
   have hPd:=HP.out.drew
   have h7:=hPd.has 7 _ rfl
   refine wp_region_T (S:=fun W=>W.cell? ⟨P,7,none⟩=some u) (stop:=9) (by kernel_rfl) h7 (fun hHeld=>?_)
   clear h7
   try simp only [J]
   (refine wpAnyT_takeP (i:=0) (v:=.pointer (some ⟨P,7,none⟩)) rfl (by kernel_rfl) (by kernel_rfl) (by kernel_rfl) (by decide) (fun _ _ _ h=>h) (yif_load1 rfl (by intro W hW;clear hW;go_simp)) hHeld ?_;try simp only [J])
   (refine wpAnyT_takeP (i:=2) (v:=.int .i64 (k:Int)) rfl (by kernel_rfl) (by kernel_rfl) (by kernel_rfl) (by decide) (fun _ _ _ h=>h) (yif_load1 rfl fun _ _=>rfl) hHeld ?_;try simp only [J])
   (refine wpAnyT_takeP (i:=3) (v:=.int .i64 (j:Int)) rfl (by kernel_rfl) (by kernel_rfl) (by kernel_rfl) (by decide) (fun _ _ _ h=>h) (yif_load1 rfl fun _ _=>rfl) hHeld ?_;try simp only [J])
   (refine wpAnyT_takeP (i:=4) (v:=.int .u64 (j:Int)) rfl (by kernel_rfl) (by kernel_rfl) (by kernel_rfl) (by decide) (fun _ _ _ h=>h) (yif_load1 rfl (by intro W hW;clear hW;go_simp)) hHeld ?_;try simp only [J])
   (refine wpAnyT_take (i:=1) (v:=u) rfl (by kernel_rfl) (by kernel_rfl) (by kernel_rfl) (by decide) (by kernel_rfl) (by kernel_rfl) (fun _ _ _ h=>h) (yif_load1 rfl (by intro W hW;have y:W.cell? ⟨P,7,none⟩=some u:=hW;clear hW;go_simp)) hHeld ?_;try simp only [J])
   (refine wpAnyT_one (i:=5) (by kernel_rfl) rfl ?_;intro K hK)
   go_simp
   refine (num_calls 7 (j:Int) _).mono ?_
   rintro r wA ⟨rfl,hxA⟩
   have hPA:=hPd.ext hxA
   have hxA':=HXR.out.drew.trans hxA
   have hrA:=HROW.out.since (Since.of_ext (N:=P + 1) ((Ext.drew (Below.refl wr.heap.size wr)).trans hxA))
   refine hK.out _ _ (fun _=>hPA.has 7 _ rfl) ?_
   clear hK K hxA hPd
   try simp only [J]
   (refine wpAnyT_one (i:=6) (by kernel_rfl) rfl ?_;intro K hK)
   refine step_bs1 rfl _ _ rfl appE rfl (cs:=(numE 7 (j:Int)).cells (.slice none 0 0)) rfl rfl (by decide) ?_
   have hxB:=ext_alloc wA (.cells ((numE 7 (j:Int)).cells (.slice none 0 0)).toArray 44)
   have hbB:=Blk.new wA ((numE 7 (j:Int)).cells (.slice none 0 0)).toArray 44
   refine hK.out _ _ (fun _=>(hPA.ext hxB).has 7 _ rfl) ?_
   clear hK K
   have HPB0:P + 1 ≤ wA.heap.size:=hPA.lt
   have hPB:=hPA.ext hxB
   have hX1:=hxA'.trans hxB
   have hrB:=hrA.since (Since.of_ext (N:=P + 1) hxB)
   have hlB:=fun b h=>(hrA.lt b h).2
   clear hPA hxA' hxB hrA
   generalize wA.alloc _=wB at *
   obtain ⟨B,hB⟩ : ∃ B,wA.heap.size=B:=⟨_,rfl⟩
   rw [hB] at hbB hlB ⊢
   have hPlt:=hPB.lt
   have hBP:=HPB0
   rw [hB] at hBP
   clear hB HPB0
   replace hHeld:wB.cell? ⟨P,7,none⟩=some u:=hPB.has 7 _ rfl
   try simp only [J]
   (refine wpAnyT_takeP (i:=7) (v:=.agg #[.int .i64 3,.int .i64 1,.int .u64 0,.int .i64 (k:Int),.int .i64 0,.int .i64 0,.int .i64 0,.slice (some ⟨B,0,none⟩) 1 1]) rfl (by kernel_rfl) (by kernel_rfl) (by kernel_rfl) (by decide) (fun _ _ _ h=>h) (yif_load1 rfl (by intro W hW;clear hW;go_simp)) hHeld ?_;try simp only [J])
   (refine wpAnyT_one (i:=8) (by kernel_rfl) rfl ?_;intro K hK)
   refine step_bs1 rfl _ _ rfl appE rfl (cs:=(idxE (k:Int) (numE 7 (j:Int))).cells (.slice (some ⟨B,0,none⟩) 1 1)) rfl rfl (by decide) ?_
   have hxC:=ext_alloc wB (.cells ((idxE (k:Int) (numE 7 (j:Int))).cells (.slice (some ⟨B,0,none⟩) 1 1)).toArray 44)
   have hbC:=Blk.new wB ((idxE (k:Int) (numE 7 (j:Int))).cells (.slice (some ⟨B,0,none⟩) 1 1)).toArray 44
   refine hK.out _ _ (fun _=>(hPB.ext hxC).has 7 _ rfl) ?_
   clear hK K
   have hPC:=hPB.ext hxC
   have hX2:=hX1.trans hxC
   have hrC:=hrB.since (Since.of_ext (N:=P + 1) hxC)
   have hbBC:=hbB.ext hxC
   clear hPB hX1 hxC hrB hbB
   generalize wB.alloc _=wC at *
   generalize wB.heap.size=C at *
   try simp only [J]
   (refine wpAnyT_one (i:=9) (by kernel_rfl) rfl ?_;intro K hK)
   have hst:StV VE (P + 1) u.ownBlock wC ((idxE (k:Int) (numE 7 (j:Int))).cells (.slice (some ⟨B,0,none⟩) 1 1)) (idxE (k:Int) (numE 7 (j:Int))):=fun W hs hb =>
    idx_ve (Blk.has (show Blk W B ((numE 7 (j:Int)).cells (.slice none 0 0)).toArray 44 from (hb B hBP hbBC.lt (fun e=>Nat.lt_irrefl _ (hlB B e.symm))).trans hbBC))
   refine step_app1 rfl _ _ _ rfl appE rfl hrC rfl rfl hbC.has rfl hst HLL.out (by have:=hPC.lt;omega) ?_
   intro gq capq wq hrowq hgq
   refine hK.out _ _ (fun h=>absurd h (by decide)) ?_
   clear hK K hst
   try simp only [J]
   refine wpAnyT_of_held _ _ _ _ (by kernel_rfl) ?_
   have hHeld:(fun _:World=>True) wq:=trivial
   (refine Jt 10 (.pointer (some ⟨P,7,none⟩)) rfl (yif_load1 rfl (by intro W hW;clear hW;go_simp)) hHeld ?_;try simp only [J])
   have hPq:Blk wq P ((catE (N:Int) []).cells u).toArray 44:=(hgq.block P hPC.lt (fun e=>by have:=(hrC.lt P e.symm).1;omega)).trans hPC
   have hXq:Ext w3 wq:=Ext.grownO hX2 hgq (fun b hb=>by have:=(hrC.lt b hb).1;have:=HPE.out;omega)
   have z7:=hPq.has 7 _ rfl
   have y7:=hPq.frozen 7
   have hPs:Blk (wq.setCell ⟨P,7,none⟩ (.slice (some ⟨gq,0,none⟩) (L.length + 1) capq)) P ((catE (N:Int) []).cells (.slice (some ⟨gq,0,none⟩) (L.length + 1) capq)).toArray 44:=hPq.set 7 (.slice (some ⟨gq,0,none⟩) (L.length + 1) capq)
   have hgs:=gb_set wq P 7 (.slice (some ⟨gq,0,none⟩) (L.length + 1) capq)
   have hrs:=hrowq.since (Since.of_grown (N:=P + 1) hgs (by omega))
   have hXs:=hXq.grown hgs (by have:=HPE.out;omega)
   rw [← HBL.out] at hrs
   have HPS:=Lib.hid hPs
   have HRS:=Lib.hid hrs
   have HXS:=Lib.hid hXs
   clear hPs hrs hXs hgs hXq hPq hgq hrowq hX2 hrC hPC hbC hbBC hlB hBP hPlt
   (refine wpAnyH_ready (rs:=[11]) (by kernel_rfl) (by simp) ?_;refine AllReadyH.cons rfl (fun K hK=>?_) AllReadyH.nil)
   go_simp
   refine hK.out _ _ trivial (fun hHeld=>?_)
   clear hK K
   refine wpAnyH_done (by kernel_rfl) ?_ _
   generalize wq.setCell _ _=ws at *
   clear z7 y7
   go_wp2_with fail
   go_roundw
   case rel=>exact ⟨j,_,by omega,rfl,HRS.out,HPS.out,HXS.out⟩
   case measure=>(simp [intOf] <;> omega)
end Go.Proofs.YtemabheegnngdaaGreat
