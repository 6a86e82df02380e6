/- Laws and walks that a claim of this seat leans on: StmtValues, Lift, LiftE. -/
import Derived.Test.YtaipaccpaljecaaGreatT25
import Derived.Test.YtaipaccpaljecaaGreatTFew11
import Derived.Test.YtaipaccpaljecaaGreatRows
import Derived.Test.YtaipaccpaljecaaGreatT13
import Derived.WalkKit
import Derived.ProofKit
import Derived.OpenShut
import Derived.JoinedCond
import Derived.Test.YtaipaccpaljecaaGreatT20
import Derived.Test.YtaipaccpaljecaaGreatT00
set_option linter.all false
namespace Go.Proofs.YtaipaccpaljecaaGreat
open Go.RowKit
set_option maxRecDepth 100000 in
set_option maxHeartbeats 4000000 in
theorem StmtValues_calls (d:Flat) (v:Value) (vs:List Nat) (s:Value) (p:Int) (w:World) (hF:FlatV w v d) (hok:d.ok) (hs:Us w s vs) (h64s:us64 vs) (hls:vs.length + 1 ≤ 1048576) (hp:i64r p) :
  Calls Tryz.prog 8 #[v,s,.int .i64 p] w fun r w'=>r=.returned (.bool true)∧Ext w w':=by
 have HF:=Lib.hid (fun W (h:Ext w W)=>hF.ext h)
 have HFW:=Lib.hid (fun W (h:Ext w W)=>Few_calls d v W (hF.ext h) hok.nodes hok.signals hok.procs)
 have HOK:=Lib.hid hok
 have hlpr:=hok.procs
 have HUS:=Lib.hid (fun W (h:Ext w W)=>hs.ext h)
 have H64:=Lib.hid h64s
 have HIP:=Lib.hid hp
 obtain ⟨sv,pv,cv,rfl,hS,hP,hC⟩:=hF
 obtain ⟨ap,bp,op,cp,rfl,hp1,hp2,-,-⟩:=hP.open
 obtain ⟨av,bv,ov,capv,rfl,-,-,-,-⟩:=hs.open
 have x1:=ext_alloc w (.cells [sv,.slice ap d.procs.length cp,cv].toArray 26)
 have hD:=Blk.new w [sv,.slice ap d.procs.length cp,cv].toArray 26
 clear hS hP hC hok hs h64s
 unfold i64r at hp
 go_enter Tryz.func8,Tryz.ntmps8
 go_upto_region 1 with fail
 generalize w.alloc _=w0 at *
 have HX0:=Lib.hid x1
 have HD0:=Lib.hid hD
 clear x1 hD
 go_upto_region 4 with (go_at_call 21;refine (live11_calls _).mono ?_;rintro r w1 ⟨rfl,hx1⟩)
 have HD:=Lib.hid (HD0.out.ext hx1)
 have HX:=Lib.hid (HX0.out.trans hx1)
 clear hx1 HD0 HX0
 have d1:=HD.out.has
 obtain ⟨fw,hfw⟩ : ∃ fw,few11 d=fw:=⟨_,rfl⟩
 rw [hfw] at HFW
 clear hfw
 cases fw
 ·go_wp2_with (first | ((with_reducible show Jw (Op.load 26 _));refine wpList_load_has rfl 26 _ rfl rfl (d1) agg_Flat rfl ?_) | (go_at_call 22;refine (HFW.out w1 HX.out).mono ?_;rintro r w2 ⟨rfl,hx2⟩))
  go_ret
  exact ⟨rfl,HX.out.trans hx2⟩
 by_cases hl:(100:Int) < (vs.length:Int)
 ·have bl:decide ((100:Int) < (vs.length:Int))=true:=decide_eq_true hl
  clear hl
  go_wp2_with (first | ((with_reducible show Jw (Op.load 26 _));refine wpList_load_has rfl 26 _ rfl rfl (d1) agg_Flat rfl ?_) | (go_at_call 22;refine (HFW.out w1 HX.out).mono ?_;rintro r w2 ⟨rfl,hx2⟩))
  go_ret
  exact ⟨rfl,HX.out.trans hx2⟩
 have bl:decide ((100:Int) < (vs.length:Int))=false:=decide_eq_false hl
 go_upto_region 6 with (first | ((with_reducible show Jw (Op.load 26 _));refine wpList_load_has rfl 26 _ rfl rfl (d1) agg_Flat rfl ?_) | (go_at_call 22;refine (HFW.out w1 HX.out).mono ?_;rintro r w2 ⟨rfl,hx2⟩))
 have HD2:=Lib.hid (HD.out.ext hx2)
 have HX2:=Lib.hid (HX.out.trans hx2)
 clear hx2 d1 HD HX HFW
 have d2:=HD2.out.has
 have HRUN:=Lib.hid (Run_calls d _ vs _ p w2 (HF.out w2 HX2.out) HOK.out (HUS.out w2 HX2.out) H64.out HIP.out)
 by_cases hmay:valsOk d vs=true∧0 ≤ p∧p < d.procs.length
 ·obtain ⟨m1,m2,m3⟩:=hmay
  have hr0:(runM d vs p).2=0:=by rw [runM_yes ⟨m1,m2,m3⟩]
  have hc:=(valsOk_ck m1).2.1
  have hv2:=(runM_ok HOK.out hr0).2.2.2
  have hls:∀ x ∈ d.signals,x.w ≤ 64:=fun x hx=>(checkM_w hc x hx).2
  have hva:=valsOk_of hc hv2
  have h64:=val2_us64 hls hv2
  rw [hr0] at HRUN
  generalize (runM d vs p).1=xs at *
  have HVX:=Lib.hid (fun W (h:Ext w W) u (hu:Us W u xs)=>Values_calls d _ xs u W (HF.out W h) HOK.out hu h64)
  rw [hva] at HVX
  have HVA:=Lib.hid (fun W (h:Ext w W)=>Values_calls d _ vs _ W (HF.out W h) HOK.out (HUS.out W h) H64.out)
  rw [m1] at HVA
  have HCK:=Lib.hid (fun W (h:Ext w W)=>Check_calls d _ W (HF.out W h) HOK.out)
  rw [hc] at HCK
  have c1:decide (0 ≤ p)=true:=decide_eq_true m2
  have c2:decide (p < (d.procs.length:Int))=true:=decide_eq_true m3
  clear m1 m2 m3 hr0 hc hv2 hls hva h64
  go_upto_region 7 with (first | ((with_reducible show Jw (Op.load 26 _));refine wpList_load_has rfl 26 _ rfl rfl (d2) agg_Flat rfl ?_) | (go_at_call 23;refine HRUN.out.mono ?_;rintro r w3 ⟨u,rfl,hr3,hx3⟩))
  obtain ⟨ua,uc,rfl,-⟩:=hr3.open
  have HU:=Lib.hid hr3.cells
  have HX3:=Lib.hid (HX2.out.trans hx3)
  have HD3:=Lib.hid (HD2.out.ext hx3)
  have d3:=HD3.out.has
  clear hr3 hx3 d2
  go_wp2_with (first | ((with_reducible show Jw (Op.load 26 _));refine wpList_load_has rfl 26 _ rfl rfl (d3) agg_Flat rfl ?_) | (go_at_call 39;refine (HCK.out _ HX3.out).mono ?_;rintro r w4 ⟨rfl,hx4⟩;have d4:=(HD3.out.ext hx4).has) | ((with_reducible show Jw (Op.load 26 _));refine wpList_load_has rfl 26 _ rfl rfl (d4) agg_Flat rfl ?_) | (go_at_call 35;refine (HVX.out w5 (HX3.out.trans hx45) _ HU5.out).mono ?_;rintro r w6 ⟨rfl,hx6⟩) | ((with_reducible show Jw (Op.load 26 _));refine wpList_load_has rfl 26 _ rfl rfl (d5) agg_Flat rfl ?_) | (go_at_call 35;refine (HVA.out w4 (HX3.out.trans hx4)).mono ?_;rintro r w5 ⟨rfl,hx5⟩;have hx45:=hx4.trans hx5;have HU5:=Lib.hid (HU.out.ext hx45);have d5:=(HD3.out.ext hx45).has;have e5:=(HD3.out.ext hx45).has 1 _ rfl))
  go_ret
  exact ⟨rfl,HX3.out.trans (hx45.trans hx6)⟩
 ·rw [runM_no hmay] at HRUN
  obtain ⟨c,hc⟩ : ∃ c,checkM d=c:=⟨_,rfl⟩
  obtain ⟨q,hq⟩ : ∃ q,valsOk d vs=q:=⟨_,rfl⟩
  have HVA:=Lib.hid (fun W (h:Ext w W)=>Values_calls d _ vs _ W (HF.out W h) HOK.out (HUS.out W h) H64.out)
  have HCK:=Lib.hid (fun W (h:Ext w W)=>Check_calls d _ W (HF.out W h) HOK.out)
  rw [hq] at HVA hmay
  rw [hc] at HCK
  have hvck:q=true→c=0:=fun h=>by rw [h] at hq;rw [← hc];exact (valsOk_ck hq).2.1
  go_upto_region 7 with (first | ((with_reducible show Jw (Op.load 26 _));refine wpList_load_has rfl 26 _ rfl rfl (d2) agg_Flat rfl ?_) | (go_at_call 23;refine HRUN.out.mono ?_;rintro r w3 ⟨u,rfl,hr3,hx3⟩))
  obtain ⟨ua,uc,rfl,-⟩:=hr3.open
  have HX3:=Lib.hid (HX2.out.trans hx3)
  have HD3:=Lib.hid (HD2.out.ext hx3)
  have d3:=HD3.out.has
  clear hr3 hx3 d2 hc hq
  by_cases c0:c=0
  ·subst c0
   clear hvck
   cases q
   ·clear hmay
    go_wp2_with (first | ((with_reducible show Jw (Op.load 26 _));refine wpList_load_has rfl 26 _ rfl rfl (d3) agg_Flat rfl ?_) | (go_at_call 39;refine (HCK.out _ HX3.out).mono ?_;rintro r w4 ⟨rfl,hx4⟩;have d4:=(HD3.out.ext hx4).has) | ((with_reducible show Jw (Op.load 26 _));refine wpList_load_has rfl 26 _ rfl rfl (d4) agg_Flat rfl ?_) | (go_at_call 35;refine (HVA.out w4 (HX3.out.trans hx4)).mono ?_;rintro r w5 ⟨rfl,hx5⟩))
    go_ret
    exact ⟨rfl,HX3.out.trans (hx4.trans hx5)⟩
   ·by_cases m2:0 ≤ p
    ·have c1:decide (0 ≤ p)=true:=decide_eq_true m2
     have c2:decide (p < (d.procs.length:Int))=false:=decide_eq_false fun h=>hmay ⟨rfl,m2,h⟩
     clear hmay m2
     go_wp2_with (first | ((with_reducible show Jw (Op.load 26 _));refine wpList_load_has rfl 26 _ rfl rfl (d3) agg_Flat rfl ?_) | (go_at_call 39;refine (HCK.out _ HX3.out).mono ?_;rintro r w4 ⟨rfl,hx4⟩;have d4:=(HD3.out.ext hx4).has) | ((with_reducible show Jw (Op.load 26 _));refine wpList_load_has rfl 26 _ rfl rfl (d4) agg_Flat rfl ?_) | (go_at_call 35;refine (HVA.out w4 (HX3.out.trans hx4)).mono ?_;rintro r w5 ⟨rfl,hx5⟩;have e5:=(HD3.out.ext (hx4.trans hx5)).has 1 _ rfl))
     go_ret
     exact ⟨rfl,HX3.out.trans (hx4.trans hx5)⟩
    ·have c1:decide (0 ≤ p)=false:=decide_eq_false m2
     clear hmay m2
     go_wp2_with (first | ((with_reducible show Jw (Op.load 26 _));refine wpList_load_has rfl 26 _ rfl rfl (d3) agg_Flat rfl ?_) | (go_at_call 39;refine (HCK.out _ HX3.out).mono ?_;rintro r w4 ⟨rfl,hx4⟩;have d4:=(HD3.out.ext hx4).has) | ((with_reducible show Jw (Op.load 26 _));refine wpList_load_has rfl 26 _ rfl rfl (d4) agg_Flat rfl ?_) | (go_at_call 35;refine (HVA.out w4 (HX3.out.trans hx4)).mono ?_;rintro r w5 ⟨rfl,hx5⟩))
     go_ret
     exact ⟨rfl,HX3.out.trans (hx4.trans hx5)⟩
  ·have b0:(c == 0)=false:=by rw [beq_eq_false_iff_ne];exact c0
   clear hmay c0 hvck
   go_wp2_with (first | ((with_reducible show Jw (Op.load 26 _));refine wpList_load_has rfl 26 _ rfl rfl (d3) agg_Flat rfl ?_) | (go_at_call 39;refine (HCK.out _ HX3.out).mono ?_;rintro r w4 ⟨rfl,hx4⟩))
   go_ret
   exact ⟨rfl,HX3.out.trans hx4⟩
open Go.RowKit
/-! ### from what is read to a design -/
section
variable {H:Type} {enc:TypeId × Value→H} {w:World}
theorem bulk_part {d:DataW H} {l:List (DataW H)} (h:d ∈ l):Rows.uptoBulk d ≤ Rows.uptoBulkAll l:=by
 induction l with
 | nil=>cases h
 | cons x r ih =>
  simp only [Rows.uptoBulkAll]
  rcases List.mem_cons.1 h with e | e
  ·subst e;omega
  ·have:=ih e;omega
theorem bulk_one (d:DataW H):1 ≤ Rows.uptoBulk d:=by
 cases d with
 | lit l=>cases l <;> simp [Rows.uptoBulk]
 | nil=>simp [Rows.uptoBulk]
 | ptr d=>simp [Rows.uptoBulk]
 | slice elems spare=>simp [Rows.uptoBulk]
 | agg parts=>simp [Rows.uptoBulk]
 | iface t d=>simp [Rows.uptoBulk]
 | map entries=>simp [Rows.uptoBulk]
 | held h=>simp [Rows.uptoBulk]
theorem has_of_cells {a:Addr} {n:Nat} {cs:List Value} (h:w.cells? 0 a n=some cs) (hn:0 < n):∃ b o,a=⟨b,o,none⟩∧cs.length=n∧Has w b o cs:=by
 obtain ⟨-,hl,hc⟩:=World.cells?_some h
 obtain ⟨b,o,spot⟩:=a
 obtain ⟨v,hv⟩ : ∃ v,cs[0]? = some v:=⟨_,List.getElem?_eq_getElem (by omega)⟩
 have h0:=hc 0 hn
 rw [hv] at h0
 have hspot:spot=none:=by simpa [Addr.add] using World.cell?_spot h0
 subst hspot
 refine ⟨b,o,rfl,hl,fun j u hj=>?_⟩
 have hlt:=(List.getElem?_eq_some_iff.1 hj).1
 rw [← hj,← hc j (by omega),Go.WideShapes.add_plain]
theorem lift_rows {α : Type} {size n:Nat} {e:TypeId} {At : α→Nat→Nat→Prop} {ok : α→Prop} {ms : α→Nat} {b:Nat}
  (hE:∀ cs x o,Has w b o cs→DataW.trod enc Tryz.prog w 0 (fun _=>true) true n e cs=some x→∃ y,At y b o∧ok y∧ms y ≤ Rows.uptoBulk x.1) (elems:List (DataW H × List MemPlace)) :
  ∀ o,(∀ i (hi:i < elems.length),∃ cs,Has w b (o + i * size) cs∧DataW.trod enc Tryz.prog w 0 (fun _=>true) true n e cs=some elems[i])→∃ l:List α,l.length=elems.length∧Rows size At l b o∧(∀ y ∈ l,ok y)∧sumBy ms l ≤ Rows.uptoBulkAll (elems.map (·.1)):=by
 induction elems with
 | nil=>intro o _;exact ⟨[],rfl,trivial,by simp,by simp [sumBy]⟩
 | cons x elems ih =>
  intro o h
  obtain ⟨cs,h1,h2⟩:=h 0 (by simp)
  simp only [Nat.zero_mul,Nat.add_zero,Jb] at h1 h2
  obtain ⟨y,q1,q2,q3⟩:=hE cs x o h1 h2
  obtain ⟨l,r1,r2,r3,r4⟩:=ih (o + size) fun i hi=>by
   obtain ⟨cs',h3,h4⟩:=h (i + 1) (by simpa using hi)
   refine ⟨cs',?_,by simpa using h4⟩
   rw [show o + size + i * size=o + (i + 1) * size by rw [Nat.add_mul];omega]
   exact h3
  refine ⟨y :: l,by simp [r1],⟨q1,r2⟩,?_,?_⟩
  ·intro z hz
   rcases List.mem_cons.1 hz with e | hz
   ·rw [e];exact q2
   ·exact r3 z hz
  ·simp only [sumBy,List.map_cons,Rows.uptoBulkAll];omega
set_option maxRecDepth 100000 in
theorem lift_slice {α : Type} {size:Nat} {t e:TypeId} (ht:Tryz.prog.underlying t=some (.slice e)) (hc:Tryz.prog.cellsOf e=size) (hs:0 < size) {At : α→Nat→Nat→Prop} {ok : α→Prop} {ms : α→Nat} {m:Nat} {cs:List Value} {x:DataW H × List MemPlace} (h:DataW.trod enc Tryz.prog w 0 (fun _=>true) true m t cs=some x)
  (hE:∀ n,n < m→∀ cs x b o,Has w b o cs→DataW.trod enc Tryz.prog w 0 (fun _=>true) true n e cs=some x→∃ y,At y b o∧ok y∧ms y ≤ Rows.uptoBulk x.1) :
  ∃ s l,cs=[s]∧Sl size At s l∧(∀ y ∈ l,ok y)∧sumBy ms l + 1 ≤ Rows.uptoBulk x.1∧l.length + 1 ≤ Rows.uptoBulk x.1:=by
 rcases DataW.trod_slice ht h with ⟨rfl,rfl⟩ | ⟨a,len,cap,elems,rest,n,rfl,rfl,rfl,-,hlc,hcm,hel,hes,-⟩
 ·exact ⟨_,[],rfl,Sl.nil _ _,by simp,by simp [sumBy,Rows.uptoBulk],by simp [Rows.uptoBulk]⟩
 ·rw [hc] at hes
  by_cases h0:0 < len
  ·obtain ⟨b,o,ha⟩ : ∃ b o,a=⟨b,o,none⟩:=by
    have:=hes 0 h0
    rw [List.getElem?_eq_getElem (by omega)] at this
    obtain ⟨cs,q1,-⟩:=Option.bind_eq_some_iff.1 this
    obtain ⟨b,o,q2,-⟩:=has_of_cells q1 hs
    refine ⟨b,o,?_⟩
    rw [Nat.zero_mul] at q2
    obtain ⟨ab,ao,as'⟩:=a
    unfold Addr.add at q2
    split at q2 <;> simp_all
   subst ha
   obtain ⟨l,r1,r2,r3,r4⟩:=lift_rows (size:=size) (fun cs x o=>hE n (by omega) cs x b o) elems o fun i hi=>by
    have:=hes i (by omega)
    rw [List.getElem?_eq_getElem hi] at this
    obtain ⟨cs,q1,q2⟩:=Option.bind_eq_some_iff.1 this
    rw [Go.WideShapes.add_plain] at q1
    obtain ⟨b',o',q3,-,q4⟩:=has_of_cells q1 hs
    injection q3 with e1 e2
    subst e1;subst e2
    exact ⟨cs,q4,q2⟩
   refine ⟨_,l,rfl,⟨b,o,⟨_,cap,by rw [r1,hel],by omega,by simpa using hcm,fun _=>rfl⟩,r2⟩,r3,?_,?_⟩
   ·simp only [Rows.uptoBulk];omega
   ·simp only [Rows.uptoBulk]
    have:∀ l:List (DataW H),l.length ≤ Rows.uptoBulkAll l:=by
     intro l
     induction l with
     | nil=>simp [Rows.uptoBulkAll]
     | cons x r ih=>have:=bulk_one x;simp only [Rows.uptoBulkAll,List.length_cons];omega
    have h2:=this (elems.map (·.1))
    simp only [List.length_map] at h2
    omega
  ·obtain rfl:len=0:=by omega
   exact ⟨_,[],rfl,⟨0,0,⟨_,cap,rfl,Nat.zero_le _,by simpa using hcm,fun h=>by simp at h⟩,trivial⟩,by simp,by simp [sumBy,Rows.uptoBulk],by simp [Rows.uptoBulk]⟩
theorem lift_int {m:Nat} {cs:List Value} {x:DataW H × List MemPlace} (h:DataW.trod enc Tryz.prog w 0 (fun _=>true) true m 3 cs=some x):∃ n,cs=[.int .i64 n]∧i64r n:=by
 obtain ⟨n,rfl,-,hw⟩:=DataW.trod_int Tryz.underlying3 h
 exact ⟨n,rfl,bounds_i64 hw⟩
theorem lift_u64 {m:Nat} {cs:List Value} {x:DataW H × List MemPlace} (h:DataW.trod enc Tryz.prog w 0 (fun _=>true) true m 34 cs=some x):∃ n,cs=[.int .u64 n]∧u64r n:=by
 obtain ⟨n,rfl,-,hw⟩:=DataW.trod_int Tryz.underlying34 h
 exact ⟨n,rfl,bounds_u64 hw⟩
theorem lift_str {m:Nat} {cs:List Value} {x:DataW H × List MemPlace} (h:DataW.trod enc Tryz.prog w 0 (fun _=>true) true m 9 cs=some x):∃ n,cs=[.string n]∧n.size ≤ 9223372036854775807:=by
 obtain ⟨n,rfl,-,hw⟩:=DataW.trod_string Tryz.underlying9 h
 exact ⟨n,rfl,by simpa [maxLen] using hw⟩
theorem cells_int:Tryz.prog.cellsOf 3=1:=by kernel_rfl
theorem cells_u64:Tryz.prog.cellsOf 34=1:=by kernel_rfl
theorem cells_str:Tryz.prog.cellsOf 9=1:=by kernel_rfl
theorem cells_bool:Tryz.prog.cellsOf 4=1:=by kernel_rfl
theorem cells_E:Tryz.prog.cellsOf 64=8:=by kernel_rfl
theorem cells_T:Tryz.prog.cellsOf 60=6:=by kernel_rfl
theorem cells_Sig:Tryz.prog.cellsOf 36=4:=by kernel_rfl
theorem cells_Proc:Tryz.prog.cellsOf 39=2:=by kernel_rfl
theorem cells_Chk:Tryz.prog.cellsOf 141=9:=by kernel_rfl
theorem cells_Flat:Tryz.prog.cellsOf 26=3:=by kernel_rfl
theorem cells_sE:Tryz.prog.cellsOf 58=1:=by kernel_rfl
theorem cells_sT:Tryz.prog.cellsOf 37=1:=by kernel_rfl
theorem cells_sSig:Tryz.prog.cellsOf 22=1:=by kernel_rfl
theorem cells_sProc:Tryz.prog.cellsOf 23=1:=by kernel_rfl
theorem cells_sChk:Tryz.prog.cellsOf 24=1:=by kernel_rfl
set_option maxRecDepth 100000 in
theorem lift_E (m:Nat):∀ cs x,DataW.trod enc Tryz.prog w 0 (fun _=>true) true m 64 cs=some x→∃ (e:E) (s:Value),cs=e.cells s∧Es w s e.l∧e.wf∧nodes e ≤ Rows.uptoBulk x.1:=by
 induction m using Nat.strongRecOn with
 | ind m ih =>
  intro cs x h
  obtain ⟨xs,n,rfl,rfl,hl,hxl,hf⟩:=DataW.trod_struct Tryz.underlying64 h
  rw [cells_E] at hl
  obtain ⟨c0,c1,c2,c3,c4,c5,c6,c7,rfl⟩ : ∃ c0 c1 c2 c3 c4 c5 c6 c7,cs=[c0,c1,c2,c3,c4,c5,c6,c7]:=by
   match cs,hl with
   | [c0,c1,c2,c3,c4,c5,c6,c7],_=>exact ⟨_,_,_,_,_,_,_,_,rfl⟩
  obtain ⟨x0,x1,x2,x3,x4,x5,x6,x7,rfl⟩ : ∃ x0 x1 x2 x3 x4 x5 x6 x7,xs=[x0,x1,x2,x3,x4,x5,x6,x7]:=by
   match xs,hxl with
   | [x0,x1,x2,x3,x4,x5,x6,x7],_=>exact ⟨_,_,_,_,_,_,_,_,rfl⟩
  have f0:=hf 0 _ rfl
  have f1:=hf 1 _ rfl
  have f2:=hf 2 _ rfl
  have f3:=hf 3 _ rfl
  have f4:=hf 4 _ rfl
  have f5:=hf 5 _ rfl
  have f6:=hf 6 _ rfl
  have f7:=hf 7 _ rfl
  simp only [cells_int,cells_u64,cells_sE,List.drop_zero,List.drop_succ_cons,List.take_succ_cons,List.take_zero,List.getElem?_cons_zero,List.getElem?_cons_succ] at f0 f1 f2 f3 f4 f5 f6 f7
  obtain ⟨n0,e0,w0⟩:=lift_int f0
  obtain ⟨n1,e1,w1⟩:=lift_int f1
  obtain ⟨n2,e2,w2⟩:=lift_u64 f2
  obtain ⟨n3,e3,w3⟩:=lift_int f3
  obtain ⟨n4,e4,w4⟩:=lift_int f4
  obtain ⟨n5,e5,w5⟩:=lift_int f5
  obtain ⟨n6,e6,w6⟩:=lift_int f6
  obtain ⟨s,l,e7,hsl,hok,hsum,-⟩:=lift_slice (At:=EAt w) (ok:=E.wf) (ms:=nodes) Tryz.underlying58 cells_E (by decide) f7 (fun k hk cs x b o hh hx=>by
   obtain ⟨e,s,rfl,q1,q2,q3⟩:=ih k (by omega) cs x hx
   exact ⟨e,EAt_iff.2 ⟨s,hh,q1⟩,q2,q3⟩)
  injection e0 with e0;injection e1 with e1;injection e2 with e2;injection e3 with e3;injection e4 with e4;injection e5 with e5;injection e6 with e6;injection e7 with e7
  subst e0;subst e1;subst e2;subst e3;subst e4;subst e5;subst e6;subst e7
  refine ⟨⟨n0,n1,n2,n3,n4,n5,n6,l⟩,_,rfl,hsl,(E.wf_iff _).2 ⟨w0,w1,w2,w3,w4,w5,w6,hok⟩,?_⟩
  rw [nodes_eq]
  simp only [Rows.uptoBulk,Rows.uptoBulkAll,List.map_cons,List.map_nil]
  omega
set_option maxRecDepth 100000 in
theorem lift_T (m:Nat):∀ cs x,DataW.trod enc Tryz.prog w 0 (fun _=>true) true m 60 cs=some x→∃ (t:T) (s s':Value),cs=t.cells s s'∧Es w s t.e∧Ts w s' t.l∧t.wf∧nodesT t ≤ Rows.uptoBulk x.1:=by
 induction m using Nat.strongRecOn with
 | ind m ih =>
  intro cs x h
  obtain ⟨xs,n,rfl,rfl,hl,hxl,hf⟩:=DataW.trod_struct Tryz.underlying60 h
  rw [cells_T] at hl
  obtain ⟨c0,c1,c2,c3,c4,c5,rfl⟩ : ∃ c0 c1 c2 c3 c4 c5,cs=[c0,c1,c2,c3,c4,c5]:=by
   match cs,hl with
   | [c0,c1,c2,c3,c4,c5],_=>exact ⟨_,_,_,_,_,_,rfl⟩
  obtain ⟨x0,x1,x2,x3,x4,x5,rfl⟩ : ∃ x0 x1 x2 x3 x4 x5,xs=[x0,x1,x2,x3,x4,x5]:=by
   match xs,hxl with
   | [x0,x1,x2,x3,x4,x5],_=>exact ⟨_,_,_,_,_,_,rfl⟩
  have f0:=hf 0 _ rfl
  have f1:=hf 1 _ rfl
  have f2:=hf 2 _ rfl
  have f3:=hf 3 _ rfl
  have f4:=hf 4 _ rfl
  have f5:=hf 5 _ rfl
  simp only [cells_int,cells_sE,cells_sT,List.drop_zero,List.drop_succ_cons,List.take_succ_cons,List.take_zero,List.getElem?_cons_zero,List.getElem?_cons_succ] at f0 f1 f2 f3 f4 f5
  obtain ⟨n0,e0,w0⟩:=lift_int f0
  obtain ⟨n1,e1,w1⟩:=lift_int f1
  obtain ⟨n2,e2,w2⟩:=lift_int f2
  obtain ⟨n3,e3,w3⟩:=lift_int f3
  obtain ⟨s4,l4,e4,hs4,hok4,hsum4,-⟩:=lift_slice (At:=EAt w) (ok:=E.wf) (ms:=nodes) Tryz.underlying58 cells_E (by decide) f4 (fun k hk cs x b o hh hx=>by
   obtain ⟨e,s,rfl,q1,q2,q3⟩:=lift_E k cs x hx
   exact ⟨e,EAt_iff.2 ⟨s,hh,q1⟩,q2,q3⟩)
  obtain ⟨s5,l5,e5,hs5,hok5,hsum5,-⟩:=lift_slice (At:=TAt w) (ok:=T.wf) (ms:=nodesT) Tryz.underlying37 cells_T (by decide) f5 (fun k hk cs x b o hh hx=>by
   obtain ⟨t,s,s',rfl,q1,q2,q3,q4⟩:=ih k (by omega) cs x hx
   exact ⟨t,TAt_iff.2 ⟨s,s',hh,q1,q2⟩,q3,q4⟩)
  injection e0 with e0;injection e1 with e1;injection e2 with e2;injection e3 with e3;injection e4 with e4;injection e5 with e5
  subst e0;subst e1;subst e2;subst e3;subst e4;subst e5
  refine ⟨⟨n0,n1,n2,n3,l4,l5⟩,_,_,rfl,hs4,hs5,(T.wf_iff _).2 ⟨w0,w1,w2,w3,hok4,hok5⟩,?_⟩
  rw [nodesT_eq]
  simp only [Rows.uptoBulk,Rows.uptoBulkAll,List.map_cons,List.map_nil]
  omega
set_option maxRecDepth 100000 in
theorem lift_Sig (m:Nat):∀ cs x,DataW.trod enc Tryz.prog w 0 (fun _=>true) true m 36 cs=some x→∃ y:Signal,cs=y.cells∧y.wf:=by
 intro cs x h
 obtain ⟨xs,n,rfl,rfl,hl,hxl,hf⟩:=DataW.trod_struct Tryz.underlying36 h
 rw [cells_Sig] at hl
 obtain ⟨c0,c1,c2,c3,rfl⟩ : ∃ c0 c1 c2 c3,cs=[c0,c1,c2,c3]:=by
  match cs,hl with
  | [c0,c1,c2,c3],_=>exact ⟨_,_,_,_,rfl⟩
 obtain ⟨x0,x1,x2,x3,rfl⟩ : ∃ x0 x1 x2 x3,xs=[x0,x1,x2,x3]:=by
  match xs,hxl with
  | [x0,x1,x2,x3],_=>exact ⟨_,_,_,_,rfl⟩
 have f0:=hf 0 _ rfl
 have f1:=hf 1 _ rfl
 have f2:=hf 2 _ rfl
 have f3:=hf 3 _ rfl
 simp only [cells_int,cells_u64,cells_str,List.drop_zero,List.drop_succ_cons,List.take_succ_cons,List.take_zero,List.getElem?_cons_zero,List.getElem?_cons_succ] at f0 f1 f2 f3
 obtain ⟨n0,e0,w0⟩:=lift_str f0
 obtain ⟨n1,e1,w1⟩:=lift_int f1
 obtain ⟨n2,e2,w2⟩:=lift_int f2
 obtain ⟨n3,e3,w3⟩:=lift_u64 f3
 injection e0 with e0;injection e1 with e1;injection e2 with e2;injection e3 with e3
 subst e0;subst e1;subst e2;subst e3
 exact ⟨⟨n0,n1,n2,n3⟩,rfl,w1,w2,w3,w0⟩
set_option maxRecDepth 100000 in
theorem lift_Proc (m:Nat):∀ cs x,DataW.trod enc Tryz.prog w 0 (fun _=>true) true m 39 cs=some x→∃ (y:Proc) (s:Value),cs=y.cells s∧Ts w s y.l∧(∀ t ∈ y.l,t.wf)∧sumBy nodesT y.l ≤ Rows.uptoBulk x.1:=by
 intro cs x h
 obtain ⟨xs,n,rfl,rfl,hl,hxl,hf⟩:=DataW.trod_struct Tryz.underlying39 h
 rw [cells_Proc] at hl
 obtain ⟨c0,c1,rfl⟩ : ∃ c0 c1,cs=[c0,c1]:=by
  match cs,hl with
  | [c0,c1],_=>exact ⟨_,_,rfl⟩
 obtain ⟨x0,x1,rfl⟩ : ∃ x0 x1,xs=[x0,x1]:=by
  match xs,hxl with
  | [x0,x1],_=>exact ⟨_,_,rfl⟩
 have f0:=hf 0 _ rfl
 have f1:=hf 1 _ rfl
 simp only [cells_bool,cells_sT,List.drop_zero,List.drop_succ_cons,List.take_succ_cons,List.take_zero,List.getElem?_cons_zero,List.getElem?_cons_succ] at f0 f1
 obtain ⟨b0,e0,-⟩:=DataW.trod_bool Tryz.underlying4 f0
 obtain ⟨s1,l1,e1,hs1,hok1,hsum1,-⟩:=lift_slice (At:=TAt w) (ok:=T.wf) (ms:=nodesT) Tryz.underlying37 cells_T (by decide) f1 (fun k hk cs x b o hh hx=>by
  obtain ⟨t,s,s',rfl,q1,q2,q3,q4⟩:=lift_T k cs x hx
  exact ⟨t,TAt_iff.2 ⟨s,s',hh,q1,q2⟩,q3,q4⟩)
 injection e0 with e0;injection e1 with e1
 subst e0;subst e1
 refine ⟨⟨b0,l1⟩,_,rfl,hs1,hok1,?_⟩
 simp only [Rows.uptoBulk,Rows.uptoBulkAll,List.map_cons,List.map_nil]
 omega
set_option maxRecDepth 100000 in
theorem lift_Chk (m:Nat):∀ cs x,DataW.trod enc Tryz.prog w 0 (fun _=>true) true m 141 cs=some x→∃ (y:Chk) (s:Value),cs=y.cells s∧Es w s y.e.l∧y.e.wf∧nodes y.e ≤ Rows.uptoBulk x.1:=by
 intro cs x h
 obtain ⟨xs,n,rfl,rfl,hl,hxl,hf⟩:=DataW.trod_struct Tryz.underlying141 h
 rw [cells_Chk] at hl
 obtain ⟨c0,r,rfl⟩ : ∃ c0 r,cs=c0 :: r:=by
  match cs,hl with
  | c0 :: r,_=>exact ⟨_,_,rfl⟩
 obtain ⟨x0,x1,rfl⟩ : ∃ x0 x1,xs=[x0,x1]:=by
  match xs,hxl with
  | [x0,x1],_=>exact ⟨_,_,rfl⟩
 have f0:=hf 0 _ rfl
 have f1:DataW.trod enc Tryz.prog w 0 (fun _=>true) true n 64 ((List.drop 1 (c0 :: r)).take (Tryz.prog.cellsOf 64))=some x1:=hf 1 _ rfl
 simp only [cells_str,List.drop_zero,List.take_succ_cons,List.take_zero,List.getElem?_cons_zero] at f0
 rw [cells_E,List.drop_succ_cons,List.drop_zero,List.take_of_length_le (by simp only [List.length_cons] at hl;omega)] at f1
 obtain ⟨n0,e0,w0⟩:=lift_str f0
 obtain ⟨e,s,rfl,q1,q2,q3⟩:=lift_E _ _ _ f1
 injection e0 with e0
 subst e0
 refine ⟨⟨n0,e⟩,s,rfl,q1,q2,?_⟩
 simp only [Rows.uptoBulk,Rows.uptoBulkAll,List.map_cons,List.map_nil]
 omega
set_option maxRecDepth 100000 in
theorem lift_Flat (m:Nat):∀ cs x,DataW.trod enc Tryz.prog w 0 (fun _=>true) true m 26 cs=some x→Rows.uptoBulk x.1 ≤ 1048576→∃ d:Flat,FlatV w (.agg cs.toArray) d∧d.ok:=by
 intro cs x h hk
 obtain ⟨xs,n,rfl,rfl,hl,hxl,hf⟩:=DataW.trod_struct Tryz.underlying26 h
 rw [cells_Flat] at hl
 obtain ⟨c0,c1,c2,rfl⟩ : ∃ c0 c1 c2,cs=[c0,c1,c2]:=by
  match cs,hl with
  | [c0,c1,c2],_=>exact ⟨_,_,_,rfl⟩
 obtain ⟨x0,x1,x2,rfl⟩ : ∃ x0 x1 x2,xs=[x0,x1,x2]:=by
  match xs,hxl with
  | [x0,x1,x2],_=>exact ⟨_,_,_,rfl⟩
 have f0:=hf 0 _ rfl
 have f1:=hf 1 _ rfl
 have f2:=hf 2 _ rfl
 simp only [cells_sSig,cells_sProc,cells_sChk,List.drop_zero,List.drop_succ_cons,List.take_succ_cons,List.take_zero,List.getElem?_cons_zero,List.getElem?_cons_succ] at f0 f1 f2
 obtain ⟨s0,l0,e0,hs0,hok0,-,hln0⟩:=lift_slice (At:=SigAt w) (ok:=Signal.wf) (ms:=fun _=>0) Tryz.underlying22 cells_Sig (by decide) f0 (fun k hk cs x b o hh hx=>by
  obtain ⟨y,rfl,q1⟩:=lift_Sig k cs x hx
  exact ⟨y,hh,q1,Nat.zero_le _⟩)
 obtain ⟨s1,l1,e1,hs1,hok1,hsum1,hln1⟩:=lift_slice (At:=ProcAt w) (ok:=fun y:Proc=>∀ t ∈ y.l,t.wf) (ms:=fun y=>sumBy nodesT y.l) Tryz.underlying23 cells_Proc (by decide) f1 (fun k hk cs x b o hh hx=>by
  obtain ⟨y,s,rfl,q1,q2,q3⟩:=lift_Proc k cs x hx
  exact ⟨y,⟨s,hh,q1⟩,q2,q3⟩)
 obtain ⟨s2,l2,e2,hs2,hok2,hsum2,hln2⟩:=lift_slice (At:=ChkAt w) (ok:=fun y:Chk=>y.e.wf) (ms:=fun y=>nodes y.e) Tryz.underlying24 cells_Chk (by decide) f2 (fun k hk cs x b o hh hx=>by
  obtain ⟨y,s,rfl,q1,q2,q3⟩:=lift_Chk k cs x hx
  exact ⟨y,⟨s,hh,q1⟩,q2,q3⟩)
 injection e0 with e0;injection e1 with e1;injection e2 with e2
 subst e0;subst e1;subst e2
 simp only [Rows.uptoBulk,Rows.uptoBulkAll,List.map_cons,List.map_nil] at hk
 refine ⟨⟨l0,l1,l2⟩,⟨_,_,_,rfl,hs0,hs1,hs2⟩,⟨⟨hok0,hok1,hok2⟩,?_,?_,?_,?_⟩⟩
 ·rw [mNodes_eq];omega
 all_goals (simp only;omega)
end
open Go.RowKit
section
variable {H:Type} {enc:TypeId × Value→H} {w:World}
theorem cells_sU:Tryz.prog.cellsOf 41=1:=by kernel_rfl
set_option maxRecDepth 100000 in
theorem lift_U64s (m:Nat):∀ cs x,DataW.trod enc Tryz.prog w 0 (fun _=>true) true m 41 cs=some x→∃ (s:Value) (vs:List Nat),cs=[s]∧Us w s vs∧us64 vs∧vs.length + 1 ≤ Rows.uptoBulk x.1:=by
 intro cs x h
 obtain ⟨s,l,e,hs,hok,-,hln⟩:=lift_slice (At:=UAt w) (ok:=fun n:Nat=>n < 18446744073709551616) (ms:=fun _=>0) Tryz.underlying41 cells_u64 (by decide) h (fun k hk cs x b o hh hx=>by
  obtain ⟨n,rfl,h1,h2⟩:=lift_u64 hx
  obtain ⟨j,rfl⟩:=Int.eq_ofNat_of_zero_le h1
  exact ⟨j,hh,by omega,Nat.zero_le _⟩)
 exact ⟨s,l,e,hs,hok,hln⟩
theorem lift_u8 {m:Nat} {cs:List Value} {x:DataW H × List MemPlace} (h:DataW.trod enc Tryz.prog w 0 (fun _=>true) true m 5 cs=some x):∃ n:Nat,cs=[.int .u8 n]∧n < 256:=by
 obtain ⟨n,rfl,-,hw⟩:=DataW.trod_int Tryz.underlying5 h
 have h1:0 ≤ n∧n ≤ 255:=by
  simp [Lit.wf,IntKind.min,IntKind.max,IntKind.signed,IntKind.bits] at hw
  omega
 obtain ⟨j,rfl⟩:=Int.eq_ofNat_of_zero_le h1.1
 exact ⟨j,rfl,by omega⟩
end
end Go.Proofs.YtaipaccpaljecaaGreat
