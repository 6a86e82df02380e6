/- Laws and walks that a claim of this seat leans on: Check, Bits, NumL, Alw. -/
import Derived.Test.YtemabheegnngdaaGreatVSizeD
import Derived.Test.YtemabheegnngdaaGreatV08
import Derived.Test.YtemabheegnngdaaGreatV06
import Derived.Deep.Upon
import Derived.Test.YtemabheegnngdaaGreatV00
set_option linter.all false
namespace Go.Proofs.YtemabheegnngdaaGreat
open Go.RowKit
def checkM (d:Flat):Int:=match sizeD d with
 | .error g=>g
 | .ok y=>if (sameProcs y.procs d.procs && sameChecks y.checks d.checks)=true then 0 else 90
theorem sizeD_signals {d y:Flat} (h:sizeD d=.ok y):y.signals=d.signals:=by
 unfold sizeD at h
 repeat' split at h
 all_goals first | (cases h;done) | (injection h with h;rw [← h])
structure Flat.ok (d:Flat):Prop where
 wf:d.wf
 nodes:mNodes d ≤ 1048576
 signals:d.signals.length ≤ 1048576
 procs:d.procs.length ≤ 1048576
 checks:d.checks.length ≤ 1048576
set_option maxHeartbeats 1000000 in
theorem Check_calls (d:Flat) (v:Value) (w:World) (h:FlatV w v d) (hok:d.ok) :
  Calls Tryz.prog 44 #[v] w fun r w'=>r=.returned (.int .i64 (checkM d))∧Ext w w':=by
 have HF:=Lib.hid h
 obtain ⟨sv,pv,cv,rfl,hS,hP,hC⟩:=h
 have HX:=Lib.hid (ext_alloc w (.cells [sv,pv,cv].toArray 26))
 have HB:=Lib.hid (Has.alloc w [sv,pv,cv] 26)
 have HM:=Lib.hid (show checkM d=_ from by unfold checkM;rfl)
 have HSZ:=Lib.hid (Size_calls d _ _ (HF.out.ext HX.out) hok.wf hok.nodes hok.signals hok.procs hok.checks)
 obtain ⟨xs,bs,os,caps,e1,-,-,-,-⟩:=hS.open
 obtain ⟨ap,bp,op,capp,e2,-,-,-,-⟩:=hP.open
 obtain ⟨ac,bc,oc,capc,e3,-,-,-,-⟩:=hC.open
 subst e1;subst e2;subst e3
 clear hS hP hC
 go_enter Tryz.func44,Tryz.ntmps44
 go_upto_region 1 with fail
 generalize w.alloc _=w0 at *
 cases hs:sizeD d with
 | error g =>
  have hm:=HM.out
  rw [hs] at HSZ hm
  have HM2:=Lib.hid hm
  have hg:g ≠ 0:=by
   unfold sizeD at hs
   repeat' split at hs
   all_goals first | (injection hs with hs;rw [← hs];decide) | (injection hs with hs;rw [← hs];assumption) | (cases hs)
  have b1:(g == 0)=false:=by rw [beq_eq_false_iff_ne];exact hg
  clear hs hm hg HM
  go_upto_region 2 with (first | ((with_reducible show Jw (Op.load 26 _));refine wpList_load_has rfl 26 _ rfl rfl (HB.out) agg_Flat rfl ?_) | (go_at_call 73;refine HSZ.out.mono ?_;rintro r w1 hq;rcases hq with ⟨g',h1,-,rfl,hx1⟩ | ⟨y,a,b,c,h1,-⟩) | ((with_reducible show Jw (Op.store 26 _ _));refine wpList_store_new rfl 26 _ _ rfl rfl (by first | rfl | simp) rfl agg_Flat (rfl) rfl (by rfl) ?_))
  ·obtain rfl:g=g':=by injection h1
   have hx2:=Lib.hid (hx1.alloc (.cells zero3.toArray 26))
   clear h1
   generalize w1.alloc _=w2 at *
   go_wp2_with fail
   go_ret
   exact ⟨ret_int HM2.out.symm,HX.out.trans hx2.out⟩
 | ok y =>
  have hsy:=sizeD_signals hs
  have hm:=HM.out
  rw [hs] at HSZ hm
  have HM2:=Lib.hid hm
  have HSY:=Lib.hid hsy
  clear hs hm hsy HM
  go_upto_region 2 with (first | ((with_reducible show Jw (Op.load 26 _));refine wpList_load_has rfl 26 _ rfl rfl (HB.out) agg_Flat rfl ?_) | (go_at_call 73;refine HSZ.out.mono ?_;rintro r w1 hq;rcases hq with ⟨g',h1,-⟩ | ⟨y',a,b,c,h1,rfl,hv1,hx1⟩) | ((with_reducible show Jw (Op.store 26 _ _));refine wpList_store_new rfl 26 _ _ rfl rfl (by first | rfl | simp) rfl agg_Flat (rfl) rfl (by (obtain ⟨s',p',c',e,q1,q2,q3⟩:=hv1;injection e with e;injection e with e;injection e with e1 e2;injection e2 with e2 e3;injection e3 with e3 e4;subst e1;subst e2;subst e3;simp [q1.one,q2.one,q3.one])) ?_))
  ·obtain rfl:y=y':=by injection h1
   have hx2:=hx1.alloc (.cells [a,b,c].toArray 26)
   have hy2:=Lib.hid (Has.alloc w1 [a,b,c] 26)
   have hv2:=hv1.ext (ext_alloc w1 (.cells [a,b,c].toArray 26))
   have HSM:=Lib.hid (fun W (hx:Ext _ W)=>Same_calls y d _ _ W (hv2.ext hx) (HF.out.ext ((HX.out.trans hx2).trans hx)) HSY.out)
   have HB2:=Lib.hid (HB.out.ext hx2)
   have HX2:=Lib.hid (HX.out.trans hx2)
   clear h1 hv1 hv2 hx2 hx1
   generalize w1.alloc _=w2 at *
   obtain ⟨p,hp⟩ : ∃ p,(sameProcs y.procs d.procs && sameChecks y.checks d.checks)=p:=⟨_,rfl⟩
   have hm:=HM2.out
   try simp only at hm
   rw [hp] at HSM hm
   have HM3:=Lib.hid hm
   clear hm hp HM2
   cases p
   ·go_wp2_with (first | ((with_reducible show Jw (Op.load 26 _));refine wpList_load_has rfl 26 _ rfl rfl (hy2.out) agg_Flat rfl ?_) | ((with_reducible show Jw (Op.load 26 _));refine wpList_load_has rfl 26 _ rfl rfl (HB2.out) agg_Flat rfl ?_) | (go_at_call 74;refine (HSM.out _ (Below.refl _ _)).mono ?_;rintro r w3 ⟨rfl,hx3⟩))
    all_goals go_ret
    all_goals exact ⟨ret_int (by rw [HM3.out];rfl),HX2.out.trans hx3⟩
   ·go_wp2_with (first | ((with_reducible show Jw (Op.load 26 _));refine wpList_load_has rfl 26 _ rfl rfl (hy2.out) agg_Flat rfl ?_) | ((with_reducible show Jw (Op.load 26 _));refine wpList_load_has rfl 26 _ rfl rfl (HB2.out) agg_Flat rfl ?_) | (go_at_call 74;refine (HSM.out _ (Below.refl _ _)).mono ?_;rintro r w3 ⟨rfl,hx3⟩))
    all_goals go_ret
    all_goals exact ⟨ret_int (by rw [HM3.out];rfl),HX2.out.trans hx3⟩
open Go.RowKit
/-! ### stmt.Bits: where each signal's bits begin -/
theorem checkM_shaped {d:Flat} (h:checkM d=0):shapedM d=true:=by
 unfold checkM at h
 cases hs:sizeD d with
 | error g =>
  exfalso
  rw [hs] at h
  simp only at h
  subst h
  unfold sizeD at hs
  repeat' split at hs
  all_goals first | (cases hs;done) | (injection hs with hs;first | exact absurd hs (by decide) | (rename_i hne;exact hne hs))
 | ok y =>
  unfold sizeD at hs
  repeat' split at hs
  all_goals first | (cases hs;done) | skip
  rename_i hne _ _
  simpa using hne
theorem sigs_w1 (seen:List (List UInt8)) (l:List Signal) (h:sigsOk seen l=true):∀ x ∈ l,1 ≤ x.w∧x.w ≤ 64:=by
 induction l generalizing seen with
 | nil=>intro x hx;cases hx
 | cons y l ih =>
  rw [sigsOk,Bool.and_eq_true] at h
  intro x hx
  cases hx with
  | head =>
   have:=h.1
   unfold sigOk at this
   simp only [Bool.and_eq_true,decide_eq_true_eq] at this
   omega
  | tail _ hx=>exact ih _ h.2 x hx
theorem checkM_w {d:Flat} (h:checkM d=0):∀ x ∈ d.signals,1 ≤ x.w∧x.w ≤ 64:=by
 have h1:=checkM_shaped h
 unfold shapedM at h1
 simp only [Bool.and_eq_true] at h1
 exact sigs_w1 _ _ h1.1.1
def sumW (ls:List Signal) (k:Nat):Int:=((ls.take k).map (·.w)).sum
def offsM (ls:List Signal) (k:Nat):List Int:=(List.range (k + 1)).map (sumW ls)
theorem sumW_succ (ls:List Signal) (k:Nat) (h:k < ls.length):sumW ls (k + 1)=sumW ls k + ls[k].w:=by
 unfold sumW
 rw [take_snoc _ _ h,List.map_append,List.sum_append]
 simp
theorem offsM_length (ls:List Signal) (k:Nat):(offsM ls k).length=k + 1:=by simp [offsM]
theorem sumW_le (ls:List Signal) (h:∀ x ∈ ls,1 ≤ x.w∧x.w ≤ 64):∀ k,k ≤ ls.length→0 ≤ sumW ls k∧sumW ls k ≤ 64 * k:=by
 intro k
 induction k with
 | zero=>intro _;simp [sumW]
 | succ k ih =>
  intro hk
  have h1:=ih (by omega)
  have h2:=h _ (List.getElem_mem (show k < ls.length by omega))
  rw [sumW_succ ls k (by omega)]
  omega
theorem IntRow.open1 {N:Nat} {v:Value} {l:List Int} {w:World} (h:IntRow N v l w) (hl:0 < l.length):∃ g cap,v=.slice (some ⟨g,0,none⟩) l.length cap∧N ≤ g∧∀ i x,l[i]? = some x→w.cell? ⟨g,i,none⟩=some (.int .i64 x):=by
 rcases h.2 with ⟨rfl,h0⟩ | ⟨g,cap,cur,rfl,hb,hg,hnc,hcm,hcs,htake⟩
 ·omega
 ·refine ⟨g,cap,rfl,hb,fun i x hx=>?_⟩
  have:=flat_own (N:=N) (cap:=cap) (size:=1) hg htake i (.int .i64 x) (by simp [hx])
  rwa [Nat.zero_add] at this
open Go.RowKit
/-! ### plain: the numbers of bits rise, each once -/
theorem compactUpTo_mem (d:Array Int):∀ m x,x ∈ Lib.compactUpTo d m ↔ ∃ j,j < m∧d[j]! = x:=by
 intro m
 induction m with
 | zero=>intro x;simp [Lib.compactUpTo]
 | succ m ih =>
  intro x
  rw [Lib.compactUpTo_succ,List.mem_append,ih]
  constructor
  ·rintro (⟨j,hj,rfl⟩ | h)
   ·exact ⟨j,by omega,rfl⟩
   ·split at h
    ·simp at h;exact ⟨m,by omega,h.symm⟩
    ·cases h
  ·rintro ⟨j,hj,rfl⟩
   by_cases hjm:j < m
   ·exact .inl ⟨j,hjm,rfl⟩
   ·have:j=m:=by omega
    subst this
    by_cases hk:Lib.keeps d j=true
    ·exact .inr (by rw [if_pos hk];simp)
    ·simp only [Lib.keeps,decide_eq_true_eq,not_or,Decidable.not_not] at hk
     exact .inl ⟨j - 1,by omega,hk.2.symm⟩
theorem compactUpTo_lt (d:Array Int) (hs:∀ i j,i ≤ j→j < d.size→d[i]! ≤ d[j]!):∀ m,m ≤ d.size→(Lib.compactUpTo d m).Pairwise (· < ·)∧∀ x ∈ Lib.compactUpTo d m,∀ j,m ≤ j + 1→j < d.size→x ≤ d[j]!:=by
 intro m
 induction m with
 | zero=>intro _;simp [Lib.compactUpTo]
 | succ m ih =>
  intro hm
  obtain ⟨h1,h2⟩:=ih (by omega)
  constructor
  ·rw [Lib.compactUpTo_succ,List.pairwise_append]
   refine ⟨h1,?_,?_⟩
   ·split <;> simp
   ·intro x hx y hy
    split at hy
    ·rename_i hk
     simp at hy
     subst hy
     simp only [Lib.keeps,decide_eq_true_eq] at hk
     rcases hk with hk | hk
     ·subst hk;simp [Lib.compactUpTo] at hx
     ·by_cases h0:m=0
      ·subst h0;simp [Lib.compactUpTo] at hx
      ·have q1:=h2 x hx (m - 1) (by omega) (by omega)
       have q2:=hs (m - 1) m (by omega) (by omega)
       omega
    ·cases hy
  ·intro x hx j hj hjs
   obtain ⟨i,hi,rfl⟩:=(compactUpTo_mem d _ x).1 hx
   exact hs i j (by omega) hjs
theorem sortI_mem (l:List Int) (x:Int):x ∈ sortI l ↔ x ∈ l:=by unfold sortI;exact List.mem_mergeSort
theorem sortI_sorted (l:List Int):(sortI l).Pairwise (· ≤ ·):=by
 have:=List.pairwise_mergeSort (le:=fun x y:Int=>decide (x ≤ y)) (fun a b c h1 h2=>by simp at *;omega) (fun a b=>by simp;omega) l
 unfold sortI
 exact this.imp fun h=>by simpa using h
def setI (l:List Int):List Int:=Lib.compact (sortI l)
theorem setI_mem (l:List Int) (x:Int):x ∈ setI l ↔ x ∈ l:=by
 rw [← sortI_mem l x]
 unfold setI Lib.compact
 rw [compactUpTo_mem]
 constructor
 ·rintro ⟨j,hj,rfl⟩
  have:j < (sortI l).toArray.size:=by simpa using hj
  rw [getElem!_pos (sortI l).toArray j this]
  simp
 ·intro h
  obtain ⟨j,hj,rfl⟩:=List.getElem_of_mem h
  refine ⟨j,hj,?_⟩
  have:j < (sortI l).toArray.size:=by simpa using hj
  rw [getElem!_pos (sortI l).toArray j this]
  simp
theorem setI_lt (l:List Int):(setI l).Pairwise (· < ·):=by
 unfold setI Lib.compact
 refine (compactUpTo_lt (sortI l).toArray (fun i j hij hj=>?_) (sortI l).length (by simp)).1
 have hi:i < (sortI l).toArray.size:=by omega
 rw [getElem!_pos (sortI l).toArray j hj,getElem!_pos (sortI l).toArray i hi]
 simp only [Jd]
 by_cases e:i=j
 ·subst e;exact Int.le_refl _
 ·exact List.pairwise_iff_getElem.1 (sortI_sorted l) i j (by simpa using hi) (by simpa using hj) (by omega)
theorem lt_ext (l r:List Int) (hl:l.Pairwise (· < ·)) (hr:r.Pairwise (· < ·)) (h:∀ x,x ∈ l ↔ x ∈ r):l=r:=by
 induction l generalizing r with
 | nil=>cases r with
  | nil=>rfl
  | cons y r=>exact absurd ((h y).2 (by simp)) (by simp)
 | cons x l ih =>
  cases r with
  | nil=>exact absurd ((h x).1 (by simp)) (by simp)
  | cons y r =>
   obtain ⟨a1,a2⟩:=List.pairwise_cons.1 hl
   obtain ⟨b1,b2⟩:=List.pairwise_cons.1 hr
   have hxy:x=y:=by
    have h1:x ∈ y :: r:=(h x).1 (by simp)
    have h2:y ∈ x :: l:=(h y).2 (by simp)
    cases h1 with
    | head=>rfl
    | tail _ h1 =>
     cases h2 with
     | head=>rfl
     | tail _ h2=>have:=b1 x h1;have:=a1 y h2;omega
   subst hxy
   rw [ih r a2 b2 fun z=>?_]
   constructor
   ·intro hz
    have h1:z ∈ x :: r:=(h z).1 (by simp [hz])
    cases h1 with
    | head=>exact absurd (a1 _ hz) (by omega)
    | tail _ h1=>exact h1
   ·intro hz
    have h1:z ∈ x :: l:=(h z).2 (by simp [hz])
    cases h1 with
    | head=>exact absurd (b1 _ hz) (by omega)
    | tail _ h1=>exact h1
theorem setI_eq (l r:List Int) (hr:r.Pairwise (· < ·)) (h:∀ x,x ∈ l ↔ x ∈ r):setI l=r :=
 lt_ext _ _ (setI_lt l) hr fun x=>by rw [setI_mem,h]
/-! ### plain: of lists without doubles one stands in another -/
/-! ### plain: where each signal's bits begin -/
theorem offsM_getD (ls:List Signal) (k n:Nat) (h:k ≤ n):(offsM ls n).getD k 0=sumW ls k:=by
 unfold offsM
 rw [List.getD_eq_getElem?_getD,List.getElem?_map,List.getElem?_range (by omega)]
 rfl
theorem sumW_mono (ls:List Signal) (hw:∀ x ∈ ls,1 ≤ x.w∧x.w ≤ 64) (i:Nat):∀ j,i ≤ j→j ≤ ls.length→sumW ls i ≤ sumW ls j:=by
 intro j
 induction j with
 | zero =>
  intro h _
  obtain rfl:i=0:=by omega
  exact Int.le_refl _
 | succ j ih =>
  intro h1 h2
  by_cases e:i=j + 1
  ·subst e;exact Int.le_refl _
  ·have:=ih (by omega) (by omega)
   have:=hw _ (List.getElem_mem (show j < ls.length by omega))
   rw [sumW_succ ls j (by omega)]
   omega
open Go.RowKit
/-! ### append of numbers, of whatever slice -/
/-! ### always: what statements write on each way -/
end Go.Proofs.YtemabheegnngdaaGreat
