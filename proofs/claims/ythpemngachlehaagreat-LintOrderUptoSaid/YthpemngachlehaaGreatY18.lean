/- Laws and walks that a claim of this seat leans on: Mark7, RefL. -/
import Derived.Test.YthpemngachlehaaGreatY17
import Derived.Test.YthpemngachlehaaGreatY13
import Derived.Test.YthpemngachlehaaGreatY00
set_option linter.all false
namespace Go.Proofs.YthpemngachlehaaGreat
open Go.RowKit
/-! ### filigreeref11.Ints -/
set_option maxHeartbeats 2000000 in
theorem Ints_calls11 (l r:List Int) (v v':Value) (w:World) (h:Ints w v l) (h':Ints w v' r) (hn:l.length ≤ 1099511627776) :
  Calls Tryz.prog 13 #[v,v'] w fun e w'=>e=.returned (.bool (decide (l=r)))∧Ext w w':=by
 obtain ⟨a,b,o,cap,rfl,hc1,hc2,ha,hr⟩:=h.open
 obtain ⟨a',b',o',cap',rfl,hd1,hd2,ha',hr'⟩:=h'.open
 have HR:=Lib.hid hr
 have HA:=Lib.hid ha
 have HR':=Lib.hid hr'
 have HA':=Lib.hid ha'
 clear hr ha h hr' ha' h'
 obtain ⟨t,ht⟩ : ∃ t,decide (l=r)=t:=⟨_,rfl⟩
 rw [ht]
 have HT:=Lib.hid ht
 clear ht
 by_cases hlr:l.length=r.length
 ·have hlb:((l.length:Int) != (r.length:Int))=false:=by rw [bne_eq_false_iff_eq,hlr]
  have HLR:=Lib.hid hlr
  obtain ⟨n,hnl⟩ : ∃ n,l.length=n:=⟨_,rfl⟩
  have HNL:=Lib.hid hnl
  have HNR:=Lib.hid (show r.length=n by rw [← hlr];exact hnl)
  rw [← hlr] at hd1 HA' ⊢
  rw [hnl] at hc1 hd1 HA HA' hn ⊢
  clear hlr hlb hnl
  go_enter Tryz.func13,Tryz.ntmps13
  go_wp2_with fail
  go_loopw [5] (fun i wr=>∃ k:Nat,k ≤ n∧i=.int .i64 k∧(∀ j,j < k→l[j]? = r[j]?)∧Ext w wr) (fun i _=>n - (intOf i).toNat)
  case atStart=>exact ⟨0,Nat.zero_le _,rfl,fun j hj=>absurd hj (by omega),Below.refl _ _⟩
  case round =>
   obtain ⟨k,hk,rfl,hsame,hx⟩:=hrel
   have HS:=Lib.hid hsame
   have HX:=Lib.hid hx
   clear hsame hx
   by_cases hlt:k < n
   ·obtain rfl:=HA.out (by omega)
    obtain rfl:=HA'.out (by omega)
    have HZ:=Lib.hid (fun W (hx:Ext w W)=>Ints.cell (k:=k) (HR.out.mono fun x _ b o h=>Has.ext h hx) (by rw [HNL.out];exact hlt))
    have HZ':=Lib.hid (fun W (hx:Ext w W)=>Ints.cell (k:=k) (HR'.out.mono fun x _ b o h=>Has.ext h hx) (by rw [HNR.out];exact hlt))
    have HE:=Lib.hid (show l[k]? = some (l[k]'(by rw [HNL.out];exact hlt)) from List.getElem?_eq_getElem _)
    have HE':=Lib.hid (show r[k]? = some (r[k]'(by rw [HNR.out];exact hlt)) from List.getElem?_eq_getElem _)
    generalize l[k]'_=x at *
    generalize r[k]'_=y at *
    go_upto_region 6 with fail
    refine wp_region_held_drew (S:=fun W=>Ext w W) (by kernel_rfl) (Below.drew HX.out) (fun hHeld=>?_)
    try simp only [J]
    (refine Jt 0 (_) rfl (yif_load1 rfl fun _ _=>rfl) hHeld ?_;try simp only [J])
    (refine Jt 1 (_) rfl (yif_load1 rfl fun _ _=>rfl) hHeld ?_;try simp only [J])
    (refine Jt 2 (.pointer (some ⟨b,o + k,Option.none⟩)) rfl (yif_load1 rfl (by intro W hW;clear hW;go_simp;try (intro h;omega))) hHeld ?_;try simp only [J])
    (refine Jt 3 (.int .i64 x) rfl (yif_load1 rfl (by intro W hW;have y:=HZ.out W hW;clear hW;go_simp)) hHeld ?_;try simp only [J])
    (refine Jt 4 (_) rfl (yif_load1 rfl fun _ _=>rfl) hHeld ?_;try simp only [J])
    (refine Jt 5 (_) rfl (yif_load1 rfl fun _ _=>rfl) hHeld ?_;try simp only [J])
    (refine Jt 6 (.pointer (some ⟨b',o' + k,Option.none⟩)) rfl (yif_load1 rfl (by intro W hW;clear hW;go_simp;try (intro h;omega))) hHeld ?_;try simp only [J])
    (refine Jt 7 (.int .i64 y) rfl (yif_load1 rfl (by intro W hW;have y:=HZ'.out W hW;clear hW;go_simp)) hHeld ?_;try simp only [J])
    obtain ⟨c,hc⟩ : ∃ c,(x != y)=c:=⟨_,rfl⟩
    have HC:=Lib.hid hc
    clear hc
    (refine Jt 8 (.bool c) rfl (yif_load1 rfl (by intro W hW;clear hW;go_simp;exact HC.out)) hHeld ?_;try simp only [J])
    refine wpAnyH_done (by kernel_rfl) ?_ _
    cases c
    ·have HXY:=Lib.hid (show x=y by have:=HC.out;rwa [bne_eq_false_iff_eq] at this)
     go_wp2_with fail
     go_roundw
     case rel=>exact ⟨k + 1,hlt,by go_num,fun j hj=>by
      by_cases e:j=k
      ·subst e;rw [HE.out,HE'.out,HXY.out]
      ·exact HS.out j (by omega),hHeld⟩
     case measure=>simp [intOf];omega
    ·have HXY:=Lib.hid (show x ≠ y by have:=HC.out;rwa [bne_iff_ne] at this)
     obtain rfl:t=false:=by
      rw [← HT.out,decide_eq_false_iff_not]
      intro e
      have h1:=HE.out
      rw [e,HE'.out] at h1
      injection h1 with h1
      exact HXY.out h1.symm
     go_wp2_with fail
     go_ret
     exact ⟨rfl,hHeld⟩
   ·obtain rfl:k=n:=by omega
    obtain rfl:t=true:=by
     rw [← HT.out,decide_eq_true_eq]
     refine List.ext_getElem? fun j=>?_
     by_cases hj:j < k
     ·exact HS.out j hj
     ·rw [List.getElem?_eq_none (by rw [HNL.out];omega),List.getElem?_eq_none (by rw [HNR.out];omega)]
    go_wp2_with fail
    go_ret
    exact ⟨rfl,HX.out⟩
 ·obtain rfl:t=false:=by
   rw [← HT.out,decide_eq_false_iff_not]
   intro e;exact hlr (by rw [e])
  have hlb:((l.length:Int) != (r.length:Int))=true:=by rw [bne_iff_ne];omega
  clear hlr
  go_enter Tryz.func13,Tryz.ntmps13
  go_wp2_with fail
  go_ret
  exact ⟨rfl,Below.refl _ _⟩
/-! ### filigreeref12.ready -/
def readyB (on come:List Bool) (k:Nat):Bool:=(List.range k).all fun q=>!on.getD q false || come.getD q false
theorem readyB_succ (on come:List Bool) (k:Nat):readyB on come (k + 1)=(readyB on come k && (!on.getD k false || come.getD k false)):=by
 unfold readyB;rw [List.range_succ,List.all_append];simp
theorem readyB_false (on come:List Bool) {k n:Nat} (hk:k < n) (h1:on.getD k false=true) (h2:come.getD k false=false):readyB on come n=false:=by
 unfold readyB
 rw [List.all_eq_false]
 exact ⟨k,List.mem_range.2 hk,by rw [h1,h2];decide⟩
set_option maxHeartbeats 2000000 in
theorem ready_calls12 (on come:List Bool) (v v':Value) (w:World) (h:Bools w v on) (h':Bools w v' come) (hl:come.length=on.length) (hn:on.length ≤ 1073741824) :
  Calls Tryz.prog 58 #[v,v'] w fun e w'=>e=.returned (.bool (readyB on come on.length))∧Ext w w':=by
 obtain ⟨a,b,o,cap,rfl,hc1,hc2,ha,hr⟩:=h.open
 obtain ⟨a',b',o',cap',rfl,hd1,hd2,ha',hr'⟩:=h'.open
 have HR:=Lib.hid hr
 have HA:=Lib.hid ha
 have HR':=Lib.hid hr'
 have HA':=Lib.hid ha'
 obtain ⟨n,hnl⟩ : ∃ n,on.length=n:=⟨_,rfl⟩
 have HNL:=Lib.hid hnl
 have HNR:=Lib.hid (show come.length=n by rw [hl];exact hnl)
 rw [hl] at hd1 HA' ⊢
 rw [hnl] at hc1 hd1 HA HA' hn ⊢
 clear hr ha h hr' ha' h' hl hnl
 obtain ⟨t,ht⟩ : ∃ t,readyB on come n=t:=⟨_,rfl⟩
 rw [ht]
 have HT:=Lib.hid ht
 clear ht
 go_enter Tryz.func58,Tryz.ntmps58
 go_wp2_with fail
 go_loopw [5] (fun i wr=>∃ k:Nat,k ≤ n∧i=.int .i64 k∧readyB on come k=true∧Ext w wr) (fun i _=>n - (intOf i).toNat)
 case atStart=>exact ⟨0,Nat.zero_le _,rfl,rfl,Below.refl _ _⟩
 case round =>
  obtain ⟨k,hk,rfl,hsame,hx⟩:=hrel
  have HS:=Lib.hid hsame
  have HX:=Lib.hid hx
  clear hsame hx
  by_cases hlt:k < n
  ·obtain rfl:=HA.out (by omega)
   obtain rfl:=HA'.out (by omega)
   have hz:=Bools.cell (a:=none) (n:=0) (cap:=0) (k:=k) (HR.out.mono fun x _ b o h=>Has.ext h HX.out) (by rw [HNL.out];exact hlt)
   have hz':=Bools.cell (a:=none) (n:=0) (cap:=0) (k:=k) (HR'.out.mono fun x _ b o h=>Has.ext h HX.out) (by rw [HNR.out];exact hlt)
   have HE:=Lib.hid (show on.getD k false=on[k]'(by rw [HNL.out];exact hlt) by rw [List.getD_eq_getElem?_getD,List.getElem?_eq_getElem (by rw [HNL.out];exact hlt)];rfl)
   have HE':=Lib.hid (show come.getD k false=come[k]'(by rw [HNR.out];exact hlt) by rw [List.getD_eq_getElem?_getD,List.getElem?_eq_getElem (by rw [HNR.out];exact hlt)];rfl)
   generalize on[k]'_=x at *
   generalize come[k]'_=y at *
   cases x
   ·go_wp2_with fail
    go_roundw
    case rel=>exact ⟨k + 1,hlt,by go_num,by rw [readyB_succ,HS.out,HE.out];rfl,HX.out⟩
    case measure=>simp [intOf];omega
   ·cases y
    ·obtain rfl:t=false:=by rw [← HT.out];exact readyB_false on come hlt HE.out HE'.out
     go_wp2_with fail
     go_ret
     exact ⟨rfl,HX.out⟩
    ·go_wp2_with fail
     go_roundw
     case rel=>exact ⟨k + 1,hlt,by go_num,by rw [readyB_succ,HS.out,HE.out,HE'.out];rfl,HX.out⟩
     case measure=>simp [intOf];omega
  ·obtain rfl:k=n:=by omega
   obtain rfl:t=true:=by rw [← HT.out,HS.out]
   go_wp2_with fail
   go_ret
   exact ⟨rfl,HX.out⟩
/-! ### filigreeref12.above -/
def aboveM (on:List Bool) (lev:List Int):Nat→Int
 | 0=>0
 | k + 1=>if on.getD k false=true then max (aboveM on lev k) (lev.getD k 0 + 1) else aboveM on lev k
theorem aboveM_bound (on:List Bool) (lev:List Int) {B:Int} (hB:0 ≤ B) (h:∀ x ∈ lev,0 ≤ x∧x ≤ B) (k:Nat):0 ≤ aboveM on lev k∧aboveM on lev k ≤ B + 1:=by
 induction k with
 | zero=>exact ⟨Int.le_refl _,by simp only [aboveM];omega⟩
 | succ k ih =>
  unfold aboveM
  split
  ·have hg:lev.getD k 0 ≤ B:=by
    rw [List.getD_eq_getElem?_getD]
    cases hq:lev[k]? with
    | none=>simpa using hB
    | some y=>exact (h y (List.mem_of_getElem? hq)).2
   omega
  ·exact ih
set_option maxHeartbeats 2000000 in
theorem above_calls12 (on:List Bool) (lev:List Int) (v v':Value) (w:World) (h:Bools w v on) (h':Ints w v' lev) (hl:lev.length=on.length) (hn:on.length ≤ 1073741824) {B:Int} (hB:0 ≤ B) (hB2:B ≤ 1099511627776) (hlv:∀ x ∈ lev,0 ≤ x∧x ≤ B) :
  Calls Tryz.prog 36 #[v,v'] w fun e w'=>e=.returned (.int .i64 (aboveM on lev on.length))∧Ext w w':=by
 obtain ⟨a,b,o,cap,rfl,hc1,hc2,ha,hr⟩:=h.open
 obtain ⟨a',b',o',cap',rfl,hd1,hd2,ha',hr'⟩:=h'.open
 have HR:=Lib.hid hr
 have HA:=Lib.hid ha
 have HR':=Lib.hid hr'
 have HA':=Lib.hid ha'
 have HBD:=Lib.hid (aboveM_bound on lev hB hlv)
 have HLV:=Lib.hid hlv
 obtain ⟨n,hnl⟩ : ∃ n,on.length=n:=⟨_,rfl⟩
 have HNL:=Lib.hid hnl
 have HNR:=Lib.hid (show lev.length=n by rw [hl];exact hnl)
 rw [hl] at hd1 HA' ⊢
 rw [hnl] at hc1 hd1 HA HA' hn ⊢
 clear hr ha h hr' ha' h' hl hnl hlv
 go_enter Tryz.func36,Tryz.ntmps36
 go_wp2_with fail
 go_loopw [5,6] (fun m i wr=>∃ k:Nat,k ≤ n∧i=.int .i64 k∧m=.int .i64 (aboveM on lev k)∧Ext w wr) (fun _ i _=>n - (intOf i).toNat)
 case atStart=>exact ⟨0,Nat.zero_le _,rfl,rfl,Below.refl _ _⟩
 case round =>
  obtain ⟨k,hk,rfl,rfl,hx⟩:=hrel
  have HX:=Lib.hid hx
  clear hx
  by_cases hlt:k < n
  ·obtain rfl:=HA.out (by omega)
   obtain rfl:=HA'.out (by omega)
   have hz:=Bools.cell (a:=none) (n:=0) (cap:=0) (k:=k) (HR.out.mono fun x _ b o h=>Has.ext h HX.out) (by rw [HNL.out];exact hlt)
   have hz':=Ints.cell (k:=k) (HR'.out.mono fun x _ b o h=>Has.ext h HX.out) (by rw [HNR.out];exact hlt)
   have HE:=Lib.hid (show on.getD k false=on[k]'(by rw [HNL.out];exact hlt) by rw [List.getD_eq_getElem?_getD,List.getElem?_eq_getElem (by rw [HNL.out];exact hlt)];rfl)
   have HE':=Lib.hid (show lev.getD k 0=lev[k]'(by rw [HNR.out];exact hlt) by rw [List.getD_eq_getElem?_getD,List.getElem?_eq_getElem (by rw [HNR.out];exact hlt)];rfl)
   have hyb:=HLV.out _ (List.getElem_mem (show k < lev.length by rw [HNR.out];exact hlt))
   have hbk:=HBD.out k
   have HS:=Lib.hid (show aboveM on lev (k + 1)=if on.getD k false=true then max (aboveM on lev k) (lev.getD k 0 + 1) else aboveM on lev k from rfl)
   rw [HE.out,HE'.out] at HS
   generalize on[k]'_=x at *
   generalize lev[k]'_=y at *
   obtain ⟨m,hm⟩ : ∃ m,aboveM on lev k=m:=⟨_,rfl⟩
   rw [hm] at HS hbk ⊢
   clear hm
   cases x
   ·have HS2:=Lib.hid (show aboveM on lev (k + 1)=m by rw [HS.out,if_neg (by decide)])
    go_wp2_with fail
    go_roundw
    case rel=>exact ⟨k + 1,hlt,by go_num,by rw [HS2.out],HX.out⟩
    case measure=>simp [intOf];omega
   ·have HS2:=Lib.hid (show aboveM on lev (k + 1)=max m (y + 1) by rw [HS.out,if_pos rfl])
    go_wp2_with fail
    go_roundw
    case rel=>exact ⟨k + 1,hlt,by go_num,by rw [HS2.out],HX.out⟩
    case measure=>simp [intOf];omega
  ·obtain rfl:k=n:=by omega
   go_wp2_with fail
   go_ret
   exact ⟨rfl,HX.out⟩
/-! ### the document's answer for layer 9, in plain words -/
def partsR (op:Int) (len:Nat):Bool :=
 if op=1 ∨ op=2 then decide (len=0) else if op=3 ∨ op=4 ∨ op=8 then decide (len=1) else if op=5 then decide (len=2) else if op=6 then decide (len=3) else if op=7 then decide (1 ≤ len) else false
def fieldsR (ls:List Signal) (op w v sig hi lo n:Int):Bool :=
 if (op ≠ 1∧v ≠ 0) ∨ (¬(op=2 ∨ op=3)∧sig ≠ 0) ∨ (op ≠ 2∧(hi ≠ 0 ∨ lo ≠ 0)) ∨ (op ≠ 4∧op ≠ 5∧op ≠ 8∧n ≠ 0) then false
 else if op=1 then decide (0 ≤ w) && decide (w ≤ 64) && (decide (w=0) || holds w v)
 else if op=2 then slice ls sig hi lo
 else if op=3 then decide (0 ≤ sig) && decide (sig < ls.length)
 else if op=4 then decide (1 ≤ n) && decide (n ≤ 6)
 else if op=5 then decide (11 ≤ n) && decide (n ≤ 26)
 else if op=8 then decide (31 ≤ n) && decide (n ≤ 33) && decide (1 ≤ w) && decide (w ≤ 64)
 else true
theorem shape0_parts (ls:List Signal) (op w v sig hi lo n:Int) (len:Nat):shape0 ls op w v sig hi lo n len=(partsR op len && fieldsR ls op w v sig hi lo n):=by
 unfold shape0 partsR fieldsR
 generalize holds w v=hv
 generalize slice ls sig hi lo=sv
 by_cases h1:op=1
 ·subst h1;rw [Bool.eq_iff_iff];cases hv <;> simp <;> (try omega)
 by_cases h2:op=2
 ·subst h2;rw [Bool.eq_iff_iff];cases sv <;> simp <;> (try omega)
 by_cases h3:op=3
 ·subst h3;rw [Bool.eq_iff_iff];simp <;> (try omega)
 by_cases h4:op=4
 ·subst h4;rw [Bool.eq_iff_iff];simp <;> (try omega)
 by_cases h5:op=5
 ·subst h5;rw [Bool.eq_iff_iff];simp <;> (try omega)
 by_cases h6:op=6
 ·subst h6;rw [Bool.eq_iff_iff];simp <;> (try omega)
 by_cases h7:op=7
 ·subst h7;rw [Bool.eq_iff_iff];simp <;> (try omega)
 by_cases h8:op=8
 ·subst h8;rw [Bool.eq_iff_iff];simp <;> (try omega)
 simp [h1,h2,h3,h4,h5,h6,h7,h8]
/-! ### signals -/
def sigNum (x:Signal):Bool:=decide (1 ≤ x.w) && decide (x.w ≤ 64) && decide (1 ≤ x.kind) && decide (x.kind ≤ 4) && (decide (x.kind=4) || decide (x.init=0))
theorem sigOk_eq (seen:List (List UInt8)) (x:Signal):sigOk seen x=(!(seen.contains x.name.data.toList) && sigNum x):=by
 unfold sigOk sigNum;simp only [Bool.and_assoc]
theorem sigsOk_iff (ls:List Signal):∀ seen,sigsOk seen ls=true ↔ ∀ k (h:k < ls.length),(ls[k].name.data.toList ∉ seen)∧sigNum ls[k]=true∧∀ j (hj:j < k),ls[j].name.data.toList ≠ ls[k].name.data.toList:=by
 induction ls with
 | nil=>intro seen;simp [sigsOk]
 | cons x l ih =>
  intro seen
  rw [sigsOk,sigOk_eq,Bool.and_eq_true,Bool.and_eq_true,ih]
  simp only [Bool.not_eq_true',List.contains_eq_mem,decide_eq_false_iff_not,List.mem_cons,not_or]
  constructor
  ·rintro ⟨⟨h1,h2⟩,h3⟩ k hk
   cases k with
   | zero=>exact ⟨h1,h2,fun j hj=>absurd hj (by omega)⟩
   | succ k =>
    obtain ⟨⟨g0,g1⟩,g2,g3⟩:=h3 k (by simpa using hk)
    refine ⟨g1,g2,fun j hj=>?_⟩
    cases j with
    | zero=>simp only [Jb,Jc];exact fun h=>g0 h.symm
    | succ j=>simpa using g3 j (by omega)
  ·intro h
   have h0:=h 0 (by simp)
   refine ⟨⟨h0.1,h0.2.1⟩,fun k hk=>?_⟩
   obtain ⟨g1,g2,g3⟩:=h (k + 1) (by simpa using hk)
   refine ⟨⟨?_,g1⟩,g2,fun j hj=>?_⟩
   ·have:=g3 0 (by omega)
    simp only [Jb,Jc] at this
    exact fun h=>this h.symm
   ·simpa using g3 (j + 1) (by omega)
/-! ### how many bits -/
def bits5 (l:List Signal):Nat:=sumBy (fun s=>(min (max s.w 0) 5000).toNat) l
theorem bits5_iff (l:List Signal):∀ a:Nat,a + bits5 l ≤ 4096 ↔ a + bitsN l ≤ 4096:=by
 unfold bits5 bitsN
 induction l with
 | nil=>intro a;simp [sumBy]
 | cons x l ih =>
  intro a
  simp only [sumBy]
  by_cases h:x.w ≤ 4097
  ·have e:(min (max x.w 0) 5000).toNat=(max 0 (min x.w 4097)).toNat:=by omega
   rw [e,← Nat.add_assoc,← Nat.add_assoc]
   exact ih _
  ·omega
theorem bits5_le (l:List Signal):bits5 l ≤ 5000 * l.length:=by
 unfold bits5
 induction l with
 | nil=>simp [sumBy]
 | cons x l ih=>simp only [sumBy,List.length_cons];omega
/-! ### expressions, sized -/
theorem sizeE_bit (e:E):sizeE e (-1)=if 1 < own e then .error 91 else sizeE e 1:=by
 rw [sizeE_eq,sizeE_eq e 1];by_cases h:1 < own e <;> simp [h]
def underM (x:E) (ws:List Int):Except Int E:=match sizeE.sizeL x.l ws with | .error f=>.error f | .ok l'=>.ok ⟨x.op,x.w,x.v,x.sig,x.hi,x.lo,x.n,l'⟩
def unaryM (x:E) (w:Int):Except Int E:=if x.n ≤ 2 then underM x [w] else if w ≠ 1 then .error 90 else if x.n=6 then underM x [-1] else underM x [0]
def binaryM (x:E) (w:Int):Except Int E :=
 if x.n ≤ 16 then underM x [w,w] else if x.n ≤ 18 then underM x [w,0] else if w ≠ 1 then .error 90 else if 25 ≤ x.n then underM x [-1,-1] else underM x [told (own.fst x.l) 32,told (own.fst x.l) 32]
def extM (e:E) (w2:Int):Except Int E :=
 if e.w ≠ w2 then .error 90
 else match underM ⟨e.op,w2,e.v,e.sig,e.hi,e.lo,e.n,e.l⟩ [0] with
  | .error f=>.error f
  | .ok y=>if (e.n ≠ 33∧w2 < sizeE.hdW y.l) ∨ (e.n=33∧sizeE.hdW y.l < w2) then .error 90 else .ok y
def sizedM (e:E) (w2:Int):Except Int E :=
 if e.op=1 then (if e.w ≠ 0∧e.w ≠ w2 then .error 90 else if e.w=0∧holds w2 e.v=false then .error 92 else .ok ⟨e.op,w2,e.v,e.sig,e.hi,e.lo,e.n,e.l⟩)
 else if e.op=2 ∨ e.op=3 then (if own e ≠ w2 then .error 90 else underM ⟨e.op,w2,e.v,e.sig,e.hi,e.lo,e.n,e.l⟩ [0])
 else if e.op=4 then unaryM ⟨e.op,w2,e.v,e.sig,e.hi,e.lo,e.n,e.l⟩ w2
 else if e.op=5 then binaryM ⟨e.op,w2,e.v,e.sig,e.hi,e.lo,e.n,e.l⟩ w2
 else if e.op=6 then underM ⟨e.op,w2,e.v,e.sig,e.hi,e.lo,e.n,e.l⟩ [-1,w2,w2]
 else if e.op=7 then (if own e=0 ∨ own e ≠ w2 ∨ 64 < own e then .error 90 else underM ⟨e.op,w2,e.v,e.sig,e.hi,e.lo,e.n,e.l⟩ (List.replicate e.l.length 0))
 else extM e w2
theorem shape_inv {ls:List Signal} {e:E} (h:shape ls e=true) :
  (e.op=1∧e.l=[]∧0 ≤ e.w∧e.w ≤ 64∧e.sig=0∧e.hi=0∧e.lo=0∧e.n=0) ∨ (e.op=2∧e.l=[]∧slice ls e.sig e.hi e.lo=true) ∨ (e.op=3∧e.l.length=1) ∨ (e.op=4∧e.l.length=1∧1 ≤ e.n∧e.n ≤ 6) ∨
  (e.op=5∧e.l.length=2∧11 ≤ e.n∧e.n ≤ 26) ∨ (e.op=6∧e.l.length=3) ∨ (e.op=7∧0 < e.l.length) ∨ (e.op=8∧e.l.length=1∧31 ≤ e.n∧e.n ≤ 33∧1 ≤ e.w∧e.w ≤ 64):=by
 rw [shape_eq,Bool.and_eq_true] at h
 have h0:=h.1
 unfold shape0 at h0
 repeat' split at h0
 all_goals try simp only [Bool.and_eq_true,decide_eq_true_eq] at h0
 ·exact .inl ⟨by assumption,List.eq_nil_of_length_eq_zero (by omega),by omega,by omega,by omega,by omega,by omega,by omega⟩
 ·exact .inr (.inl ⟨by assumption,List.eq_nil_of_length_eq_zero (by omega),h0.1.2⟩)
 ·exact .inr (.inr (.inl ⟨by assumption,by omega⟩))
 ·exact .inr (.inr (.inr (.inl ⟨by assumption,by omega,by omega,by omega⟩)))
 ·exact .inr (.inr (.inr (.inr (.inl ⟨by assumption,by omega,by omega,by omega⟩))))
 ·exact .inr (.inr (.inr (.inr (.inr (.inl ⟨by assumption,by omega⟩)))))
 ·exact .inr (.inr (.inr (.inr (.inr (.inr (.inl ⟨by assumption,by omega⟩))))))
 ·exact .inr (.inr (.inr (.inr (.inr (.inr (.inr ⟨by assumption,by omega,by omega,by omega,by omega,by omega⟩))))))
 ·cases h0
theorem sizeE_ref {ls:List Signal} (e:E) (w:Int) (hw:0 ≤ w) (hs:shape ls e=true):sizeE e w=sizedM e (told w (told (own e) 32)):=by
 rw [sizeE_eq,if_neg (by omega),if_neg (by omega : ¬ w = -1)]
 generalize hw2:told w (told (own e) 32)=w2
 have ho:=own_eq e
 obtain ⟨op,ew,v,sig,hi,lo,n,l⟩:=e
 rcases shape_inv hs with h | h | h | h | h | h | h | h <;> simp only at h ho ⊢
 ·obtain ⟨rfl,rfl,h3,h4,rfl,rfl,rfl,rfl⟩:=h
  by_cases h0:ew=0
  ·subst h0
   cases hh:holds w2 v <;> simp [sizedM,hh]
  ·simp only [sizedM,wantedL,ho]
   by_cases h5:ew=w2
   ·subst h5;simp [h0,sizeE.sizeL]
   ·simp [h0,h5]
 ·obtain ⟨rfl,rfl,h3⟩:=h
  simp only [sizedM,wantedL,underM]
  by_cases h5:own ⟨2,ew,v,sig,hi,lo,n,[]⟩=w2 <;> simp [h5,sizeE.sizeL]
 ·obtain ⟨rfl,h2⟩:=h
  simp only [sizedM,wantedL,underM]
  by_cases h5:own ⟨3,ew,v,sig,hi,lo,n,l⟩=w2
  ·simp [h5,h2]
   cases sizeE.sizeL l [0] <;> first | rfl | simp
  ·simp [h5]
 ·obtain ⟨rfl,h2,h3,h4⟩:=h
  have hw4:wantedL ⟨4,ew,v,sig,hi,lo,n,l⟩ w2=(if n ≤ 2 then some [w2] else if w2 ≠ 1 then none else if n=6 then some [-1] else some [0]):=by
   unfold wantedL
   simp only [h2]
   repeat' split
   all_goals first | rfl | (exfalso;omega) | (exfalso;simp_all;done) | (exfalso;simp_all;omega)
  rw [hw4]
  by_cases h5:n ≤ 2
  ·simp [sizedM,unaryM,underM,h5];cases sizeE.sizeL l [w2] <;> first | rfl | simp
  ·by_cases h7:w2=1
   ·by_cases h6:n=6
    ·simp [sizedM,unaryM,underM,h6,h7];cases sizeE.sizeL l [-1] <;> first | rfl | simp
    ·simp [sizedM,unaryM,underM,h5,h6,h7];cases sizeE.sizeL l [0] <;> first | rfl | simp
   ·simp [sizedM,unaryM,underM,h5,h7]
 ·obtain ⟨rfl,h2,h3,h4⟩:=h
  have hw5:wantedL ⟨5,ew,v,sig,hi,lo,n,l⟩ w2=(if n ≤ 16 then some [w2,w2] else if n ≤ 18 then some [w2,0] else if w2 ≠ 1 then none else if 25 ≤ n then some [-1,-1] else some [told (own.fst l) 32,told (own.fst l) 32]):=by
   unfold wantedL
   simp only [h2]
   repeat' split
   all_goals first | rfl | (exfalso;omega) | (exfalso;simp_all;done) | (exfalso;simp_all;omega)
  rw [hw5]
  by_cases h5:n ≤ 16
  ·simp [sizedM,binaryM,underM,h5];cases sizeE.sizeL l [w2,w2] <;> first | rfl | simp
  ·by_cases h6:n ≤ 18
   ·simp [sizedM,binaryM,underM,h5,h6];cases sizeE.sizeL l [w2,0] <;> first | rfl | simp
   ·by_cases h8:w2=1
    ·by_cases h7:25 ≤ n
     ·simp [sizedM,binaryM,underM,h5,h6,h7,h8];cases sizeE.sizeL l [-1,-1] <;> first | rfl | simp
     ·simp [sizedM,binaryM,underM,h5,h6,h7,h8];cases sizeE.sizeL l _ <;> first | rfl | simp
    ·simp [sizedM,binaryM,underM,h5,h6,h8]
 ·obtain ⟨rfl,h2⟩:=h
  simp only [sizedM,wantedL,underM,h2]
  simp [List.replicate]
  cases sizeE.sizeL l [-1,w2,w2] <;> first | rfl | simp
 ·obtain ⟨rfl,h2⟩:=h
  simp only [sizedM,wantedL,underM]
  by_cases h5:own ⟨7,ew,v,sig,hi,lo,n,l⟩=0 ∨ own ⟨7,ew,v,sig,hi,lo,n,l⟩ ≠ w2 ∨ 64 < own ⟨7,ew,v,sig,hi,lo,n,l⟩
  ·simp [h5]
  ·simp [h5]
   cases sizeE.sizeL l _ <;> first | rfl | simp
 ·obtain ⟨rfl,h2,h3,h4,h5,h6⟩:=h
  simp only [sizedM,wantedL,extM,underM,ho,h2]
  by_cases h7:ew=w2
  ·subst h7
   simp
   cases sizeE.sizeL l [0] with
   | error f=>simp
   | ok y =>
    simp only
    by_cases hc:n=33
    ·subst hc;simp
    ·simp [hc]
  ·simp [h7]
/-! ### statements, sized: the first error stays -/
theorem accum_append {α β σ : Type} (f : σ→α→β × σ) (l r:List α):∀ s,accum f s (l ++ r)=((accum f s l).1 ++ (accum f (accum f s l).2 r).1,(accum f (accum f s l).2 r).2):=by
 induction l with
 | nil=>intro s;rfl
 | cons y l ih=>intro s;simp only [List.cons_append,accum,ih]
theorem accum_stays {α β : Type} (f:Int→α→β × Int) (l:List α) (hf:∀ x ∈ l,∀ s,s ≠ 0→(f s x).2=s) (s:Int) (hs:s ≠ 0):(accum f s l).2=s:=by
 induction l with
 | nil=>rfl
 | cons x l ih =>
  simp only [accum]
  rw [hf x (by simp) s hs]
  exact ih fun y hy=>hf y (by simp [hy])
theorem accum_stop {α β : Type} (f:Int→α→β × Int) (l:List α) (hf:∀ x ∈ l,∀ s,s ≠ 0→(f s x).2=s) (s:Int) (k:Nat) (h:(accum f s (l.take k)).2 ≠ 0):(accum f s l).2=(accum f s (l.take k)).2:=by
 have e:=accum_append f (l.take k) (l.drop k) s
 rw [List.take_append_drop] at e
 rw [e]
 exact accum_stays f _ (fun x hx=>hf x (List.mem_of_mem_drop hx)) _ h
theorem szE_err (e:E) (w s:Int) (h:s ≠ 0):(szE s e w).2=s:=by unfold szE;rw [if_pos h]
theorem szEs_err (w s:Int) (l:List E) (h:s ≠ 0):(szEs s w l).2=s:=accum_stays _ l (fun x _ s h=>szE_err x w s h) s h
theorem szT_err (ls:List Signal) (ck:Bool) (t:T):∀ lab s:Int,s ≠ 0→(szT ls ck t lab s).2=s:=by
 induction t using T.ind with
 | h t ih =>
  intro lab s h
  rw [szT_eq]
  have h0:szErr0 ls ck t s=s:=by unfold szErr0;rw [if_neg (fun h'=>h h'.2.1)]
  rw [h0,szEs_err _ _ _ h]
  exact accum_stays _ _ (fun x hx s h=>ih x hx _ s h) s h
theorem szTL_err (ls:List Signal) (ck:Bool) (l:List T) (lab s:Int) (h:s ≠ 0):(szTL ls ck lab s l).2=s:=accum_stays _ l (fun x _ s h=>szT_err ls ck x lab s h) s h
theorem szTL_stop (ls:List Signal) (ck:Bool) (l:List T) (lab s:Int) (k:Nat) (h:(szTL ls ck lab s (l.take k)).2 ≠ 0):(szTL ls ck lab s l).2=(szTL ls ck lab s (l.take k)).2 :=
 accum_stop _ l (fun x _ s h=>szT_err ls ck x lab s h) s k h
theorem szEs_stop (w s:Int) (l:List E) (k:Nat) (h:(szEs s w (l.take k)).2 ≠ 0):(szEs s w l).2=(szEs s w (l.take k)).2:=accum_stop _ l (fun x _ s h=>szE_err x w s h) s k h
theorem szPs_stop (ls:List Signal) (s:Int) (l:List Proc) (k:Nat) (h:(szPs ls s (l.take k)).2 ≠ 0):(szPs ls s l).2=(szPs ls s (l.take k)).2 :=
 accum_stop (fun s (p:Proc)=>((⟨p.clocked,(szTL ls p.clocked 0 s p.l).1⟩ : Proc),(szTL ls p.clocked 0 s p.l).2)) l (fun x _ s h=>szTL_err ls x.clocked x.l 0 s h) s k h
theorem szCs_err (l:List Chk) (s:Int) (h:s ≠ 0):(szCs s l).2=s:=accum_stays (fun s (c:Chk)=>((⟨c.name,(szE s c.e (-1)).1⟩ : Chk),(szE s c.e (-1)).2)) l (fun x _ s h=>szE_err x.e (-1) s h) s h
theorem szCs_stop (s:Int) (l:List Chk) (k:Nat) (h:(szCs s (l.take k)).2 ≠ 0):(szCs s l).2=(szCs s (l.take k)).2:=accum_stop (fun s (c:Chk)=>((⟨c.name,(szE s c.e (-1)).1⟩ : Chk),(szE s c.e (-1)).2)) l (fun x _ s h=>szE_err x.e (-1) s h) s k h
theorem accum_congr {α β σ : Type} (f g : σ→α→β × σ) (l:List α) (h:∀ x ∈ l,∀ s,f s x=g s x):∀ s,accum f s l=accum g s l:=by
 induction l with
 | nil=>intro s;rfl
 | cons x l ih=>intro s;simp only [accum,h x (by simp),ih (fun y hy=>h y (by simp [hy]))]
theorem szT_lab (ls:List Signal) (ck:Bool) (t:T):shapeT ls t=true→∀ a b s:Int,szT ls ck t a s=szT ls ck t b s:=by
 induction t using T.ind with
 | h t ih =>
  intro ht a b s
  have hl:∀ l:List T,(∀ x ∈ l,x ∈ t.l)→l.all (shapeT ls)=true→∀ s,szTL ls ck a s l=szTL ls ck b s l:=by
   intro l hm ha s
   exact accum_congr _ _ _ (fun x hx s=>ih x (hm x hx) (List.all_eq_true.1 ha x hx) a b s) s
  rw [szT_eq,szT_eq]
  rw [shapeT_eq] at ht
  split at ht
  ·cases ht
  ·split at ht
   ·rename_i h3
    have hw:szW t a=szW t b:=by unfold szW;rw [if_neg (by omega),if_neg (by omega),if_pos h3,if_neg (by omega),if_neg (by omega),if_pos h3]
    rw [if_pos h3,if_pos h3,hw]
   ·split at ht
    ·rename_i h3 h1
     have hw:szW t a=szW t b:=by unfold szW;rw [if_pos h1,if_pos h1]
     simp only [Bool.and_eq_true,decide_eq_true_eq] at ht
     have hn:t.l=[]:=List.eq_nil_of_length_eq_zero ht.1.2
     rw [if_neg h3,if_neg h3,hw,hn];rfl
    ·split at ht
     ·rename_i h3 h1 h2
      have hw:szW t a=szW t b:=by unfold szW;rw [if_neg h1,if_pos h2,if_neg h1,if_pos h2]
      rw [Bool.and_eq_true] at ht
      rw [if_neg h3,if_neg h3,hw,hl t.l (fun _ h=>h) ht.2]
     ·split at ht
      ·rename_i h3 h1 h2 h5
       simp only [Bool.and_eq_true,decide_eq_true_eq] at ht
       have hn:t.e=[]:=List.eq_nil_of_length_eq_zero ht.1
       have e0:∀ w s,szEs s w []=([],s):=fun _ _=>rfl
       rw [if_neg h3,if_neg h3,hn,e0,e0,hl t.l (fun _ h=>h) ht.2]
      ·cases ht
theorem szTL_lab {ls:List Signal} {ck:Bool} {l:List T} (h:l.all (shapeT ls)=true) (a b s:Int):szTL ls ck a s l=szTL ls ck b s l :=
 accum_congr _ _ _ (fun x hx s=>szT_lab ls ck x (List.all_eq_true.1 h x hx) a b s) s
end Go.Proofs.YthpemngachlehaaGreat
