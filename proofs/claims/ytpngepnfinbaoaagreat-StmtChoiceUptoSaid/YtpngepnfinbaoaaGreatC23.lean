/- Laws and walks that a claim of this seat leans on: WordsF, MarkB, IntsF, Live11. -/
import Derived.Test.YtpngepnfinbaoaaGreatC21
import Derived.Test.YtpngepnfinbaoaaGreatC03
import Derived.Test.YtpngepnfinbaoaaGreatC13
import Derived.Test.YtpngepnfinbaoaaGreatC22
import Derived.Test.YtpngepnfinbaoaaGreatC00
set_option maxRecDepth 100000
set_option maxHeartbeats 8000000
set_option linter.all false
namespace Go.Proofs.YtpngepnfinbaoaaGreat
open Go.RowKit
/-! ### filigreeref11.Words -/
theorem Words_calls11 (l r:List Nat) (v v':Value) (w:World) (h:Us w v l) (h':Us w v' r) (hn:l.length<=1099511627776) :
  Calls Tryz.prog 11 #[v,v'] w fun e w'=>e=.returned (.bool (decide (l=r)))/\Ext w w':=by
 obtain ⟨a,b,o,cap,rfl,hc1,hc2,ha,hr⟩:=h.open
 obtain ⟨a',b',o',cap',rfl,hd1,hd2,ha',hr'⟩:=h'.open
 have HR:=Jh hr
 have HA:=Jh ha
 have HR':=Jh hr'
 have HA':=Jh ha'
 clear hr ha h hr' ha' h'
 obtain ⟨t,ht⟩:∃ t,decide (l=r)=t:=⟨_,rfl⟩
 rw [ht]
 have HT:=Jh ht
 clear ht
 by_cases hlr:l.length=r.length
 ·have hlb:((l.length:Int) != (r.length:Int))=false:=by rw [bne_eq_false_iff_eq,hlr]
  have HLR:=Jh hlr
  obtain ⟨n,hnl⟩:∃ n,l.length=n:=⟨_,rfl⟩
  have HNL:=Jh hnl
  have HNR:=Jh (show r.length=n by rw [<-hlr];exact hnl)
  rw [<-hlr] at hd1 HA' ⊢
  rw [hnl] at hc1 hd1 HA HA' hn ⊢
  clear hlr hlb hnl
  go_enter Tryz.func11,Tryz.ntmps11
  go_wp2_with fail
  go_loopw [5] (fun i wr=>∃ k:Nat,k<=n/\i=.int .i64 k/\(∀ j,j<k->l[j]? = r[j]?)/\Ext w wr) (fun i _=>n-(intOf i).toNat)
  case atStart=>exact ⟨0,Nat.zero_le _,rfl,fun j hj=>absurd hj (by omega),Below.refl _ _⟩
  case round =>
   obtain ⟨k,hk,rfl,hsame,hx⟩:=hrel
   have HS:=Jh hsame
   have HX:=Jh hx
   clear hsame hx
   by_cases hlt:k<n
   ·obtain rfl:=HA.out (by omega)
    obtain rfl:=HA'.out (by omega)
    have HZ:=Jh (fun W (hx:Ext w W)=>Us.get (k:=k) (HR.out.mono fun x _ b o h=>Has.ext h hx) (by rw [HNL.out];exact hlt))
    have HZ':=Jh (fun W (hx:Ext w W)=>Us.get (k:=k) (HR'.out.mono fun x _ b o h=>Has.ext h hx) (by rw [HNR.out];exact hlt))
    have HE:=Jh (show l[k]? = some (l[k]'(by rw [HNL.out];exact hlt)) from List.getElem?_eq_getElem _)
    have HE':=Jh (show r[k]? = some (r[k]'(by rw [HNR.out];exact hlt)) from List.getElem?_eq_getElem _)
    generalize l[k]'_=x at *
    generalize r[k]'_=y at *
    go_upto_region 6 with fail
    refine wp_region_held_drew (S:=fun W=>Ext w W) (by kernel_rfl) (Below.drew HX.out) (fun hH=>?_)
    try simp only [J]
    (refine Jt 0 (_) rfl (yif_load1 rfl fun _ _=>rfl) hH ?_;try simp only [J])
    (refine Jt 1 (_) rfl (yif_load1 rfl fun _ _=>rfl) hH ?_;try simp only [J])
    (refine Jt 2 (.pointer (some ⟨b,o+k,Option.none⟩)) rfl (yif_load1 rfl (by intro W hW;clear hW;go_simp;try (intro h;omega))) hH ?_;try simp only [J])
    (refine Jt 3 (W64 x) rfl (yif_load1 rfl (by intro W hW;have y:=HZ.out W hW;clear hW;go_simp)) hH ?_;try simp only [J])
    (refine Jt 4 (_) rfl (yif_load1 rfl fun _ _=>rfl) hH ?_;try simp only [J])
    (refine Jt 5 (_) rfl (yif_load1 rfl fun _ _=>rfl) hH ?_;try simp only [J])
    (refine Jt 6 (.pointer (some ⟨b',o'+k,Option.none⟩)) rfl (yif_load1 rfl (by intro W hW;clear hW;go_simp;try (intro h;omega))) hH ?_;try simp only [J])
    (refine Jt 7 (W64 y) rfl (yif_load1 rfl (by intro W hW;have y:=HZ'.out W hW;clear hW;go_simp)) hH ?_;try simp only [J])
    obtain ⟨c,hc⟩:∃ c,((x:Int) != (y:Int))=c:=⟨_,rfl⟩
    have HC:=Jh hc
    clear hc
    (refine Jt 8 (.bool c) rfl (yif_load1 rfl (by intro W hW;clear hW;go_simp;exact HC.out)) hH ?_;try simp only [J])
    refine Jz ?_
    cases c
    ·have HXY:=Jh (show x=y by have:=HC.out;rw [bne_eq_false_iff_eq] at this;exact_mod_cast this)
     go_wp2_with fail
     go_roundw
     case rel=>exact ⟨k+1,hlt,by go_num,fun j hj=>by
      by_cases e:j=k
      ·subst e;rw [HE.out,HE'.out,HXY.out]
      ·exact HS.out j (by omega),hH⟩
     case measure=>simp [intOf];omega
    ·have HXY:=Jh (show x≠y by have:=HC.out;rw [bne_iff_ne] at this;exact fun e=>this (by rw [e]))
     obtain rfl:t=false:=by
      rw [<-HT.out,decide_eq_false_iff_not]
      intro e
      have h1:=HE.out
      rw [e,HE'.out] at h1
      injection h1 with h1
      exact HXY.out h1.symm
     go_wp2_with fail
     go_ret
     exact ⟨rfl,hH⟩
   ·obtain rfl:k=n:=by omega
    obtain rfl:t=true:=by
     rw [<-HT.out,decide_eq_true_eq]
     refine List.ext_getElem? fun j=>?_
     by_cases hj:j<k
     ·exact HS.out j hj
     ·rw [List.getElem?_eq_none (by rw [HNL.out];omega),List.getElem?_eq_none (by rw [HNR.out];omega)]
    go_wp2_with fail
    go_ret
    exact ⟨rfl,HX.out⟩
 ·obtain rfl:t=false:=by
   rw [<-HT.out,decide_eq_false_iff_not]
   intro e;exact hlr (by rw [e])
  have hlb:((l.length:Int) != (r.length:Int))=true:=by rw [bne_iff_ne];omega
  clear hlr
  go_enter Tryz.func11,Tryz.ntmps11
  go_wp2_with fail
  go_ret
  exact ⟨rfl,Below.refl _ _⟩
/-! ### rows of marks -/
abbrev Bools (w:World) (v:Value) (l:List Bool):Prop:=Sl 1 (fun (x:Bool) b o=>Has w b o [.bool x]) v l
def BoolRow (N:Nat) (v:Value) (l:List Bool) (w:World):Prop:=w.ownsRow N 4 1 v l.length (l.map (Value.bool))
theorem BoolRow.nil (N:Nat) (w:World):BoolRow N (.slice none 0 0) [] w:=World.ownsRow_nil _ _ _ _
theorem BoolRow.open {N:Nat} {v:Value} {l:List Bool} {w:World} (h:BoolRow N v l w):∃ a cap,v=.slice a l.length cap/\(v.ownBlock=none->l=[]):=by
 rcases h.2 with ⟨rfl,h0⟩ | ⟨g,cap,cur,rfl,-⟩
 ·exact ⟨none,0,by rw [h0],fun _=>List.eq_nil_of_length_eq_zero h0⟩
 ·exact ⟨_,cap,rfl,fun h=>by cases h⟩
theorem BoolRow.at {N:Nat} {v:Value} {l:List Bool} {w:World} (h:BoolRow N v l w) {k:Nat} (hk:v.ownBlock=some k):N<=k/\∃ cur,w.heap[k]? = some (.cells cur 4 (0,0)):=by
 rcases h.2 with ⟨rfl,h0⟩ | ⟨g,cap,cur,rfl,hb,hg,-⟩
 ·cases hk
 ·cases hk;exact ⟨hb,cur,hg⟩
theorem BoolRow.keep {N:Nat} {v:Value} {l:List Bool} {w w':World} (h:BoolRow N v l w) (hk:∀ k,v.ownBlock=some k->∀ o,w.heap[k]? = some o->w'.heap[k]? = some o):BoolRow N v l w':=by
 refine ⟨h.1,?_⟩
 rcases h.2 with hn | ⟨g,cap,cur,rfl,hb,hg,rest⟩
 ·exact .inl hn
 ·exact .inr ⟨g,cap,cur,rfl,hb,hk g rfl _ hg,rest⟩
theorem BoolRow.ext {N:Nat} {v:Value} {l:List Bool} {w w':World} (h:BoolRow N v l w) (hx:Ext w w'):BoolRow N v l w' :=
 h.keep fun k _ _ ho=>(hx.block k (Array.getElem?_eq_some_iff.1 ho).1).trans ho
theorem BoolRow.grown {N:Nat} {v:Value} {l:List Bool} {w w':World} {R:Option Nat} (h:BoolRow N v l w) (hg:w.grownBy w' R) (hR:∀ k,v.ownBlock=some k->some k≠R):BoolRow N v l w' :=
 h.keep fun k hk _ ho=>(hg.block k (Array.getElem?_eq_some_iff.1 ho).1 (hR k hk)).trans ho
theorem BoolRow.less {N M:Nat} {v:Value} {l:List Bool} {w:World} (h:BoolRow N v l w) (hM:M<=N):BoolRow M v l w:=by
 refine ⟨h.1,?_⟩
 rcases h.2 with hn | ⟨g,cap,cur,rfl,hb,rest⟩
 ·exact .inl hn
 ·exact .inr ⟨g,cap,cur,rfl,Nat.le_trans hM hb,rest⟩
theorem flatB1 (l:List Bool):(l.map fun x=>[Value.bool x]).flatten=l.map (Value.bool):=by
 induction l with
 | nil=>rfl
 | cons x l ih=>simp only [List.map_cons,List.flatten_cons,ih];rfl
theorem BoolRow.cells {N:Nat} {v:Value} {l:List Bool} {w:World} (h:BoolRow N v l w):Bools w v l:=by
 rcases h.2 with ⟨rfl,h0⟩ | ⟨g,cap,cur,rfl,hb,hg,hnc,hcm,hcs,htake⟩
 ·obtain rfl:l=[]:=List.eq_nil_of_length_eq_zero h0
  exact Sl.nil _ _
 ·refine ⟨g,0,⟨_,cap,rfl,hnc,hcm,fun _=>rfl⟩,rows_flat (f:=fun x=>[Value.bool x]) (fun _=>rfl) l 0 ?_⟩
  have:=flat_own (N:=N) (cap:=cap) (size:=1) hg htake
  rw [flatB1];exact this
theorem BoolRow.ne {N B:Nat} {v:Value} {cs:Array Value} {T:TypeId} {l:List Bool} {w:World} (h:BoolRow N v l w) (hb:Blk w B cs T) (hT:(T==4)=false) {k:Nat} (hk:v.ownBlock=some k):k≠B:=by
 rintro rfl
 obtain ⟨-,cur,hcur⟩:=h.at hk
 have h2:w.heap[k]? = some (.cells cs T (0,0)):=hb
 rw [hcur] at h2
 injection h2 with h2
 injection h2 with _ h2
 subst h2
 exact absurd hT (by decide)
theorem BoolRow.open1 {N:Nat} {v:Value} {l:List Bool} {w:World} (h:BoolRow N v l w) (hl:0<l.length):∃ g cap,v=.slice (some ⟨g,0,none⟩) l.length cap/\N<=g/\∀ i x,l[i]? = some x->w.cell? ⟨g,i,none⟩=some (.bool x):=by
 rcases h.2 with ⟨rfl,h0⟩ | ⟨g,cap,cur,rfl,hb,hg,hnc,hcm,hcs,htake⟩
 ·omega
 ·refine ⟨g,cap,rfl,hb,fun i x hx=>?_⟩
  have:=flat_own (N:=N) (cap:=cap) (size:=1) hg htake i (.bool x) (by simp [hx])
  rwa [Nat.zero_add] at this
theorem BoolRow.ofBlk {N g:Nat} {l:List Bool} {w:World} (h:Blk w g (l.map (Value.bool)).toArray 4) (hN:N<=g) (hm:l.length<=9223372036854775807):BoolRow N (.slice (some ⟨g,0,none⟩) l.length l.length) l w :=
 ⟨by simp,.inr ⟨g,l.length,_,rfl,hN,h,Nat.le_refl _,by simpa [maxLen] using hm,by simp,by rw [Nat.mul_one];exact List.take_of_length_le (by simp)⟩⟩
theorem Bools.ext {w w':World} {v:Value} {l:List Bool} (h:Bools w v l) (hx:Ext w w'):Bools w' v l:=Sl.mono h fun _ _ _ _ q=>Has.ext q hx
theorem BoolRow.set {N g cap:Nat} {n:Nat} {l:List Bool} {w:World} (h:BoolRow N (.slice (some ⟨g,0,none⟩) n cap) l w) (j:Nat) (hj:j<l.length) (x:Bool) :
  BoolRow N (.slice (some ⟨g,0,none⟩) n cap) (l.set j x) (w.setCell ⟨g,j,none⟩ (.bool x)):=by
 rcases h.2 with ⟨e,h0⟩ | ⟨g',cap',cur,e,hb,hg,hnc,hcm,hcs,htake⟩
 ·cases e
 ·injection e with e1 e2 e3
  injection e1 with e1
  injection e1 with e1
  subst e1 e2 e3
  have hB:Blk w g cur 4:=hg
  refine ⟨by simp,.inr ⟨g,cap,cur.setIfInBounds j (.bool x),by rw [List.length_set],hb,hB.set j (.bool x),by rw [List.length_set];exact hnc,hcm,by rw [Array.size_setIfInBounds];exact hcs,?_⟩⟩
  rw [List.length_set,Array.toList_setIfInBounds,List.map_set,<-htake,List.take_set]
theorem BoolRow.bs0 (w:World) {N:Nat} (hN:N<=w.heap.size):BoolRow N (.slice (some ⟨w.heap.size,0,none⟩) 0 0) [] (w.alloc (.cells #[] 4)) :=
 ⟨rfl,.inr ⟨w.heap.size,0,#[],rfl,hN,Blk.new w #[] 4,Nat.le_refl _,by decide,rfl,rfl⟩⟩
theorem BoolRow.made {w:World} {N n:Nat} {x:Bool} (hN:N<=w.heap.size) (hn:n<=9223372036854775807):BoolRow N (.slice (some ⟨w.heap.size,0,none⟩) n n) (List.replicate n x) (w.alloc (.cells (List.replicate n (Value.bool x)).toArray 4)):=by
 have:=BoolRow.ofBlk (N:=N) (l:=List.replicate n x) (g:=w.heap.size) (w:=w.alloc (.cells (List.replicate n (Value.bool x)).toArray 4)) (by rw [List.map_replicate];exact Blk.new _ _ _) hN (by simpa using hn)
 simpa using this
theorem IntRow.set {N g cap:Nat} {n:Nat} {l:List Int} {w:World} (h:IntRow N (.slice (some ⟨g,0,none⟩) n cap) l w) (j:Nat) (hj:j<l.length) (x:Int) :
  IntRow N (.slice (some ⟨g,0,none⟩) n cap) (l.set j x) (w.setCell ⟨g,j,none⟩ (.int .i64 x)):=by
 rcases h.2 with ⟨e,h0⟩ | ⟨g',cap',cur,e,hb,hg,hnc,hcm,hcs,htake⟩
 ·cases e
 ·injection e with e1 e2 e3
  injection e1 with e1
  injection e1 with e1
  subst e1 e2 e3
  have hB:Blk w g cur 3:=hg
  refine ⟨by simp,.inr ⟨g,cap,cur.setIfInBounds j (.int .i64 x),by rw [List.length_set],hb,hB.set j (.int .i64 x),by rw [List.length_set];exact hnc,hcm,by rw [Array.size_setIfInBounds];exact hcs,?_⟩⟩
  rw [List.length_set,Array.toList_setIfInBounds,List.map_set,<-htake,List.take_set]
theorem Bools.cell {w:World} {a:Option Addr} {b o n cap:Nat} {l:List Bool} (h:Rows 1 (fun (x:Bool) b o=>Has w b o [.bool x]) l b o) {k:Nat} (hk:k<l.length):w.cell? ⟨b,o+k,none⟩=some (.bool l[k]):=by
 have:=h.get (List.getElem?_eq_getElem hk) 0 _ rfl
 simpa using this
theorem Ints.cell {w:World} {b o:Nat} {l:List Int} (h:Rows 1 (fun (x:Int) b o=>Has w b o [.int .i64 x]) l b o) {k:Nat} (hk:k<l.length):w.cell? ⟨b,o+k,none⟩=some (.int .i64 l[k]):=by
 have:=h.get (List.getElem?_eq_getElem hk) 0 _ rfl
 simpa using this
/-! ### filigreeref11.Ints -/
theorem Ints_calls11 (l r:List Int) (v v':Value) (w:World) (h:Ints w v l) (h':Ints w v' r) (hn:l.length<=1099511627776) :
  Calls Tryz.prog 18 #[v,v'] w fun e w'=>e=.returned (.bool (decide (l=r)))/\Ext w w':=by
 obtain ⟨a,b,o,cap,rfl,hc1,hc2,ha,hr⟩:=h.open
 obtain ⟨a',b',o',cap',rfl,hd1,hd2,ha',hr'⟩:=h'.open
 have HR:=Jh hr
 have HA:=Jh ha
 have HR':=Jh hr'
 have HA':=Jh ha'
 clear hr ha h hr' ha' h'
 obtain ⟨t,ht⟩:∃ t,decide (l=r)=t:=⟨_,rfl⟩
 rw [ht]
 have HT:=Jh ht
 clear ht
 by_cases hlr:l.length=r.length
 ·have hlb:((l.length:Int) != (r.length:Int))=false:=by rw [bne_eq_false_iff_eq,hlr]
  have HLR:=Jh hlr
  obtain ⟨n,hnl⟩:∃ n,l.length=n:=⟨_,rfl⟩
  have HNL:=Jh hnl
  have HNR:=Jh (show r.length=n by rw [<-hlr];exact hnl)
  rw [<-hlr] at hd1 HA' ⊢
  rw [hnl] at hc1 hd1 HA HA' hn ⊢
  clear hlr hlb hnl
  go_enter Tryz.func18,Tryz.ntmps18
  go_wp2_with fail
  go_loopw [5] (fun i wr=>∃ k:Nat,k<=n/\i=.int .i64 k/\(∀ j,j<k->l[j]? = r[j]?)/\Ext w wr) (fun i _=>n-(intOf i).toNat)
  case atStart=>exact ⟨0,Nat.zero_le _,rfl,fun j hj=>absurd hj (by omega),Below.refl _ _⟩
  case round =>
   obtain ⟨k,hk,rfl,hsame,hx⟩:=hrel
   have HS:=Jh hsame
   have HX:=Jh hx
   clear hsame hx
   by_cases hlt:k<n
   ·obtain rfl:=HA.out (by omega)
    obtain rfl:=HA'.out (by omega)
    have HZ:=Jh (fun W (hx:Ext w W)=>Ints.cell (k:=k) (HR.out.mono fun x _ b o h=>Has.ext h hx) (by rw [HNL.out];exact hlt))
    have HZ':=Jh (fun W (hx:Ext w W)=>Ints.cell (k:=k) (HR'.out.mono fun x _ b o h=>Has.ext h hx) (by rw [HNR.out];exact hlt))
    have HE:=Jh (show l[k]? = some (l[k]'(by rw [HNL.out];exact hlt)) from List.getElem?_eq_getElem _)
    have HE':=Jh (show r[k]? = some (r[k]'(by rw [HNR.out];exact hlt)) from List.getElem?_eq_getElem _)
    generalize l[k]'_=x at *
    generalize r[k]'_=y at *
    go_upto_region 6 with fail
    refine wp_region_held_drew (S:=fun W=>Ext w W) (by kernel_rfl) (Below.drew HX.out) (fun hH=>?_)
    try simp only [J]
    (refine Jt 0 (_) rfl (yif_load1 rfl fun _ _=>rfl) hH ?_;try simp only [J])
    (refine Jt 1 (_) rfl (yif_load1 rfl fun _ _=>rfl) hH ?_;try simp only [J])
    (refine Jt 2 (.pointer (some ⟨b,o+k,Option.none⟩)) rfl (yif_load1 rfl (by intro W hW;clear hW;go_simp;try (intro h;omega))) hH ?_;try simp only [J])
    (refine Jt 3 (.int .i64 x) rfl (yif_load1 rfl (by intro W hW;have y:=HZ.out W hW;clear hW;go_simp)) hH ?_;try simp only [J])
    (refine Jt 4 (_) rfl (yif_load1 rfl fun _ _=>rfl) hH ?_;try simp only [J])
    (refine Jt 5 (_) rfl (yif_load1 rfl fun _ _=>rfl) hH ?_;try simp only [J])
    (refine Jt 6 (.pointer (some ⟨b',o'+k,Option.none⟩)) rfl (yif_load1 rfl (by intro W hW;clear hW;go_simp;try (intro h;omega))) hH ?_;try simp only [J])
    (refine Jt 7 (.int .i64 y) rfl (yif_load1 rfl (by intro W hW;have y:=HZ'.out W hW;clear hW;go_simp)) hH ?_;try simp only [J])
    obtain ⟨c,hc⟩:∃ c,(x != y)=c:=⟨_,rfl⟩
    have HC:=Jh hc
    clear hc
    (refine Jt 8 (.bool c) rfl (yif_load1 rfl (by intro W hW;clear hW;go_simp;exact HC.out)) hH ?_;try simp only [J])
    refine Jz ?_
    cases c
    ·have HXY:=Jh (show x=y by have:=HC.out;rwa [bne_eq_false_iff_eq] at this)
     go_wp2_with fail
     go_roundw
     case rel=>exact ⟨k+1,hlt,by go_num,fun j hj=>by
      by_cases e:j=k
      ·subst e;rw [HE.out,HE'.out,HXY.out]
      ·exact HS.out j (by omega),hH⟩
     case measure=>simp [intOf];omega
    ·have HXY:=Jh (show x≠y by have:=HC.out;rwa [bne_iff_ne] at this)
     obtain rfl:t=false:=by
      rw [<-HT.out,decide_eq_false_iff_not]
      intro e
      have h1:=HE.out
      rw [e,HE'.out] at h1
      injection h1 with h1
      exact HXY.out h1.symm
     go_wp2_with fail
     go_ret
     exact ⟨rfl,hH⟩
   ·obtain rfl:k=n:=by omega
    obtain rfl:t=true:=by
     rw [<-HT.out,decide_eq_true_eq]
     refine List.ext_getElem? fun j=>?_
     by_cases hj:j<k
     ·exact HS.out j hj
     ·rw [List.getElem?_eq_none (by rw [HNL.out];omega),List.getElem?_eq_none (by rw [HNR.out];omega)]
    go_wp2_with fail
    go_ret
    exact ⟨rfl,HX.out⟩
 ·obtain rfl:t=false:=by
   rw [<-HT.out,decide_eq_false_iff_not]
   intro e;exact hlr (by rw [e])
  have hlb:((l.length:Int) != (r.length:Int))=true:=by rw [bne_iff_ne];omega
  clear hlr
  go_enter Tryz.func18,Tryz.ntmps18
  go_wp2_with fail
  go_ret
  exact ⟨rfl,Below.refl _ _⟩
theorem sigs11 {W:World} {B:Nat} (h:Blk W B (d11.signals.map Signal.cells).flatten.toArray 50):Sigs W (.slice (some ⟨B,0,none⟩) 4 4) d11.signals :=
 ⟨B,0,⟨_,4,rfl,Nat.le_refl _,by decide,fun _=>rfl⟩,rows_flat (f:=Signal.cells) (fun _=>rfl) d11.signals 0 h.has⟩
theorem live11_calls (w:World):Calls Tryz.prog 4 #[] w fun r w'=>r=.returned (.bool true)/\Ext w w':=by
 go_enter Tryz.func4,Tryz.ntmps4
 go_wp2_with ((with_reducible show Jw (Op.buildSlice _ _ _));refine Hid.out ?_)
 refine Jh ?_
 have hx1:=ext_alloc w (.cells (d11.signals.map Signal.cells).flatten.toArray 50)
 have hb1:=Blk.new w (d11.signals.map Signal.cells).flatten.toArray 50
 refine wpList_bsN rfl _ 4 _ rfl appSignal (vs:=d11.signals.map fun x=>Value.agg x.cells.toArray) rfl rfl (css:=d11.signals.map Signal.cells) rfl (by intro cs h;simp [d11] at h;rcases h with rfl | rfl | rfl | rfl<;>rfl) (by decide) (by decide) ?_
 have hs1:(w.alloc (.cells (d11.signals.map Signal.cells).flatten.toArray 50)).heap.size=w.heap.size+1:=by simp
 generalize w.alloc _=w1 at *
 obtain ⟨N,hN⟩:∃ N,w.heap.size=N:=⟨_,rfl⟩
 rw [hN] at hb1 ⊢
 obtain ⟨B1,hB1⟩:∃ B1,w1.heap.size=B1:=⟨_,rfl⟩
 have hNB:N<B1:=by omega
 have HN:=Jh hN
 clear hN hs1
 have hx2:=ext_alloc w1 (.cells [Value.slice (some ⟨N,0,none⟩) 4 4,.slice none 0 0,.slice none 0 0].toArray 26)
 have hb2:=Blk.new w1 [Value.slice (some ⟨N,0,none⟩) 4 4,.slice none 0 0,.slice none 0 0].toArray 26
 have hs2:(w1.alloc (.cells [Value.slice (some ⟨N,0,none⟩) 4 4,.slice none 0 0,.slice none 0 0].toArray 26)).heap.size=w1.heap.size+1:=by simp
 go_upto_region 2 with (first | ((with_reducible show Js 26);refine wpList_store_new rfl 26 _ _ rfl rfl (by first | rfl | simp) rfl agg_Flat (rfl) rfl (by simp [Value.oneCell']) ?_))
 generalize w1.alloc _=w2 at *
 rw [hB1] at hb2 hs2
 have HB1:=Jh hb2
 have HBS:=Jh (hb1.ext hx2)
 have HXW:=Jh (hx1.trans hx2)
 obtain ⟨M,hM⟩:∃ M,w2.heap.size=M:=⟨_,rfl⟩
 have hBM:B1<M:=by omega
 have HNW:=Jh (show w.heap.size<=N from by rw [HN.out];exact Nat.le_refl _)
 have hm2:M<=w2.heap.size:=by omega
 clear hb1 hb2 hx1 hx2 hB1 hs2 hM
 go_wp2_with (first | (go_at_call 12;refine (sig11_calls 0 _).mono ?_;rintro r w3 ⟨rfl,hx3⟩) | ((with_reducible show Jw (Op.buildSlice _ _ _));refine Hid.out ?_))
 replace HB1:=Jh (HB1.out.ext hx3)
 replace HBS:=Jh (HBS.out.ext hx3)
 replace HXW:=Jh (HXW.out.trans hx3)
 have hmw3:M<=w3.heap.size:=by have:=hx3.size;omega
 clear hx3 hm2
 refine Jh ?_
 have hxb:=ext_alloc w3 (.cells ((sigX 1 0 0 0).cells (.slice none 0 0)).toArray 31)
 have hbb:=Blk.new w3 ((sigX 1 0 0 0).cells (.slice none 0 0)).toArray 31
 refine wpList_bs1 rfl _ _ rfl appE rfl (cs:=((sigX 1 0 0 0).cells (.slice none 0 0))) rfl rfl (by decide) ?_
 replace HB1:=Jh (HB1.out.ext hxb)
 replace HBS:=Jh (HBS.out.ext hxb)
 replace HXW:=Jh (HXW.out.trans hxb)
 have hmw4:M<=(w3.alloc (.cells ((sigX 1 0 0 0).cells (.slice none 0 0)).toArray 31)).heap.size:=by have:=hxb.size;omega
 generalize w3.alloc _=w4 at *
 obtain ⟨BE,hBE⟩:∃ B,w3.heap.size=B:=⟨_,rfl⟩
 have hmBE:M<=BE:=by omega
 rw [hBE] at hbb ⊢
 clear hBE hmw3 hxb
 have HFE:Hid (∀ W,Since M w4 W->Es W (.slice (some ⟨BE,0,none⟩) 1 1) [sigX 1 0 0 0]):=Jh fun W hW =>
  ⟨BE,0,⟨_,1,rfl,Nat.le_refl _,by decide,fun _=>rfl⟩,VE.at (hW.blk hbb hmBE).has (sigX_VE 0 W),trivial⟩
 clear hbb
 go_wp2_with (first | (go_at_call 12;refine (sig11_calls 1 _).mono ?_;rintro r w5 ⟨rfl,hx5⟩) | (go_at_call 13;refine (put11_calls M 3 _ (sigX 1 1 0 0) _ (fun W _=>sigX_VE 1 W) (by have:=hx5.size;omega)).mono ?_;rintro r w6 ⟨cp,rfl,hlp,hop,hfp,hx6⟩) | ((with_reducible show Jw (Op.buildSlice _ _ _));refine Hid.out ?_))
 replace HB1:=Jh (HB1.out.ext hx5)
 replace HBS:=Jh (HBS.out.ext hx5)
 replace HXW:=Jh (HXW.out.trans hx5)
 replace HFE:=Jh (fun W hW=>HFE.out W ((Since.of_ext hx5).trans hW))
 replace HB1:=Jh (HB1.out.ext hx6)
 replace HBS:=Jh (HBS.out.ext hx6)
 replace HXW:=Jh (HXW.out.trans hx6)
 replace HFE:=Jh (fun W hW=>HFE.out W ((Since.of_ext hx6).trans hW))
 have hmw6:M<=w6.heap.size:=by have:=hx5.size;have:=hx6.size;omega
 have HFP:=Jh hfp
 clear hx5 hx6 hmw4 hfp
 refine Jh ?_
 have hxb:=ext_alloc w6 (.cells cp.toArray 39)
 have hbb:=Blk.new w6 cp.toArray 39
 refine wpList_bs1 rfl _ _ rfl appT rfl (cs:=cp) rfl hlp (by decide) ?_
 replace HB1:=Jh (HB1.out.ext hxb)
 replace HBS:=Jh (HBS.out.ext hxb)
 replace HXW:=Jh (HXW.out.trans hxb)
 replace HFE:=Jh (fun W hW=>HFE.out W ((Since.of_ext hxb).trans hW))
 replace HFP:=Jh (fun W hW=>HFP.out W ((Since.of_ext hxb).trans hW))
 have hmw7:M<=(w6.alloc (.cells cp.toArray 39)).heap.size:=by have:=hxb.size;omega
 generalize w6.alloc _=w7 at *
 obtain ⟨BT,hBT⟩:∃ B,w6.heap.size=B:=⟨_,rfl⟩
 have hmBT:M<=BT:=by omega
 rw [hBT] at hbb ⊢
 clear hBT hmw6 hxb
 have HFB:Hid (∀ W,Since M w7 W->Ts W (.slice (some ⟨BT,0,none⟩) 1 1) [put11 3 (sigX 1 1 0 0)]):=Jh fun W hW =>
  ⟨BT,0,⟨_,1,rfl,Nat.le_refl _,by decide,fun _=>rfl⟩,VT.at (hW.blk hbb hmBT).has (HFP.out W hW),trivial⟩
 clear hbb HFP
 go_wp2_with (first | (go_at_call 7;refine (block11_calls (some ⟨BT,0,none⟩) 1 1 _).mono ?_;rintro r w8 ⟨rfl,hx8⟩) | (go_at_call 7;refine (block11_calls none 0 0 _).mono ?_;rintro r w9 ⟨rfl,hx9⟩) | ((with_reducible show Jw (Op.buildSlice _ _ _));refine Hid.out ?_))
 replace HB1:=Jh (HB1.out.ext hx8)
 replace HBS:=Jh (HBS.out.ext hx8)
 replace HXW:=Jh (HXW.out.trans hx8)
 replace HFE:=Jh (fun W hW=>HFE.out W ((Since.of_ext hx8).trans hW))
 replace HFB:=Jh (fun W hW=>HFB.out W ((Since.of_ext hx8).trans hW))
 replace HB1:=Jh (HB1.out.ext hx9)
 replace HBS:=Jh (HBS.out.ext hx9)
 replace HXW:=Jh (HXW.out.trans hx9)
 replace HFE:=Jh (fun W hW=>HFE.out W ((Since.of_ext hx9).trans hW))
 replace HFB:=Jh (fun W hW=>HFB.out W ((Since.of_ext hx9).trans hW))
 have hmw9:M<=w9.heap.size:=by have:=hx8.size;have:=hx9.size;omega
 clear hx8 hx9 hmw7
 refine Jh ?_
 have hxb:=ext_alloc w9 (.cells [[.int .i64 5,.int .i64 0,.int .i64 0,.int .i64 0,.slice none 0 0,.slice (some ⟨BT,0,none⟩) 1 1],[.int .i64 5,.int .i64 0,.int .i64 0,.int .i64 0,.slice none 0 0,.slice none 0 0]].flatten.toArray 39)
 have hbb:=Blk.new w9 [[.int .i64 5,.int .i64 0,.int .i64 0,.int .i64 0,.slice none 0 0,.slice (some ⟨BT,0,none⟩) 1 1],[.int .i64 5,.int .i64 0,.int .i64 0,.int .i64 0,.slice none 0 0,.slice none 0 0]].flatten.toArray 39
 refine wpList_bsN rfl _ 2 _ rfl appT (vs:=[.agg ([.int .i64 5,.int .i64 0,.int .i64 0,.int .i64 0,.slice none 0 0,.slice (some ⟨BT,0,none⟩) 1 1]:List Value).toArray,.agg ([.int .i64 5,.int .i64 0,.int .i64 0,.int .i64 0,.slice none 0 0,.slice none 0 0]:List Value).toArray]) rfl rfl (css:=[[.int .i64 5,.int .i64 0,.int .i64 0,.int .i64 0,.slice none 0 0,.slice (some ⟨BT,0,none⟩) 1 1],[.int .i64 5,.int .i64 0,.int .i64 0,.int .i64 0,.slice none 0 0,.slice none 0 0]]) rfl (by intro cs h;simp at h;rcases h with rfl | rfl<;>rfl) (by decide) (by decide) ?_
 replace HB1:=Jh (HB1.out.ext hxb)
 replace HBS:=Jh (HBS.out.ext hxb)
 replace HXW:=Jh (HXW.out.trans hxb)
 replace HFE:=Jh (fun W hW=>HFE.out W ((Since.of_ext hxb).trans hW))
 replace HFB:=Jh (fun W hW=>HFB.out W ((Since.of_ext hxb).trans hW))
 have hmwa:M<=(w9.alloc (.cells [[.int .i64 5,.int .i64 0,.int .i64 0,.int .i64 0,.slice none 0 0,.slice (some ⟨BT,0,none⟩) 1 1],[.int .i64 5,.int .i64 0,.int .i64 0,.int .i64 0,.slice none 0 0,.slice none 0 0]].flatten.toArray 39)).heap.size:=by have:=hxb.size;omega
 generalize w9.alloc _=wa at *
 obtain ⟨BL,hBL⟩:∃ B,w9.heap.size=B:=⟨_,rfl⟩
 have hmBL:M<=BL:=by omega
 rw [hBL] at hbb ⊢
 clear hBL hmw9 hxb
 have HFL:Hid (∀ W,Since M wa W->Ts W (.slice (some ⟨BL,0,none⟩) 2 2) [block11 [put11 3 (sigX 1 1 0 0)],block11 []]):=Jh fun W hW =>
  ⟨BL,0,⟨_,2,rfl,Nat.le_refl _,by decide,fun _=>rfl⟩,rows_of_flat (V:=VT) (fun _ _ _ _ _ h hv=>VT.at h hv) _ [[.int .i64 5,.int .i64 0,.int .i64 0,.int .i64 0,.slice none 0 0,.slice (some ⟨BT,0,none⟩) 1 1],[.int .i64 5,.int .i64 0,.int .i64 0,.int .i64 0,.slice none 0 0,.slice none 0 0]] W BL 0 (hW.blk hbb hmBL).has rfl (by intro cs h;simp at h;rcases h with rfl | rfl<;>rfl) (fun i h h'=>by
   match i,h with
   | 0,_=>exact ⟨_,_,rfl,Sl.nil _ _,HFB.out W hW⟩
   | 1,_=>exact ⟨_,_,rfl,Sl.nil _ _,Sl.nil _ _⟩
   | i+2,h=>exact absurd h (by simp))⟩
 clear hbb HFB
 have hxc:=ext_alloc wa (.cells ([.int .i64 2,.int .i64 0,.int .i64 0,.int .i64 0,.slice (some ⟨BE,0,none⟩) 1 1,.slice (some ⟨BL,0,none⟩) 2 2]:List Value).toArray 39)
 have hbc:=Blk.new wa ([.int .i64 2,.int .i64 0,.int .i64 0,.int .i64 0,.slice (some ⟨BE,0,none⟩) 1 1,.slice (some ⟨BL,0,none⟩) 2 2]:List Value).toArray 39
 go_upto_region 3 with (first | ((with_reducible show Js 39);refine wpList_store_new rfl 39 _ _ rfl rfl (by first | rfl | simp) rfl agg_T (rfl) rfl (by simp [one_int,Value.oneCell']) ?_))
 replace HB1:=Jh (HB1.out.ext hxc)
 replace HBS:=Jh (HBS.out.ext hxc)
 replace HXW:=Jh (HXW.out.trans hxc)
 replace HFE:=Jh (fun W hW=>HFE.out W ((Since.of_ext hxc).trans hW))
 replace HFL:=Jh (fun W hW=>HFL.out W ((Since.of_ext hxc).trans hW))
 have hmwb:M<=(wa.alloc (.cells ([.int .i64 2,.int .i64 0,.int .i64 0,.int .i64 0,.slice (some ⟨BE,0,none⟩) 1 1,.slice (some ⟨BL,0,none⟩) 2 2]:List Value).toArray 39)).heap.size:=by have:=hxc.size;omega
 generalize wa.alloc _=wb at *
 obtain ⟨BC,hBC⟩:∃ B,wa.heap.size=B:=⟨_,rfl⟩
 have hmBC:M<=BC:=by omega
 rw [hBC] at hbc ⊢
 have HFC:Hid (∀ W,Since M wb W->VT W [.int .i64 2,.int .i64 0,.int .i64 0,.int .i64 0,.slice (some ⟨BE,0,none⟩) 1 1,.slice (some ⟨BL,0,none⟩) 2 2] choice11):=Jh fun W hW=>⟨_,_,rfl,HFE.out W hW,HFL.out W hW⟩
 have HBC:=Jh hbc
 clear hBC hbc hxc HFE HFL hmwa
 refine wp_region_held_drew (S:=fun W=>Blk W BC ([.int .i64 2,.int .i64 0,.int .i64 0,.int .i64 0,.slice (some ⟨BE,0,none⟩) 1 1,.slice (some ⟨BL,0,none⟩) 2 2]:List Value).toArray 39) (by kernel_rfl) HBC.out.drew (fun hH=>?_)
 have hxd:Ext wb wb.drew:=Below.drew (Below.refl _ _)
 replace HB1:=Jh (HB1.out.ext hxd)
 replace HBS:=Jh (HBS.out.ext hxd)
 replace HXW:=Jh (HXW.out.trans hxd)
 replace HBC:=Jh (HBC.out.ext hxd)
 replace HFC:=Jh (fun W hW=>HFC.out W ((Since.of_ext hxd).trans hW))
 have hmwc:M<=wb.drew.heap.size:=by have:=hxd.size;omega
 clear hxd hmwb
 generalize wb.drew=wc at *
 try simp only [J]
 (refine Jt 2 (.agg ([.int .i64 2,.int .i64 0,.int .i64 0,.int .i64 0,.slice (some ⟨BE,0,none⟩) 1 1,.slice (some ⟨BL,0,none⟩) 2 2]:List Value).toArray) rfl (yif_load rfl 39 _ rfl rfl (fun _ h=>Blk.has h) agg_T rfl) hH ?_;try simp only [J])
 (refine Jr 0 rfl fun K hK=>?_)
 go_simp
 refine (sig11_calls 0 _).mono ?_
 rintro r wd ⟨rfl,hxs⟩
 replace HB1:=Jh (HB1.out.ext hxs)
 replace HBS:=Jh (HBS.out.ext hxs)
 replace HXW:=Jh (HXW.out.trans hxs)
 replace HBC:=Jh (HBC.out.ext hxs)
 replace HFC:=Jh (fun W hW=>HFC.out W ((Since.of_ext hxs).trans hW))
 have hmwd:M<=wd.heap.size:=by have:=hxs.size;omega
 refine hK.out _ _ (hH.ext hxs) (fun hH=>?_)
 clear hK K hxs hmwc
 try simp only [J]
 (refine Jr 1 rfl fun K hK=>?_)
 go_simp
 refine (put11_calls M 2 _ (sigX 1 0 0 0) _ (fun W _=>sigX_VE 0 W) hmwd).mono ?_
 rintro r we ⟨cq,rfl,hlq,hoq,hfq,hxs⟩
 replace HB1:=Jh (HB1.out.ext hxs)
 replace HBS:=Jh (HBS.out.ext hxs)
 replace HXW:=Jh (HXW.out.trans hxs)
 replace HBC:=Jh (HBC.out.ext hxs)
 replace HFC:=Jh (fun W hW=>HFC.out W ((Since.of_ext hxs).trans hW))
 have hmwe:M<=we.heap.size:=by have:=hxs.size;omega
 have HFQ:=Jh hfq
 refine hK.out _ _ (hH.ext hxs) (fun hH=>?_)
 clear hK K hxs hmwd hfq
 try simp only [J]
 have hlen:∀ cs∈[cq,[.int .i64 2,.int .i64 0,.int .i64 0,.int .i64 0,.slice (some ⟨BE,0,none⟩) 1 1,.slice (some ⟨BL,0,none⟩) 2 2]],cs.length=6:=by intro cs h;simp at h;rcases h with rfl | rfl;exact hlq;rfl
 (refine Jr 3 rfl fun K hK=>?_)
 refine step_bsN rfl _ 2 _ rfl appT (vs:=[.agg cq.toArray,.agg ([.int .i64 2,.int .i64 0,.int .i64 0,.int .i64 0,.slice (some ⟨BE,0,none⟩) 1 1,.slice (some ⟨BL,0,none⟩) 2 2]:List Value).toArray]) rfl rfl (css:=[cq,[.int .i64 2,.int .i64 0,.int .i64 0,.int .i64 0,.slice (some ⟨BE,0,none⟩) 1 1,.slice (some ⟨BL,0,none⟩) 2 2]]) rfl hlen (by decide) (by decide) ?_
 have hxs:=ext_alloc we (.cells [cq,[.int .i64 2,.int .i64 0,.int .i64 0,.int .i64 0,.slice (some ⟨BE,0,none⟩) 1 1,.slice (some ⟨BL,0,none⟩) 2 2]].flatten.toArray 39)
 have hbb:=Blk.new we [cq,[.int .i64 2,.int .i64 0,.int .i64 0,.int .i64 0,.slice (some ⟨BE,0,none⟩) 1 1,.slice (some ⟨BL,0,none⟩) 2 2]].flatten.toArray 39
 replace HB1:=Jh (HB1.out.ext hxs)
 replace HBS:=Jh (HBS.out.ext hxs)
 replace HXW:=Jh (HXW.out.trans hxs)
 replace HBC:=Jh (HBC.out.ext hxs)
 replace HFC:=Jh (fun W hW=>HFC.out W ((Since.of_ext hxs).trans hW))
 replace HFQ:=Jh (fun W hW=>HFQ.out W ((Since.of_ext hxs).trans hW))
 have hmwf:M<=(we.alloc (.cells [cq,[.int .i64 2,.int .i64 0,.int .i64 0,.int .i64 0,.slice (some ⟨BE,0,none⟩) 1 1,.slice (some ⟨BL,0,none⟩) 2 2]].flatten.toArray 39)).heap.size:=by have:=hxs.size;omega
 obtain ⟨BQ,hBQ⟩:∃ P,we.heap.size=P:=⟨_,rfl⟩
 have hmBQ:M<=BQ:=by omega
 rw [hBQ] at hbb ⊢
 refine hK.out _ _ (hH.ext hxs) (fun hH=>?_)
 clear hK K hxs hBQ hmwe
 generalize we.alloc _=wf at *
 try simp only [J]
 have HFT:Hid (∀ W,Since M wf W->Ts W (.slice (some ⟨BQ,0,none⟩) 2 2) [put11 2 (sigX 1 0 0 0),choice11]):=Jh fun W hW =>
  ⟨BQ,0,⟨_,2,rfl,Nat.le_refl _,by decide,fun _=>rfl⟩,rows_of_flat (V:=VT) (fun _ _ _ _ _ h hv=>VT.at h hv) _ [cq,[.int .i64 2,.int .i64 0,.int .i64 0,.int .i64 0,.slice (some ⟨BE,0,none⟩) 1 1,.slice (some ⟨BL,0,none⟩) 2 2]] W BQ 0 (hW.blk hbb hmBQ).has rfl hlen (fun i h h'=>by
   match i,h with
   | 0,_=>exact HFQ.out W hW
   | 1,_=>exact HFC.out W hW
   | i+2,h=>exact absurd h (by simp))⟩
 clear hbb HFQ HFC hlen
 (refine Jt 4 (.agg [.bool false,.slice (some ⟨BQ,0,none⟩) 2 2].toArray) rfl (yif_load1 rfl (by intro W3 hW;clear hW;go_simp)) hH ?_;try simp only [J])
 (refine Jr 5 rfl fun K hK=>?_)
 refine step_bsN rfl _ 1 _ rfl appProc (vs:=[.agg [.bool false,.slice (some ⟨BQ,0,none⟩) 2 2].toArray]) rfl rfl (css:=[[.bool false,.slice (some ⟨BQ,0,none⟩) 2 2]]) rfl (by intro cs h;simp at h;subst h;rfl) (by decide) (by decide) ?_
 have hxs:=ext_alloc wf (.cells [[Value.bool false,.slice (some ⟨BQ,0,none⟩) 2 2]].flatten.toArray 36)
 have hbb:=Blk.new wf [[Value.bool false,.slice (some ⟨BQ,0,none⟩) 2 2]].flatten.toArray 36
 replace HB1:=Jh (HB1.out.ext hxs)
 replace HBS:=Jh (HBS.out.ext hxs)
 replace HXW:=Jh (HXW.out.trans hxs)
 replace HBC:=Jh (HBC.out.ext hxs)
 replace HFT:=Jh (fun W hW=>HFT.out W ((Since.of_ext hxs).trans hW))
 obtain ⟨BP,hBP⟩:∃ P,wf.heap.size=P:=⟨_,rfl⟩
 have hmBP:M<=BP:=by omega
 rw [hBP] at hbb ⊢
 refine hK.out _ _ (hH.ext hxs) (fun hH=>?_)
 clear hK K hxs hBP hmwf
 generalize wf.alloc _=wg at *
 try simp only [J]
 have HFD:Hid (∀ W,Since M wg W->Procs W (.slice (some ⟨BP,0,none⟩) 1 1) d11.procs):=Jh fun W hW =>
  ⟨BP,0,⟨_,1,rfl,Nat.le_refl _,by decide,fun _=>rfl⟩,⟨_,(hW.blk hbb hmBP).has,HFT.out W hW⟩,trivial⟩
 clear hbb HFT
 (refine Jt 6 (.pointer (some ⟨B1,1,Option.none⟩)) rfl (yif_load1 rfl (by intro W3 hW;clear hW;go_simp)) hH ?_;try simp only [J])
 (refine Jr 7 rfl fun K hK=>?_)
 have x0:=HB1.out.has 1 _ rfl
 have y0:=HB1.out.frozen 1
 have hbs:=HB1.out.set 1 (.slice (some ⟨BP,0,none⟩) 1 1)
 have hgs:=gb_set wg B1 1 (.slice (some ⟨BP,0,none⟩) 1 1)
 replace HBS:=Jh (HBS.out.grown hgs (by omega))
 replace HXW:=Jh (Ext.grown HXW.out hgs (by have:=HNW.out;omega))
 have HPR:=Jh (HFD.out _ ((Since.refl M wg).more hgs (by omega)))
 go_simp
 refine hK.out _ _ (hH.grown hgs (by omega)) (fun hH=>?_)
 clear hK K x0 y0 hH HFD HBC
 refine Jz ?_
 generalize wg.setCell _ _=wh at *
 replace HB1:=Jh (show Blk wh B1 [.slice (some ⟨N,0,none⟩) 4 4,.slice (some ⟨BP,0,none⟩) 1 1,.slice none 0 0].toArray 26 from hbs)
 have HFV:=Jh (show FlatV wh (.agg #[.slice (some ⟨N,0,none⟩) 4 4,.slice (some ⟨BP,0,none⟩) 1 1,.slice none 0 0]) d11 from ⟨_,_,_,rfl,sigs11 HBS.out,HPR.out,Sl.nil _ _⟩)
 clear hbs hgs HBS HPR
 go_wp2_with (first | ((with_reducible show Jl 26);refine Jm 26 (HB1.out.has) agg_Flat rfl ?_) | ((with_reducible show Jw (Op.buildSlice _ _ _));refine Hid.out ?_))
 refine Jh ?_
 have hxs:=ext_alloc wh (.cells ([[.int .u64 1],[.int .u64 1],[.int .u64 0],[.int .u64 0]]:List (List Value)).flatten.toArray 28)
 have hbu:=Blk.new wh ([[.int .u64 1],[.int .u64 1],[.int .u64 0],[.int .u64 0]]:List (List Value)).flatten.toArray 28
 refine wpList_bsN rfl _ 4 _ rfl appWord (vs:=[.int .u64 1,.int .u64 1,.int .u64 0,.int .u64 0]) rfl rfl (css:=[[.int .u64 1],[.int .u64 1],[.int .u64 0],[.int .u64 0]]) rfl (by intro cs h;simp at h;rcases h with rfl | rfl<;>rfl) (by decide) (by decide) ?_
 replace HB1:=Jh (HB1.out.ext hxs)
 replace HFV:=Jh (HFV.out.ext hxs)
 replace HXW:=Jh (HXW.out.trans hxs)
 obtain ⟨BU,hBU⟩:∃ P,wh.heap.size=P:=⟨_,rfl⟩
 rw [hBU] at hbu ⊢
 clear hBU hxs
 generalize wh.alloc _=wi at *
 have hus:Us wi (.slice (some ⟨BU,0,none⟩) 4 4) [1,1,0,0]:=⟨BU,0,⟨_,4,rfl,Nat.le_refl _,by decide,fun _=>rfl⟩,rows_flat (f:=fun x:Nat=>[Value.int .u64 (x:Int)]) (fun _=>rfl) [1,1,0,0] 0 hbu.has⟩
 have HRN:=Jh (Run_calls d11 _ [1,1,0,0] _ 0 wi HFV.out d11_ok hus (by unfold us64;decide) (by unfold i64r;decide))
 rw [d11_run] at HRN
 clear hus hbu
 go_upto_region 5 with (first | (go_at_call 9;refine HRN.out.mono ?_;rintro r wj ⟨ua,rfl,hra,hxs⟩))
 replace HB1:=Jh (HB1.out.ext hxs)
 replace HFV:=Jh (HFV.out.ext hxs)
 replace HXW:=Jh (HXW.out.trans hxs)
 have HRA:=Jh hra.cells
 clear hra hxs HRN
 have HC:=Jh (Reads_calls d11 _ wj HFV.out d11_ok 0 (by decide))
 rw [if_pos d11_told,if_pos d11_told,d11_reads] at HC
 go_upto_region 6 with (first | ((with_reducible show Jl 26);refine Jm 26 (HB1.out.has) agg_Flat rfl ?_) | (go_at_call 14;refine HC.out.mono ?_;rintro r wk ⟨urd,rfl,hr,hxs⟩))
 replace HB1:=Jh (HB1.out.ext hxs)
 replace HFV:=Jh (HFV.out.ext hxs)
 replace HXW:=Jh (HXW.out.trans hxs)
 replace HRA:=Jh (HRA.out.ext hxs)
 have HRD:=Jh hr.cells
 clear hr hxs HC
 have HC:=Jh (Writes_calls d11 _ wk HFV.out d11_ok 0 (by decide))
 rw [if_pos d11_told,if_pos d11_told,d11_writes] at HC
 go_upto_region 7 with (first | ((with_reducible show Jl 26);refine Jm 26 (HB1.out.has) agg_Flat rfl ?_) | (go_at_call 15;refine HC.out.mono ?_;rintro r wl ⟨uwr,rfl,hr,hxs⟩))
 replace HB1:=Jh (HB1.out.ext hxs)
 replace HFV:=Jh (HFV.out.ext hxs)
 replace HXW:=Jh (HXW.out.trans hxs)
 replace HRA:=Jh (HRA.out.ext hxs)
 replace HRD:=Jh (HRD.out.ext hxs)
 have HWR:=Jh hr.cells
 clear hr hxs HC
 have HC:=Jh (Always_calls d11 _ wl HFV.out d11_ok 0 (by decide))
 rw [if_pos d11_told,if_pos d11_told,d11_always] at HC
 go_upto_region 8 with (first | ((with_reducible show Jl 26);refine Jm 26 (HB1.out.has) agg_Flat rfl ?_) | (go_at_call 16;refine HC.out.mono ?_;rintro r wm ⟨ual,rfl,hr,hxs⟩))
 replace HB1:=Jh (HB1.out.ext hxs)
 replace HFV:=Jh (HFV.out.ext hxs)
 replace HXW:=Jh (HXW.out.trans hxs)
 replace HRA:=Jh (HRA.out.ext hxs)
 replace HRD:=Jh (HRD.out.ext hxs)
 replace HWR:=Jh (HWR.out.ext hxs)
 have HAL:=Jh hr.cells
 clear hr hxs HC
 have HC:=Jh (Bits_ok d11 _ wm HFV.out d11_ok d11_check)
 go_upto_region 9 with (first | ((with_reducible show Jl 26);refine Jm 26 (HB1.out.has) agg_Flat rfl ?_) | (go_at_call 17;refine HC.out.mono ?_;rintro r wn ⟨ubt,rfl,hr,hxs⟩))
 replace HB1:=Jh (HB1.out.ext hxs)
 replace HFV:=Jh (HFV.out.ext hxs)
 replace HXW:=Jh (HXW.out.trans hxs)
 replace HRA:=Jh (HRA.out.ext hxs)
 replace HRD:=Jh (HRD.out.ext hxs)
 replace HWR:=Jh (HWR.out.ext hxs)
 replace HAL:=Jh (HAL.out.ext hxs)
 have HBT:=Jh (show Ints wn ubt [0,1,2,3,4] from d11_offs ▸ hr.cells)
 clear hr hxs HC
 have HC:=Jh (Run_calls d11 _ [] (.slice none 0 0) 0 wn HFV.out d11_ok (Sl.nil _ _) (by unfold us64;decide) (by unfold i64r;decide))
 rw [d11_run0] at HC
 go_upto_region 10 with (first | ((with_reducible show Jl 26);refine Jm 26 (HB1.out.has) agg_Flat rfl ?_) | (go_at_call 9;refine HC.out.mono ?_;rintro r wo ⟨uno,rfl,hr,hxs⟩))
 replace HB1:=Jh (HB1.out.ext hxs)
 replace HFV:=Jh (HFV.out.ext hxs)
 replace HXW:=Jh (HXW.out.trans hxs)
 replace HRA:=Jh (HRA.out.ext hxs)
 replace HRD:=Jh (HRD.out.ext hxs)
 replace HWR:=Jh (HWR.out.ext hxs)
 replace HAL:=Jh (HAL.out.ext hxs)
 replace HBT:=Jh (HBT.out.ext hxs)
 clear hr hxs HC
 have HC:=Jh (Reads_calls d11 _ wo HFV.out d11_ok 1 (by decide))
 rw [if_neg d11_told1,if_neg d11_told1] at HC
 go_upto_region 11 with (first | ((with_reducible show Jl 26);refine Jm 26 (HB1.out.has) agg_Flat rfl ?_) | (go_at_call 14;refine HC.out.mono ?_;rintro r wp ⟨ure,rfl,hr,hxs⟩))
 replace HXW:=Jh (HXW.out.trans hxs)
 replace HRA:=Jh (HRA.out.ext hxs)
 replace HRD:=Jh (HRD.out.ext hxs)
 replace HWR:=Jh (HWR.out.ext hxs)
 replace HAL:=Jh (HAL.out.ext hxs)
 replace HBT:=Jh (HBT.out.ext hxs)
 clear hr hxs HC HB1 HFV
 go_wp2_with (first | ((with_reducible show Jw (Op.buildSlice _ _ _));refine Hid.out ?_))
 refine Jh ?_
 have hxs:=ext_alloc wp (.cells ([[.int .i64 0],[.int .i64 1]]:List (List Value)).flatten.toArray 3)
 have hbu:=Blk.new wp ([[.int .i64 0],[.int .i64 1]]:List (List Value)).flatten.toArray 3
 refine wpList_bsN rfl _ 2 _ rfl appInt (vs:=[.int .i64 0,.int .i64 1]) rfl rfl (css:=[[.int .i64 0],[.int .i64 1]]) rfl (by intro cs h;simp at h;rcases h with rfl | rfl<;>rfl) (by decide) (by decide) ?_
 replace HXW:=Jh (HXW.out.trans hxs)
 replace HRA:=Jh (HRA.out.ext hxs)
 replace HRD:=Jh (HRD.out.ext hxs)
 replace HWR:=Jh (HWR.out.ext hxs)
 replace HAL:=Jh (HAL.out.ext hxs)
 replace HBT:=Jh (HBT.out.ext hxs)
 obtain ⟨BI1,hBU⟩:∃ P,wp.heap.size=P:=⟨_,rfl⟩
 rw [hBU] at hbu ⊢
 clear hBU hxs
 generalize wp.alloc _=wq at *
 have hus:Ints wq (.slice (some ⟨BI1,0,none⟩) 2 2) [0,1]:=⟨BI1,0,⟨_,2,rfl,Nat.le_refl _,by decide,fun _=>rfl⟩,rows_flat (f:=fun x:Int=>[Value.int .i64 x]) (fun _=>rfl) [0,1] 0 hbu.has⟩
 have HI:=Jh (Ints_calls11 _ _ _ _ wq HRD.out hus (by decide))
 rw [decide_eq_true rfl] at HI
 clear hus hbu HRD
 go_wp2_with (first | (go_at_call 18;refine HI.out.mono ?_;rintro r wr ⟨rfl,hxs⟩;have HXS:=Jh hxs;clear hxs) | ((with_reducible show Jw (Op.buildSlice _ _ _));refine Hid.out ?_))
 replace HXW:=Jh (HXW.out.trans HXS.out)
 replace HRA:=Jh (HRA.out.ext HXS.out)
 replace HWR:=Jh (HWR.out.ext HXS.out)
 replace HAL:=Jh (HAL.out.ext HXS.out)
 replace HBT:=Jh (HBT.out.ext HXS.out)
 clear HXS HI
 refine Jh ?_
 have hxs:=ext_alloc wr (.cells ([[.int .i64 2],[.int .i64 3]]:List (List Value)).flatten.toArray 3)
 have hbu:=Blk.new wr ([[.int .i64 2],[.int .i64 3]]:List (List Value)).flatten.toArray 3
 refine wpList_bsN rfl _ 2 _ rfl appInt (vs:=[.int .i64 2,.int .i64 3]) rfl rfl (css:=[[.int .i64 2],[.int .i64 3]]) rfl (by intro cs h;simp at h;rcases h with rfl | rfl<;>rfl) (by decide) (by decide) ?_
 replace HXW:=Jh (HXW.out.trans hxs)
 replace HRA:=Jh (HRA.out.ext hxs)
 replace HWR:=Jh (HWR.out.ext hxs)
 replace HAL:=Jh (HAL.out.ext hxs)
 replace HBT:=Jh (HBT.out.ext hxs)
 obtain ⟨BI2,hBU⟩:∃ P,wr.heap.size=P:=⟨_,rfl⟩
 rw [hBU] at hbu ⊢
 clear hBU hxs
 generalize wr.alloc _=ws at *
 have hus:Ints ws (.slice (some ⟨BI2,0,none⟩) 2 2) [2,3]:=⟨BI2,0,⟨_,2,rfl,Nat.le_refl _,by decide,fun _=>rfl⟩,rows_flat (f:=fun x:Int=>[Value.int .i64 x]) (fun _=>rfl) [2,3] 0 hbu.has⟩
 have HI:=Jh (Ints_calls11 _ _ _ _ ws HWR.out hus (by decide))
 rw [decide_eq_true rfl] at HI
 clear hus hbu HWR
 go_wp2_with (first | (go_at_call 18;refine HI.out.mono ?_;rintro r wt ⟨rfl,hxs⟩;have HXS:=Jh hxs;clear hxs) | ((with_reducible show Jw (Op.buildSlice _ _ _));refine Hid.out ?_))
 replace HXW:=Jh (HXW.out.trans HXS.out)
 replace HRA:=Jh (HRA.out.ext HXS.out)
 replace HAL:=Jh (HAL.out.ext HXS.out)
 replace HBT:=Jh (HBT.out.ext HXS.out)
 clear HXS HI
 refine Jh ?_
 have hxs:=ext_alloc wt (.cells ([[.int .i64 2]]:List (List Value)).flatten.toArray 3)
 have hbu:=Blk.new wt ([[.int .i64 2]]:List (List Value)).flatten.toArray 3
 refine wpList_bsN rfl _ 1 _ rfl appInt (vs:=[.int .i64 2]) rfl rfl (css:=[[.int .i64 2]]) rfl (by intro cs h;simp at h;rcases h with rfl<;>rfl) (by decide) (by decide) ?_
 replace HXW:=Jh (HXW.out.trans hxs)
 replace HRA:=Jh (HRA.out.ext hxs)
 replace HAL:=Jh (HAL.out.ext hxs)
 replace HBT:=Jh (HBT.out.ext hxs)
 obtain ⟨BI3,hBU⟩:∃ P,wt.heap.size=P:=⟨_,rfl⟩
 rw [hBU] at hbu ⊢
 clear hBU hxs
 generalize wt.alloc _=wu at *
 have hus:Ints wu (.slice (some ⟨BI3,0,none⟩) 1 1) [2]:=⟨BI3,0,⟨_,1,rfl,Nat.le_refl _,by decide,fun _=>rfl⟩,rows_flat (f:=fun x:Int=>[Value.int .i64 x]) (fun _=>rfl) [2] 0 hbu.has⟩
 have HI:=Jh (Ints_calls11 _ _ _ _ wu HAL.out hus (by decide))
 rw [decide_eq_true rfl] at HI
 clear hus hbu HAL
 go_wp2_with (first | (go_at_call 18;refine HI.out.mono ?_;rintro r wv ⟨rfl,hxs⟩;have HXS:=Jh hxs;clear hxs) | ((with_reducible show Jw (Op.buildSlice _ _ _));refine Hid.out ?_))
 replace HXW:=Jh (HXW.out.trans HXS.out)
 replace HRA:=Jh (HRA.out.ext HXS.out)
 replace HBT:=Jh (HBT.out.ext HXS.out)
 clear HXS HI
 refine Jh ?_
 have hxs:=ext_alloc wv (.cells ([[.int .i64 0],[.int .i64 1],[.int .i64 2],[.int .i64 3],[.int .i64 4]]:List (List Value)).flatten.toArray 3)
 have hbu:=Blk.new wv ([[.int .i64 0],[.int .i64 1],[.int .i64 2],[.int .i64 3],[.int .i64 4]]:List (List Value)).flatten.toArray 3
 refine wpList_bsN rfl _ 5 _ rfl appInt (vs:=[.int .i64 0,.int .i64 1,.int .i64 2,.int .i64 3,.int .i64 4]) rfl rfl (css:=[[.int .i64 0],[.int .i64 1],[.int .i64 2],[.int .i64 3],[.int .i64 4]]) rfl (by intro cs h;simp at h;rcases h with rfl | rfl | rfl | rfl | rfl<;>rfl) (by decide) (by decide) ?_
 replace HXW:=Jh (HXW.out.trans hxs)
 replace HRA:=Jh (HRA.out.ext hxs)
 replace HBT:=Jh (HBT.out.ext hxs)
 obtain ⟨BI4,hBU⟩:∃ P,wv.heap.size=P:=⟨_,rfl⟩
 rw [hBU] at hbu ⊢
 clear hBU hxs
 generalize wv.alloc _=ww at *
 have hus:Ints ww (.slice (some ⟨BI4,0,none⟩) 5 5) [0,1,2,3,4]:=⟨BI4,0,⟨_,5,rfl,Nat.le_refl _,by decide,fun _=>rfl⟩,rows_flat (f:=fun x:Int=>[Value.int .i64 x]) (fun _=>rfl) [0,1,2,3,4] 0 hbu.has⟩
 have HI:=Jh (Ints_calls11 _ _ _ _ ww HBT.out hus (by decide))
 rw [decide_eq_true rfl] at HI
 clear hus hbu HBT
 go_wp2_with (first | (go_at_call 18;refine HI.out.mono ?_;rintro r wx ⟨rfl,hxs⟩;have HXS:=Jh hxs;clear hxs) | ((with_reducible show Jw (Op.buildSlice _ _ _));refine Hid.out ?_))
 replace HXW:=Jh (HXW.out.trans HXS.out)
 replace HRA:=Jh (HRA.out.ext HXS.out)
 clear HXS HI
 refine Jh ?_
 have hxs:=ext_alloc wx (.cells ([[.int .u64 1],[.int .u64 1],[.int .u64 1],[.int .u64 1]]:List (List Value)).flatten.toArray 28)
 have hbu:=Blk.new wx ([[.int .u64 1],[.int .u64 1],[.int .u64 1],[.int .u64 1]]:List (List Value)).flatten.toArray 28
 refine wpList_bsN rfl _ 4 _ rfl appWord (vs:=[.int .u64 1,.int .u64 1,.int .u64 1,.int .u64 1]) rfl rfl (css:=[[.int .u64 1],[.int .u64 1],[.int .u64 1],[.int .u64 1]]) rfl (by intro cs h;simp at h;subst h;rfl) (by decide) (by decide) ?_
 replace HXW:=Jh (HXW.out.trans hxs)
 replace HRA:=Jh (HRA.out.ext hxs)
 obtain ⟨BV,hBU⟩:∃ P,wx.heap.size=P:=⟨_,rfl⟩
 rw [hBU] at hbu ⊢
 clear hBU hxs
 generalize wx.alloc _=wy at *
 have hus:Us wy (.slice (some ⟨BV,0,none⟩) 4 4) [1,1,1,1]:=⟨BV,0,⟨_,4,rfl,Nat.le_refl _,by decide,fun _=>rfl⟩,rows_flat (f:=fun x:Nat=>[Value.int .u64 (x:Int)]) (fun _=>rfl) [1,1,1,1] 0 hbu.has⟩
 have HI:=Jh (Words_calls11 _ _ _ _ wy HRA.out hus (by decide))
 rw [decide_eq_true rfl] at HI
 clear hus hbu
 go_wp2_with (first | (go_at_call 11;refine HI.out.mono ?_;rintro r wz ⟨rfl,hxs⟩))
 go_ret
 exact ⟨rfl,HXW.out.trans hxs⟩
end Go.Proofs.YtpngepnfinbaoaaGreat
