/- Laws and walks that a claim of this seat leans on: AppSeq, Ints, Met, SizeM, Shape. -/
import Derived.Test.YtemabheegnngdaaGreatVParts
import Derived.Test.YtemabheegnngdaaGreatV03
import Derived.RangeFuncNested
import Derived.Test.YtemabheegnngdaaGreatShelf
import Derived.Sort.OwnSortedInts
import Derived.Lib.OwnBridge
import Derived.Lib.RowBridge
import Derived.Shelf.Slices.In.SortNone
import Derived.Test.YtemabheegnngdaaGreatVWant
import Derived.Test.YtemabheegnngdaaGreatV01
import Derived.Test.YtemabheegnngdaaGreatVSame
import Derived.Test.YtemabheegnngdaaGreatV00
set_option linter.all false
namespace Go.Proofs.YtemabheegnngdaaGreat
open Go.RowKit
/-! ### own, and slices.AppendSeq of spans -/
theorem keepsFrom_gb {B:Nat} {W W':World} {R:Option Nat} (hg:W.grownBy W' R) (hR:∀ k,R=some k→∃ c t f,W.heap[k]? = some (Obj.cells c t f)):KeepsFrom B W W' :=
 ⟨hg.size,fun k o _ ho hc=>(hg.block k (Array.getElem?_eq_some_iff.1 ho).1 (fun e=>by
  obtain ⟨c,t,f,h⟩:=hR k e.symm
  rw [h] at ho;cases ho;cases hc)).trans ho⟩
theorem news_has {w:World} {B:Nat} {cs:List Value} (h:Has w B 0 cs):∀ j u,cs[j]? = some u→w.cell? ((⟨B,0,none⟩ : Addr).add j)=some u:=by
 intro j u hj
 have hadd:(⟨B,0,none⟩ : Addr).add j=⟨B,j,none⟩:=by unfold Addr.add;split <;> simp_all
 have:=h j u hj
 rw [hadd];rwa [Nat.zero_add] at this
open Go.RowKit Go.Sort
/-! ### rows of numbers -/
abbrev Ints (w:World) (v:Value) (l:List Int):Prop:=Sl 1 (fun (x:Int) b o=>Has w b o [.int .i64 x]) v l
def IntRow (N:Nat) (v:Value) (l:List Int) (w:World):Prop:=w.ownsRow N 3 1 v l.length (l.map (Value.int .i64))
theorem IntRow.nil (N:Nat) (w:World):IntRow N (.slice none 0 0) [] w:=World.ownsRow_nil _ _ _ _
theorem IntRow.open {N:Nat} {v:Value} {l:List Int} {w:World} (h:IntRow N v l w):∃ a cap,v=.slice a l.length cap∧(v.ownBlock=none→l=[]):=by
 rcases h.2 with ⟨rfl,h0⟩ | ⟨g,cap,cur,rfl,-⟩
 ·exact ⟨none,0,by rw [h0],fun _=>List.eq_nil_of_length_eq_zero h0⟩
 ·exact ⟨_,cap,rfl,fun h=>by cases h⟩
theorem IntRow.at {N:Nat} {v:Value} {l:List Int} {w:World} (h:IntRow N v l w) {k:Nat} (hk:v.ownBlock=some k):N ≤ k∧∃ cur,w.heap[k]? = some (.cells cur 3 (0,0)):=by
 rcases h.2 with ⟨rfl,h0⟩ | ⟨g,cap,cur,rfl,hb,hg,-⟩
 ·cases hk
 ·cases hk;exact ⟨hb,cur,hg⟩
theorem IntRow.keep {N:Nat} {v:Value} {l:List Int} {w w':World} (h:IntRow N v l w) (hk:∀ k,v.ownBlock=some k→∀ o,w.heap[k]? = some o→w'.heap[k]? = some o):IntRow N v l w':=by
 refine ⟨h.1,?_⟩
 rcases h.2 with hn | ⟨g,cap,cur,rfl,hb,hg,rest⟩
 ·exact .inl hn
 ·exact .inr ⟨g,cap,cur,rfl,hb,hk g rfl _ hg,rest⟩
theorem IntRow.ext {N:Nat} {v:Value} {l:List Int} {w w':World} (h:IntRow N v l w) (hx:Ext w w'):IntRow N v l w' :=
 h.keep fun k _ _ ho=>(hx.block k (Array.getElem?_eq_some_iff.1 ho).1).trans ho
theorem IntRow.grown {N:Nat} {v:Value} {l:List Int} {w w':World} {R:Option Nat} (h:IntRow N v l w) (hg:w.grownBy w' R) (hR:∀ k,v.ownBlock=some k→some k ≠ R):IntRow N v l w' :=
 h.keep fun k hk _ ho=>(hg.block k (Array.getElem?_eq_some_iff.1 ho).1 (hR k hk)).trans ho
theorem IntRow.less {N M:Nat} {v:Value} {l:List Int} {w:World} (h:IntRow N v l w) (hM:M ≤ N):IntRow M v l w:=by
 refine ⟨h.1,?_⟩
 rcases h.2 with hn | ⟨g,cap,cur,rfl,hb,rest⟩
 ·exact .inl hn
 ·exact .inr ⟨g,cap,cur,rfl,Nat.le_trans hM hb,rest⟩
theorem rows_flat {α : Type} {f : α→List Value} {size:Nat} (hf:∀ x,(f x).length=size) {w:World} {b:Nat} (l:List α):∀ o,Has w b o (l.map f).flatten→Rows size (fun x b o=>Has w b o (f x)) l b o:=by
 induction l with
 | nil=>intro o _;trivial
 | cons x l ih =>
  intro o h
  refine ⟨fun j u hj=>?_,ih _ fun j u hj=>?_⟩
  ·refine h j u ?_
   simp only [List.map_cons,List.flatten_cons]
   rw [List.getElem?_append_left (List.getElem?_eq_some_iff.1 hj).1]
   exact hj
  ·have:=h (size + j) u (by
    simp only [List.map_cons,List.flatten_cons]
    rw [List.getElem?_append_right (by rw [hf];omega),hf,Nat.add_sub_cancel_left]
    exact hj)
   rw [← Nat.add_assoc] at this
   exact this
theorem flat1 (l:List Int):(l.map fun x=>[Value.int .i64 x]).flatten=l.map (Value.int .i64):=by
 induction l with
 | nil=>rfl
 | cons x l ih=>simp only [List.map_cons,List.flatten_cons,ih];rfl
theorem flat_own {w:World} {N g n cap size:Nat} {e:TypeId} {cur:Array Value} {vs:List Value} (hg:w.heap[g]? = some (.cells cur e (0,0))) (ht:cur.toList.take n=vs):Has w g 0 vs:=by
 intro j u hj
 rw [← ht] at hj
 rw [Nat.zero_add,cell_of_row w g j cur e (0,0) hg]
 rw [List.getElem?_take] at hj
 split at hj
 ·simpa using hj
 ·cases hj
theorem IntRow.cells {N:Nat} {v:Value} {l:List Int} {w:World} (h:IntRow N v l w):Ints w v l:=by
 rcases h.2 with ⟨rfl,h0⟩ | ⟨g,cap,cur,rfl,hb,hg,hnc,hcm,hcs,htake⟩
 ·obtain rfl:l=[]:=List.eq_nil_of_length_eq_zero h0
  exact Sl.nil _ _
 ·refine ⟨g,0,⟨_,cap,rfl,hnc,hcm,fun _=>rfl⟩,rows_flat (f:=fun x=>[Value.int .i64 x]) (fun _=>rfl) l 0 ?_⟩
  have:=flat_own (N:=N) (cap:=cap) (size:=1) hg htake
  rw [flat1];exact this
theorem IntRow.ne {N B:Nat} {v:Value} {cs:Array Value} {T:TypeId} {l:List Int} {w:World} (h:IntRow N v l w) (hb:Blk w B cs T) (hT:(T == 3)=false) {k:Nat} (hk:v.ownBlock=some k):k ≠ B:=by
 rintro rfl
 obtain ⟨-,cur,hcur⟩:=h.at hk
 have h2:w.heap[k]? = some (.cells cs T (0,0)):=hb
 rw [hcur] at h2
 injection h2 with h2
 injection h2 with _ h2
 subst h2
 exact absurd hT (by decide)
def sortI (l:List Int):List Int:=l.mergeSort fun x y=>decide (x ≤ y)
theorem sort_calls (N:Nat) (v:Value) (l:List Int) (w:World) (h:IntRow N v l w) (hl:l.length < 4611686018427387904) :
  Calls Tryz.prog 107 #[v] w fun e w'=>e=.returned (.tuple #[])∧IntRow N v (sortI l) w'∧w.grownBy w' v.ownBlock:=by
 rcases h.2 with ⟨rfl,h0⟩ | ⟨g,cap,cur,rfl,hb,hg,hnc,hcm,hcs,htake⟩
 ·obtain rfl:l=[]:=List.eq_nil_of_length_eq_zero h0
  refine (Any.slices_Sort_int_none Tryz.lays189 none 0 w).mono ?_
  rintro e w' ⟨rfl,rfl⟩
  exact ⟨rfl,by simpa [sortI] using h,rfl,rfl,rfl,Nat.le_refl _,fun _ _ _=>rfl⟩
 ·rw [Nat.mul_one] at htake
  refine (Tryz.slices_Sort_int g 0 cap l w (holds_of_blockI hg htake) (Array.getElem?_eq_some_iff.1 hg).1 hl).mono ?_
  rintro e w' ⟨rfl,n,os,rfl⟩
  refine ⟨rfl,?_,grownBy_sortedI _⟩
  have hlen:(sortI l).length=l.length:=List.length_mergeSort _
  have:=ownsRow_sortedI (n:=n) (os:=os) (ts:=sortI l) hlen hb hg hnc hcm hcs
  unfold IntRow
  rw [hlen]
  exact this
theorem compact_calls (N:Nat) (v:Value) (l:List Int) (w:World) (h:IntRow N v l w) :
  Calls Tryz.prog 59 #[v] w fun e w'=>∃ v',e=.returned v'∧v'.ownBlock=v.ownBlock∧IntRow N v' (Lib.compact l) w'∧w.grownBy w' v.ownBlock:=by
 rcases h.2 with ⟨rfl,h0⟩ | ⟨g,cap,cur,rfl,hb,hg,hnc,hcm,hcs,htake⟩
 ·obtain rfl:l=[]:=List.eq_nil_of_length_eq_zero h0
  refine (Tryz.slices_Compact_int_empty none 0 w).mono ?_
  rintro e w' ⟨rfl,rfl⟩
  exact ⟨_,rfl,rfl,h,rfl,rfl,rfl,Nat.le_refl _,fun _ _ _=>rfl⟩
 ·have h':=h
  rw [Nat.mul_one] at htake
  have hle:=Lib.compact_length_le l
  have hml:cap ≤ 9223372036854775807:=by simpa [maxLen] using hcm
  refine (Tryz.slices_Compact_int g 0 cap l w (holds_of_blockI hg htake) (by omega) hnc).mono ?_
  rintro e w' ⟨rfl,q,rfl⟩
  refine ⟨_,rfl,rfl,?_,grownBy_sortedI (os:=#[]) _⟩
  have:=Lib.ownsRow_putRow (q:=q) (k:=(Lib.compact l).length) (ys:=Lib.compact l ++ List.replicate (l.length - (Lib.compact l).length) 0) h (by simp;omega) hle
  rw [List.take_left] at this
  exact this
theorem run_appI {w:World} {N:Nat} {v:Value} {l:List Int} (hown:IntRow N v l w) {ty:TypeId} {ad:Addr} {m c:Nat} (hm:v=.slice none 0 0→0 < m) {news:List Int} (hl:news.length=m)
  (hnews:∀ j u,(news.map (Value.int .i64))[j]? = some u→w.cell? (ad.add j)=some u) (hn:l.length + m ≤ 1099511627776) (hbase:N ≤ w.heap.size) :
  ∃ g cap w',(Builtin.append_ #[31,31] ty #[v,.slice (some ad) m c]).run Tryz.prog w=.ok (.slice (some ⟨g,0,none⟩) (l.length + m) cap) w'∧IntRow N (.slice (some ⟨g,0,none⟩) (l.length + m) cap) (l ++ news) w'∧w.grownBy w' v.ownBlock:=by
 obtain ⟨ht,hinfo,hsz,hby⟩:=appInt
 cases hi:Tryz.prog.info? 3 with
 | none=>simp [hi] at hinfo
 | some i =>
  simp only [hi,Option.map_some,Option.some.injEq,Prod.mk.injEq] at hinfo
  obtain ⟨hz0,hs,hb⟩:=hinfo
  cases hz:i.zero with
  | none=>simp [hz] at hz0
  | some z =>
   simp only [hz,Option.map_some,Option.some.injEq] at hz0
   have h1':∀ u ∈ news.map (Value.int .i64),u.oneCell'=true:=by simp [one_int]
   obtain ⟨v',w',hr,h2,h3,h4⟩:=run_append_own (P:=Tryz.prog) w N 31 ty 3 i z 1 8 ht hi hz hs hb hz0 (by decide) v l.length _ hown ad m c (news.map (Value.int .i64)) (by simp [hl]) hnews h1' (by simp only [maxLen];omega) (by omega) hbase
   have h5:IntRow N v' (l ++ news) w':=by unfold IntRow;rw [List.length_append,hl,List.map_append];exact h2
   rcases h2.2 with ⟨rfl,h0⟩ | ⟨g,cap,cur,rfl,-⟩
   ·have:=h4.1 rfl
    exact absurd (hm this.1) (by omega)
   ·exact ⟨g,cap,w',hr,h5,h3⟩
theorem wpList_appI {ops:Array Oper} {rest:List Oper} {o:Oper} {a:Act} {w:World} {Q:Exit→Act→World→Prop} (hw:Region.wanted o (yielded ops a.tmps)=true) (s x:Operand)
  (ho:o.op=.call { callee:=.builtin .append,args:=#[s,x],argTypes:=#[31,31] }) {N:Nat} {v:Value} {l:List Int} (hs:a.eval s=v) (hown:IntRow N v l w)
  {ad:Addr} {m c:Nat} (hx:a.eval x=.slice (some ad) m c) (hm:v=.slice none 0 0→0 < m) {news:List Int} (hl:news.length=m)
  (hnews:∀ j u,(news.map (Value.int .i64))[j]? = some u→w.cell? (ad.add j)=some u) (hn:l.length + m ≤ 1099511627776) (hbase:N ≤ w.heap.size)
  (h:∀ g cap w',IntRow N (.slice (some ⟨g,0,none⟩) (l.length + m) cap) (l ++ news) w'→w.grownBy w' v.ownBlock→wpList Tryz.prog ops Q rest (a.put o.dst (.slice (some ⟨g,0,none⟩) (l.length + m) cap)) w') :
  wpList Tryz.prog ops Q (o :: rest) a w :=
 BigFrame.wpList_want hw fun _ hK=>by
  obtain ⟨g,cap,w',hr,h2,h3⟩:=run_appI (ty:=o.type) (c:=c) hown hm hl hnews hn hbase
  unfold Oper.wp execOp
  simp only [ho,resolve,invoke,builtin,Sem.run_bind,Sem.run_pure,Result.andThen_ok,List.map_toArray,List.map_cons,List.map_nil,hs,hx]
  rw [hr]
  exact hK _ _ (h g cap w' h2 h3)
open Go.RowKit
/-! ### met: what stands in all of some lists -/
theorem Ints.ext {w w':World} {v:Value} {l:List Int} (h:Ints w v l) (hx:Ext w w'):Ints w' v l:=Sl.mono h fun _ _ _ _ q=>Has.ext q hx
open Go.RowKit
def sizeE:E→Int→Except Int E
 | ⟨op,w0,v,sig,hi,lo,n,l⟩,w =>
  let own0:=own ⟨op,w0,v,sig,hi,lo,n,l⟩
  if w = -1∧1 < own0 then .error 91
  else
   let w2:=told (if w = -1 then 1 else w) (told own0 32)
   if op=1∧w0=0 then (if holds w2 v then .ok ⟨1,w2,v,0,0,0,0,[]⟩ else .error 92)
   else match wantedL ⟨op,w0,v,sig,hi,lo,n,l⟩ w2 with
    | none=>.error 90
    | some ps=>match sizeL l ps with
     | .error f=>.error f
     | .ok l' =>
      if op=8∧(n=33∧hdW l' < w2 ∨ n ≠ 33∧w2 < hdW l') then .error 90
      else .ok ⟨op,w2,v,sig,hi,lo,n,l'⟩
where
 sizeL:List E→List Int→Except Int (List E)
  | [],_=>.ok []
  | e :: l,ps=>match sizeE e (ps.headD 0) with
   | .error f=>.error f
   | .ok x=>match sizeL l ps.tail with
    | .error f=>.error f
    | .ok r=>.ok (x :: r)
 hdW:List E→Int
  | []=>0
  | e :: _=>e.w
theorem sizeL_snoc (l:List E):∀ (k:Nat) (ps:List Int) (h:k < l.length),sizeE.sizeL (l.take (k + 1)) ps =
  (match sizeE.sizeL (l.take k) ps with
   | .error f=>.error f
   | .ok r=>match sizeE l[k] (ps[k]?.getD 0) with
    | .error f=>.error f
    | .ok x=>.ok (r ++ [x])):=by
 induction l with
 | nil=>intro k ps h;simp at h
 | cons e l ih =>
  intro k ps h
  cases k with
  | zero =>
   simp only [List.take_succ_cons,List.take_zero,sizeE.sizeL]
   cases ps <;> simp <;> cases sizeE e _ <;> rfl
  | succ k =>
   simp only [List.take_succ_cons,sizeE.sizeL]
   cases he:sizeE e (ps.headD 0) with
   | error f=>rfl
   | ok x =>
    simp only
    have hk:k < l.length:=by simpa using h
    rw [ih k ps.tail hk]
    have:ps.tail[k]? = ps[k + 1]?:=by simp
    rw [this]
    cases sizeE.sizeL (l.take k) ps.tail with
    | error f=>rfl
    | ok r =>
     simp only [Jc]
     cases sizeE l[k] (ps[k + 1]?.getD 0) <;> rfl
theorem sizeL_error (l:List E) (k:Nat) (ps:List Int) (h:k < l.length) (r:List E) (hr:sizeE.sizeL (l.take k) ps=.ok r) (f:Int) (hf:sizeE l[k] (ps[k]?.getD 0)=.error f):sizeE.sizeL l ps=.error f:=by
 induction l generalizing k ps r with
 | nil=>simp at h
 | cons e l ih =>
  cases k with
  | zero =>
   simp only [Jb] at hf
   have:ps.headD 0=ps[0]?.getD 0:=by cases ps <;> rfl
   rw [sizeE.sizeL,this,hf]
  | succ k =>
   simp only [List.take_succ_cons,sizeE.sizeL] at hr ⊢
   cases he:sizeE e (ps.headD 0) with
   | error f'=>simp only [he] at hr;cases hr
   | ok x =>
    simp only [he] at hr ⊢
    have hk:k < l.length:=by simpa using h
    cases h2:sizeE.sizeL (l.take k) ps.tail with
    | error f'=>simp only [h2] at hr;cases hr
    | ok r' =>
     rw [ih k ps.tail (by simpa using h) r' h2 (by simpa using hf)]
theorem sizeE_eq (e:E) (w:Int):sizeE e w =
  (if w = -1∧1 < own e then .error 91
  else
   if e.op=1∧e.w=0 then (if holds (told (if w = -1 then 1 else w) (told (own e) 32)) e.v then .ok ⟨1,told (if w = -1 then 1 else w) (told (own e) 32),e.v,0,0,0,0,[]⟩ else .error 92)
   else match wantedL e (told (if w = -1 then 1 else w) (told (own e) 32)) with
    | none=>.error 90
    | some ps=>match sizeE.sizeL e.l ps with
     | .error f=>.error f
     | .ok l' =>
      if e.op=8∧(e.n=33∧sizeE.hdW l' < told (if w = -1 then 1 else w) (told (own e) 32) ∨ e.n ≠ 33∧told (if w = -1 then 1 else w) (told (own e) 32) < sizeE.hdW l') then .error 90
      else .ok ⟨e.op,told (if w = -1 then 1 else w) (told (own e) 32),e.v,e.sig,e.hi,e.lo,e.n,l'⟩):=by
 cases e;rw [sizeE]
/-! ### a row of structs of the call's own, filled from the front -/
theorem flat_len {css:List (List Value)} {n:Nat} (h:∀ cs ∈ css,cs.length=n):css.flatten.length=css.length * n:=by
 induction css with
 | nil=>simp
 | cons c l ih=>simp [h c (by simp),ih (fun x hx=>h x (by simp [hx])),Nat.add_mul];omega
theorem wpList_store_row {P:Program} {ops:Array Oper} {rest:List Oper} {o:Oper} {a:Act} {w:World} {Q:Exit→Act→World→Prop} (hw:Region.wanted o (yielded ops a.tmps)=true)
  (ty:TypeId) (x y:Operand) (ho:o.op=.store ty x y) {pre old post:List Value} {B off:Nat} (hb:Blk w B (pre ++ old ++ post).toArray ty) (hx:a.eval x=.pointer (some ⟨B,off,none⟩)) (hoff:pre.length=off) {cs:List Value} (hy:a.eval y=.agg cs.toArray) {n:Nat}
  (hu:Agg P ty n) (hn:cs.length=n) (hc:old.length=n) (h1:cs.all (·.oneCell')=true)
  (h:∀ w',Blk w' B (pre ++ cs ++ post).toArray ty→w.grownBy w' (some B)→wpList P ops Q rest (a.put o.dst undef) w'):wpList P ops Q (o :: rest) a w :=
 BigFrame.wpList_want hw fun _ hK=>by
  subst hoff
  subst hn
  unfold Oper.wp execOp
  simp only [ho,hx,hy]
  have hs:=run_storeCells_at (P:=P) B pre.length ty cs 0 _ w hb (by simp;omega) (fun v hv=>by simpa using (List.all_eq_true.1 h1) v hv)
  have e:((pre ++ old ++ post).toArray.toList.take (pre.length + 0) ++ cs ++ (pre ++ old ++ post).toArray.toList.drop (pre.length + 0 + cs.length)).toArray=(pre ++ cs ++ post).toArray:=by
   congr 1
   simp only [Nat.add_zero,List.append_assoc]
   rw [List.take_left' rfl,← hc,← List.append_assoc pre old,List.drop_left' (by simp)]
  rw [e] at hs
  have hi:(P.info? ty).map (·.size)=some cs.length:=hu.2
  cases hq:P.info? ty with
  | none=>simp [hq] at hi
  | some i =>
   simp only [hq,Option.map_some,Option.some.injEq] at hi
   have:(storeVar ty ⟨B,pre.length,none⟩ (.agg cs.toArray)).run P w=.ok () (w.setRow B (pre ++ cs ++ post).toArray):=by
    simp [storeVar,sizeOf,typeInfo,hq,Value.cells,hi,hs]
   simp only [Instr.storeAt,Instr.sureAddr,Sem.run_bind,Sem.run_pure,Result.andThen_ok,this]
   exact hK _ _ (h _ (setRow_blk hb) (gb_setRow w B _))
open Go.RowKit
set_option maxHeartbeats 400000 in
theorem holds_calls (wd v:Int) (w:World) (hv:u64r v) :
  Calls Tryz.prog 121 #[.int .i64 wd,.int .u64 v] w fun r w'=>r=.returned (.bool (holds wd v))∧w'=w:=by
 have HL:=Lib.hid (Tryz.bits_Len64 v w hv.1 hv.2)
 go_enter Tryz.func121,Tryz.ntmps121
 go_wp2_with (first | (go_at_call 181;refine HL.out.mono ?_;rintro r w1 ⟨rfl,rfl⟩))
 go_ret
 exact ⟨rfl,rfl⟩
set_option maxHeartbeats 400000 in
theorem slice_calls (ls:List Signal) (s:Value) (sig hi lo:Int) (w:World) (h:Sigs w s ls) (h1:i64r sig) :
  Calls Tryz.prog 184 #[s,.int .i64 sig,.int .i64 hi,.int .i64 lo] w fun r w'=>r=.returned (.bool (slice ls sig hi lo))∧w'=w:=by
 obtain ⟨a,b,o,cap,hs,hc1,hc2,ha,hr⟩:=h.open
 subst hs
 obtain ⟨h1,h2⟩:=h1
 by_cases g1:0 ≤ sig
 ·obtain ⟨k,rfl⟩:=Int.eq_ofNat_of_zero_le g1
  by_cases g2:k < ls.length
  ·obtain rfl:=ha (by omega)
   have hc:=(Sigs.get hr g2) 1 _ rfl
   have HW:sigW ls (k:Int)=ls[k].w:=by simp [sigW,List.getElem?_eq_getElem g2]
   have HW2:=Lib.hid HW
   clear HW
   generalize ls[k]=x at *
   go_enter Tryz.func184,Tryz.ntmps184
   go_wp2_with fail
   all_goals go_ret
   all_goals exact ⟨ret_bool (Bool.eq_iff_iff.2 (by unfold slice;rw [HW2.out];simp;omega)),rfl⟩
  ·go_enter Tryz.func184,Tryz.ntmps184
   go_wp2_with fail
   all_goals go_ret
   all_goals exact ⟨ret_bool (Bool.eq_iff_iff.2 (by unfold slice;simp;omega)),rfl⟩
 ·go_enter Tryz.func184,Tryz.ntmps184
  go_wp2_with fail
  all_goals go_ret
  all_goals exact ⟨ret_bool (Bool.eq_iff_iff.2 (by unfold slice;simp;omega)),rfl⟩
end Go.Proofs.YtemabheegnngdaaGreat
