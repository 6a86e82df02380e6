/- Laws and walks that a claim of this seat leans on: Mark8L, MarkB, MarkL, Mark1, Mark2. -/
import Derived.Test.YthpemngachlehaaGreatY15
import Derived.Test.YthpemngachlehaaGreatY13
import Derived.Test.YthpemngachlehaaGreatY00
set_option linter.all false
namespace Go.Proofs.YthpemngachlehaaGreat
open Go.RowKit
def rdrv1 (p:Int):List Int→List Int→Bool→List Int × Bool
 | [],out,two=>(out,two)
 | b :: l,out,two=>rdrv1 p l (out.set b.toNat p) (two || decide (0 ≤ out.getD b.toNat 0))
def rdrvs:Nat→List (List Int)→List Int→Bool→List Int × Bool
 | _,[],out,two=>(out,two)
 | p,l :: ws,out,two=>rdrvs (p + 1) ws (rdrv1 p l out two).1 (rdrv1 p l out two).2
theorem rdrv1_true (p:Int) (l:List Int):∀ out,(rdrv1 p l out true).2=true:=by
 induction l with
 | nil=>intro out;rfl
 | cons b l ih=>intro out;rw [rdrv1,Bool.true_or];exact ih _
theorem rdrvs_true (ws:List (List Int)):∀ p out,(rdrvs p ws out true).2=true:=by
 induction ws with
 | nil=>intro p out;rfl
 | cons l ws ih=>intro p out;rw [rdrvs,rdrv1_true];exact ih _ _
theorem rdrv1_spec (p:Int) (l:List Int):∀ out,(∀ o,drv1 p l out=some o→rdrv1 p l out false=(o,false))∧(drv1 p l out=none→(rdrv1 p l out false).2=true):=by
 induction l with
 | nil=>intro out;exact ⟨fun o h=>by simp [drv1] at h;subst h;rfl,fun h=>by simp [drv1] at h⟩
 | cons b l ih =>
  intro out
  rw [drv1,rdrv1,Bool.false_or]
  by_cases h:0 ≤ out.getD b.toNat 0
  ·rw [if_pos h,decide_eq_true h]
   exact ⟨fun o h=>(nomatch h),fun _=>rdrv1_true _ _ _⟩
  ·rw [if_neg h,decide_eq_false h]
   exact ih _
theorem rdrvs_spec (ws:List (List Int)):∀ p out,(∀ o,drvs p ws out=some o→rdrvs p ws out false=(o,false))∧(drvs p ws out=none→(rdrvs p ws out false).2=true):=by
 induction ws with
 | nil=>intro p out;exact ⟨fun o h=>by simp [drvs] at h;subst h;rfl,fun h=>by simp [drvs] at h⟩
 | cons l ws ih =>
  intro p out
  rw [drvs,rdrvs]
  obtain ⟨h1,h2⟩:=rdrv1_spec p l out
  cases hd:drv1 p l out with
  | none =>
   rw [h2 hd]
   exact ⟨fun o h=>(nomatch h),fun _=>rdrvs_true _ _ _⟩
  | some o1 =>
   rw [h1 o1 hd]
   exact ih _ _
def rD (d:Flat):List Int × Bool:=rdrvs 0 (wsM d) (List.replicate (nBits d).toNat (-1)) false
theorem rD_some {d:Flat} {o:List Int} (h:drvM (nBits d).toNat (wsM d)=some o):rD d=(o,false):=(rdrvs_spec _ _ _).1 o h
theorem rD_none {d:Flat} (h:drvM (nBits d).toNat (wsM d)=none):(rD d).2=true:=(rdrvs_spec _ _ _).2 h
theorem rD_drvD {d:Flat} (hc:checkM d=0):drvD d=if (rD d).2=true then (120,[]) else (0,(rD d).1):=by
 unfold drvD
 rw [if_pos hc]
 cases h:drvM (nBits d).toNat (wsM d) with
 | none=>rw [rD_none h];rfl
 | some o=>rw [rD_some h];rfl
def fillK (n k:Nat):List Int:=List.replicate k (-1) ++ List.replicate (n - k) 0
theorem fillK_length {n k:Nat} (h:k ≤ n):(fillK n k).length=n:=by simp [fillK];omega
theorem fillK_succ {n k:Nat} (h:k < n):(fillK n k).set k (-1)=fillK n (k + 1):=by
 unfold fillK
 rw [List.set_append_right _ _ (by simp)]
 simp only [List.length_replicate,Nat.sub_self]
 obtain ⟨m,hm⟩ : ∃ m,n - k=m + 1:=⟨n - k - 1,by omega⟩
 rw [hm,List.replicate_succ,Je,show n - (k + 1)=m by omega,List.replicate_succ' (n:=k),List.append_assoc]
 rfl
theorem fillK_zero (n:Nat):fillK n 0=List.replicate n 0:=by simp [fillK]
theorem fillK_full (n:Nat):fillK n n=List.replicate n (-1):=by simp [fillK]
/-! ### what is looked at, one by one -/
theorem noneF_go {ls:List Signal} {o:List Int} {s:Nat} (h:s < ls.length):noneF ls o s (ls.drop s)=if ((decide (ls[s].kind=2) || decide (ls[s].kind=3)) && (subM ls o s).contains (-1))=true then true else noneF ls o (s + 1) (ls.drop (s + 1)):=by
 rw [List.drop_eq_getElem_cons h,noneF]
theorem latF_go {d:Flat} {p:Nat} (h:p < d.procs.length):latF d p (d.procs.drop p)=if (!d.procs[p].clocked && !decide ((writesM d (p:Int)).length=(alwaysM d (p:Int)).length))=true then true else latF d (p + 1) (d.procs.drop (p + 1)):=by
 rw [List.drop_eq_getElem_cons h,latF]
open Go.RowKit
/-! ### rows of marks -/
theorem appBool:AppT Tryz.prog 35 4 1 1:=⟨Tryz.underlying35,by kernel_rfl,by decide,by decide⟩
abbrev Bools (w:World) (v:Value) (l:List Bool):Prop:=Sl 1 (fun (x:Bool) b o=>Has w b o [.bool x]) v l
def BoolRow (N:Nat) (v:Value) (l:List Bool) (w:World):Prop:=w.ownsRow N 4 1 v l.length (l.map (Value.bool))
theorem BoolRow.nil (N:Nat) (w:World):BoolRow N (.slice none 0 0) [] w:=World.ownsRow_nil _ _ _ _
theorem BoolRow.open {N:Nat} {v:Value} {l:List Bool} {w:World} (h:BoolRow N v l w):∃ a cap,v=.slice a l.length cap∧(v.ownBlock=none→l=[]):=by
 rcases h.2 with ⟨rfl,h0⟩ | ⟨g,cap,cur,rfl,-⟩
 ·exact ⟨none,0,by rw [h0],fun _=>List.eq_nil_of_length_eq_zero h0⟩
 ·exact ⟨_,cap,rfl,fun h=>by cases h⟩
theorem BoolRow.at {N:Nat} {v:Value} {l:List Bool} {w:World} (h:BoolRow N v l w) {k:Nat} (hk:v.ownBlock=some k):N ≤ k∧∃ cur,w.heap[k]? = some (.cells cur 4 (0,0)):=by
 rcases h.2 with ⟨rfl,h0⟩ | ⟨g,cap,cur,rfl,hb,hg,-⟩
 ·cases hk
 ·cases hk;exact ⟨hb,cur,hg⟩
theorem BoolRow.keep {N:Nat} {v:Value} {l:List Bool} {w w':World} (h:BoolRow N v l w) (hk:∀ k,v.ownBlock=some k→∀ o,w.heap[k]? = some o→w'.heap[k]? = some o):BoolRow N v l w':=by
 refine ⟨h.1,?_⟩
 rcases h.2 with hn | ⟨g,cap,cur,rfl,hb,hg,rest⟩
 ·exact .inl hn
 ·exact .inr ⟨g,cap,cur,rfl,hb,hk g rfl _ hg,rest⟩
theorem BoolRow.ext {N:Nat} {v:Value} {l:List Bool} {w w':World} (h:BoolRow N v l w) (hx:Ext w w'):BoolRow N v l w' :=
 h.keep fun k _ _ ho=>(hx.block k (Array.getElem?_eq_some_iff.1 ho).1).trans ho
theorem BoolRow.grown {N:Nat} {v:Value} {l:List Bool} {w w':World} {R:Option Nat} (h:BoolRow N v l w) (hg:w.grownBy w' R) (hR:∀ k,v.ownBlock=some k→some k ≠ R):BoolRow N v l w' :=
 h.keep fun k hk _ ho=>(hg.block k (Array.getElem?_eq_some_iff.1 ho).1 (hR k hk)).trans ho
theorem flatB1 (l:List Bool):(l.map fun x=>[Value.bool x]).flatten=l.map (Value.bool):=by
 induction l with
 | nil=>rfl
 | cons x l ih=>simp only [List.map_cons,List.flatten_cons,ih];rfl
theorem BoolRow.cells {N:Nat} {v:Value} {l:List Bool} {w:World} (h:BoolRow N v l w):Bools w v l:=by
 rcases h.2 with ⟨rfl,h0⟩ | ⟨g,cap,cur,rfl,hb,hg,hnc,hcm,hcs,htake⟩
 ·obtain rfl:l=[]:=List.eq_nil_of_length_eq_zero h0
  exact Sl.nil _ _
 ·refine ⟨g,0,⟨_,cap,rfl,hnc,hcm,fun _=>rfl⟩,rows_flat (f:=fun x=>[Value.bool x]) (fun _=>rfl) l 0 ?_⟩
  have:=flat_own (N:=N) (cap:=cap) (size:=1) hg htake
  rw [flatB1];exact this
theorem run_appBI {w:World} {N:Nat} {v:Value} {l:List Bool} (hown:BoolRow N v l w) {ty:TypeId} {ad:Addr} {m c:Nat} (hm:v=.slice none 0 0→0 < m) {news:List Bool} (hl:news.length=m)
  (hnews:∀ j u,(news.map (Value.bool))[j]? = some u→w.cell? (ad.add j)=some u) (hn:l.length + m ≤ 1099511627776) (hbase:N ≤ w.heap.size) :
  ∃ g cap w',(Builtin.append_ #[35,35] ty #[v,.slice (some ad) m c]).run Tryz.prog w=.ok (.slice (some ⟨g,0,none⟩) (l.length + m) cap) w'∧BoolRow N (.slice (some ⟨g,0,none⟩) (l.length + m) cap) (l ++ news) w'∧w.grownBy w' v.ownBlock:=by
 obtain ⟨ht,hinfo,hsz,hby⟩:=appBool
 cases hi:Tryz.prog.info? 4 with
 | none=>simp [hi] at hinfo
 | some i =>
  simp only [hi,Option.map_some,Option.some.injEq,Prod.mk.injEq] at hinfo
  obtain ⟨hz0,hs,hb⟩:=hinfo
  cases hz:i.zero with
  | none=>simp [hz] at hz0
  | some z =>
   simp only [hz,Option.map_some,Option.some.injEq] at hz0
   have h1':∀ u ∈ news.map (Value.bool),u.oneCell'=true:=by
    intro u hu
    obtain ⟨x,-,rfl⟩:=List.mem_map.1 hu
    rfl
   obtain ⟨v',w',hr,h2,h3,h4⟩:=run_append_own (P:=Tryz.prog) w N 35 ty 4 i z 1 1 ht hi hz hs hb hz0 (by decide) v l.length _ hown ad m c (news.map (Value.bool)) (by simp [hl]) hnews h1' (by simp only [maxLen];omega) (by omega) hbase
   have h5:BoolRow N v' (l ++ news) w':=by unfold BoolRow;rw [List.length_append,hl,List.map_append];exact h2
   rcases h2.2 with ⟨rfl,h0⟩ | ⟨g,cap,cur,rfl,-⟩
   ·have:=h4.1 rfl
    exact absurd (hm this.1) (by omega)
   ·exact ⟨g,cap,w',hr,h5,h3⟩
theorem wpList_appBI {ops:Array Oper} {rest:List Oper} {o:Oper} {a:Act} {w:World} {Q:Exit→Act→World→Prop} (hw:Region.wanted o (yielded ops a.tmps)=true) (s x:Operand)
  (ho:o.op=.call { callee:=.builtin .append,args:=#[s,x],argTypes:=#[35,35] }) {N:Nat} {v:Value} {l:List Bool} (hs:a.eval s=v) (hown:BoolRow N v l w)
  {ad:Addr} {m c:Nat} (hx:a.eval x=.slice (some ad) m c) (hm:v=.slice none 0 0→0 < m) {news:List Bool} (hl:news.length=m)
  (hnews:∀ j u,(news.map (Value.bool))[j]? = some u→w.cell? (ad.add j)=some u) (hn:l.length + m ≤ 1099511627776) (hbase:N ≤ w.heap.size)
  (h:∀ g cap w',BoolRow N (.slice (some ⟨g,0,none⟩) (l.length + m) cap) (l ++ news) w'→w.grownBy w' v.ownBlock→wpList Tryz.prog ops Q rest (a.put o.dst (.slice (some ⟨g,0,none⟩) (l.length + m) cap)) w') :
  wpList Tryz.prog ops Q (o :: rest) a w :=
 BigFrame.wpList_want hw fun _ hK=>by
  obtain ⟨g,cap,w',hr,h2,h3⟩:=run_appBI (ty:=o.type) (c:=c) hown hm hl hnews hn hbase
  unfold Oper.wp execOp
  simp only [ho,resolve,invoke,builtin,Sem.run_bind,Sem.run_pure,Result.andThen_ok,List.map_toArray,List.map_cons,List.map_nil,hs,hx]
  rw [hr]
  exact hK _ _ (h g cap w' h2 h3)
theorem run_appB {w:World} {N:Nat} {v:Value} {l:List Bool} (hown:BoolRow N v l w) {ty:TypeId} {x:Value} {news:List Bool} (hx:Bools w x news) (hn:l.length + news.length ≤ 1099511627776) (hbase:N ≤ w.heap.size) :
  ∃ v' w',(Builtin.append_ #[35,35] ty #[v,x]).run Tryz.prog w=.ok v' w'∧BoolRow N v' (l ++ news) w'∧w.grownBy w' v.ownBlock:=by
 obtain ⟨a,b,o,cap,rfl,hc1,hc2,ha,hr⟩:=hx.open
 by_cases h0:0 < news.length
 ·obtain rfl:=ha h0
  obtain ⟨g,cap',w',h1,h2,h3⟩:=run_appBI (ty:=ty) (c:=cap) (m:=news.length) hown (fun _=>h0) rfl (ad:=⟨b,o,none⟩) (news:=news) (fun j u hj=>by
   rw [List.getElem?_map] at hj
   cases hq:news[j]? with
   | none=>rw [hq] at hj;cases hj
   | some y =>
    rw [hq] at hj
    have hadd:(⟨b,o,none⟩ : Addr).add j=⟨b,o + j,none⟩:=by unfold Addr.add;split <;> simp_all
    rw [hadd]
    have:=(hr.get hq) 0 _ rfl
    simp only [Nat.mul_one,Nat.add_zero] at this
    rw [this]
    exact hj) hn hbase
  exact ⟨_,w',h1,h2,h3⟩
 ·obtain rfl:news=[]:=List.eq_nil_of_length_eq_zero (by omega)
  obtain ⟨ht,hinfo,hsz,hby⟩:=appBool
  cases hi:Tryz.prog.info? 4 with
  | none=>simp [hi] at hinfo
  | some i =>
   have hsrc:Src Tryz.prog i.size 35 (.slice a 0 cap) 0 [] w:=by
    cases a with
    | none=>exact Src.ofNil w ht cap
    | some a=>exact Src.ofSlice w ht a 0 cap [] (by simp) (by intro j u hj;simp at hj) (by simp)
   obtain ⟨av,cv,hv,-⟩:=hown.open
   have hle:l.length ≤ cv:=by
    rcases hown.2 with ⟨e,h0⟩ | ⟨g,c2,cur,e,hb,hg,hnc,-⟩
    ·rw [hv] at e;injection e with _ e2 e3;omega
    ·rw [hv] at e;injection e with _ e2 e3;omega
   refine ⟨v,w,?_,by rw [List.append_nil];exact hown,⟨rfl,rfl,rfl,Nat.le_refl _,fun _ _ _=>rfl⟩⟩
   rw [hv]
   exact run_append_nothing w 35 35 ty 4 i ht hi av l.length cv hle _ hsrc
theorem wpList_appB {ops:Array Oper} {rest:List Oper} {o:Oper} {a:Act} {w:World} {Q:Exit→Act→World→Prop} (hw:Region.wanted o (yielded ops a.tmps)=true) (s x:Operand)
  (ho:o.op=.call { callee:=.builtin .append,args:=#[s,x],argTypes:=#[35,35] }) {N:Nat} {v:Value} {l:List Bool} (hs:a.eval s=v) (hown:BoolRow N v l w)
  {xv:Value} (hx:a.eval x=xv) {news:List Bool} (hnews:Bools w xv news) (hn:l.length + news.length ≤ 1099511627776) (hbase:N ≤ w.heap.size)
  (h:∀ v' w',BoolRow N v' (l ++ news) w'→w.grownBy w' v.ownBlock→wpList Tryz.prog ops Q rest (a.put o.dst v') w') :
  wpList Tryz.prog ops Q (o :: rest) a w :=
 BigFrame.wpList_want hw fun _ hK=>by
  obtain ⟨v',w',hr,h2,h3⟩:=run_appB (ty:=o.type) hown hnews hn hbase
  unfold Oper.wp execOp
  simp only [ho,resolve,invoke,builtin,Sem.run_bind,Sem.run_pure,Result.andThen_ok,List.map_toArray,List.map_cons,List.map_nil,hs,hx]
  rw [hr]
  exact hK _ _ (h v' w' h2 h3)
theorem BoolRow.open1 {N:Nat} {v:Value} {l:List Bool} {w:World} (h:BoolRow N v l w) (hl:0 < l.length):∃ g cap,v=.slice (some ⟨g,0,none⟩) l.length cap∧N ≤ g∧∀ i x,l[i]? = some x→w.cell? ⟨g,i,none⟩=some (.bool x):=by
 rcases h.2 with ⟨rfl,h0⟩ | ⟨g,cap,cur,rfl,hb,hg,hnc,hcm,hcs,htake⟩
 ·omega
 ·refine ⟨g,cap,rfl,hb,fun i x hx=>?_⟩
  have:=flat_own (N:=N) (cap:=cap) (size:=1) hg htake i (.bool x) (by simp [hx])
  rwa [Nat.zero_add] at this
theorem BoolRow.ofBlk {N g:Nat} {l:List Bool} {w:World} (h:Blk w g (l.map (Value.bool)).toArray 4) (hN:N ≤ g) (hm:l.length ≤ 9223372036854775807):BoolRow N (.slice (some ⟨g,0,none⟩) l.length l.length) l w :=
 ⟨by simp,.inr ⟨g,l.length,_,rfl,hN,h,Nat.le_refl _,by simpa [maxLen] using hm,by simp,by rw [Nat.mul_one];exact List.take_of_length_le (by simp)⟩⟩
theorem Bools.ext {w w':World} {v:Value} {l:List Bool} (h:Bools w v l) (hx:Ext w w'):Bools w' v l:=Sl.mono h fun _ _ _ _ q=>Has.ext q hx
theorem BoolRow.set {N g cap:Nat} {n:Nat} {l:List Bool} {w:World} (h:BoolRow N (.slice (some ⟨g,0,none⟩) n cap) l w) (j:Nat) (hj:j < l.length) (x:Bool) :
  BoolRow N (.slice (some ⟨g,0,none⟩) n cap) (l.set j x) (w.setCell ⟨g,j,none⟩ (.bool x)):=by
 rcases h.2 with ⟨e,h0⟩ | ⟨g',cap',cur,e,hb,hg,hnc,hcm,hcs,htake⟩
 ·cases e
 ·injection e with e1 e2 e3
  injection e1 with e1
  injection e1 with e1
  subst e1 e2 e3
  have hB:Blk w g cur 4:=hg
  refine ⟨by simp,.inr ⟨g,cap,cur.setIfInBounds j (.bool x),by rw [List.length_set],hb,hB.set j (.bool x),by rw [List.length_set];exact hnc,hcm,by rw [Array.size_setIfInBounds];exact hcs,?_⟩⟩
  rw [List.length_set,Array.toList_setIfInBounds,List.map_set,← htake,List.take_set]
theorem BoolRow.cases' {N:Nat} {v:Value} {l:List Bool} {w:World} (h:BoolRow N v l w):(v=.slice none 0 0∧l=[]) ∨ ∃ g cap,v=.slice (some ⟨g,0,none⟩) l.length cap∧N ≤ g:=by
 rcases h.2 with ⟨rfl,h0⟩ | ⟨g,cap,cur,rfl,hb,-⟩
 ·exact .inl ⟨rfl,List.eq_nil_of_length_eq_zero h0⟩
 ·exact .inr ⟨g,cap,rfl,hb⟩
theorem BoolRow.bs0 (w:World) {N:Nat} (hN:N ≤ w.heap.size):BoolRow N (.slice (some ⟨w.heap.size,0,none⟩) 0 0) [] (w.alloc (.cells #[] 4)) :=
 ⟨rfl,.inr ⟨w.heap.size,0,#[],rfl,hN,Blk.new w #[] 4,Nat.le_refl _,by decide,rfl,rfl⟩⟩
theorem BoolRow.made {w:World} {N n:Nat} {x:Bool} (hN:N ≤ w.heap.size) (hn:n ≤ 9223372036854775807):BoolRow N (.slice (some ⟨w.heap.size,0,none⟩) n n) (List.replicate n x) (w.alloc (.cells (List.replicate n (Value.bool x)).toArray 4)):=by
 have:=BoolRow.ofBlk (N:=N) (l:=List.replicate n x) (g:=w.heap.size) (w:=w.alloc (.cells (List.replicate n (Value.bool x)).toArray 4)) (by rw [List.map_replicate];exact Blk.new _ _ _) hN (by simpa using hn)
 simpa using this
theorem IntRow.set {N g cap:Nat} {n:Nat} {l:List Int} {w:World} (h:IntRow N (.slice (some ⟨g,0,none⟩) n cap) l w) (j:Nat) (hj:j < l.length) (x:Int) :
  IntRow N (.slice (some ⟨g,0,none⟩) n cap) (l.set j x) (w.setCell ⟨g,j,none⟩ (.int .i64 x)):=by
 rcases h.2 with ⟨e,h0⟩ | ⟨g',cap',cur,e,hb,hg,hnc,hcm,hcs,htake⟩
 ·cases e
 ·injection e with e1 e2 e3
  injection e1 with e1
  injection e1 with e1
  subst e1 e2 e3
  have hB:Blk w g cur 3:=hg
  refine ⟨by simp,.inr ⟨g,cap,cur.setIfInBounds j (.int .i64 x),by rw [List.length_set],hb,hB.set j (.int .i64 x),by rw [List.length_set];exact hnc,hcm,by rw [Array.size_setIfInBounds];exact hcs,?_⟩⟩
  rw [List.length_set,Array.toList_setIfInBounds,List.map_set,← htake,List.take_set]
theorem Bools.cell {w:World} {a:Option Addr} {b o n cap:Nat} {l:List Bool} (h:Rows 1 (fun (x:Bool) b o=>Has w b o [.bool x]) l b o) {k:Nat} (hk:k < l.length):w.cell? ⟨b,o + k,none⟩=some (.bool l[k]):=by
 have:=h.get (List.getElem?_eq_getElem hk) 0 _ rfl
 simpa using this
theorem Ints.cell {w:World} {b o:Nat} {l:List Int} (h:Rows 1 (fun (x:Int) b o=>Has w b o [.int .i64 x]) l b o) {k:Nat} (hk:k < l.length):w.cell? ⟨b,o + k,none⟩=some (.int .i64 l[k]):=by
 have:=h.get (List.getElem?_eq_getElem hk) 0 _ rfl
 simpa using this
open Go.RowKit
/-! ### marks: of the numbers below n those that a list has -/
def setB (n:Nat) (S:List Int):List Bool:=(List.range n).map fun (i:Nat)=>decide ((i:Int) ∈ S)
theorem setB_length (n:Nat) (S:List Int):(setB n S).length=n:=by simp [setB]
theorem setB_get {n:Nat} (S:List Int) {i:Nat} (h:i < n):(setB n S)[i]? = some (decide ((i:Int) ∈ S)):=by simp [setB,h]
theorem setB_getElem {n:Nat} (S:List Int) {i:Nat} (h:i < (setB n S).length):(setB n S)[i]=decide ((i:Int) ∈ S):=by simp [setB]
theorem setB_nil (n:Nat):setB n []=List.replicate n false:=by
 refine List.ext_getElem (by simp [setB]) fun i h1 h2=>by simp [setB]
theorem setB_ext {n:Nat} {S S':List Int} (h:∀ x,x ∈ S ↔ x ∈ S'):setB n S=setB n S':=by
 unfold setB
 refine List.map_congr_left fun i _=>?_
 simp [h]
theorem setB_set (n:Nat) (S:List Int) (j:Int) (h:0 ≤ j):(setB n S).set j.toNat true=setB n (S ++ [j]):=by
 refine List.ext_getElem (by simp [setB]) fun i h1 h2=>?_
 rw [List.getElem_set,setB_getElem,setB_getElem]
 by_cases e:j.toNat=i
 ·rw [if_pos e]
  have:(i:Int)=j:=by omega
  rw [this];simp
 ·rw [if_neg e]
  have : ¬ (i:Int)=j:=by omega
  simp [this]
theorem setB_and (n:Nat) (S S':List Int):List.zipWith (fun a b=>a && b) (setB n S) (setB n S')=setB n (S.filter fun x=>S'.contains x):=by
 refine List.ext_getElem (by simp [setB]) fun i h1 h2=>?_
 simp [setB,List.mem_filter]
def markedK (bl:List Bool) (k:Nat):List Int:=((List.range k).filter fun i=>bl.getD i false).map fun (i:Nat)=>(i:Int)
theorem markedK_succ (bl:List Bool) (k:Nat):markedK bl (k + 1)=markedK bl k ++ if bl.getD k false=true then [(k:Int)] else []:=by
 unfold markedK
 rw [List.range_succ,List.filter_append,List.map_append]
 congr 1
 by_cases h:bl.getD k false=true
 ·rw [if_pos h];simp only [List.filter_cons,h,if_true,List.filter_nil,List.map_cons,List.map_nil]
 ·rw [if_neg h];simp only [List.filter_cons,h,List.filter_nil];rfl
theorem markedK_length (bl:List Bool) (k:Nat):(markedK bl k).length ≤ k:=by
 unfold markedK
 rw [List.length_map]
 exact Nat.le_trans (List.length_filter_le _ _) (by simp)
theorem markedK_lt (bl:List Bool) (k:Nat):(markedK bl k).Pairwise (· < ·):=by
 unfold markedK
 refine List.Pairwise.map _ (fun a b (h:a < b)=>by omega) (List.Pairwise.filter _ List.pairwise_lt_range)
theorem markedK_mem (bl:List Bool) (k:Nat) (x:Int):x ∈ markedK bl k ↔ ∃ i:Nat,i < k∧bl.getD i false=true∧x=i:=by
 unfold markedK
 simp only [List.mem_map,List.mem_filter,List.mem_range]
 constructor
 ·rintro ⟨i,⟨h1,h2⟩,rfl⟩;exact ⟨i,h1,h2,rfl⟩
 ·rintro ⟨i,h1,h2,rfl⟩;exact ⟨i,⟨h1,h2⟩,rfl⟩
theorem marked_set {n:Nat} {S:List Int} (h:∀ x ∈ S,0 ≤ x∧x < n):markedK (setB n S) n=setI S:=by
 refine (setI_eq S _ (markedK_lt _ _) fun x=>?_).symm
 rw [markedK_mem]
 constructor
 ·intro hx
  have:=h x hx
  refine ⟨x.toNat,by omega,?_,by omega⟩
  rw [List.getD_eq_getElem?_getD,setB_get _ (by omega)]
  simp only [Option.getD_some,decide_eq_true_eq]
  rw [show ((x.toNat:Nat):Int)=x by omega];exact hx
 ·rintro ⟨i,h1,h2,rfl⟩
  rw [List.getD_eq_getElem?_getD,setB_get _ h1] at h2
  simpa using h2
/-! ### what a span marks, number by number -/
def numsK (offs:List Int) (s:Span) (k:Nat):List Int:=(List.range k).map fun (j:Nat)=>offs.getD s.sig.toNat 0 + (s.lo + (j:Int))
theorem numsK_succ (offs:List Int) (s:Span) (k:Nat):numsK offs s (k + 1)=numsK offs s k ++ [offs.getD s.sig.toNat 0 + (s.lo + (k:Int))]:=by
 unfold numsK;rw [List.range_succ,List.map_append];rfl
theorem numsK_full (offs:List Int) (s:Span):numsK offs s (s.hi - s.lo + 1).toNat=numsOf offs s:=rfl
/-! ### all that is marked stands in the design -/
theorem allNums_append (offs:List Int) (xs ys:List Span):allNums offs (xs ++ ys)=allNums offs xs ++ allNums offs ys:=by
 unfold allNums;rw [List.map_append,List.flatten_append]
theorem allNums_range (ls:List Signal) {xs:List Span} (h:∀ s ∈ xs,SpanD ls s) (hw:∀ x ∈ ls,1 ≤ x.w∧x.w ≤ 64):∀ x ∈ allNums (offsM ls ls.length) xs,0 ≤ x∧x < sumW ls ls.length:=by
 intro x hx
 obtain ⟨l,hl,hxl⟩:=List.mem_flatten.1 hx
 obtain ⟨s,hs,rfl⟩:=List.mem_map.1 hl
 obtain ⟨j,h1,h2,rfl⟩:=(mem_numsOf _ _ _).1 hxl
 have hd:=h s hs
 unfold SpanD at hd
 have hk:s.sig.toNat < ls.length:=by omega
 rw [offsM_getD ls _ _ (by omega)]
 have hsg:sigW ls s.sig=ls[s.sig.toNat].w:=by unfold sigW;rw [List.getElem?_eq_getElem hk]
 have h3:=sumW_succ ls s.sig.toNat hk
 have h4:=sumW_mono ls hw (s.sig.toNat + 1) ls.length (by omega) (Nat.le_refl _)
 have h5:=(sumW_le ls hw s.sig.toNat (by omega)).1
 omega
open Go.RowKit
theorem BoolRow.cellf {N g cap n:Nat} {l:List Bool} {w:World} (h:BoolRow N (.slice (some ⟨g,0,none⟩) n cap) l w) {j:Nat} (hj:j < l.length):w.cell? ⟨g,j,none⟩=some (.bool l[j])∧w.frozen? ⟨g,j,none⟩=false:=by
 obtain ⟨g',cap',e,hg,hc⟩:=h.open1 (by omega)
 injection e with e1 e2 e3
 injection e1 with e1
 injection e1 with e1
 subst e1
 obtain ⟨-,cur,hcur⟩:=h.at rfl
 have hB:Blk w g cur 4:=hcur
 exact ⟨hc j _ (List.getElem?_eq_getElem hj),hB.frozen j⟩
theorem IntRow.cellf {N g cap n:Nat} {l:List Int} {w:World} (h:IntRow N (.slice (some ⟨g,0,none⟩) n cap) l w) {j:Nat} (hj:j < l.length):w.cell? ⟨g,j,none⟩=some (.int .i64 l[j])∧w.frozen? ⟨g,j,none⟩=false:=by
 obtain ⟨g',cap',e,hg,hc⟩:=h.open1 (by omega)
 injection e with e1 e2 e3
 injection e1 with e1
 injection e1 with e1
 subst e1
 obtain ⟨-,cur,hcur⟩:=h.at rfl
 have hB:Blk w g cur 3:=hcur
 exact ⟨hc j _ (List.getElem?_eq_getElem hj),hB.frozen j⟩
theorem setB_succ (k:Nat) (S:List Int):setB (k + 1) S=setB k S ++ [decide ((k:Int) ∈ S)]:=by
 unfold setB;rw [List.range_succ,List.map_append];rfl
theorem bnews_has {w:World} {B:Nat} {x:Bool} (h:Has w B 0 [.bool x]):∀ j u,([x].map Value.bool)[j]? = some u→w.cell? ((⟨B,0,none⟩ : Addr).add j)=some u:=by
 intro j u hj
 have hadd:(⟨B,0,none⟩ : Addr).add j=⟨B,j,none⟩:=by unfold Addr.add;split <;> simp_all
 rw [hadd]
 have:=h j u hj
 rwa [Nat.zero_add] at this
/-! ### filigreeref11.marked -/
set_option maxHeartbeats 2000000 in
theorem marked_calls (bl:List Bool) (v:Value) (w:World) (h:Bools w v bl) (hn:bl.length ≤ 1073741824) :
  Calls Tryz.prog 96 #[v] w fun r w'=>∃ u,r=.returned u∧IntRow w.heap.size u (markedK bl bl.length) w'∧Ext w w':=by
 obtain ⟨a,b,o,cap,rfl,hc1,hc2,ha,hr⟩:=h.open
 have HR:=Lib.hid hr
 have HA:=Lib.hid ha
 clear hr ha h
 go_enter Tryz.func96,Tryz.ntmps96
 go_wp2_with fail
 go_loopw [3,4] (fun u i wr=>∃ k:Nat,k ≤ bl.length∧i=.int .i64 k∧IntRow w.heap.size u (markedK bl k) wr∧Ext w wr) (fun _ i _=>bl.length - (intOf i).toNat)
 case atStart=>exact ⟨0,Nat.zero_le _,rfl,IntRow.nil _ _,Below.refl _ _⟩
 case round =>
  obtain ⟨k,hk,rfl,hrow,hx⟩:=hrel
  have HROW:=Lib.hid hrow
  have HX:=Lib.hid hx
  have hsz:=hx.size
  clear hrow hx
  by_cases hlt:k < bl.length
  ·obtain rfl:=HA.out (by omega)
   have hz:=Bools.cell (a:=none) (n:=0) (cap:=0) (HR.out.mono fun x _ b o h=>Has.ext h HX.out) hlt
   have hm:=markedK_succ bl k
   rw [List.getD_eq_getElem?_getD,List.getElem?_eq_getElem hlt,Option.getD_some] at hm
   have hml:=markedK_length bl k
   generalize bl[k]=x at *
   have HM:=Lib.hid hm
   clear hm
   cases x
   ·have hm:=HM.out
    rw [if_neg (by decide),List.append_nil] at hm
    rw [← hm] at HROW
    clear hm HM
    go_wp2_with fail
    go_roundw
    case rel=>exact ⟨k + 1,hlt,by go_num,HROW.out,HX.out⟩
    case measure=>simp [intOf];omega
   ·have hm:=HM.out
    rw [if_pos rfl] at hm
    have HM2:=Lib.hid hm
    clear hm HM
    go_wp2_with ((with_reducible show wpList _ _ _ (⟨_,Op.buildSlice _ _ _,_,_,_,_⟩ :: _) _ _);refine Hid.out ?_)
    refine Lib.hid ?_
    refine wpList_bs1 rfl _ _ rfl appInt rfl (cs:=[.int .i64 (k:Int)]) rfl rfl (by decide) ?_
    have hx2:=ext_alloc wr (.cells [Value.int .i64 (k:Int)].toArray 3)
    have hb2:=Blk.new wr [Value.int .i64 (k:Int)].toArray 3
    have hs2:(wr.alloc (.cells [Value.int .i64 (k:Int)].toArray 3)).heap.size=wr.heap.size + 1:=by simp
    refine wpList_appI rfl _ _ rfl rfl (HROW.out.ext hx2) rfl (fun _=>Nat.lt_of_lt_of_le Nat.zero_lt_one (Nat.le_refl 1)) (news:=[(k:Int)]) rfl (news_has hb2.has) (by omega) (by omega) ?_
    intro g3 cap3 w3 hrow3 hg3
    have hX3:Ext w w3:=Ext.grownO (HX.out.trans hx2) hg3 (fun j hj=>(HROW.out.at hj).1)
    rw [← HM2.out] at hrow3
    have hl3:(markedK bl k).length + 1=(markedK bl (k + 1)).length:=by rw [HM2.out];simp
    rw [hl3] at hrow3 ⊢
    have HR3:=Lib.hid hrow3
    clear hrow3 hg3 hl3 hb2 hx2 hs2
    go_wp2_with fail
    go_roundw
    case rel=>exact ⟨k + 1,hlt,by go_num,HR3.out,hX3⟩
    case measure=>simp [intOf];omega
  ·obtain rfl:k=bl.length:=by omega
   go_wp2_with fail
   go_ret
   exact ⟨_,rfl,HROW.out,HX.out⟩
/-! ### filigreeref11.either, both -/
set_option maxHeartbeats 2000000 in
theorem either_calls11 (n:Nat) (S S' R:List Int) (v v':Value) (w:World) (h:Bools w v (setB n S)) (h':Bools w v' (setB n S')) (hn:n ≤ 1073741824) (hR:∀ k:Nat,k < n→decide ((k:Int) ∈ R)=(Bool.or (decide ((k:Int) ∈ S)) (decide ((k:Int) ∈ S')))) :
  Calls Tryz.prog 131 #[v,v'] w fun r w'=>∃ u,r=.returned u∧BoolRow w.heap.size u (setB n R) w'∧Ext w w':=by
 obtain ⟨a,b,o,cap,rfl,hc1,hc2,ha,hr⟩:=h.open
 obtain ⟨a',b',o',cap',rfl,hd1,hd2,ha',hr'⟩:=h'.open
 rw [setB_length] at hc1 ha hd1 ha' ⊢
 rw [setB_length]
 have HR:=Lib.hid hr
 have HA:=Lib.hid ha
 have HR':=Lib.hid hr'
 have HA':=Lib.hid ha'
 have HRR:=Lib.hid hR
 clear hr ha h hr' ha' h' hR
 go_enter Tryz.func131,Tryz.ntmps131
 go_wp2_with fail
 go_loopw [5,6] (fun u i wr=>∃ k:Nat,k ≤ n∧i=.int .i64 k∧BoolRow w.heap.size u (setB k R) wr∧Ext w wr) (fun _ i _=>n - (intOf i).toNat)
 case atStart=>exact ⟨0,Nat.zero_le _,rfl,BoolRow.nil _ _,Below.refl _ _⟩
 case round =>
  obtain ⟨k,hk,rfl,hrow,hx⟩:=hrel
  have HROW:=Lib.hid hrow
  have HX:=Lib.hid hx
  have hsz:=hx.size
  clear hrow hx
  by_cases hlt:k < n
  ·obtain rfl:=HA.out (by omega)
   obtain rfl:=HA'.out (by omega)
   have hz:=Bools.cell (a:=none) (n:=0) (cap:=0) (k:=k) (HR.out.mono fun x _ b o h=>Has.ext h HX.out) (by rw [setB_length];exact hlt)
   have hz':=Bools.cell (a:=none) (n:=0) (cap:=0) (k:=k) (HR'.out.mono fun x _ b o h=>Has.ext h HX.out) (by rw [setB_length];exact hlt)
   rw [setB_getElem] at hz hz'
   have hm:=setB_succ k R
   rw [HRR.out k hlt] at hm
   have hml:=setB_length k R
   generalize decide ((k:Int) ∈ S)=x at *
   generalize decide ((k:Int) ∈ S')=y at *
   obtain ⟨z,hzz⟩ : ∃ z,(Bool.or x y)=z:=⟨_,rfl⟩
   rw [hzz] at hm
   have HM2:=Lib.hid hm
   have HZ:=Lib.hid hzz
   have HML:=Lib.hid hml
   clear hm hzz hml
   have hx2:=ext_alloc wr (.cells [Value.bool z].toArray 4)
   have hb2:=Blk.new wr [Value.bool z].toArray 4
   have HX2:=Lib.hid hx2
   have HB2:=Lib.hid hb2
   clear hx2 hb2
   cases x
   all_goals cases y
   all_goals (
    obtain rfl:=HZ.out
    go_wp2_with ((with_reducible show wpList _ _ _ (⟨_,Op.buildSlice _ _ _,_,_,_,_⟩ :: _) _ _);refine Hid.out ?_)
    refine Lib.hid ?_
    refine wpList_bs1 rfl _ _ rfl appBool rfl (cs:=[.bool _]) rfl rfl (by decide) ?_
    refine wpList_appBI rfl _ _ rfl rfl (HROW.out.ext HX2.out) rfl (fun _=>Nat.lt_of_lt_of_le Nat.zero_lt_one (Nat.le_refl 1)) (news:=[_]) rfl (bnews_has HB2.out.has) (by rw [HML.out];omega) (by rw [World.size_alloc];omega) ?_
    intro g3 cap3 w3 hrow3 hg3
    have hX3:Ext w w3:=Ext.grownO (HX.out.trans HX2.out) hg3 (fun j hj=>(HROW.out.at hj).1)
    have hm3:=HM2.out
    simp only [Bool.or_false,Bool.or_true,Bool.and_false,Bool.and_true] at hm3
    have hrow4:BoolRow w.heap.size (.slice (some ⟨g3,0,none⟩) (k + 1) cap3) (setB (k + 1) R) w3:=by
     rw [HML.out] at hrow3;rw [hm3];exact hrow3
    rw [HML.out]
    have HR3:=Lib.hid hrow4
    clear hrow3 hg3 hrow4 hm3
    go_wp2_with fail
    go_roundw
    case rel=>exact ⟨k + 1,hlt,by go_num,HR3.out,hX3⟩
    case measure=>simp [intOf];omega)
  ·obtain rfl:k=n:=by omega
   go_wp2_with fail
   go_ret
   exact ⟨_,rfl,HROW.out,HX.out⟩
set_option maxHeartbeats 2000000 in
theorem both_calls11 (n:Nat) (S S' R:List Int) (v v':Value) (w:World) (h:Bools w v (setB n S)) (h':Bools w v' (setB n S')) (hn:n ≤ 1073741824) (hR:∀ k:Nat,k < n→decide ((k:Int) ∈ R)=(Bool.and (decide ((k:Int) ∈ S)) (decide ((k:Int) ∈ S')))) :
  Calls Tryz.prog 130 #[v,v'] w fun r w'=>∃ u,r=.returned u∧BoolRow w.heap.size u (setB n R) w'∧Ext w w':=by
 obtain ⟨a,b,o,cap,rfl,hc1,hc2,ha,hr⟩:=h.open
 obtain ⟨a',b',o',cap',rfl,hd1,hd2,ha',hr'⟩:=h'.open
 rw [setB_length] at hc1 ha hd1 ha' ⊢
 rw [setB_length]
 have HR:=Lib.hid hr
 have HA:=Lib.hid ha
 have HR':=Lib.hid hr'
 have HA':=Lib.hid ha'
 have HRR:=Lib.hid hR
 clear hr ha h hr' ha' h' hR
 go_enter Tryz.func130,Tryz.ntmps130
 go_wp2_with fail
 go_loopw [5,6] (fun u i wr=>∃ k:Nat,k ≤ n∧i=.int .i64 k∧BoolRow w.heap.size u (setB k R) wr∧Ext w wr) (fun _ i _=>n - (intOf i).toNat)
 case atStart=>exact ⟨0,Nat.zero_le _,rfl,BoolRow.nil _ _,Below.refl _ _⟩
 case round =>
  obtain ⟨k,hk,rfl,hrow,hx⟩:=hrel
  have HROW:=Lib.hid hrow
  have HX:=Lib.hid hx
  have hsz:=hx.size
  clear hrow hx
  by_cases hlt:k < n
  ·obtain rfl:=HA.out (by omega)
   obtain rfl:=HA'.out (by omega)
   have hz:=Bools.cell (a:=none) (n:=0) (cap:=0) (k:=k) (HR.out.mono fun x _ b o h=>Has.ext h HX.out) (by rw [setB_length];exact hlt)
   have hz':=Bools.cell (a:=none) (n:=0) (cap:=0) (k:=k) (HR'.out.mono fun x _ b o h=>Has.ext h HX.out) (by rw [setB_length];exact hlt)
   rw [setB_getElem] at hz hz'
   have hm:=setB_succ k R
   rw [HRR.out k hlt] at hm
   have hml:=setB_length k R
   generalize decide ((k:Int) ∈ S)=x at *
   generalize decide ((k:Int) ∈ S')=y at *
   obtain ⟨z,hzz⟩ : ∃ z,(Bool.and x y)=z:=⟨_,rfl⟩
   rw [hzz] at hm
   have HM2:=Lib.hid hm
   have HZ:=Lib.hid hzz
   have HML:=Lib.hid hml
   clear hm hzz hml
   have hx2:=ext_alloc wr (.cells [Value.bool z].toArray 4)
   have hb2:=Blk.new wr [Value.bool z].toArray 4
   have HX2:=Lib.hid hx2
   have HB2:=Lib.hid hb2
   clear hx2 hb2
   cases x
   all_goals cases y
   all_goals (
    obtain rfl:=HZ.out
    go_wp2_with ((with_reducible show wpList _ _ _ (⟨_,Op.buildSlice _ _ _,_,_,_,_⟩ :: _) _ _);refine Hid.out ?_)
    refine Lib.hid ?_
    refine wpList_bs1 rfl _ _ rfl appBool rfl (cs:=[.bool _]) rfl rfl (by decide) ?_
    refine wpList_appBI rfl _ _ rfl rfl (HROW.out.ext HX2.out) rfl (fun _=>Nat.lt_of_lt_of_le Nat.zero_lt_one (Nat.le_refl 1)) (news:=[_]) rfl (bnews_has HB2.out.has) (by rw [HML.out];omega) (by rw [World.size_alloc];omega) ?_
    intro g3 cap3 w3 hrow3 hg3
    have hX3:Ext w w3:=Ext.grownO (HX.out.trans HX2.out) hg3 (fun j hj=>(HROW.out.at hj).1)
    have hm3:=HM2.out
    simp only [Bool.or_false,Bool.or_true,Bool.and_false,Bool.and_true] at hm3
    have hrow4:BoolRow w.heap.size (.slice (some ⟨g3,0,none⟩) (k + 1) cap3) (setB (k + 1) R) w3:=by
     rw [HML.out] at hrow3;rw [hm3];exact hrow3
    rw [HML.out]
    have HR3:=Lib.hid hrow4
    clear hrow3 hg3 hrow4 hm3
    go_wp2_with fail
    go_roundw
    case rel=>exact ⟨k + 1,hlt,by go_num,HR3.out,hX3⟩
    case measure=>simp [intOf];omega)
  ·obtain rfl:k=n:=by omega
   go_wp2_with fail
   go_ret
   exact ⟨_,rfl,HROW.out,HX.out⟩
open Go.RowKit
/-! ### filigreeref11.starts -/
def offsL (ls:List Signal) (k:Nat):List Int:=(List.range k).map (sumW ls)
theorem offsL_succ (ls:List Signal) (k:Nat):offsL ls (k + 1)=offsL ls k ++ [sumW ls k]:=by unfold offsL;rw [List.range_succ,List.map_append];rfl
theorem offsL_length (ls:List Signal) (k:Nat):(offsL ls k).length=k:=by simp [offsL]
set_option maxRecDepth 100000 in
set_option maxHeartbeats 4000000 in
theorem starts_calls (d:Flat) (v:Value) (w:World) (h:FlatV w v d) (hlen:d.signals.length ≤ 1048576) (hw:∀ x ∈ d.signals,1 ≤ x.w∧x.w ≤ 64) :
  Calls Tryz.prog 94 #[v] w fun r w'=>∃ u,r=.returned u∧IntRow w.heap.size u (offsD d) w'∧Ext w w':=by
 obtain ⟨sv,pv,cv,rfl,hS,hP,hC⟩:=h
 have HX:=Lib.hid (ext_alloc w (.cells [sv,pv,cv].toArray 26))
 have HB:=Lib.hid (Blk.new w [sv,pv,cv].toArray 26)
 obtain ⟨a0,b0,o0,c0,rfl,hc1,hc2,ha,hr⟩:=hS.open
 have HA:=Lib.hid ha
 have HR:=Lib.hid hr
 have HW:=Lib.hid hw
 clear hS hP hC ha hr hw
 go_enter Tryz.func94,Tryz.ntmps94
 go_upto_region 1 with fail
 have hs1:(w.alloc (.cells [.slice a0 d.signals.length c0,pv,cv].toArray 26)).heap.size=w.heap.size + 1:=by simp
 generalize w.alloc _=w1 at *
 go_wp2_with fail
 go_loopw [3,4,5] (fun n u i wr=>∃ k:Nat,k ≤ d.signals.length∧i=.int .i64 k∧n=.int .i64 (sumW d.signals k)∧IntRow w1.heap.size u (offsL d.signals k) wr∧Ext w1 wr) (fun _ _ i _=>d.signals.length - (intOf i).toNat)
 case atStart=>exact ⟨0,Nat.zero_le _,rfl,rfl,IntRow.nil _ _,Below.refl _ _⟩
 case round =>
  obtain ⟨k,hk,rfl,rfl,hrow,hx⟩:=hrel
  have HROW:=Lib.hid hrow
  have HXR:=Lib.hid hx
  have hsz:=hx.size
  have z0:=(HB.out.ext hx).has 0 _ rfl
  rw [Nat.zero_add] at z0
  clear hrow hx
  have hlk:=offsL_length d.signals k
  have hsucc:=offsL_succ d.signals k
  have hbd:=sumW_le d.signals HW.out k hk
  by_cases hlt:k < d.signals.length
  ·obtain rfl:=HA.out (by omega)
   have hhas:Has wr b0 (o0 + k * 4) d.signals[k].cells:=Sigs.get (HR.out.mono fun x _ b o h=>SigAt.ext' (HX.out.trans HXR.out) h) hlt
   have hwk:=HW.out _ (List.getElem_mem hlt)
   have hsw:=sumW_succ d.signals k hlt
   have hbd1:=sumW_le d.signals HW.out (k + 1) hlt
   obtain ⟨x,hxk⟩ : ∃ x,d.signals[k]=x:=⟨_,rfl⟩
   have HXK:=Lib.hid hxk
   rw [hxk] at hwk hsw hhas
   obtain ⟨s0,hs0⟩ : ∃ s0,sumW d.signals k=s0:=⟨_,rfl⟩
   obtain ⟨s1,hs1'⟩ : ∃ s1,sumW d.signals (k + 1)=s1:=⟨_,rfl⟩
   have HS1:=Lib.hid hs1'
   rw [hs1'] at hbd1 hsw
   rw [hs0] at hbd hsw hsucc ⊢
   have HB1:=Lib.hid hbd1
   clear hxk hs0 hs1' hbd1
   have HSUCC:=Lib.hid hsucc
   have HLK:=Lib.hid hlk
   have HSW:=Lib.hid hsw
   have HHAS:=Lib.hid hhas
   clear hsucc hlk hsw hhas
   go_wp2_with ((with_reducible show wpList _ _ _ (⟨_,Op.buildSlice _ _ _,_,_,_,_⟩ :: _) _ _);refine Hid.out ?_)
   refine Lib.hid ?_
   refine wpList_bs1 rfl _ _ rfl appInt rfl (cs:=[.int .i64 s0]) rfl rfl (by decide) ?_
   have hx2:=ext_alloc wr (.cells [Value.int .i64 s0].toArray 3)
   have hb2:=Blk.new wr [Value.int .i64 s0].toArray 3
   have hs2:(wr.alloc (.cells [Value.int .i64 s0].toArray 3)).heap.size=wr.heap.size + 1:=by simp
   refine wpList_appI rfl _ _ rfl rfl (HROW.out.ext hx2) rfl (fun _=>Nat.lt_of_lt_of_le Nat.zero_lt_one (Nat.le_refl 1)) (news:=[s0]) rfl (news_has hb2.has) (by rw [HLK.out];omega) (by omega) ?_
   intro g3 cap3 w3 hrow3 hg3
   have hX3:Ext w1 w3:=Ext.grownO (HXR.out.trans hx2) hg3 (fun j hj=>(HROW.out.at hj).1)
   have z0:=(HB.out.ext hX3).has 0 _ rfl
   rw [Nat.zero_add] at z0
   have hw3:w3.cell? ⟨b0,o0 + k * 4 + 1,none⟩=some (.int .i64 x.w):=by
    have hhas:Has w3 b0 (o0 + k * 4) d.signals[k].cells:=Sigs.get (HR.out.mono fun x _ b o h=>SigAt.ext' (HX.out.trans hX3) h) hlt
    have:=hhas 1 _ rfl
    rw [HXK.out] at this
    exact this
   rw [← HSUCC.out,HLK.out] at hrow3
   rw [HLK.out]
   have HR3:=Lib.hid hrow3
   have hadd:s0 + x.w=s1:=HSW.out.symm
   have hb1:=HB1.out
   clear hrow3 hg3 hb2 hx2 hs2
   go_wp2_with fail
   go_roundw
   case rel=>exact ⟨k + 1,hlt,by go_num,by rw [HS1.out],HR3.out,hX3⟩
   case measure=>simp [intOf];omega
  ·obtain rfl:k=d.signals.length:=by omega
   have HSUCC:=Lib.hid hsucc
   have HLK:=Lib.hid hlk
   obtain ⟨s0,hs0⟩ : ∃ s0,sumW d.signals d.signals.length=s0:=⟨_,rfl⟩
   rw [hs0] at HSUCC ⊢
   clear hsucc hlk hbd hs0
   go_wp2_with ((with_reducible show wpList _ _ _ (⟨_,Op.buildSlice _ _ _,_,_,_,_⟩ :: _) _ _);refine Hid.out ?_)
   refine Lib.hid ?_
   refine wpList_bs1 rfl _ _ rfl appInt rfl (cs:=[.int .i64 s0]) rfl rfl (by decide) ?_
   have hx2:=ext_alloc wr (.cells [Value.int .i64 s0].toArray 3)
   have hb2:=Blk.new wr [Value.int .i64 s0].toArray 3
   have hs2:(wr.alloc (.cells [Value.int .i64 s0].toArray 3)).heap.size=wr.heap.size + 1:=by simp
   refine wpList_appI rfl _ _ rfl rfl (HROW.out.ext hx2) rfl (fun _=>Nat.lt_of_lt_of_le Nat.zero_lt_one (Nat.le_refl 1)) (news:=[s0]) rfl (news_has hb2.has) (by rw [HLK.out];omega) (by omega) ?_
   intro g3 cap3 w3 hrow3 hg3
   have hX3:Ext w1 w3:=Ext.grownO (HXR.out.trans hx2) hg3 (fun j hj=>(HROW.out.at hj).1)
   rw [← HSUCC.out] at hrow3
   have HR3:=Lib.hid hrow3
   clear hrow3 hg3 hb2 hx2 hs2
   go_wp2_with fail
   go_ret
   exact ⟨_,rfl,HR3.out.less HX.out.size,HX.out.trans hX3⟩
/-! ### filigreeref11.span -/
set_option maxRecDepth 100000 in
set_option maxHeartbeats 4000000 in
theorem span_calls (n:Nat) (S offs:List Int) (s:Span) (iv ov:Value) (w:World) (hi:Bools w iv (setB n S)) (ho:Ints w ov offs) (hn:n ≤ 1073741824)
  (hs:NumOk offs s) (hr:∀ j:Int,s.lo ≤ j→j ≤ s.hi→0 ≤ offs.getD s.sig.toNat 0 + j∧offs.getD s.sig.toNat 0 + j < n) (ho2:∀ o ∈ offs,0 ≤ o∧o ≤ 1099511627776) :
  Calls Tryz.prog 129 #[iv,ov,.int .i64 s.sig,.int .i64 s.hi,.int .i64 s.lo] w fun r w'=>∃ u,r=.returned u∧BoolRow w.heap.size u (setB n (S ++ numsOf offs s)) w'∧Ext w w':=by
 obtain ⟨sig,hi',lo⟩:=s
 obtain ⟨q1,q2,q3,q4,q5⟩:=hs
 simp only at q1 q2 q3 q4 q5 hr ⊢
 have hone:=hi.one
 have HI:=Lib.hid hi
 obtain ⟨a,b,o,cap,rfl,hc1,hc2,ha,hrr⟩:=ho.open
 obtain rfl:=ha (by omega)
 obtain ⟨sg,rfl⟩ : ∃ sg:Nat,sig=sg:=⟨sig.toNat,by omega⟩
 have hsl:sg < offs.length:=by omega
 have hrg:=ho2 _ (List.getElem_mem hsl)
 have HNF:=Lib.hid (numsK_full offs ⟨(sg:Int),hi',lo⟩)
 have hget:offs.getD ((sg:Int)).toNat 0=offs[sg]:=by rw [Int.toNat_natCast,List.getD_eq_getElem?_getD,List.getElem?_eq_getElem hsl];rfl
 have HNK:=Lib.hid (fun k=>numsK_succ offs ⟨(sg:Int),hi',lo⟩ k)
 simp only [hget] at hr HNK
 have HRG:=Lib.hid hr
 have HZ:=Lib.hid (fun W (hx:Ext w W)=>Ints.cell (hrr.mono fun x _ b o h=>Has.ext h hx) hsl)
 generalize offs[sg]=z0 at *
 clear hi ho ho2 hrr hget hr ha
 go_enter Tryz.func129,Tryz.ntmps129
 go_wp2_with ((with_reducible show wpList _ _ _ (⟨_,Op.buildSlice _ _ _,_,_,_,_⟩ :: _) _ _);refine Hid.out ?_)
 refine Lib.hid ?_
 refine wpList_bs0 rfl _ rfl appBool ?_
 have hx1:=ext_alloc w (.cells #[] 4)
 have hr1:=BoolRow.bs0 w (Nat.le_refl w.heap.size)
 have hs1:(w.alloc (.cells #[] 4)).heap.size=w.heap.size + 1:=by simp
 go_wp2_with ((with_reducible show wpList _ _ _ (⟨_,Op.call { callee:=.builtin .append,args:=_,argTypes:=_ },_,_,_,_⟩ :: _) _ _);refine Hid.out ?_)
 refine Lib.hid ?_
 refine wpList_appB rfl _ _ rfl rfl hr1 rfl (HI.out.ext hx1) (by rw [setB_length];simp;omega) (by omega) ?_
 intro v2 w2 hr2 hg2
 rw [List.nil_append] at hr2
 have hx2:Ext w w2:=Ext.grownO hx1 hg2 (fun k hk=>by cases hk;exact Nat.le_refl _)
 have HR2:=Lib.hid hr2
 have HX2:=Lib.hid hx2
 clear hr2 hg2 hx2 hx1 hr1 hs1
 go_wp2_with fail
 go_loopw [12] (fun i wr=>∃ k:Nat,(k:Int) ≤ max 0 (hi' - lo + 1)∧i=.int .i64 (lo + k)∧BoolRow w.heap.size v2 (setB n (S ++ numsK offs ⟨(sg:Int),hi',lo⟩ k)) wr∧Ext w wr) (fun i _=>(hi' + 1 - intOf i).toNat)
 case atStart=>exact ⟨0,by omega,by congr 1;omega,by simpa [numsK] using HR2.out,HX2.out⟩
 case round =>
  obtain ⟨k,hk,rfl,hrow,hx⟩:=hrel
  have HROW:=Lib.hid hrow
  have HXR:=Lib.hid hx
  clear hrow hx
  by_cases hlt:lo + (k:Int) ≤ hi'
  ·have hz:=HZ.out wr HXR.out
   obtain ⟨hj1,hj2⟩:=HRG.out (lo + (k:Int)) (by omega) hlt
   obtain ⟨j,hj⟩ : ∃ j:Nat,z0 + (lo + (k:Int))=(j:Int):=⟨(z0 + (lo + (k:Int))).toNat,by omega⟩
   have hnk:=HNK.out k
   try simp only at hnk
   rw [hj] at hnk
   have hjn:j < n:=by omega
   have hset:=setB_set n (S ++ numsK offs ⟨(sg:Int),hi',lo⟩ k) (j:Int) (by omega)
   rw [List.append_assoc,← hnk,Int.toNat_natCast] at hset
   have hrow0:=HROW.out
   rcases hrow0.cases' with ⟨e1,e2⟩ | ⟨g,cap2,e1,hgN⟩
   ·have:=congrArg List.length e2
    rw [setB_length] at this
    simp at this;omega
   ·rw [setB_length] at e1
    subst e1
    have hjl:j < (setB n (S ++ numsK offs ⟨(sg:Int),hi',lo⟩ k)).length:=by rw [setB_length];exact hjn
    obtain ⟨c1,c2⟩:=hrow0.cellf hjl
    have hrow1:=hrow0.set j hjl true
    rw [hset] at hrow1
    have hg1:=gb_set wr g j (.bool true)
    have hx1:Ext w (wr.setCell ⟨g,j,none⟩ (.bool true)):=HXR.out.grown hg1 hgN
    have HR1:=Lib.hid hrow1
    have HX1:=Lib.hid hx1
    obtain ⟨bv,hbv⟩ : ∃ bv,(setB n (S ++ numsK offs ⟨(sg:Int),hi',lo⟩ k))[j]=bv:=⟨_,rfl⟩
    rw [hbv] at c1
    obtain ⟨i0,hi0⟩ : ∃ i0:Int,lo + (k:Int)=i0:=⟨_,rfl⟩
    rw [hi0] at hj hlt ⊢
    have HI0:=Lib.hid hi0
    clear hrow0 hset hnk hrow1 hg1 hx1 hj1 hj2 hi0 hbv
    go_wp2_with fail
    go_roundw
    case rel=>exact ⟨k + 1,by have:=HI0.out;omega,by congr 1;have:=HI0.out;push_cast;omega,HR1.out,HX1.out⟩
    case measure=>simp [intOf];omega
  ·have e:(k:Int)=max 0 (hi' - lo + 1):=by omega
   have e2:k=(hi' - lo + 1).toNat:=by omega
   subst e2
   rw [HNF.out] at HROW
   have hlt2:hi' < lo + (((hi' - lo + 1).toNat:Nat):Int):=by omega
   obtain ⟨i0,hi0⟩ : ∃ i0:Int,lo + (((hi' - lo + 1).toNat:Nat):Int)=i0:=⟨_,rfl⟩
   rw [hi0] at hlt2 hlt ⊢
   clear hk e hi0
   go_wp2_with fail
   go_ret
   exact ⟨_,rfl,HROW.out,HXR.out⟩
end Go.Proofs.YthpemngachlehaaGreat
