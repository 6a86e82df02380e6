/- Laws and walks that a claim of this seat leans on: MarkB, Done12, RestM, WordsG, Since, Live, Live2. -/
import Derived.Test.YtpdpgmfnfajbfaaGreatL13
import Derived.Test.YtpdpgmfnfajbfaaGreatL25
import Derived.Test.YtpdpgmfnfajbfaaGreatL16
import Derived.Test.YtpdpgmfnfajbfaaGreatL24
import Derived.Test.YtpdpgmfnfajbfaaGreatL23
import Derived.Test.YtpdpgmfnfajbfaaGreatL03
import Derived.Test.YtpdpgmfnfajbfaaGreatL18
import Derived.Test.YtpdpgmfnfajbfaaGreatLLint
import Derived.Test.YtpdpgmfnfajbfaaGreatL00
set_option maxRecDepth 100000
set_option maxHeartbeats 8000000
set_option linter.all false
namespace Go.Proofs.YtpdpgmfnfajbfaaGreat
open Go.RowKit
/-! ### rows of marks -/
theorem appBool:AppT Tryz.prog 76 4 1 1:=⟨Tryz.underlying76,by kernel_rfl,by decide,by decide⟩
abbrev Bools (w:World) (v:Value) (l:List Bool):Prop:=Sl 1 (fun (x:Bool) b o=>Has w b o [.bool x]) v l
def BoolRow (N:Nat) (v:Value) (l:List Bool) (w:World):Prop:=w.ownsRow N 4 1 v l.length (l.map (Value.bool))
theorem BoolRow.nil (N:Nat) (w:World):BoolRow N (.slice none 0 0) [] w:=World.ownsRow_nil _ _ _ _
theorem BoolRow.open {N:Nat} {v:Value} {l:List Bool} {w:World} (h:BoolRow N v l w):∃ a cap,v=.slice a l.length cap/\(v.ownBlock=none->l=[]):=by
 rcases h.2 with ⟨rfl,h0⟩ | ⟨g,cap,cur,rfl,-⟩
 ·exact ⟨none,0,by rw [h0],fun _=>List.eq_nil_of_length_eq_zero h0⟩
 ·exact ⟨_,cap,rfl,fun h=>by cases h⟩
theorem BoolRow.at {N:Nat} {v:Value} {l:List Bool} {w:World} (h:BoolRow N v l w) {k:Nat} (hk:v.ownBlock=some k):N<=k/\∃ cur,w.heap[k]? = some (.cells cur 4 (0,0)):=by
 rcases h.2 with ⟨rfl,h0⟩ | ⟨g,cap,cur,rfl,hb,hg,-⟩
 ·cases hk
 ·cases hk;exact ⟨hb,cur,hg⟩
theorem BoolRow.keep {N:Nat} {v:Value} {l:List Bool} {w w':World} (h:BoolRow N v l w) (hk:∀ k,v.ownBlock=some k->∀ o,w.heap[k]? = some o->w'.heap[k]? = some o):BoolRow N v l w':=by
 refine ⟨h.1,?_⟩
 rcases h.2 with hn | ⟨g,cap,cur,rfl,hb,hg,rest⟩
 ·exact .inl hn
 ·exact .inr ⟨g,cap,cur,rfl,hb,hk g rfl _ hg,rest⟩
theorem BoolRow.ext {N:Nat} {v:Value} {l:List Bool} {w w':World} (h:BoolRow N v l w) (hx:Ext w w'):BoolRow N v l w' :=
 h.keep fun k _ _ ho=>(hx.block k (Array.getElem?_eq_some_iff.1 ho).1).trans ho
theorem BoolRow.grown {N:Nat} {v:Value} {l:List Bool} {w w':World} {R:Option Nat} (h:BoolRow N v l w) (hg:w.grownBy w' R) (hR:∀ k,v.ownBlock=some k->some k≠R):BoolRow N v l w' :=
 h.keep fun k hk _ ho=>(hg.block k (Array.getElem?_eq_some_iff.1 ho).1 (hR k hk)).trans ho
theorem BoolRow.less {N M:Nat} {v:Value} {l:List Bool} {w:World} (h:BoolRow N v l w) (hM:M<=N):BoolRow M v l w:=by
 refine ⟨h.1,?_⟩
 rcases h.2 with hn | ⟨g,cap,cur,rfl,hb,rest⟩
 ·exact .inl hn
 ·exact .inr ⟨g,cap,cur,rfl,Nat.le_trans hM hb,rest⟩
theorem flatB1 (l:List Bool):(l.map fun x=>[Value.bool x]).flatten=l.map (Value.bool):=by
 induction l with
 | nil=>rfl
 | cons x l ih=>simp only [List.map_cons,List.flatten_cons,ih];rfl
theorem BoolRow.cells {N:Nat} {v:Value} {l:List Bool} {w:World} (h:BoolRow N v l w):Bools w v l:=by
 rcases h.2 with ⟨rfl,h0⟩ | ⟨g,cap,cur,rfl,hb,hg,hnc,hcm,hcs,htake⟩
 ·obtain rfl:l=[]:=List.eq_nil_of_length_eq_zero h0
  exact Sl.nil _ _
 ·refine ⟨g,0,⟨_,cap,rfl,hnc,hcm,fun _=>rfl⟩,rows_flat (f:=fun x=>[Value.bool x]) (fun _=>rfl) l 0 ?_⟩
  have:=flat_own (N:=N) (cap:=cap) (size:=1) hg htake
  rw [flatB1];exact this
theorem BoolRow.ne {N B:Nat} {v:Value} {cs:Array Value} {T:TypeId} {l:List Bool} {w:World} (h:BoolRow N v l w) (hb:Blk w B cs T) (hT:(T==4)=false) {k:Nat} (hk:v.ownBlock=some k):k≠B:=by
 rintro rfl
 obtain ⟨-,cur,hcur⟩:=h.at hk
 have h2:w.heap[k]? = some (.cells cs T (0,0)):=hb
 rw [hcur] at h2
 injection h2 with h2
 injection h2 with _ h2
 subst h2
 exact absurd hT (by decide)
theorem run_appBI {w:World} {N:Nat} {v:Value} {l:List Bool} (hown:BoolRow N v l w) {ty:TypeId} {ad:Addr} {m c:Nat} (hm:v=.slice none 0 0->0<m) {news:List Bool} (hl:news.length=m)
  (hnews:∀ j u,(news.map (Value.bool))[j]? = some u->w.cell? (ad.add j)=some u) (hn:l.length+m<=1099511627776) (hbase:N<=w.heap.size) :
  ∃ g cap w',(Builtin.append_ #[76,76] ty #[v,.slice (some ad) m c]).run Tryz.prog w=.ok (.slice (some ⟨g,0,none⟩) (l.length+m) cap) w'/\BoolRow N (.slice (some ⟨g,0,none⟩) (l.length+m) cap) (l++news) w'/\w.grownBy w' v.ownBlock:=by
 obtain ⟨ht,hinfo,hsz,hby⟩:=appBool
 cases hi:Tryz.prog.info? 4 with
 | none=>simp [hi] at hinfo
 | some i =>
  simp only [hi,Option.map_some,Option.some.injEq,Prod.mk.injEq] at hinfo
  obtain ⟨hz0,hs,hb⟩:=hinfo
  cases hz:i.zero with
  | none=>simp [hz] at hz0
  | some z =>
   simp only [hz,Option.map_some,Option.some.injEq] at hz0
   have h1':∀ u∈news.map (Value.bool),u.oneCell'=true:=by
    intro u hu
    obtain ⟨x,-,rfl⟩:=List.mem_map.1 hu
    rfl
   obtain ⟨v',w',hr,h2,h3,h4⟩:=run_append_own (P:=Tryz.prog) w N 76 ty 4 i z 1 1 ht hi hz hs hb hz0 (by decide) v l.length _ hown ad m c (news.map (Value.bool)) (by simp [hl]) hnews h1' (by simp only [maxLen];omega) (by omega) hbase
   have h5:BoolRow N v' (l++news) w':=by unfold BoolRow;rw [List.length_append,hl,List.map_append];exact h2
   rcases h2.2 with ⟨rfl,h0⟩ | ⟨g,cap,cur,rfl,-⟩
   ·have:=h4.1 rfl
    exact absurd (hm this.1) (by omega)
   ·exact ⟨g,cap,w',hr,h5,h3⟩
theorem wpList_appBI {ops:Array Oper} {rest:List Oper} {o:Oper} {a:Act} {w:World} {Q:Exit->Act->World->Prop} (hw:Region.wanted o (yielded ops a.tmps)=true) (s x:Operand)
  (ho:o.op=.call { callee:=.builtin .append,args:=#[s,x],argTypes:=#[76,76] }) {N:Nat} {v:Value} {l:List Bool} (hs:a.eval s=v) (hown:BoolRow N v l w)
  {ad:Addr} {m c:Nat} (hx:a.eval x=.slice (some ad) m c) (hm:v=.slice none 0 0->0<m) {news:List Bool} (hl:news.length=m)
  (hnews:∀ j u,(news.map (Value.bool))[j]? = some u->w.cell? (ad.add j)=some u) (hn:l.length+m<=1099511627776) (hbase:N<=w.heap.size)
  (h:∀ g cap w',BoolRow N (.slice (some ⟨g,0,none⟩) (l.length+m) cap) (l++news) w'->w.grownBy w' v.ownBlock->wpList Tryz.prog ops Q rest (a.put o.dst (.slice (some ⟨g,0,none⟩) (l.length+m) cap)) w') :
  wpList Tryz.prog ops Q (o::rest) a w :=
 BigFrame.wpList_want hw fun _ hK=>by
  obtain ⟨g,cap,w',hr,h2,h3⟩:=run_appBI (ty:=o.type) (c:=c) hown hm hl hnews hn hbase
  unfold Oper.wp execOp
  simp only [ho,resolve,invoke,builtin,Sem.run_bind,Sem.run_pure,Result.andThen_ok,List.map_toArray,List.map_cons,List.map_nil,hs,hx]
  rw [hr]
  exact hK _ _ (h g cap w' h2 h3)
theorem run_appB {w:World} {N:Nat} {v:Value} {l:List Bool} (hown:BoolRow N v l w) {ty:TypeId} {x:Value} {news:List Bool} (hx:Bools w x news) (hn:l.length+news.length<=1099511627776) (hbase:N<=w.heap.size) :
  ∃ v' w',(Builtin.append_ #[76,76] ty #[v,x]).run Tryz.prog w=.ok v' w'/\BoolRow N v' (l++news) w'/\w.grownBy w' v.ownBlock:=by
 obtain ⟨a,b,o,cap,rfl,hc1,hc2,ha,hr⟩:=hx.open
 by_cases h0:0<news.length
 ·obtain rfl:=ha h0
  obtain ⟨g,cap',w',h1,h2,h3⟩:=run_appBI (ty:=ty) (c:=cap) (m:=news.length) hown (fun _=>h0) rfl (ad:=⟨b,o,none⟩) (news:=news) (fun j u hj=>by
   rw [List.getElem?_map] at hj
   cases hq:news[j]? with
   | none=>rw [hq] at hj;cases hj
   | some y =>
    rw [hq] at hj
    have hadd:(⟨b,o,none⟩:Addr).add j=⟨b,o+j,none⟩:=by unfold Addr.add;split<;>simp_all
    rw [hadd]
    have:=(hr.get hq) 0 _ rfl
    simp only [Nat.mul_one,Nat.add_zero] at this
    rw [this]
    exact hj) hn hbase
  exact ⟨_,w',h1,h2,h3⟩
 ·obtain rfl:news=[]:=List.eq_nil_of_length_eq_zero (by omega)
  obtain ⟨ht,hinfo,hsz,hby⟩:=appBool
  cases hi:Tryz.prog.info? 4 with
  | none=>simp [hi] at hinfo
  | some i =>
   have hsrc:Src Tryz.prog i.size 76 (.slice a 0 cap) 0 [] w:=by
    cases a with
    | none=>exact Src.ofNil w ht cap
    | some a=>exact Src.ofSlice w ht a 0 cap [] (by simp) (by intro j u hj;simp at hj) (by simp)
   obtain ⟨av,cv,hv,-⟩:=hown.open
   have hle:l.length<=cv:=by
    rcases hown.2 with ⟨e,h0⟩ | ⟨g,c2,cur,e,hb,hg,hnc,-⟩
    ·rw [hv] at e;injection e with _ e2 e3;omega
    ·rw [hv] at e;injection e with _ e2 e3;omega
   refine ⟨v,w,?_,by rw [List.append_nil];exact hown,⟨rfl,rfl,rfl,Nat.le_refl _,fun _ _ _=>rfl⟩⟩
   rw [hv]
   exact run_append_nothing w 76 76 ty 4 i ht hi av l.length cv hle _ hsrc
theorem wpList_appB {ops:Array Oper} {rest:List Oper} {o:Oper} {a:Act} {w:World} {Q:Exit->Act->World->Prop} (hw:Region.wanted o (yielded ops a.tmps)=true) (s x:Operand)
  (ho:o.op=.call { callee:=.builtin .append,args:=#[s,x],argTypes:=#[76,76] }) {N:Nat} {v:Value} {l:List Bool} (hs:a.eval s=v) (hown:BoolRow N v l w)
  {xv:Value} (hx:a.eval x=xv) {news:List Bool} (hnews:Bools w xv news) (hn:l.length+news.length<=1099511627776) (hbase:N<=w.heap.size)
  (h:∀ v' w',BoolRow N v' (l++news) w'->w.grownBy w' v.ownBlock->wpList Tryz.prog ops Q rest (a.put o.dst v') w') :
  wpList Tryz.prog ops Q (o::rest) a w :=
 BigFrame.wpList_want hw fun _ hK=>by
  obtain ⟨v',w',hr,h2,h3⟩:=run_appB (ty:=o.type) hown hnews hn hbase
  unfold Oper.wp execOp
  simp only [ho,resolve,invoke,builtin,Sem.run_bind,Sem.run_pure,Result.andThen_ok,List.map_toArray,List.map_cons,List.map_nil,hs,hx]
  rw [hr]
  exact hK _ _ (h v' w' h2 h3)
theorem BoolRow.open1 {N:Nat} {v:Value} {l:List Bool} {w:World} (h:BoolRow N v l w) (hl:0<l.length):∃ g cap,v=.slice (some ⟨g,0,none⟩) l.length cap/\N<=g/\∀ i x,l[i]? = some x->w.cell? ⟨g,i,none⟩=some (.bool x):=by
 rcases h.2 with ⟨rfl,h0⟩ | ⟨g,cap,cur,rfl,hb,hg,hnc,hcm,hcs,htake⟩
 ·omega
 ·refine ⟨g,cap,rfl,hb,fun i x hx=>?_⟩
  have:=flat_own (N:=N) (cap:=cap) (size:=1) hg htake i (.bool x) (by simp [hx])
  rwa [Nat.zero_add] at this
theorem BoolRow.ofBlk {N g:Nat} {l:List Bool} {w:World} (h:Blk w g (l.map (Value.bool)).toArray 4) (hN:N<=g) (hm:l.length<=9223372036854775807):BoolRow N (.slice (some ⟨g,0,none⟩) l.length l.length) l w :=
 ⟨by simp,.inr ⟨g,l.length,_,rfl,hN,h,Nat.le_refl _,by simpa [maxLen] using hm,by simp,by rw [Nat.mul_one];exact List.take_of_length_le (by simp)⟩⟩
theorem Bools.ext {w w':World} {v:Value} {l:List Bool} (h:Bools w v l) (hx:Ext w w'):Bools w' v l:=Sl.mono h fun _ _ _ _ q=>Has.ext q hx
theorem BoolRow.set {N g cap:Nat} {n:Nat} {l:List Bool} {w:World} (h:BoolRow N (.slice (some ⟨g,0,none⟩) n cap) l w) (j:Nat) (hj:j<l.length) (x:Bool) :
  BoolRow N (.slice (some ⟨g,0,none⟩) n cap) (l.set j x) (w.setCell ⟨g,j,none⟩ (.bool x)):=by
 rcases h.2 with ⟨e,h0⟩ | ⟨g',cap',cur,e,hb,hg,hnc,hcm,hcs,htake⟩
 ·cases e
 ·injection e with e1 e2 e3
  injection e1 with e1
  injection e1 with e1
  subst e1 e2 e3
  have hB:Blk w g cur 4:=hg
  refine ⟨by simp,.inr ⟨g,cap,cur.setIfInBounds j (.bool x),by rw [List.length_set],hb,hB.set j (.bool x),by rw [List.length_set];exact hnc,hcm,by rw [Array.size_setIfInBounds];exact hcs,?_⟩⟩
  rw [List.length_set,Array.toList_setIfInBounds,List.map_set,<-htake,List.take_set]
theorem BoolRow.cases' {N:Nat} {v:Value} {l:List Bool} {w:World} (h:BoolRow N v l w):(v=.slice none 0 0/\l=[])\/∃ g cap,v=.slice (some ⟨g,0,none⟩) l.length cap/\N<=g:=by
 rcases h.2 with ⟨rfl,h0⟩ | ⟨g,cap,cur,rfl,hb,-⟩
 ·exact .inl ⟨rfl,List.eq_nil_of_length_eq_zero h0⟩
 ·exact .inr ⟨g,cap,rfl,hb⟩
theorem BoolRow.bs0 (w:World) {N:Nat} (hN:N<=w.heap.size):BoolRow N (.slice (some ⟨w.heap.size,0,none⟩) 0 0) [] (w.alloc (.cells #[] 4)) :=
 ⟨rfl,.inr ⟨w.heap.size,0,#[],rfl,hN,Blk.new w #[] 4,Nat.le_refl _,by decide,rfl,rfl⟩⟩
theorem BoolRow.made {w:World} {N n:Nat} {x:Bool} (hN:N<=w.heap.size) (hn:n<=9223372036854775807):BoolRow N (.slice (some ⟨w.heap.size,0,none⟩) n n) (List.replicate n x) (w.alloc (.cells (List.replicate n (Value.bool x)).toArray 4)):=by
 have:=BoolRow.ofBlk (N:=N) (l:=List.replicate n x) (g:=w.heap.size) (w:=w.alloc (.cells (List.replicate n (Value.bool x)).toArray 4)) (by rw [List.map_replicate];exact Blk.new _ _ _) hN (by simpa using hn)
 simpa using this
theorem IntRow.set {N g cap:Nat} {n:Nat} {l:List Int} {w:World} (h:IntRow N (.slice (some ⟨g,0,none⟩) n cap) l w) (j:Nat) (hj:j<l.length) (x:Int) :
  IntRow N (.slice (some ⟨g,0,none⟩) n cap) (l.set j x) (w.setCell ⟨g,j,none⟩ (.int .i64 x)):=by
 rcases h.2 with ⟨e,h0⟩ | ⟨g',cap',cur,e,hb,hg,hnc,hcm,hcs,htake⟩
 ·cases e
 ·injection e with e1 e2 e3
  injection e1 with e1
  injection e1 with e1
  subst e1 e2 e3
  have hB:Blk w g cur 3:=hg
  refine ⟨by simp,.inr ⟨g,cap,cur.setIfInBounds j (.int .i64 x),by rw [List.length_set],hb,hB.set j (.int .i64 x),by rw [List.length_set];exact hnc,hcm,by rw [Array.size_setIfInBounds];exact hcs,?_⟩⟩
  rw [List.length_set,Array.toList_setIfInBounds,List.map_set,<-htake,List.take_set]
theorem Bools.cell {w:World} {a:Option Addr} {b o n cap:Nat} {l:List Bool} (h:Rows 1 (fun (x:Bool) b o=>Has w b o [.bool x]) l b o) {k:Nat} (hk:k<l.length):w.cell? ⟨b,o+k,none⟩=some (.bool l[k]):=by
 have:=h.get (List.getElem?_eq_getElem hk) 0 _ rfl
 simpa using this
theorem Ints.cell {w:World} {b o:Nat} {l:List Int} (h:Rows 1 (fun (x:Int) b o=>Has w b o [.int .i64 x]) l b o) {k:Nat} (hk:k<l.length):w.cell? ⟨b,o+k,none⟩=some (.int .i64 l[k]):=by
 have:=h.get (List.getElem?_eq_getElem hk) 0 _ rfl
 simpa using this
def doneM (d:Flat):List Int->List Nat->List Nat × Bool
 | [],v=>(v,true)
 | p::o,v=>if (runM d v p).2=0 then doneM d o (runM d v p).1 else ([],false)
theorem runM_01 (d:Flat) (v:List Nat) (p:Int):(runM d v p).2=0\/(runM d v p).2=1:=by
 unfold runM;split
 ·exact .inl rfl
 ·exact .inr rfl
theorem done12_calls (d:Flat) (v:Value) (vs:List Nat) (s:Value) (o:List Int) (ov:Value) (w:World) (hF:FlatV w v d) (hok:d.ok) (hs:Us w s vs) (h64:us64 vs) (ho:Ints w ov o) (hi:∀ p∈o,i64r p) :
  Calls Tryz.prog 31 #[v,s,ov] w fun r w'=>∃ u,r=.returned (.tuple #[u,.bool (doneM d o vs).2])/\Us w' u (doneM d o vs).1/\Ext w w':=by
 have HF:=Jh (fun W (h:Ext w W)=>hF.ext h)
 have HOK:=Jh hok
 have HI:=Jh hi
 have HUS:=Jh hs
 have H64:=Jh h64
 obtain ⟨sv,pv,cv,rfl,hS,hP,hC⟩:=hF
 obtain ⟨av,bv,ov',capv,rfl,-,-,-,-⟩:=hs.open
 obtain ⟨oa,ob,oo,oc,rfl,hoc1,hoc2,hoa,hor⟩:=ho.open
 have HOA:=Jh hoa
 have HOR:=Jh hor
 have x1:=ext_alloc w (.cells [sv,pv,cv].toArray 26)
 have hD:=Blk.new w [sv,pv,cv].toArray 26
 obtain ⟨RS,hRS⟩:∃ R,doneM d o vs=R:=⟨_,rfl⟩
 have HRS:=Jh hRS
 rw [hRS]
 clear hS hP hC hs h64 hok hi hoa hor ho hRS
 go_enter Tryz.func31,Tryz.ntmps31
 go_upto_region 1 with fail
 generalize w.alloc _=w0 at *
 have HD:=Jh hD
 have HX:=Jh x1
 clear hD x1
 go_wp2_with fail
 go_loopw [1,8] (fun uv i wr=>∃ (k:Nat) (cur:List Nat),k<=o.length/\i=.int .i64 k/\Us wr uv cur/\us64 cur/\doneM d (o.drop k) cur=RS/\Ext w0 wr) (fun _ i _=>o.length-(intOf i).toNat)
 case atStart=>exact ⟨0,vs,Nat.zero_le _,rfl,HUS.out.ext HX.out,H64.out,by rw [List.drop_zero];exact HRS.out,Below.refl _ _⟩
 case round =>
  obtain ⟨k,cur,hk,rfl,hu,h6,hdn,hxr⟩:=hrel
  have HU:=Jh hu
  have HXR:=Jh hxr
  have HDN:=Jh hdn
  obtain ⟨ca,cb,co,cc,rfl,-,-,-,-⟩:=hu.open
  by_cases hlt:k<o.length
  ·obtain rfl:=HOA.out (by omega)
   have hstep:=hdn
   rw [List.drop_eq_getElem_cons hlt,doneM] at hstep
   have HCO:=Jh (fun W (h:Ext w W)=>Ints.cell (k:=k) (HOR.out.mono fun x _ b o hh=>Has.ext hh h) hlt)
   have HRN:=Jh (fun W (h:Ext w W) (hx:Ext wr W)=>Run_calls d _ cur _ o[k] W (HF.out W h) HOK.out (HU.out.ext hx) h6 (HI.out _ (List.getElem_mem hlt)))
   have h01:=runM_01 d cur o[k]
   have hv6:(runM d cur o[k]).2=0->us64 (runM d cur o[k]).1:=fun h=>by
    obtain ⟨m1,-,-,hv⟩:=runM_ok HOK.out h
    exact val2_us64 (fun x hx=>(checkM_w (valsOk_ck m1).2.1 x hx).2) hv
   generalize o[k]=x at *
   obtain ⟨nx,hnx⟩:∃ n,(runM d cur x).1=n:=⟨_,rfl⟩
   obtain ⟨e,he⟩:∃ e,(runM d cur x).2=e:=⟨_,rfl⟩
   rw [hnx,he] at HRN hstep hv6
   rw [he] at h01
   have HST:=Jh hstep
   have HV6:=Jh hv6
   clear hdn hstep hnx he hu h6 hxr hv6
   go_upto_region 4 with fail
   refine Jg wr fun hH=>?_
   try simp only [J]
   (refine Jt 0 (.agg [sv,pv,cv].toArray) rfl (yif_load rfl 26 _ rfl rfl (fun W hW=>(HD.out.ext (HXR.out.trans hW)).has) agg_Flat rfl) hH ?_;try simp only [J])
   (refine Jt 1 (.slice ca cur.length cc) rfl (yif_load1 rfl fun _ _=>rfl) hH ?_;try simp only [J])
   (refine Jt 2 (.slice (some ⟨ob,oo,none⟩) o.length oc) rfl (yif_load1 rfl fun _ _=>rfl) hH ?_;try simp only [J])
   (refine Jt 3 (.int .i64 (k:Int)) rfl (yif_load1 rfl fun _ _=>rfl) hH ?_;try simp only [J])
   (refine Jt 4 (.pointer (some ⟨ob,oo+k,none⟩)) rfl (yif_load1 rfl (by intro W hW;clear hW;go_simp;try (intro h;omega))) hH ?_;try simp only [J])
   (refine Jt 5 (.int .i64 x) rfl (yif_load1 rfl (by intro W hW;have y:=HCO.out W (HX.out.trans (HXR.out.trans hW));clear hW;go_simp)) hH ?_;try simp only [J])
   (refine Jr 6 rfl fun K hK=>?_)
   go_simp
   refine (HRN.out _ (HX.out.trans (HXR.out.trans hH)) hH).mono ?_
   rintro r w3 ⟨u3,rfl,hr3,hx3⟩
   obtain ⟨ua,uc,rfl,-⟩:=hr3.open
   have HU3:=Jh hr3.cells
   refine hK.out _ _ (hH.trans hx3) (fun hH=>?_)
   clear hK K hx3 hr3
   try simp only [J]
   (refine Jt 7 (.tuple #[.slice ua nx.length uc,.int .i64 e]) rfl (yif_load1 rfl fun _ _=>rfl) hH ?_;try simp only [J])
   (refine Jt 8 (.slice ua nx.length uc) rfl (yif_load1 rfl (by intro W hW;clear hW;go_simp)) hH ?_;try simp only [J])
   (refine Jt 9 (.int .i64 e) rfl (yif_load1 rfl (by intro W hW;clear hW;go_simp)) hH ?_;try simp only [J])
   (refine Jt 10 (.slice ua nx.length uc) rfl (yif_load1 rfl fun _ _=>rfl) hH ?_;try simp only [J])
   (refine Jt 11 (.int .i64 e) rfl (yif_load1 rfl fun _ _=>rfl) hH ?_;try simp only [J])
   refine Jz ?_
   have HX3:=Jh (HXR.out.trans hH)
   clear hH
   rcases h01 with rfl | rfl
   ·have hz:doneM d (o.drop (k+1)) nx=RS:=by have:=HST.out;rwa [if_pos rfl] at this
    have HZ:=Jh hz
    clear hz
    go_wp2_with fail
    go_roundw
    case rel=>exact ⟨k+1,nx,hlt,by go_num,HU3.out,HV6.out rfl,HZ.out,HX3.out⟩
    case measure=>simp [intOf];omega
   ·obtain rfl:(([]:List Nat),false)=RS:=by have:=HST.out;rwa [if_neg (by decide)] at this
    go_wp2_with ((with_reducible show bodyPost _ _ _ _ _ _);refine Hid.out ?_)
    refine Jh ?_
    refine bodyPost_ret (v:=.tuple #[.slice none 0 0,.bool false]) (by simp [results,Tryz.results31,go_sem]) rfl ⟨_,rfl,Sl.nil _ _,HX.out.trans HX3.out⟩
  ·obtain rfl:k=o.length:=by omega
   obtain rfl:(cur,true)=RS:=by have:=HDN.out;rwa [List.drop_length] at this
   clear hdn hu h6 hxr
   go_wp2_with ((with_reducible show bodyPost _ _ _ _ _ _);refine Hid.out ?_)
   refine Jh ?_
   refine bodyPost_ret (v:=.tuple #[.slice ca cur.length cc,.bool true]) (by simp [results,Tryz.results31,go_sem]) rfl ⟨_,rfl,HU.out,HX.out.trans HXR.out⟩
theorem clkD_get {d:Flat} {p:Int} (h:p.toNat<d.procs.length):clkD d p=d.procs[p.toNat].clocked:=by
 unfold clkD;rw [List.getElem?_eq_getElem h];rfl
theorem sigs_kind12 (l:List Signal):∀ seen,sigsOk seen l=true->∀ x∈l,1<=x.kind/\x.kind<=4:=by
 induction l with
 | nil=>intro _ _ x hx;cases hx
 | cons y l ih =>
  intro seen h x hx
  rw [sigsOk,Bool.and_eq_true] at h
  rcases List.mem_cons.1 hx with e | hx
  ·have:=h.1
   unfold sigOk at this
   simp only [Bool.and_eq_true,decide_eq_true_eq] at this
   rw [e]
   exact ⟨this.1.1.2,this.1.2⟩
  ·exact ih _ h.2 x hx
theorem done_run {d:Flat} (hok:d.ok):∀ (o:List Int) (v:List Nat),(doneM d o v).2=true->(doneM d o v).1=runAll d o v/\(o≠[]->Val2 d.signals v):=by
 intro o
 induction o with
 | nil=>intro v _;exact ⟨rfl,fun h=>absurd rfl h⟩
 | cons p o ih =>
  intro v h
  rw [doneM] at h ⊢
  by_cases e:(runM d v p).2=0
  ·rw [if_pos e] at h ⊢
   obtain ⟨c1,c2,c3,-⟩:=runM_ok hok e
   have hr:(runM d v p).1=runL d p v:=by rw [runM_eq,if_pos ⟨c1,c2,c3⟩]
   rw [hr] at h ⊢
   exact ⟨(ih _ h).1,fun _=>valsOk_val2 c1⟩
  ·rw [if_neg e] at h;cases h
theorem ord_of {d:Flat} (hok:d.ok) (hl:(lookM d).1=0):checkM d=0/\∃ by',drvM (nBits d).toNat (wsM d)=some by'/\OrdOk d by' (lookM d).2.2/\(∀ p,Pin d p->clkD d p=false->p∈(lookM d).2.2) /\
  (∀ p,Pin d p->clkD d p=false->(writesM d p).length=(alwaysM d p).length) /\
  (∀ k j:Nat,k<d.signals.length->(j:Int)<sigW d.signals (k:Int)->kindOf d.signals (k:Int)≠1->kindOf d.signals (k:Int)≠4->∃ q,Pin d q/\by'[(bn d.signals k j).toNat]? = some q):=by
 obtain ⟨hck,by',hd,hdm,hnone,hlat,-⟩:=lookM_zero hok hl
 have B:=behind hok hl hd
 have hp':∀ {p:Int},Pin d p->p.toNat<d.procs.length:=fun hp=>by have:=hp.1;have:=hp.2;omega
 refine ⟨hck,by',hdm,⟨fun i p hi=>?_,fun i p hi r hr q hq g1 g2=>?_⟩,fun p hp hc=>?_,fun p hp hc=>?_,fun k j hk hj h1 h4=>?_⟩
 ·obtain ⟨a,h,b,c⟩:=B.inr i p hi
  exact ⟨⟨a,by omega⟩,by rw [clkD_get h];exact b,c⟩
 ·exact (B.hang i p hi r hr q hq g1.1 (hp' g1) (by rw [<-clkD_get (hp' g1)];exact g2)).1
 ·have:=B.all p.toNat (hp' hp) (by rw [<-clkD_get (hp' hp)];exact hc)
  rwa [Int.toNat_of_nonneg hp.1] at this
 ·have:=latF_false hlat p.toNat (hp' hp) (by rw [<-clkD_get (hp' hp)];exact hc)
  rwa [Int.toNat_of_nonneg hp.1] at this
 ·have hls:=checkM_w hck
  have hs:sigW d.signals (k:Int)=d.signals[k].w:=by simp [sigW,List.getElem?_eq_getElem hk]
  have hkd:kindOf d.signals (k:Int)=d.signals[k].kind:=by simp [kindOf,List.getElem?_eq_getElem hk]
  have h3:=sumW_succ d.signals k hk
  have h0:=(sumW_le d.signals hls k (by omega)).1
  have hkr:1<=d.signals[k].kind/\d.signals[k].kind<=4:=by
   have h2:=checkM_shaped hck
   unfold shapedM at h2
   simp only [Bool.and_eq_true] at h2
   exact sigs_kind12 _ _ h2.1.1 _ (List.getElem_mem hk)
  obtain ⟨q,e1,e2,e3,-,-,e6⟩:=driven hok hl hd k hk (bn d.signals k j).toNat (by unfold bn;omega) (by unfold bn;omega)
  rw [hkd] at h1 h4
  obtain ⟨f1,-⟩:=e6 (by omega)
  exact ⟨q,⟨f1,e3⟩,e1⟩
theorem lint_rest {d:Flat} (hok:d.ok) (hl:(lookM d).1=0) {v:List Nat} (h:(doneM d (lookM d).2.2 v).2=true) :
  (∀ p∈(lookM d).2.2,runM d (doneM d (lookM d).2.2 v).1 p=((doneM d (lookM d).2.2 v).1,0)) /\
  ((lookM d).2.2≠[]->(doneM d (lookM d).2.2 v).1.length=d.signals.length/\v.length=d.signals.length /\
   ∀ k:Nat,k<d.signals.length->kindOf d.signals (k:Int)=1\/kindOf d.signals (k:Int)=4->(doneM d (lookM d).2.2 v).1.getD k 0=v.getD k 0):=by
 obtain ⟨hck,by',hdm,H,-⟩:=ord_of hok hl
 obtain ⟨e,hv⟩:=done_run hok _ _ h
 have hin:∀ p∈(lookM d).2.2,Pin d p/\clkD d p=false:=fun p hp=>by
  obtain ⟨i,hi,rfl⟩:=List.getElem_of_mem hp
  have:=H.inr i _ (List.getElem?_eq_getElem hi)
  exact ⟨this.1,this.2.1⟩
 rw [e]
 refine ⟨fun p hp=>?_,fun hne=>?_⟩
 ·have hv:=hv (List.ne_nil_of_mem hp)
  have hw:=(runAll_kept hok hck _ (fun q hq=>(hin q hq).1) v hv).1
  rw [runM_of hck hw (hin p hp).1.1 (hin p hp).1.2,rest_law hok hck hdm H hv p hp]
 ·have hv:=hv hne
  exact ⟨(runAll_kept hok hck _ (fun q hq=>(hin q hq).1) v hv).1.1,hv.1,rest_kept hok hck hin hv⟩
theorem lint_any {d:Flat} (hok:d.ok) (hl:(lookM d).1=0) (hne:(lookM d).2.2≠[]) {v w:List Nat} (h:(doneM d (lookM d).2.2 v).2=true) (h':(doneM d (lookM d).2.2 w).2=true)
  (hag:∀ k:Nat,k<d.signals.length->kindOf d.signals (k:Int)=1\/kindOf d.signals (k:Int)=4->v.getD k 0=w.getD k 0):(doneM d (lookM d).2.2 v).1=(doneM d (lookM d).2.2 w).1:=by
 obtain ⟨hck,by',hdm,H,hall,hlat,hdrv⟩:=ord_of hok hl
 obtain ⟨e,hv⟩:=done_run hok _ _ h
 obtain ⟨e',hw⟩:=done_run hok _ _ h'
 rw [e,e']
 exact any_law hok hck hdm H hall hlat hdrv (hv hne) (hw hne) hag
/-! ### filigreeref12.Words -/
theorem Words_calls12 (l r:List Nat) (v v':Value) (w:World) (h:Us w v l) (h':Us w v' r) (hn:l.length<=1099511627776) :
  Calls Tryz.prog 32 #[v,v'] w fun e w'=>e=.returned (.bool (decide (l=r)))/\Ext w w':=by
 obtain ⟨a,b,o,cap,rfl,hc1,hc2,ha,hr⟩:=h.open
 obtain ⟨a',b',o',cap',rfl,hd1,hd2,ha',hr'⟩:=h'.open
 have HR:=Jh hr
 have HA:=Jh ha
 have HR':=Jh hr'
 have HA':=Jh ha'
 clear hr ha h hr' ha' h'
 obtain ⟨t,ht⟩:∃ t,decide (l=r)=t:=⟨_,rfl⟩
 rw [ht]
 have HT:=Jh ht
 clear ht
 by_cases hlr:l.length=r.length
 ·have hlb:((l.length:Int) != (r.length:Int))=false:=by rw [bne_eq_false_iff_eq,hlr]
  have HLR:=Jh hlr
  obtain ⟨n,hnl⟩:∃ n,l.length=n:=⟨_,rfl⟩
  have HNL:=Jh hnl
  have HNR:=Jh (show r.length=n by rw [<-hlr];exact hnl)
  rw [<-hlr] at hd1 HA' ⊢
  rw [hnl] at hc1 hd1 HA HA' hn ⊢
  clear hlr hlb hnl
  go_enter Tryz.func32,Tryz.ntmps32
  go_wp2_with fail
  go_loopw [5] (fun i wr=>∃ k:Nat,k<=n/\i=.int .i64 k/\(∀ j,j<k->l[j]? = r[j]?)/\Ext w wr) (fun i _=>n-(intOf i).toNat)
  case atStart=>exact ⟨0,Nat.zero_le _,rfl,fun j hj=>absurd hj (by omega),Below.refl _ _⟩
  case round =>
   obtain ⟨k,hk,rfl,hsame,hx⟩:=hrel
   have HS:=Jh hsame
   have HX:=Jh hx
   clear hsame hx
   by_cases hlt:k<n
   ·obtain rfl:=HA.out (by omega)
    obtain rfl:=HA'.out (by omega)
    have HZ:=Jh (fun W (hx:Ext w W)=>Us.get (k:=k) (HR.out.mono fun x _ b o h=>Has.ext h hx) (by rw [HNL.out];exact hlt))
    have HZ':=Jh (fun W (hx:Ext w W)=>Us.get (k:=k) (HR'.out.mono fun x _ b o h=>Has.ext h hx) (by rw [HNR.out];exact hlt))
    have HE:=Jh (show l[k]? = some (l[k]'(by rw [HNL.out];exact hlt)) from List.getElem?_eq_getElem _)
    have HE':=Jh (show r[k]? = some (r[k]'(by rw [HNR.out];exact hlt)) from List.getElem?_eq_getElem _)
    generalize l[k]'_=x at *
    generalize r[k]'_=y at *
    go_upto_region 6 with fail
    refine wp_region_held_drew (S:=fun W=>Ext w W) (by kernel_rfl) (Below.drew HX.out) (fun hH=>?_)
    try simp only [J]
    (refine Jt 0 (_) rfl (yif_load1 rfl fun _ _=>rfl) hH ?_;try simp only [J])
    (refine Jt 1 (_) rfl (yif_load1 rfl fun _ _=>rfl) hH ?_;try simp only [J])
    (refine Jt 2 (.pointer (some ⟨b,o+k,Option.none⟩)) rfl (yif_load1 rfl (by intro W hW;clear hW;go_simp;try (intro h;omega))) hH ?_;try simp only [J])
    (refine Jt 3 (W64 x) rfl (yif_load1 rfl (by intro W hW;have y:=HZ.out W hW;clear hW;go_simp)) hH ?_;try simp only [J])
    (refine Jt 4 (_) rfl (yif_load1 rfl fun _ _=>rfl) hH ?_;try simp only [J])
    (refine Jt 5 (_) rfl (yif_load1 rfl fun _ _=>rfl) hH ?_;try simp only [J])
    (refine Jt 6 (.pointer (some ⟨b',o'+k,Option.none⟩)) rfl (yif_load1 rfl (by intro W hW;clear hW;go_simp;try (intro h;omega))) hH ?_;try simp only [J])
    (refine Jt 7 (W64 y) rfl (yif_load1 rfl (by intro W hW;have y:=HZ'.out W hW;clear hW;go_simp)) hH ?_;try simp only [J])
    obtain ⟨c,hc⟩:∃ c,((x:Int) != (y:Int))=c:=⟨_,rfl⟩
    have HC:=Jh hc
    clear hc
    (refine Jt 8 (.bool c) rfl (yif_load1 rfl (by intro W hW;clear hW;go_simp;exact HC.out)) hH ?_;try simp only [J])
    refine Jz ?_
    cases c
    ·have HXY:=Jh (show x=y by have:=HC.out;rw [bne_eq_false_iff_eq] at this;exact_mod_cast this)
     go_wp2_with fail
     go_roundw
     case rel=>exact ⟨k+1,hlt,by go_num,fun j hj=>by
      by_cases e:j=k
      ·subst e;rw [HE.out,HE'.out,HXY.out]
      ·exact HS.out j (by omega),hH⟩
     case measure=>simp [intOf];omega
    ·have HXY:=Jh (show x≠y by have:=HC.out;rw [bne_iff_ne] at this;exact fun e=>this (by rw [e]))
     obtain rfl:t=false:=by
      rw [<-HT.out,decide_eq_false_iff_not]
      intro e
      have h1:=HE.out
      rw [e,HE'.out] at h1
      injection h1 with h1
      exact HXY.out h1.symm
     go_wp2_with fail
     go_ret
     exact ⟨rfl,hH⟩
   ·obtain rfl:k=n:=by omega
    obtain rfl:t=true:=by
     rw [<-HT.out,decide_eq_true_eq]
     refine List.ext_getElem? fun j=>?_
     by_cases hj:j<k
     ·exact HS.out j hj
     ·rw [List.getElem?_eq_none (by rw [HNL.out];omega),List.getElem?_eq_none (by rw [HNR.out];omega)]
    go_wp2_with fail
    go_ret
    exact ⟨rfl,HX.out⟩
 ·obtain rfl:t=false:=by
   rw [<-HT.out,decide_eq_false_iff_not]
   intro e;exact hlr (by rw [e])
  have hlb:((l.length:Int) != (r.length:Int))=true:=by rw [bne_iff_ne];omega
  clear hlr
  go_enter Tryz.func32,Tryz.ntmps32
  go_wp2_with fail
  go_ret
  exact ⟨rfl,Below.refl _ _⟩
theorem Since.more {N B:Nat} {a b c:World} (h:Since N a b) (hg:b.grownBy c (some B)) (hB:B<N\/a.heap.size<=B):Since N a c :=
 ⟨Nat.le_trans h.1 hg.size,fun x h1 h2=>(hg.block x (Nat.lt_of_lt_of_le h2 h.1) (by intro e;injection e;omega)).trans (h.2 x h1 h2)⟩
theorem FV.mono' {α:Type} {V:World->List Value->α->Prop} {N M:Nat} {a b:World} {cs:List Value} {x:α} (h:FV V M a cs x) (hs:Since M a b) (hN:N<=M):FV V N b cs x:=fun W hW=>h W (hs.trans (hW.mono hN))
theorem has_since {N:Nat} {a b:World} {B o:Nat} {cs:List Value} (h:Has a B o cs) (hN:N<=B) (hs:Since N a b):Has b B o cs:=fun j u hj=>by
 have:=h j u hj
 exact (World.cell?_of_block (a:=⟨B,o+j,none⟩) (hs.2 B hN (World.block_lt_of_cell? a _ this))).trans this
/-! ### what is found, so that the kernel can count it -/
def insI (x:Int):List Int->List Int
 | []=>[x]
 | y::l=>if x<y then x::y::l else if x=y then y::l else y::insI x l
def setF (l:List Int):List Int:=l.foldr insI []
theorem insI_mem (x z:Int) (l:List Int):z∈insI x l↔z=x\/z∈l:=by
 induction l with
 | nil=>simp [insI]
 | cons y l ih =>
  rw [insI]
  split
  ·simp
  ·split
   ·rename_i h;subst h;simp
   ·simp [ih]
    constructor
    ·rintro (h | h | h)<;>simp [h]
    ·rintro (h | h | h)<;>simp [h]
theorem insI_lt (x:Int) (l:List Int) (h:l.Pairwise (·<·)):(insI x l).Pairwise (·<·):=by
 induction l with
 | nil=>simp [insI]
 | cons y l ih =>
  obtain ⟨h1,h2⟩:=List.pairwise_cons.1 h
  rw [insI]
  split
  ·rename_i hxy
   refine List.pairwise_cons.2 ⟨fun z hz=>?_,h⟩
   rcases List.mem_cons.1 hz with e | hz
   ·omega
   ·have:=h1 z hz;omega
  ·split
   ·exact h
   ·rename_i h3 h4
    refine List.pairwise_cons.2 ⟨fun z hz=>?_,ih h2⟩
    rcases (insI_mem x z l).1 hz with e | hz
    ·omega
    ·exact h1 z hz
theorem setF_spec (l:List Int):(setF l).Pairwise (·<·)/\∀ z,z∈setF l↔z∈l:=by
 induction l with
 | nil=>simp [setF]
 | cons x l ih =>
  refine ⟨insI_lt x _ ih.1,fun z=>?_⟩
  show z∈insI x (setF l)↔_
  rw [insI_mem,ih.2];simp
theorem setI_F (l:List Int):setI l=setF l:=setI_eq l _ (setF_spec l).1 fun x=>((setF_spec l).2 x).symm
def numbersF (offs:List Int) (xs:List Span):List Int:=setF (allNums offs xs)
theorem numbersM_F (offs:List Int) (xs:List Span):numbersM offs xs=numbersF offs xs:=by rw [numbersM_set,setI_F];rfl
def altF (offs:List Int):T->List Int × List Int
 | ⟨op,sig,hi,lo,_,l⟩ =>
  let r:=setF (fsts l)
  (if op=1 then numbersF offs [⟨sig,hi,lo⟩] else if op=2\/op=3 then metM (snds l) else r,r)
where
 fsts:List T->List Int
  | []=>[]
  | t::l=>(altF offs t).1++fsts l
 snds:List T->List (List Int)
  | []=>[]
  | t::l=>(altF offs t).2::snds l
theorem altT_F (offs:List Int) (t:T):altT offs t=altF offs t:=by
 induction t using T.ind with
 | h t ih =>
  obtain ⟨op,sig,hi,lo,e,l⟩:=t
  simp only at ih
  have h1:altT.fsts offs l=altF.fsts offs l:=by
   clear e
   induction l with
   | nil=>rfl
   | cons y l ih2 =>
    rw [altT.fsts,altF.fsts,ih y (by simp),ih2 fun z hz=>ih z (by simp [hz])]
  have h2:altT.snds offs l=altF.snds offs l:=by
   clear h1 e
   induction l with
   | nil=>rfl
   | cons y l ih2 =>
    rw [altT.snds,altF.snds,ih y (by simp),ih2 fun z hz=>ih z (by simp [hz])]
  simp only [altT,altF,h1,h2,setI_F,numbersM_F]
def writesF (d:Flat) (p:Int):List Int:=numbersF (offsD d) (spansW (procL d p))
def readsF (d:Flat) (p:Int):List Int:=numbersF (offsD d) (spansR d.signals (procL d p))
def alwaysF (d:Flat) (p:Int):List Int:=setF ((procL d p).map fun t=>(altF (offsD d) t).1).flatten
theorem writesM_F (d:Flat) (p:Int):writesM d p=writesF d p:=numbersM_F _ _
theorem readsM_F (d:Flat) (p:Int):readsM d p=readsF d p:=numbersM_F _ _
theorem alwaysM_F (d:Flat) (p:Int):alwaysM d p=alwaysF d p:=by
 unfold alwaysM alwM alwaysF alwP alt
 rw [setI_F]
 congr 2
 exact List.map_congr_left fun t _=>by rw [altT_F]
def drvF (d:Flat):Int × List Int:=if checkM d=0 then (match drvM (nBits d).toNat ((List.range d.procs.length).map fun (p:Nat)=>writesF d (p:Int)) with | none=>(120,[]) | some o=>(0,o)) else (1,[])
theorem drvD_F (d:Flat):drvD d=drvF d:=by
 unfold drvD drvF wsM
 simp only [writesM_F]
 by_cases h:checkM d=0
 ·rw [if_pos h,if_pos h]
  split<;>simp_all
 ·rw [if_neg h,if_neg h]
def graphF (d:Flat) (by':List Int):List (List Int):=hangM by' (clks d) ((List.range d.procs.length).map fun (p:Nat)=>readsF d (p:Int))
theorem graphM_F (d:Flat) (by':List Int):graphM d by'=graphF d by':=by
 unfold graphM graphF rsM
 simp only [readsM_F]
def latFF (d:Flat):Nat->List Proc->Bool
 | _,[]=>false
 | p,x::l=>if (!x.clocked&&!decide ((writesF d (p:Int)).length=(alwaysF d (p:Int)).length))=true then true else latFF d (p+1) l
theorem latF_F (d:Flat) (l:List Proc):∀ p,latF d p l=latFF d p l:=by
 induction l with
 | nil=>intro p;rfl
 | cons x l ih=>intro p;rw [latF,latFF,ih,writesM_F,alwaysM_F]
def lookF (d:Flat):Int × List (List Int) × List Int :=
 if (drvF d).1=0 then
  if noneF d.signals (drvF d).2 0 d.signals=true then (121,[],[])
  else if latFF d 0 d.procs=true then (122,[],[])
  else if (ordM (graphF d (drvF d).2) (clks d)).length<wiresM (clks d) then (123,[],[])
  else (0,graphF d (drvF d).2,ordM (graphF d (drvF d).2) (clks d))
 else ((drvF d).1,[],[])
theorem lookM_F (d:Flat):lookM d=lookF d:=by
 unfold lookM lookF
 rw [drvD_F,latF_F,graphM_F]
 by_cases h:(drvF d).1=0
 ·rw [if_neg (by simp [h]),if_pos h]
 ·rw [if_pos h,if_neg h]
/-! ### the chapter's example -/
def sigE (s:Int):E:=⟨2,1,0,s,0,0,0,[]⟩
def setP (s:Int) (e:E):Proc:=⟨false,[⟨1,s,0,0,[e],[]⟩]⟩
def bytesOf (l:List UInt8):ByteArray:=⟨l.toArray⟩
def liveS:List Signal:=[⟨bytesOf [97],1,1,0⟩,⟨bytesOf [98],1,1,0⟩,⟨bytesOf [121],1,2,0⟩,⟨bytesOf [119],1,3,0⟩]
def liveY:Proc:=setP 2 ⟨5,1,0,0,0,0,11,[sigE 0,sigE 3]⟩
def liveD:Flat:=⟨liveS,[liveY,setP 3 (sigE 1)],[]⟩
def liveTwo:Flat:=⟨liveS,[liveY,setP 3 (sigE 1),setP 3 (sigE 2)],[]⟩
def liveLoop:Flat:=⟨liveS,[liveY,setP 3 (sigE 2)],[]⟩
def liveOne:Flat:=⟨liveS,[liveY],[]⟩
set_option maxRecDepth 100000
theorem live_check:checkM liveD=0:=by decide +kernel
theorem live_look:lookM liveD=(0,[[1],[]],[1,0]):=by rw [lookM_F];decide +kernel
theorem live_lev:levD liveD=(0,[1,0]):=by unfold levD;rw [live_look];decide +kernel
theorem live_drv:drvD liveD=(0,[-1,-1,0,1]):=by rw [drvD_F];decide +kernel
theorem live_two:(lookM liveTwo).1=120:=by rw [lookM_F];decide +kernel
theorem live_loop:(lookM liveLoop).1=123:=by rw [lookM_F];decide +kernel
theorem live_one:(lookM liveOne).1=121:=by rw [lookM_F];decide +kernel
theorem sig_calls (s:Int) (w:World) :
  Calls Tryz.prog 56 #[.int .i64 s] w fun r w'=>r=.returned (.agg ((sigE s).cells (.slice none 0 0)).toArray)/\Ext w w':=by
 go_enter Tryz.func56,Tryz.ntmps56
 go_upto_region 1 with fail
 have hx:=ext_alloc w (.cells ((sigE s).cells (.slice none 0 0)).toArray 44)
 have hb:=Blk.new w ((sigE s).cells (.slice none 0 0)).toArray 44
 go_wp2_with ((with_reducible show Js 44);refine wpList_store_new rfl 44 _ _ rfl rfl (by first | rfl | simp) (cs:=(sigE s).cells (.slice none 0 0)) rfl agg_E rfl rfl (by simp [one_int,Value.oneCell']) ?_)
 refine post_ret_blk rfl rfl hb.has agg_E rfl rfl ⟨rfl,hx⟩
theorem sig_VE (s:Int) (w:World):VE w ((sigE s).cells (.slice none 0 0)) (sigE s):=⟨_,rfl,Sl.nil _ _⟩
theorem lset_calls (N:Nat) (s:Int) (cs:List Value) (e:E) (w:World) (h:FV VE N w cs e) (hN:N<=w.heap.size) :
  Calls Tryz.prog 55 #[.int .i64 s,.agg cs.toArray] w fun r w'=>∃ cs',r=.returned (.agg cs'.toArray)/\cs'.length=2/\cs'.all (·.oneCell')=true/\FV VProc N w' cs' (setP s e)/\Ext w w':=by
 have HV:=Jh h
 obtain ⟨sv,rfl,hes⟩:=h.here
 have hone:(e.cells sv).all (·.oneCell')=true:=by simp [hes.one,one_int]
 have hx1:=ext_alloc w (.cells (e.cells sv).toArray 44)
 have hb1:=Blk.new w (e.cells sv).toArray 44
 clear hes
 go_enter Tryz.func55,Tryz.ntmps55
 go_upto_region 1 with fail
 have hx2:=ext_alloc (w.alloc (.cells (e.cells sv).toArray 44)) (.cells #[.bool false,.slice none 0 0] 39)
 have hb2:=Blk.new (w.alloc (.cells (e.cells sv).toArray 44)) #[.bool false,.slice none 0 0] 39
 rw [show (w.alloc (.cells (e.cells sv).toArray 44)).heap.size=w.heap.size+1 by simp] at hb2
 have hb12:=hb1.ext hx2
 have hX2:=hx1.trans hx2
 generalize (w.alloc _).alloc _=w2 at *
 go_wp2_with (first | ((with_reducible show Jl 44);refine Jm 44 (hb12.has) agg_E rfl ?_) | ((with_reducible show Jw (Op.buildSlice _ _ _));refine Hid.out ?_))
 refine Jh ?_
 refine wpList_bs1 rfl _ _ rfl appE rfl (cs:=e.cells sv) rfl rfl (by decide) ?_
 have hx3:=ext_alloc w2 (.cells (e.cells sv).toArray 44)
 have hb3:=Blk.new w2 (e.cells sv).toArray 44
 have hX3:=hX2.trans hx3
 have hbp:=hb2.ext hx3
 have hs3:(w2.alloc (.cells (e.cells sv).toArray 44)).heap.size=w2.heap.size+1:=by simp
 have hz2:=hb2.lt
 generalize w2.alloc _=w3 at *
 have HS3:=Jh hs3
 obtain ⟨B2,hB2⟩:∃ B2,w2.heap.size=B2:=⟨_,rfl⟩
 rw [hB2] at hb3 hz2 ⊢
 have HB2:=Jh hB2
 clear hs3 hB2
 go_wp2_with ((with_reducible show Jw (Op.buildSlice _ _ _));refine Hid.out ?_)
 refine Jh ?_
 have hx4:=ext_alloc w3 (.cells ((⟨1,s,0,0,[e],[]⟩:T).cells (.slice (some ⟨B2,0,none⟩) 1 1) (.slice none 0 0)).toArray 47)
 have hb4:=Blk.new w3 ((⟨1,s,0,0,[e],[]⟩:T).cells (.slice (some ⟨B2,0,none⟩) 1 1) (.slice none 0 0)).toArray 47
 refine wpList_bs1 rfl _ _ rfl appT rfl (cs:=(⟨1,s,0,0,[e],[]⟩:T).cells (.slice (some ⟨B2,0,none⟩) 1 1) (.slice none 0 0)) rfl rfl (by decide) ?_
 have hX4:=hX3.trans hx4
 have hbp4:=hbp.ext hx4
 have hb34:=hb3.ext hx4
 obtain ⟨B3,hB3⟩:∃ B3,w3.heap.size=B3:=⟨_,rfl⟩
 have hz3:w.heap.size+1<B3:=by have:=HS3.out;have:=HB2.out;omega
 rw [hB3] at hb4 ⊢
 generalize w3.alloc _=w4 at *
 clear hB3
 go_wp2_with ((with_reducible show Js 39);refine wpList_store_blk rfl 39 _ _ rfl hbp4 rfl (cs:=[.bool false,.slice (some ⟨B3,0,none⟩) 1 1]) rfl agg_Proc rfl rfl (by simp [one_bool,Value.oneCell']) ?_;intro w5 hb5 hg5)
 have hX5:Ext w w5:=Ext.grown hX4 hg5 (by omega)
 have hb45:=hb4.grown hg5 (by omega)
 have hb35:=hb34.grown hg5 (by omega)
 have HX5:=Jh hX5
 have HB45:=Jh hb45
 have HB35:=Jh hb35
 have hz2':w.heap.size<=B2:=by omega
 have hfv:FV VProc N w5 [.bool false,.slice (some ⟨B3,0,none⟩) 1 1] (setP s e):=fun W hW=>by
  have hEs:Es W (.slice (some ⟨B2,0,none⟩) 1 1) [e]:=⟨B2,0,⟨_,1,rfl,Nat.le_refl _,by decide,fun _=>rfl⟩,VE.at (hW.blk HB35.out (by omega)).has (HV.out W ((Since.of_ext HX5.out).trans hW)),trivial⟩
  exact ⟨_,rfl,B3,0,⟨_,1,rfl,Nat.le_refl _,by decide,fun _=>rfl⟩,TAt_iff.2 ⟨_,_,(hW.blk HB45.out (by omega)).has,hEs,Sl.nil _ _⟩,trivial⟩
 refine post_ret_blk rfl rfl hb5.has agg_Proc rfl rfl ⟨_,rfl,rfl,by simp [one_bool,Value.oneCell'],hfv,hX5⟩
theorem sigs_blk {W:World} {B:Nat} (h:Blk W B (liveS.map Signal.cells).flatten.toArray 36):Sigs W (.slice (some ⟨B,0,none⟩) 4 4) liveS :=
 ⟨B,0,⟨_,4,rfl,Nat.le_refl _,by decide,fun _=>rfl⟩,rows_flat (f:=Signal.cells) (fun _=>rfl) liveS 0 h.has⟩
theorem procs_blk {W:World} {B:Nat} {css:List (List Value)} {l:List Proc} (h:Blk W B css.flatten.toArray 39) (hl:css.length=l.length) (h2:∀ cs∈css,cs.length=2) (hn:l.length<=1000) (hv:∀ i (h:i<css.length) (h':i<l.length),VProc W css[i] l[i]) :
  Procs W (.slice (some ⟨B,0,none⟩) l.length l.length) l :=
 ⟨B,0,⟨_,l.length,rfl,Nat.le_refl _,by simp only [maxLen];omega,fun _=>rfl⟩,rows_of_flat (V:=VProc) (fun _ _ _ _ _ h hv=>VProc.at h hv) l css W B 0 h.has hl h2 hv⟩
theorem sig_FV (s:Int) (N:Nat) (w:World):FV VE N w ((sigE s).cells (.slice none 0 0)) (sigE s):=fun W _=>sig_VE s W
theorem since_new {N:Nat} {a b:World} (h:Ext a b):Since N a b:=Since.of_ext h
end Go.Proofs.YtpdpgmfnfajbfaaGreat
