/- Laws and walks that a claim of this seat leans on: ShapeTM, SizerM, Sizer. -/
import Derived.Test.YtpngepnfinbaoaaGreatC01
import Derived.Test.YtpngepnfinbaoaaGreatC06
import Derived.Test.YtpngepnfinbaoaaGreatCSize
import Derived.Test.YtpngepnfinbaoaaGreatC03
import Derived.Test.YtpngepnfinbaoaaGreatC00
set_option maxRecDepth 100000
set_option maxHeartbeats 8000000
set_option linter.all false
namespace Go.Proofs.YtpngepnfinbaoaaGreat
/-! ### shapes of statements -/
def shapeT (ls:List Signal):T->Bool
 | ⟨op,sig,hi,lo,e,l⟩ =>
  if (e.any fun x=>!shape ls x)||(decide (op≠1)&&(decide (sig≠0)||decide (hi≠0)||decide (lo≠0))) then false
  else if op=3 then decide (e.length=1)&&(arms l&&decide (0<l.length))
  else if op=1 then decide (e.length=1)&&decide (l.length=0)&&slice ls sig hi lo
  else if op=2 then (decide (e.length=1)&&decide (l.length=2)&&(l.all fun x=>decide (x.op=5)))&&allT l
  else if op=5 then decide (e.length=0)&&allT l
  else false
where
 allT:List T->Bool
  | []=>true
  | t::l=>shapeT ls t&&allT l
 armT:T->Bool
  | ⟨op,sig,hi,lo,e,l⟩=>decide (op=4)&&decide (sig=0)&&decide (hi=0)&&decide (lo=0)&&(e.all fun x=>decide (x.op=1)&&shape ls x)&&allT l
 arms:List T->Bool
  | []=>true
  | t::l=>(decide (t.e.length=0)==decide (l.length=0))&&armT t&&arms l
theorem shapeT.allT_eq (ls:List Signal) (l:List T):shapeT.allT ls l=l.all (shapeT ls):=by
 induction l with
 | nil=>rfl
 | cons x l ih=>simp [shapeT.allT,ih]
theorem shapeT_eq (ls:List Signal) (t:T):shapeT ls t =
  (if (t.e.any fun x=>!shape ls x)||(decide (t.op≠1)&&(decide (t.sig≠0)||decide (t.hi≠0)||decide (t.lo≠0))) then false
  else if t.op=3 then decide (t.e.length=1)&&(shapeT.arms ls t.l&&decide (0<t.l.length))
  else if t.op=1 then decide (t.e.length=1)&&decide (t.l.length=0)&&slice ls t.sig t.hi t.lo
  else if t.op=2 then (decide (t.e.length=1)&&decide (t.l.length=2)&&(t.l.all fun x=>decide (x.op=5)))&&t.l.all (shapeT ls)
  else if t.op=5 then decide (t.e.length=0)&&t.l.all (shapeT ls)
  else false):=by
 cases t;rw [shapeT];simp only [shapeT.allT_eq]
theorem shapeT.armT_eq (ls:List Signal) (t:T):shapeT.armT ls t=(decide (t.op=4)&&decide (t.sig=0)&&decide (t.hi=0)&&decide (t.lo=0)&&(t.e.all fun x=>decide (x.op=1)&&shape ls x)&&t.l.all (shapeT ls)):=by
 cases t;rw [shapeT.armT,shapeT.allT_eq]
theorem shapeT.arms_drop (ls:List Signal) (l:List T) (k:Nat) (h:k<l.length) :
  shapeT.arms ls (l.drop k)=((decide (l[k].e.length=0)==decide (k+1=l.length))&&shapeT.armT ls l[k]&&shapeT.arms ls (l.drop (k+1))):=by
 rw [List.drop_eq_getElem_cons h,shapeT.arms]
 congr 3
 simp only [List.length_drop]
 rw [decide_eq_decide];omega
/-! ### a sizer: its first error stays -/
def zE:E:=⟨0,0,0,0,0,0,0,[]⟩
def szE (err:Int) (e:E) (w:Int):E × Int:=if err≠0 then (zE,err) else match sizeE e w with | .ok y=>(y,0) | .error g=>(zE,g)
def accum {α β σ:Type} (f:σ->α->β × σ):σ->List α->List β × σ
 | s,[]=>([],s)
 | s,x::l=>((f s x).1::(accum f (f s x).2 l).1,(accum f (f s x).2 l).2)
theorem accum_snoc {α β σ:Type} (f:σ->α->β × σ) (l:List α) (x:α):∀ s,accum f s (l++[x])=((accum f s l).1++[(f (accum f s l).2 x).1],(f (accum f s l).2 x).2):=by
 induction l with
 | nil=>intro s;rfl
 | cons y l ih=>intro s;simp only [List.cons_append,accum,ih]
theorem accum_take {α β σ:Type} (f:σ->α->β × σ) (s:σ) (l:List α) (k:Nat) (h:k<l.length) :
  accum f s (l.take (k+1))=((accum f s (l.take k)).1++[(f (accum f s (l.take k)).2 l[k]).1],(f (accum f s (l.take k)).2 l[k]).2):=by
 rw [take_snoc l k h,accum_snoc]
theorem accum_length {α β σ:Type} (f:σ->α->β × σ) (l:List α):∀ s,(accum f s l).1.length=l.length:=by
 induction l with
 | nil=>intro s;rfl
 | cons y l ih=>intro s;simp [accum,ih]
def kindOf (ls:List Signal) (sig:Int):Int:=match ls[sig.toNat]? with | some s=>s.kind | none=>0
def szT (ls:List Signal) (ck:Bool):T->Int->Int->T × Int
 | ⟨op,sig,hi,lo,e,l⟩,lab,err =>
  let err0:=if op=1/\err=0/\(kindOf ls sig=1\/ck≠decide (kindOf ls sig=4)) then 85 else err
  let w:=if op=1 then hi-lo+1 else if op=2 then -1 else if op=3 then 0 else lab
  let r:=accum (fun s x=>szE s x w) err0 e
  let lab2:=if op=3 then sizeE.hdW r.1 else lab
  let q:=szTs l lab2 r.2
  (⟨op,sig,hi,lo,r.1,q.1⟩,q.2)
where szTs:List T->Int->Int->List T × Int
 | [],_,err=>([],err)
 | t::l,lab,err=>((szT ls ck t lab err).1::(szTs l lab (szT ls ck t lab err).2).1,(szTs l lab (szT ls ck t lab err).2).2)
theorem szT.szTs_eq (ls:List Signal) (ck:Bool) (l:List T) (lab:Int):∀ err,szT.szTs ls ck l lab err=accum (fun s x=>szT ls ck x lab s) err l:=by
 induction l with
 | nil=>intro err;rfl
 | cons t l ih=>intro err;simp only [szT.szTs,accum,ih]
def szErr0 (ls:List Signal) (ck:Bool) (t:T) (err:Int):Int:=if t.op=1/\err=0/\(kindOf ls t.sig=1\/ck≠decide (kindOf ls t.sig=4)) then 85 else err
def szW (t:T) (lab:Int):Int:=if t.op=1 then t.hi-t.lo+1 else if t.op=2 then -1 else if t.op=3 then 0 else lab
def szEs (err w:Int) (l:List E):List E × Int:=accum (fun s x=>szE s x w) err l
theorem szEs_take (err w:Int) (l:List E) (k:Nat) (h:k<l.length):szEs err w (l.take (k+1))=((szEs err w (l.take k)).1++[(szE (szEs err w (l.take k)).2 l[k] w).1],(szE (szEs err w (l.take k)).2 l[k] w).2):=accum_take _ _ _ _ h
def szTL (ls:List Signal) (ck:Bool) (lab err:Int) (l:List T):List T × Int:=accum (fun s x=>szT ls ck x lab s) err l
theorem szTL_take (ls:List Signal) (ck:Bool) (lab err:Int) (l:List T) (k:Nat) (h:k<l.length) :
  szTL ls ck lab err (l.take (k+1))=((szTL ls ck lab err (l.take k)).1++[(szT ls ck l[k] lab (szTL ls ck lab err (l.take k)).2).1],(szT ls ck l[k] lab (szTL ls ck lab err (l.take k)).2).2):=accum_take _ _ _ _ h
theorem szEs_length (err w:Int) (l:List E):(szEs err w l).1.length=l.length:=accum_length _ _ _
theorem szTL_length (ls:List Signal) (ck:Bool) (lab err:Int) (l:List T):(szTL ls ck lab err l).1.length=l.length:=accum_length _ _ _
theorem szT_eq (ls:List Signal) (ck:Bool) (t:T) (lab err:Int):szT ls ck t lab err =
  (⟨t.op,t.sig,t.hi,t.lo,(szEs (szErr0 ls ck t err) (szW t lab) t.e).1,
   (szTL ls ck (if t.op=3 then sizeE.hdW (szEs (szErr0 ls ck t err) (szW t lab) t.e).1 else lab) (szEs (szErr0 ls ck t err) (szW t lab) t.e).2 t.l).1⟩,
   (szTL ls ck (if t.op=3 then sizeE.hdW (szEs (szErr0 ls ck t err) (szW t lab) t.e).1 else lab) (szEs (szErr0 ls ck t err) (szW t lab) t.e).2 t.l).2):=by
 cases t;simp only [szT,szT.szTs_eq];rfl
def StOk (ls:List Signal):T->Prop
 | ⟨op,sig,hi,lo,e,l⟩=>(op=1->0<=sig/\sig<ls.length/\0<=lo/\lo<=hi/\hi<=64)/\(op=3->0<e.length)/\(∀ x∈e,OwnOk x)/\oks l
where oks:List T->Prop
 | []=>True
 | t::l=>StOk ls t/\oks l
theorem StOk.oks_iff (ls:List Signal) (l:List T):StOk.oks ls l↔∀ t∈l,StOk ls t:=by
 induction l with
 | nil=>simp [StOk.oks]
 | cons e l ih=>simp [StOk.oks,ih]
theorem StOk_iff (ls:List Signal) (t:T):StOk ls t↔(t.op=1->0<=t.sig/\t.sig<ls.length/\0<=t.lo/\t.lo<=t.hi/\t.hi<=64)/\(t.op=3->0<t.e.length)/\(∀ x∈t.e,OwnOk x)/\∀ x∈t.l,StOk ls x:=by
 cases t;simp [StOk,StOk.oks_iff]
theorem sigW_le (ls:List Signal) (h:∀ x∈ls,x.w<=64) (sig:Int):sigW ls sig<=64:=by
 unfold sigW
 cases h':ls[sig.toNat]? with
 | none=>simp
 | some x=>simpa using h x (List.mem_of_getElem? h')
theorem slice_le (ls:List Signal) (h:∀ x∈ls,x.w<=64) {sig hi lo:Int} (hs:slice ls sig hi lo=true):0<=sig/\sig<ls.length/\0<=lo/\lo<=hi/\hi<sigW ls sig/\hi<=64:=by
 have h64:=sigW_le ls h sig
 unfold slice at hs
 simp only [Bool.and_eq_true,decide_eq_true_eq] at hs
 omega
theorem ownOk_of_shape (ls:List Signal) (h:∀ x∈ls,x.w<=64) (e:E) (he:shape ls e=true):OwnOk e:=by
 induction e using E.ind with
 | h e ih =>
  rw [shape_eq,Bool.and_eq_true,List.all_eq_true] at he
  obtain ⟨h0,h1⟩:=he
  refine (OwnOk_iff e).2 ⟨?_,?_,?_,fun x hx=>ih x hx (h1 x hx)⟩
  ·rintro (h2 | h2) <;>
   ·rw [h2] at h0
    simp [shape0] at h0
    omega
  ·intro h2
   rw [h2] at h0
   simp [shape0] at h0
   have:=slice_le ls h h0.1.2
   omega
  ·rintro (h2 | h2 | h2 | h2) <;>
   ·rw [h2] at h0
    simp [shape0] at h0
    omega
theorem stOk_of_shapeT (ls:List Signal) (h:∀ x∈ls,x.w<=64) (t:T):(shapeT ls t=true->StOk ls t)/\(shapeT.armT ls t=true->StOk ls t):=by
 induction t using T.ind with
 | h t ih =>
  have harms:∀ l:List T,(∀ x∈l,x∈t.l)->shapeT.arms ls l=true->∀ x∈l,StOk ls x:=by
   intro l
   induction l with
   | nil=>intro _ _ x hx;cases hx
   | cons y l ih2 =>
    intro hm ha x hx
    rw [shapeT.arms,Bool.and_eq_true,Bool.and_eq_true] at ha
    cases hx with
    | head=>exact (ih _ (hm _ (by simp))).2 ha.1.2
    | tail _ hx=>exact ih2 (fun z hz=>hm z (by simp [hz])) ha.2 x hx
  constructor
  ·intro ht
   rw [shapeT_eq] at ht
   split at ht
   ·cases ht
   ·rename_i h0
    have hE:∀ x∈t.e,OwnOk x:=by
     intro x hx
     refine ownOk_of_shape ls h x ?_
     have h0':(t.e.any fun x=>!shape ls x)=false:=by
      cases hh:(t.e.any fun x=>!shape ls x)
      ·rfl
      ·exfalso;apply h0;rw [hh];rfl
     have:=List.any_eq_false.1 h0' x hx
     simpa using this
    split at ht
    ·rename_i h3
     simp only [Bool.and_eq_true,decide_eq_true_eq] at ht
     exact (StOk_iff ls t).2 ⟨fun h1=>by omega,fun _=>by omega,hE,harms t.l (fun _ h=>h) ht.2.1⟩
    ·split at ht
     ·rename_i h3 h1
      simp only [Bool.and_eq_true,decide_eq_true_eq] at ht
      have:=slice_le ls h ht.2
      have hl:t.l=[]:=List.eq_nil_of_length_eq_zero ht.1.2
      exact (StOk_iff ls t).2 ⟨fun _=>by omega,fun h=>by omega,hE,by rw [hl];intro x hx;cases hx⟩
     ·split at ht
      ·simp only [Bool.and_eq_true,List.all_eq_true] at ht
       exact (StOk_iff ls t).2 ⟨fun h=>by omega,fun h=>by omega,hE,fun x hx=>(ih x hx).1 (ht.2 x hx)⟩
      ·split at ht
       ·simp only [Bool.and_eq_true,List.all_eq_true] at ht
        exact (StOk_iff ls t).2 ⟨fun h=>by omega,fun h=>by omega,hE,fun x hx=>(ih x hx).1 (ht.2 x hx)⟩
       ·cases ht
  ·intro ht
   rw [shapeT.armT_eq] at ht
   simp only [Bool.and_eq_true,decide_eq_true_eq,List.all_eq_true] at ht
   exact (StOk_iff ls t).2 ⟨fun h=>by omega,fun h=>by omega,fun x hx=>ownOk_of_shape ls h x (ht.1.2 x hx).2,fun x hx=>(ih x hx).1 (ht.2 x hx)⟩
open Go.RowKit
theorem size_calls (e:E):SizeSaid e:=E.ind (P:=SizeSaid) (fun e ih=>size_step e ih) e
theorem SizePost.open2 {w w':World} {o:Except Int E} {r:Ending} (h:SizePost w o r w'):∃ cs g,r=.returned (.tuple #[.agg cs.toArray,.int .i64 g])/\cs.length=8/\cs.all (·.oneCell')=true/\Ext w w' /\
  ((g=0/\∃ y,o=.ok y/\FE w.heap.size w' cs y)\/((90<=g/\g<=92)/\o=.error g/\cs=zeroE)):=by
 rcases h with ⟨g,ho,hg,rfl,hx⟩ | ⟨y,cs,ho,rfl,hf,hx⟩
 ·exact ⟨_,_,rfl,rfl,rfl,hx,.inr ⟨hg,ho,rfl⟩⟩
 ·exact ⟨_,_,rfl,(by obtain ⟨s,rfl,-⟩:=hf.ve;rfl),hf.ve.one,hx,.inl ⟨rfl,y,ho,hf⟩⟩
def ExprPost (w:World) (B:Nat) (sl:Value) (q:E × Int) (r:Ending) (w':World):Prop :=
 ∃ cs',r=.returned (.agg cs'.toArray)/\Blk w' B #[sl,.int .i64 q.2] 95/\w.grownBy w' (some B)/\FV VE w.heap.size w' cs' q.1
theorem fv_zero (N:Nat) (w:World):FV VE N w zeroE zE:=fun _ _=>⟨_,rfl,Sl.nil _ _⟩
theorem expr_calls (e:E) (wd:Int) (B:Nat) (sl:Value) (err:Int) (cs:List Value) (w:World) (hB:Blk w B #[sl,.int .i64 err] 95) (hV:VE w cs e) (hwf:e.wf) (hok:OwnOk e) (hn:nodes e<=1048576) :
  Calls Tryz.prog 46 #[.pointer (some ⟨B,0,none⟩),.agg cs.toArray,.int .i64 wd] w (ExprPost w B sl (szE err e wd)):=by
 have hBlt:=hB.lt
 have h8:cs.length=8:=by obtain ⟨s,rfl,-⟩:=hV;rfl
 have HZ:=Jh (show szE err e wd=_ from by unfold szE;rfl)
 have HX:=(ext_alloc w (.cells cs.toArray 31)).alloc (.cells zeroE.toArray 31)
 have K0:=Jh ((Has.alloc w cs 31).ext (ext_alloc _ (.cells zeroE.toArray 31)))
 have hb1:=Blk.new (w.alloc (.cells cs.toArray 31)) zeroE.toArray 31
 rw [World.size_alloc] at hb1
 have K1:=Jh hb1
 have KB:=Jh (hB.ext HX)
 have HV:=Jh (hV.ext HX)
 have hsz:((w.alloc (.cells cs.toArray 31)).alloc (.cells zeroE.toArray 31)).heap.size=w.heap.size+1+1:=by simp
 clear hb1 hB hV
 go_enter Tryz.func46,Tryz.ntmps46
 go_upto_region 1 with fail
 generalize (w.alloc _).alloc _=w0 at *
 have g1:=KB.out.cell 1
 simp only [List.getElem?_toArray,List.getElem?_cons_zero,List.getElem?_cons_succ] at g1
 by_cases he:err=0
 ·have b1:(err != 0)=false:=by rw [bne_eq_false_iff_eq];exact he
  have HE:=Jh he
  clear he
  go_upto_region 4 with (first | ((with_reducible show Jl 31);refine Jm 31 (K0.out) agg_E h8 ?_) | (go_at_call 90;refine (size_calls e wd _ _ HV.out hwf hok hn).mono ?_;rintro r w1 hp;obtain ⟨cs2,g,rfl,hl2,ho2,hx1,hq⟩:=hp.open2) | ((with_reducible show Js 31);refine wpList_store_new rfl 31 _ _ rfl rfl (by first | rfl | simp) rfl agg_E (hl2) rfl (ho2) ?_))
  have HQ:=Jh hq
  clear hq g1
  have hb2:=Has.alloc w1 cs2 31
  have HX2:=hx1.alloc (.cells cs2.toArray 31)
  have HFE:=Jh (Since.of_ext (N:=w0.heap.size) (ext_alloc w1 (.cells cs2.toArray 31)))
  have hs1:=hx1.size
  generalize w1.heap.size=N2 at *
  generalize w1.alloc _=w2 at *
  have KB2:=Jh (KB.out.ext HX2)
  have g1:=KB2.out.cell 1
  have f1:=KB2.out.frozen 1
  simp only [List.getElem?_toArray,List.getElem?_cons_zero,List.getElem?_cons_succ] at g1
  go_upto_region 5 with fail
  have hb3:=hb2.grown (gb_set w2 B 1 (.int .i64 g)) (by omega)
  have hg3:=gb_set w2 B 1 (.int .i64 g)
  have KB3:=Jh (KB2.out.set 1 (.int .i64 g))
  have K13:=Jh ((K1.out.ext HX2).grown hg3 (by omega))
  have HG3:=Jh hg3
  clear hg3
  generalize w2.setCell _ _=w3 at *
  clear g1 f1
  go_wp2_with (first | ((with_reducible show Jl 31);refine Jm 31 (hb3) agg_E hl2 ?_) | ((with_reducible show Js 31);refine wpList_store_blk rfl 31 _ _ rfl K13.out rfl rfl agg_E hl2 rfl ho2 ?_;intro w4 hb4 hg4))
  have hSI:Since w0.heap.size w1 w4:=(HFE.out.trans (Since.of_grown HG3.out (by omega))).trans (Since.of_grown hg4 (by omega))
  have hgall:w.grownBy w4 (some B):=by
   have hx:=gb_trans (gb_ext (HX.trans HX2) B) HG3.out
   refine ⟨hg4.os.trans hx.os,hg4.tape.trans hx.tape,hg4.output.trans hx.output,Nat.le_trans hx.size hg4.size,fun k hk hne=>(hg4.block k (Nat.lt_of_lt_of_le hk hx.size) (by intro e;injection e;omega)).trans (hx.block k hk hne)⟩
  refine post_ret_blk rfl rfl hb4.has agg_E hl2 rfl ⟨cs2,rfl,?_,hgall,?_⟩
  ·have hq2:(szE err e wd).2=g:=by
    rw [HZ.out,if_neg (by rw [HE.out];simp)]
    rcases HQ.out with ⟨rfl,y,hy,-⟩ | ⟨-,hy,-⟩<;>rw [hy]
   rw [hq2]
   exact KB3.out.grown hg4 (by omega)
  ·rcases HQ.out with ⟨rfl,y,hy,hf⟩ | ⟨hg9,hy,rfl⟩
   ·have hq1:(szE err e wd).1=y:=by rw [HZ.out,if_neg (by rw [HE.out];simp),hy]
    rw [hq1]
    exact fun W hW=>hf W (hSI.trans (hW.mono (by omega)))
   ·have hq1:(szE err e wd).1=zE:=by rw [HZ.out,if_neg (by rw [HE.out];simp),hy]
    rw [hq1];exact fv_zero _ _
 ·have b1:(err != 0)=true:=by rw [bne_iff_ne];exact he
  have HE:=Jh he
  clear he
  go_wp2_with (first | ((with_reducible show Js 31);refine wpList_store_blk rfl 31 _ _ rfl K1.out rfl (cs:=zeroE) rfl agg_E rfl rfl rfl ?_;intro w4 hb4 hg4))
  have hq:szE err e wd=(zE,err):=by rw [HZ.out,if_pos HE.out]
  refine post_ret_blk rfl rfl hb4.has agg_E rfl rfl ⟨_,rfl,?_,?_,?_⟩
  ·rw [hq];exact KB.out.grown hg4 (by omega)
  ·refine gb_ext (HX.grown hg4 (by omega)) B
  ·rw [hq];exact fv_zero _ _
end Go.Proofs.YtpngepnfinbaoaaGreat
