/- Laws and walks that a claim of this seat leans on: Sigs. -/
import Derived.Test.YtbliplladmamoaaGreatS01
import Derived.Test.YtbliplladmamoaaGreatS02
import Derived.Maps.OwnOps
import Derived.Maps.Views
import Derived.WideMake
import Derived.Test.YtbliplladmamoaaGreatS00
set_option maxRecDepth 100000
set_option maxHeartbeats 8000000
set_option linter.all false
namespace Go.Proofs.YtbliplladmamoaaGreat
open Go.RowKit Go.WideMaps Go.Maps
/-! ### a set of names, as a map of bools that the call makes -/
structure Ag9 (P:Program) (t K E:TypeId):Prop where
 law:Keyed P K
 ht:P.underlying t=some (.map K E)
 hk:P.underlying K=some .string
 he:P.underlying E=some .bool
 hz:∀ w,(zeroValue E).run P w=.ok (.bool false) w
def Fv (P:Program) (K E:TypeId) (w:World) (B:Nat) (seen:List (List UInt8)):Prop :=
 ∃ (D:DataW Unit) (n:Nat),w.ownsMap P K (plainElem P E) B n D/\n<=seen.length/\IsMap D/\∀ s,D.atKey (.string s) (.lit (.bool false))=.lit (.bool (seen.contains s))
theorem Nq {P:Program} {e:TypeId} (he:P.underlying e=some .bool) {v:Value} {z:DataW Unit × List MemPlace} (h:plainElem P e v=some z):∃ c,v=.bool c/\z=(.lit (.bool c),[]):=by
 unfold plainElem at h
 rw [he] at h
 cases v<;>simp at h
 exact ⟨_,rfl,h.symm⟩
theorem Fv.made {P:Program} {K E:TypeId} (w:World):Fv P K E (w.alloc (.map #[] 0)) w.heap.size [] :=
 ⟨.map [],0,World.ownsMap_made _ _ _ _,Nat.le_refl _,isMap_empty,fun s=>by simp [DataW.atKey]⟩
theorem Fv.ext {P:Program} {K E:TypeId} {w w':World} {B:Nat} {j:List (List UInt8)} (h:Fv P K E w B j) (hx:Ext w w'):Fv P K E w' B j:=by
 obtain ⟨D,n,h1,h2⟩:=h
 exact ⟨D,n,h1.kept (It hx w.heap.size) (by have:=h1.lt;intro e;injection e;omega),h2⟩
theorem Fv.lt {P:Program} {K E:TypeId} {w:World} {B:Nat} {j:List (List UInt8)} (h:Fv P K E w B j):B<w.heap.size:=by
 obtain ⟨D,n,h1,h2⟩:=h;exact h1.lt
theorem Gy {P:Program} {t K E:TypeId} (M:Ag9 P t K E) {u:Array Oper} {rest:List Oper} {o:Oper} {a:Act} {w:World} {Q:Exit->Act->World->Prop} (hw:Region.wanted o (yielded u a.tmps)=true)
  (m x:Operand) (ho:o.op=.lookup t m x false) {B:Nat} (hm:a.eval m=.map (some B)) {j:List (List UInt8)} (hn:Fv P K E w B j) {s:ByteArray} (hx:a.eval x=.string s) (hs:s.size<=maxLen)
  (h:wpList P u Q rest (a.put o.dst (.bool (j.contains s.data.toList))) w):wpList P u Q (o::rest) a w :=
 BigFrame.wpList_want hw fun _ hK=>by
  obtain ⟨D,n,h1,-,-,h2⟩:=hn
  obtain ⟨v,ps,aa,hv⟩:=h1.lookup M.law M.ht (M.hz w) (plainElem_bool M.he false) (keyOf_string_mk (P:=P) M.hk hs)
  obtain ⟨c,rfl,hc⟩:=Nq M.he hv
  have h3:=h2 s.data.toList
  simp only [Prod.mk.injEq] at hc
  rw [hc.1] at h3
  simp only [DataW.lit.injEq,Lit.bool.injEq] at h3
  subst h3
  unfold Oper.wp execOp
  simp only [ho,hm,hx,Sem.run_bind,aa,Result.andThen_ok,Sem.run_pure]
  exact hK _ _ h
theorem Iz {P:Program} {t K E:TypeId} (M:Ag9 P t K E) {u:Array Oper} {rest:List Oper} {o:Oper} {a:Act} {w:World} {Q:Exit->Act->World->Prop} (hw:Region.wanted o (yielded u a.tmps)=true)
  (m x v:Operand) (ho:o.op=.mapUpdate t m x v\/o.op=.insert t m x v) {B:Nat} (hm:a.eval m=.map (some B)) {j:List (List UInt8)} (hn:Fv P K E w B j) {s:ByteArray} (hx:a.eval x=.string s) (hs:s.size<=maxLen) (hv:a.eval v=.bool true)
  (hl:j.length<16777216) (h:∀ w',Fv P K E w' B (s.data.toList::j)->w.grownBy w' (some B)->wpList P u Q rest (a.put o.dst undef) w'):wpList P u Q (o::rest) a w :=
 BigFrame.wpList_want hw fun _ hK=>by
  obtain ⟨D,n,h1,h0,hD,h2⟩:=hn
  obtain ⟨w',aa,h3,h4⟩:=h1.update M.law M.ht (by simp only [maxLen];omega) (keyOf_string_mk (P:=P) M.hk hs) (plainElem_bool M.he true)
  unfold Oper.wp execOp
  have ab:Fv P K E w' B (s.data.toList::j):=by
   refine ⟨_,n+1,h3,by simp;omega,hD.put _ _,fun s'=>?_⟩
   by_cases e:s'=s.data.toList
   ·subst e
    rw [atKey_put_same hD (by trivial)];simp
   ·rw [atKey_put_other (by simpa using e),h2 s']
    simp [e]
  rcases ho with ho | ho <;>
  ·simp only [ho,hm,hx,hv,Sem.run_bind,aa,Result.andThen_ok,Sem.run_pure]
   exact hK _ _ (h w' ab h4)
theorem V7 {P:Program} {j:Array Oper} {rest:List Oper} {o:Oper} {a:Act} {w:World} {Q:Exit->Act->World->Prop} (hw:Region.wanted o (yielded j a.tmps)=true) (t:TypeId)
  (ho:o.op=.makeMap t none) (h:wpList P j Q rest (a.put o.dst (.map (some w.heap.size))) (w.alloc (.map #[] 0))):wpList P j Q (o::rest) a w :=
 BigFrame.wpList_want hw fun _ hK=>by
  unfold Oper.wp execOp
  have hr:(Instr.makeMap t none).run P w=.ok (.map (some w.heap.size)) (w.alloc (.map #[] 0)):=rfl
  simp only [ho,Option.map_none,Sem.run_bind,hr,Result.andThen_ok,Sem.run_pure]
  exact hK _ _ h
def Py (seen:List (List UInt8)) (x:Ai):Bool :=
 !(seen.contains x.name.data.toList)&&decide (1<=x.w)&&decide (x.w<=64)&&decide (1<=x.kind)&&decide (x.kind<=4)&&(decide (x.kind=4)||decide (x.init=0))
def Cp:List (List UInt8)->List Ai->Bool
 | _,[]=>true
 | seen,x::l=>Py seen x&&Cp (x.name.data.toList::seen) l
theorem Zp:Ag9 Tryz.prog 170 9 4:=⟨string_keyed Tryz.underlying9,Tryz.underlying170,Tryz.underlying9,Tryz.underlying4,fun _=>by kernel_rfl⟩
theorem M4 (ls:List Ai) (s:Value) (w:World) (hS:Cq w s ls) (ap:∀ x∈ls,x.wf) (au:ls.length<=1048576) :
  Calls Tryz.prog 93 #[s] w fun r w'=>r=.returned (.bool (Cp [[]] ls))/\Ext w w':=by
 have aq:=Jh ap
 clear ap
 obtain ⟨a,b,o,cap,hs,aw,ax,ha,hr⟩:=hS.open
 subst hs
 have HR:=Jh hr
 have HA:=Jh ha
 clear hr ha hS
 have HM:=Jh (Fv.made (P:=Tryz.prog) (K:=9) (E:=4) w)
 have HX:=Jh (Ab w (.map #[] 0))
 go_enter Tryz.func93,Tryz.ntmps93
 go_wp2_with (first | ((with_reducible show Jw (Op.makeMap _ _));refine V7 rfl _ rfl ?_) | ((with_reducible show Jw (Op.insert _ _ _ _));refine Iz Zp rfl _ _ _ (.inr rfl) rfl HM.out rfl (Nat.zero_le _) rfl (Nat.lt_of_lt_of_le (Nat.zero_lt_succ 0) (by decide)) ?_;intro w1 af ao))
 have ar:=Jh (HX.out.grown ao (Nat.le_refl _))
 have am:=Jh af
 clear af ao HM
 go_loopw [5,10] (fun _ i wr=>∃ k:Nat,k<=ls.length/\i=.int .i64 k/\(∃ u,Fv Tryz.prog 9 4 wr w.heap.size u/\u.length<=k+1/\Cp [[]] ls=Cp u (ls.drop k))/\Ext w wr) (fun _ i _=>ls.length-(intOf i).toNat)
 case atStart=>exact ⟨0,Nat.zero_le _,rfl,⟨_,am.out,Nat.le_refl _,rfl⟩,ar.out⟩
 case round =>
  obtain ⟨k,hk,rfl,⟨u,af,ay,hm⟩,hB⟩:=hrel
  have HN:=Jh af
  have HM:=Jh hm
  clear af hm am
  by_cases al:k<ls.length
  ·have he:=Cq.get (HR.out.mono fun x _ b o h=>C6.ext' hB h) al
   obtain rfl:=HA.out (by omega)
   have HW:=Jh (aq.out _ (List.getElem_mem al))
   have hd:=List.drop_eq_getElem_cons al
   generalize ls[k]=x at *
   have hm:=HM.out
   rw [hd,Cp] at hm
   have aj:=Jh hm
   have HE:=Jh he
   clear hm hd HM he
   have j:=Jh (Ab wr (.cells x.cells.toArray 37))
   have ai:=Jh (Has.alloc wr x.cells 37)
   have g0:=ai.out 0 _ rfl
   have g1:=ai.out 1 _ rfl
   have g2:=ai.out 2 _ rfl
   have g3:=ai.out 3 _ rfl
   obtain ⟨c,hc⟩:∃ c,u.contains x.name.data.toList=c:=⟨_,rfl⟩
   have HC:=Jh hc
   clear hc
   have av:w.heap.size<wr.heap.size:=HN.out.lt
   cases hok:Py u x with
   | true =>
    have ab:=hok
    unfold Py at ab
    rw [HC.out] at ab
    simp only [Bool.and_eq_true,Bool.or_eq_true,decide_eq_true_eq,Bool.not_eq_true'] at ab
    obtain ⟨⟨⟨⟨⟨q0,q1⟩,q2⟩,q3⟩,q4⟩,q5⟩:=ab
    subst q0
    have ac:=Jh hok
    clear hok
    by_cases ae:x.kind=4
    ·have b1:(x.kind != 4)=false:=by rw [bne_eq_false_iff_eq];exact ae
     clear q5 ae
     go_wp2_with (first | ((with_reducible show Jl 37);refine Aa rfl 37 _ rfl rfl (HE.out) Br rfl ?_) | ((with_reducible show Js 37);refine Ad rfl 37 _ _ rfl rfl (by first | rfl | simp) rfl Br (rfl) rfl (by rfl) ?_) | ((with_reducible show Jw (Op.lookup _ _ _ _));refine Gy Zp rfl _ _ rfl rfl (HN.out.ext j.out) rfl HW.out.2.2.2 ?_;rw [HC.out]) | ((with_reducible show Jw (Op.mapUpdate _ _ _ _));refine Iz Zp rfl _ _ _ (.inl rfl) rfl (HN.out.ext j.out) rfl HW.out.2.2.2 rfl (by omega) ?_;intro w2 ag ak))
     go_roundw
     case rel=>exact ⟨k+1,by omega,by go_num,⟨_,ag,by simp;omega,by rw [aj.out,ac.out,Bool.true_and]⟩,(hB.trans j.out).grown ak (Nat.le_refl _)⟩
     case measure=>simp [intOf];omega
    ·have b1:(x.kind != 4)=true:=by rw [bne_iff_ne];exact ae
     have b2:(x.init != 0)=false:=by rw [bne_eq_false_iff_eq];exact q5.resolve_left ae
     clear q5 ae
     go_wp2_with (first | ((with_reducible show Jl 37);refine Aa rfl 37 _ rfl rfl (HE.out) Br rfl ?_) | ((with_reducible show Js 37);refine Ad rfl 37 _ _ rfl rfl (by first | rfl | simp) rfl Br (rfl) rfl (by rfl) ?_) | ((with_reducible show Jw (Op.lookup _ _ _ _));refine Gy Zp rfl _ _ rfl rfl (HN.out.ext j.out) rfl HW.out.2.2.2 ?_;rw [HC.out]) | ((with_reducible show Jw (Op.mapUpdate _ _ _ _));refine Iz Zp rfl _ _ _ (.inl rfl) rfl (HN.out.ext j.out) rfl HW.out.2.2.2 rfl (by omega) ?_;intro w2 ag ak))
     go_roundw
     case rel=>exact ⟨k+1,by omega,by go_num,⟨_,ag,by simp;omega,by rw [aj.out,ac.out,Bool.true_and]⟩,(hB.trans j.out).grown ak (Nat.le_refl _)⟩
     case measure=>simp [intOf];omega
   | false =>
    have ac:=Jh hok
    have aa:Cp [[]] ls=false:=by rw [aj.out,ac.out];rfl
    have HF:=Jh aa
    clear aa hok
    have an:c=true\/c=false/\(x.w<1\/64<x.w\/x.kind<1\/4<x.kind\/(1<=x.w/\x.w<=64/\1<=x.kind/\x.kind<=4/\x.kind≠4/\x.init≠0)):=by
     have h:=ac.out
     unfold Py at h
     rw [HC.out] at h
     cases c
     ·right
      refine ⟨rfl,?_⟩
      by_cases h1:x.w<1
      ·exact .inl h1
      by_cases h2:64<x.w
      ·exact .inr (.inl h2)
      by_cases h3:x.kind<1
      ·exact .inr (.inr (.inl h3))
      by_cases h4:4<x.kind
      ·exact .inr (.inr (.inr (.inl h4)))
      by_cases h5:x.kind=4
      ·exfalso;simp [h5] at h;omega
      by_cases h6:x.init=0
      ·exfalso;simp [h6] at h;omega
      exact .inr (.inr (.inr (.inr ⟨by omega,by omega,by omega,by omega,h5,h6⟩)))
     ·exact .inl rfl
    have b1:x.kind≠4->(x.kind != 4)=true:=fun h=>by rw [bne_iff_ne];exact h
    have b2:x.init≠0->(x.init != 0)=true:=fun h=>by rw [bne_iff_ne];exact h
    have B1:=Jh b1
    have B2:=Jh b2
    clear b1 b2
    rcases an with rfl | ⟨rfl,h1 | h1 | h1 | h1 | ⟨h1,h2,h3,h4,h5,h6⟩⟩
    rotate_left 5
    ·have b1:=B1.out h5
     have b2:=B2.out h6
     clear h5 h6
     go_wp2_with (first | ((with_reducible show Jl 37);refine Aa rfl 37 _ rfl rfl (HE.out) Br rfl ?_) | ((with_reducible show Js 37);refine Ad rfl 37 _ _ rfl rfl (by first | rfl | simp) rfl Br (rfl) rfl (by rfl) ?_) | ((with_reducible show Jw (Op.lookup _ _ _ _));refine Gy Zp rfl _ _ rfl rfl (HN.out.ext j.out) rfl HW.out.2.2.2 ?_;rw [HC.out]))
     all_goals go_ret
     all_goals exact ⟨Af HF.out.symm,hB.trans j.out⟩
    all_goals (go_wp2_with (first | ((with_reducible show Jl 37);refine Aa rfl 37 _ rfl rfl (HE.out) Br rfl ?_) | ((with_reducible show Js 37);refine Ad rfl 37 _ _ rfl rfl (by first | rfl | simp) rfl Br (rfl) rfl (by rfl) ?_) | ((with_reducible show Jw (Op.lookup _ _ _ _));refine Gy Zp rfl _ _ rfl rfl (HN.out.ext j.out) rfl HW.out.2.2.2 ?_;rw [HC.out])))
    all_goals go_ret
    all_goals exact ⟨Af HF.out.symm,hB.trans j.out⟩
  ·obtain rfl:k=ls.length:=by omega
   have aa:Cp [[]] ls=true:=by rw [HM.out,List.drop_length,Cp]
   have HF:=Jh aa
   clear aa
   go_wp2_with fail
   go_ret
   exact ⟨Af HF.out.symm,hB⟩
end Go.Proofs.YtbliplladmamoaaGreat
