/- Laws and walks that a claim of this seat leans on: Sigs. -/
import Derived.Test.YtpngepnfinbaoaaGreatC01
import Derived.Test.YtpngepnfinbaoaaGreatC02
import Derived.Maps.OwnOps
import Derived.Maps.Views
import Derived.WideMake
import Derived.Test.YtpngepnfinbaoaaGreatC00
set_option maxRecDepth 100000
set_option maxHeartbeats 8000000
set_option linter.all false
namespace Go.Proofs.YtpngepnfinbaoaaGreat
open Go.RowKit Go.WideMaps Go.Maps
/-! ### a set of names, as a map of bools that the call makes -/
structure BMap (P:Program) (t K E:TypeId):Prop where
 law:Keyed P K
 ht:P.underlying t=some (.map K E)
 hk:P.underlying K=some .string
 he:P.underlying E=some .bool
 hz:∀ w,(zeroValue E).run P w=.ok (.bool false) w
def NameSet (P:Program) (K E:TypeId) (w:World) (B:Nat) (seen:List (List UInt8)):Prop :=
 ∃ (D:DataW Unit) (n:Nat),w.ownsMap P K (plainElem P E) B n D/\n<=seen.length/\IsMap D/\∀ s,D.atKey (.string s) (.lit (.bool false))=.lit (.bool (seen.contains s))
theorem plainElem_bool_inv {P:Program} {e:TypeId} (he:P.underlying e=some .bool) {v:Value} {z:DataW Unit × List MemPlace} (h:plainElem P e v=some z):∃ c,v=.bool c/\z=(.lit (.bool c),[]):=by
 unfold plainElem at h
 rw [he] at h
 cases v<;>simp at h
 exact ⟨_,rfl,h.symm⟩
theorem NameSet.made {P:Program} {K E:TypeId} (w:World):NameSet P K E (w.alloc (.map #[] 0)) w.heap.size [] :=
 ⟨.map [],0,World.ownsMap_made _ _ _ _,Nat.le_refl _,isMap_empty,fun s=>by simp [DataW.atKey]⟩
theorem NameSet.ext {P:Program} {K E:TypeId} {w w':World} {B:Nat} {seen:List (List UInt8)} (h:NameSet P K E w B seen) (hx:Ext w w'):NameSet P K E w' B seen:=by
 obtain ⟨D,n,h1,h2⟩:=h
 exact ⟨D,n,h1.kept (gb_ext hx w.heap.size) (by have:=h1.lt;intro e;injection e;omega),h2⟩
theorem NameSet.lt {P:Program} {K E:TypeId} {w:World} {B:Nat} {seen:List (List UInt8)} (h:NameSet P K E w B seen):B<w.heap.size:=by
 obtain ⟨D,n,h1,h2⟩:=h;exact h1.lt
theorem wpList_ns_look {P:Program} {t K E:TypeId} (M:BMap P t K E) {ops:Array Oper} {rest:List Oper} {o:Oper} {a:Act} {w:World} {Q:Exit->Act->World->Prop} (hw:Region.wanted o (yielded ops a.tmps)=true)
  (m x:Operand) (ho:o.op=.lookup t m x false) {B:Nat} (hm:a.eval m=.map (some B)) {seen:List (List UInt8)} (hn:NameSet P K E w B seen) {s:ByteArray} (hx:a.eval x=.string s) (hs:s.size<=maxLen)
  (h:wpList P ops Q rest (a.put o.dst (.bool (seen.contains s.data.toList))) w):wpList P ops Q (o::rest) a w :=
 BigFrame.wpList_want hw fun _ hK=>by
  obtain ⟨D,n,h1,-,-,h2⟩:=hn
  obtain ⟨v,ps,hrun,hv⟩:=h1.lookup M.law M.ht (M.hz w) (plainElem_bool M.he false) (keyOf_string_mk (P:=P) M.hk hs)
  obtain ⟨c,rfl,hc⟩:=plainElem_bool_inv M.he hv
  have h3:=h2 s.data.toList
  simp only [Prod.mk.injEq] at hc
  rw [hc.1] at h3
  simp only [DataW.lit.injEq,Lit.bool.injEq] at h3
  subst h3
  unfold Oper.wp execOp
  simp only [ho,hm,hx,Sem.run_bind,hrun,Result.andThen_ok,Sem.run_pure]
  exact hK _ _ h
theorem wpList_ns_put {P:Program} {t K E:TypeId} (M:BMap P t K E) {ops:Array Oper} {rest:List Oper} {o:Oper} {a:Act} {w:World} {Q:Exit->Act->World->Prop} (hw:Region.wanted o (yielded ops a.tmps)=true)
  (m x v:Operand) (ho:o.op=.mapUpdate t m x v\/o.op=.insert t m x v) {B:Nat} (hm:a.eval m=.map (some B)) {seen:List (List UInt8)} (hn:NameSet P K E w B seen) {s:ByteArray} (hx:a.eval x=.string s) (hs:s.size<=maxLen) (hv:a.eval v=.bool true)
  (hl:seen.length<16777216) (h:∀ w',NameSet P K E w' B (s.data.toList::seen)->w.grownBy w' (some B)->wpList P ops Q rest (a.put o.dst undef) w'):wpList P ops Q (o::rest) a w :=
 BigFrame.wpList_want hw fun _ hK=>by
  obtain ⟨D,n,h1,h0,hD,h2⟩:=hn
  obtain ⟨w',hrun,h3,h4⟩:=h1.update M.law M.ht (by simp only [maxLen];omega) (keyOf_string_mk (P:=P) M.hk hs) (plainElem_bool M.he true)
  unfold Oper.wp execOp
  have hns:NameSet P K E w' B (s.data.toList::seen):=by
   refine ⟨_,n+1,h3,by simp;omega,hD.put _ _,fun s'=>?_⟩
   by_cases e:s'=s.data.toList
   ·subst e
    rw [atKey_put_same hD (by trivial)];simp
   ·rw [atKey_put_other (by simpa using e),h2 s']
    simp [e]
  rcases ho with ho | ho <;>
  ·simp only [ho,hm,hx,hv,Sem.run_bind,hrun,Result.andThen_ok,Sem.run_pure]
   exact hK _ _ (h w' hns h4)
theorem wpList_mkmap {P:Program} {ops:Array Oper} {rest:List Oper} {o:Oper} {a:Act} {w:World} {Q:Exit->Act->World->Prop} (hw:Region.wanted o (yielded ops a.tmps)=true) (t:TypeId)
  (ho:o.op=.makeMap t none) (h:wpList P ops Q rest (a.put o.dst (.map (some w.heap.size))) (w.alloc (.map #[] 0))):wpList P ops Q (o::rest) a w :=
 BigFrame.wpList_want hw fun _ hK=>by
  unfold Oper.wp execOp
  have hr:(Instr.makeMap t none).run P w=.ok (.map (some w.heap.size)) (w.alloc (.map #[] 0)):=rfl
  simp only [ho,Option.map_none,Sem.run_bind,hr,Result.andThen_ok,Sem.run_pure]
  exact hK _ _ h
def sigOk (seen:List (List UInt8)) (x:Signal):Bool :=
 !(seen.contains x.name.data.toList)&&decide (1<=x.w)&&decide (x.w<=64)&&decide (1<=x.kind)&&decide (x.kind<=4)&&(decide (x.kind=4)||decide (x.init=0))
def sigsOk:List (List UInt8)->List Signal->Bool
 | _,[]=>true
 | seen,x::l=>sigOk seen x&&sigsOk (x.name.data.toList::seen) l
theorem bmap:BMap Tryz.prog 168 9 4:=⟨string_keyed Tryz.underlying9,Tryz.underlying168,Tryz.underlying9,Tryz.underlying4,fun _=>by kernel_rfl⟩
theorem signals_calls (ls:List Signal) (s:Value) (w:World) (hS:Sigs w s ls) (hwf:∀ x∈ls,x.wf) (hlen:ls.length<=1048576) :
  Calls Tryz.prog 85 #[s] w fun r w'=>r=.returned (.bool (sigsOk [[]] ls))/\Ext w w':=by
 have HWF:=Jh hwf
 clear hwf
 obtain ⟨a,b,o,cap,hs,hc1,hc2,ha,hr⟩:=hS.open
 subst hs
 have HR:=Jh hr
 have HA:=Jh ha
 clear hr ha hS
 have HM:=Jh (NameSet.made (P:=Tryz.prog) (K:=9) (E:=4) w)
 have HX:=Jh (ext_alloc w (.map #[] 0))
 go_enter Tryz.func85,Tryz.ntmps85
 go_wp2_with (first | ((with_reducible show Jw (Op.makeMap _ _));refine wpList_mkmap rfl _ rfl ?_) | ((with_reducible show Jw (Op.insert _ _ _ _));refine wpList_ns_put bmap rfl _ _ _ (.inr rfl) rfl HM.out rfl (Nat.zero_le _) rfl (Nat.lt_of_lt_of_le (Nat.zero_lt_succ 0) (by decide)) ?_;intro w1 hns hg1))
 have HX1:=Jh (HX.out.grown hg1 (Nat.le_refl _))
 have HNS:=Jh hns
 clear hns hg1 HM
 go_loopw [5,10] (fun _ i wr=>∃ k:Nat,k<=ls.length/\i=.int .i64 k/\(∃ seen,NameSet Tryz.prog 9 4 wr w.heap.size seen/\seen.length<=k+1/\sigsOk [[]] ls=sigsOk seen (ls.drop k))/\Ext w wr) (fun _ i _=>ls.length-(intOf i).toNat)
 case atStart=>exact ⟨0,Nat.zero_le _,rfl,⟨_,HNS.out,Nat.le_refl _,rfl⟩,HX1.out⟩
 case round =>
  obtain ⟨k,hk,rfl,⟨seen,hns,hsl,hm⟩,hB⟩:=hrel
  have HN:=Jh hns
  have HM:=Jh hm
  clear hns hm HNS
  by_cases hlt:k<ls.length
  ·have he:=Sigs.get (HR.out.mono fun x _ b o h=>SigAt.ext' hB h) hlt
   obtain rfl:=HA.out (by omega)
   have HW:=Jh (HWF.out _ (List.getElem_mem hlt))
   have hd:=List.drop_eq_getElem_cons hlt
   generalize ls[k]=x at *
   have hm:=HM.out
   rw [hd,sigsOk] at hm
   have HM2:=Jh hm
   have HE:=Jh he
   clear hm hd HM he
   have HXX:=Jh (ext_alloc wr (.cells x.cells.toArray 50))
   have HBX:=Jh (Has.alloc wr x.cells 50)
   have g0:=HBX.out 0 _ rfl
   have g1:=HBX.out 1 _ rfl
   have g2:=HBX.out 2 _ rfl
   have g3:=HBX.out 3 _ rfl
   obtain ⟨c,hc⟩:∃ c,seen.contains x.name.data.toList=c:=⟨_,rfl⟩
   have HC:=Jh hc
   clear hc
   have hlt2:w.heap.size<wr.heap.size:=HN.out.lt
   cases hok:sigOk seen x with
   | true =>
    have hok':=hok
    unfold sigOk at hok'
    rw [HC.out] at hok'
    simp only [Bool.and_eq_true,Bool.or_eq_true,decide_eq_true_eq,Bool.not_eq_true'] at hok'
    obtain ⟨⟨⟨⟨⟨q0,q1⟩,q2⟩,q3⟩,q4⟩,q5⟩:=hok'
    subst q0
    have HOK:=Jh hok
    clear hok
    by_cases hk4:x.kind=4
    ·have b1:(x.kind != 4)=false:=by rw [bne_eq_false_iff_eq];exact hk4
     clear q5 hk4
     go_wp2_with (first | ((with_reducible show Jl 50);refine Jm 50 (HE.out) agg_Signal rfl ?_) | ((with_reducible show Js 50);refine wpList_store_new rfl 50 _ _ rfl rfl (by first | rfl | simp) rfl agg_Signal (rfl) rfl (by rfl) ?_) | ((with_reducible show Jw (Op.lookup _ _ _ _));refine wpList_ns_look bmap rfl _ _ rfl rfl (HN.out.ext HXX.out) rfl HW.out.2.2.2 ?_;rw [HC.out]) | ((with_reducible show Jw (Op.mapUpdate _ _ _ _));refine wpList_ns_put bmap rfl _ _ _ (.inl rfl) rfl (HN.out.ext HXX.out) rfl HW.out.2.2.2 rfl (by omega) ?_;intro w2 hns2 hg2))
     go_roundw
     case rel=>exact ⟨k+1,by omega,by go_num,⟨_,hns2,by simp;omega,by rw [HM2.out,HOK.out,Bool.true_and]⟩,(hB.trans HXX.out).grown hg2 (Nat.le_refl _)⟩
     case measure=>simp [intOf];omega
    ·have b1:(x.kind != 4)=true:=by rw [bne_iff_ne];exact hk4
     have b2:(x.init != 0)=false:=by rw [bne_eq_false_iff_eq];exact q5.resolve_left hk4
     clear q5 hk4
     go_wp2_with (first | ((with_reducible show Jl 50);refine Jm 50 (HE.out) agg_Signal rfl ?_) | ((with_reducible show Js 50);refine wpList_store_new rfl 50 _ _ rfl rfl (by first | rfl | simp) rfl agg_Signal (rfl) rfl (by rfl) ?_) | ((with_reducible show Jw (Op.lookup _ _ _ _));refine wpList_ns_look bmap rfl _ _ rfl rfl (HN.out.ext HXX.out) rfl HW.out.2.2.2 ?_;rw [HC.out]) | ((with_reducible show Jw (Op.mapUpdate _ _ _ _));refine wpList_ns_put bmap rfl _ _ _ (.inl rfl) rfl (HN.out.ext HXX.out) rfl HW.out.2.2.2 rfl (by omega) ?_;intro w2 hns2 hg2))
     go_roundw
     case rel=>exact ⟨k+1,by omega,by go_num,⟨_,hns2,by simp;omega,by rw [HM2.out,HOK.out,Bool.true_and]⟩,(hB.trans HXX.out).grown hg2 (Nat.le_refl _)⟩
     case measure=>simp [intOf];omega
   | false =>
    have HOK:=Jh hok
    have hfin:sigsOk [[]] ls=false:=by rw [HM2.out,HOK.out];rfl
    have HF:=Jh hfin
    clear hfin hok
    have hbad:c=true\/c=false/\(x.w<1\/64<x.w\/x.kind<1\/4<x.kind\/(1<=x.w/\x.w<=64/\1<=x.kind/\x.kind<=4/\x.kind≠4/\x.init≠0)):=by
     have h:=HOK.out
     unfold sigOk at h
     rw [HC.out] at h
     cases c
     ·right
      refine ⟨rfl,?_⟩
      by_cases h1:x.w<1
      ·exact .inl h1
      by_cases h2:64<x.w
      ·exact .inr (.inl h2)
      by_cases h3:x.kind<1
      ·exact .inr (.inr (.inl h3))
      by_cases h4:4<x.kind
      ·exact .inr (.inr (.inr (.inl h4)))
      by_cases h5:x.kind=4
      ·exfalso;simp [h5] at h;omega
      by_cases h6:x.init=0
      ·exfalso;simp [h6] at h;omega
      exact .inr (.inr (.inr (.inr ⟨by omega,by omega,by omega,by omega,h5,h6⟩)))
     ·exact .inl rfl
    have b1:x.kind≠4->(x.kind != 4)=true:=fun h=>by rw [bne_iff_ne];exact h
    have b2:x.init≠0->(x.init != 0)=true:=fun h=>by rw [bne_iff_ne];exact h
    have B1:=Jh b1
    have B2:=Jh b2
    clear b1 b2
    rcases hbad with rfl | ⟨rfl,h1 | h1 | h1 | h1 | ⟨h1,h2,h3,h4,h5,h6⟩⟩
    rotate_left 5
    ·have b1:=B1.out h5
     have b2:=B2.out h6
     clear h5 h6
     go_wp2_with (first | ((with_reducible show Jl 50);refine Jm 50 (HE.out) agg_Signal rfl ?_) | ((with_reducible show Js 50);refine wpList_store_new rfl 50 _ _ rfl rfl (by first | rfl | simp) rfl agg_Signal (rfl) rfl (by rfl) ?_) | ((with_reducible show Jw (Op.lookup _ _ _ _));refine wpList_ns_look bmap rfl _ _ rfl rfl (HN.out.ext HXX.out) rfl HW.out.2.2.2 ?_;rw [HC.out]))
     all_goals go_ret
     all_goals exact ⟨ret_bool HF.out.symm,hB.trans HXX.out⟩
    all_goals (go_wp2_with (first | ((with_reducible show Jl 50);refine Jm 50 (HE.out) agg_Signal rfl ?_) | ((with_reducible show Js 50);refine wpList_store_new rfl 50 _ _ rfl rfl (by first | rfl | simp) rfl agg_Signal (rfl) rfl (by rfl) ?_) | ((with_reducible show Jw (Op.lookup _ _ _ _));refine wpList_ns_look bmap rfl _ _ rfl rfl (HN.out.ext HXX.out) rfl HW.out.2.2.2 ?_;rw [HC.out])))
    all_goals go_ret
    all_goals exact ⟨ret_bool HF.out.symm,hB.trans HXX.out⟩
  ·obtain rfl:k=ls.length:=by omega
   have hfin:sigsOk [[]] ls=true:=by rw [HM.out,List.drop_length,sigsOk]
   have HF:=Jh hfin
   clear hfin
   go_wp2_with fail
   go_ret
   exact ⟨ret_bool HF.out.symm,hB⟩
end Go.Proofs.YtpngepnfinbaoaaGreat
