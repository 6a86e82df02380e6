/- Laws and walks that a claim of this seat leans on: Pair1, Inv, Pair2. -/
import Derived.Test.YtbliplladmamoaaGreatS15
import Derived.Test.YtbliplladmamoaaGreatS03
import Derived.Maps.OwnOps
import Derived.Maps.Views
import Derived.Test.YtbliplladmamoaaGreatS00
set_option maxRecDepth 100000
set_option maxHeartbeats 8000000
set_option linter.all false
namespace Go.Proofs.YtbliplladmamoaaGreat
open Go.RowKit
def Im (w:World) (F:Value) (g:Nat->Nat->Value):Prop :=
 ∃ k lb,F=.func (.func k) #[] lb/\Bj Tryz.prog k/\∀ W,Ext w W->∀ x y:Nat,x<2^64->y<2^64 ->
  Calls Tryz.prog k (#[.int .u64 (x:Int),.int .u64 (y:Int)]++lb) W fun r W'=>r=.returned (g x y)/\Ext W W'
theorem Im.ext {w w':World} {F:Value} {g:Nat->Nat->Value} (h:Im w F g) (hx:Ext w w'):Im w' F g:=by
 obtain ⟨k,lb,h1,h2,h3⟩:=h
 exact ⟨k,lb,h1,h2,fun W hW=>h3 W (hx.trans hW)⟩
abbrev vN (g:Nat->Nat->Nat):Nat->Nat->Value:=fun x y=>.int .u64 (g x y:Int)
abbrev vB (g:Nat->Nat->Bool):Nat->Nat->Value:=fun x y=>.bool (g x y)
def fLt (x y:Nat):Bool:=decide (x<y)
def fEq (x y:Nat):Bool:=decide (x=y)
def fNe (x y:Nat):Bool:=decide (x≠y)
def fGe (x y:Nat):Bool:=decide (y<=x)
def fLe (x y:Nat):Bool:=decide (x<=y)
def fGt (x y:Nat):Bool:=decide (y<x)
def Va (x y:Nat):Nat:=x &&& y
def fOr (x y:Nat):Nat:=x ||| y
def Ad0 (x y:Nat):Nat:=x ^^^ y
def Adx (x y:Nat):Nat:=(x+y)%18446744073709551616
def Adz (x y:Nat):Nat:=(x+18446744073709551616-y)%18446744073709551616
def Ady (x y:Nat):Nat:=x*y%18446744073709551616
theorem Oa:Bj Tryz.prog 195:=A9 Tryz.func195 (by kernel_rfl) rfl
theorem Mi (w:World):Im w (.func (.func 195) #[] #[]) (vB fLt):=by
 refine ⟨_,_,rfl,Oa,fun W _ x y hx hy=>?_⟩
 show Calls Tryz.prog 195 #[.int .u64 (x:Int),.int .u64 (y:Int)] W _
 go_enter Tryz.func195,Tryz.ntmps195
 go_wp2_with fail
 go_ret
 refine ⟨congrArg (fun b=>Ending.returned (.bool b)) ?_,Below.refl _ _⟩
 unfold fLt
 rw [Bool.eq_iff_iff]
 try simp
 all_goals omega
theorem Aeh:Bj Tryz.prog 203:=A9 Tryz.func203 (by kernel_rfl) rfl
theorem Af8 (w:World):Im w (.func (.func 203) #[] #[]) (vB fEq):=by
 refine ⟨_,_,rfl,Aeh,fun W _ x y hx hy=>?_⟩
 show Calls Tryz.prog 203 #[.int .u64 (x:Int),.int .u64 (y:Int)] W _
 go_enter Tryz.func203,Tryz.ntmps203
 go_wp2_with fail
 go_ret
 refine ⟨congrArg (fun b=>Ending.returned (.bool b)) ?_,Below.refl _ _⟩
 unfold fEq
 rw [Bool.eq_iff_iff]
 try simp
 all_goals omega
theorem Aei:Bj Tryz.prog 204:=A9 Tryz.func204 (by kernel_rfl) rfl
theorem Agc (w:World):Im w (.func (.func 204) #[] #[]) (vB fNe):=by
 refine ⟨_,_,rfl,Aei,fun W _ x y hx hy=>?_⟩
 show Calls Tryz.prog 204 #[.int .u64 (x:Int),.int .u64 (y:Int)] W _
 go_enter Tryz.func204,Tryz.ntmps204
 go_wp2_with fail
 go_ret
 refine ⟨congrArg (fun b=>Ending.returned (.bool b)) ?_,Below.refl _ _⟩
 unfold fNe
 rw [Bool.eq_iff_iff]
 try simp
 all_goals omega
theorem Aeb:Bj Tryz.prog 196:=A9 Tryz.func196 (by kernel_rfl) rfl
theorem Ado (w:World):Im w (.func (.func 196) #[] #[]) (vN Va):=by
 refine ⟨_,_,rfl,Aeb,fun W _ x y hx hy=>?_⟩
 show Calls Tryz.prog 196 #[.int .u64 (x:Int),.int .u64 (y:Int)] W _
 go_enter Tryz.func196,Tryz.ntmps196
 go_wp2_with fail
 go_ret
 refine ⟨congrArg (fun n=>Ending.returned (.int .u64 n)) ?_,Below.refl _ _⟩
 unfold Va
 first | exact Gr hx hy | exact Lc hx hy | exact Of hx hy | (rw [IntKind.wrap_u64];omega) | (rw [IntKind.wrap_u64,<-Int.natCast_mul];omega)
theorem Aec:Bj Tryz.prog 197:=A9 Tryz.func197 (by kernel_rfl) rfl
theorem Agd (w:World):Im w (.func (.func 197) #[] #[]) (vN fOr):=by
 refine ⟨_,_,rfl,Aec,fun W _ x y hx hy=>?_⟩
 show Calls Tryz.prog 197 #[.int .u64 (x:Int),.int .u64 (y:Int)] W _
 go_enter Tryz.func197,Tryz.ntmps197
 go_wp2_with fail
 go_ret
 refine ⟨congrArg (fun n=>Ending.returned (.int .u64 n)) ?_,Below.refl _ _⟩
 unfold fOr
 first | exact Gr hx hy | exact Lc hx hy | exact Of hx hy | (rw [IntKind.wrap_u64];omega) | (rw [IntKind.wrap_u64,<-Int.natCast_mul];omega)
theorem Aed:Bj Tryz.prog 198:=A9 Tryz.func198 (by kernel_rfl) rfl
theorem Adr (w:World):Im w (.func (.func 198) #[] #[]) (vN Ad0):=by
 refine ⟨_,_,rfl,Aed,fun W _ x y hx hy=>?_⟩
 show Calls Tryz.prog 198 #[.int .u64 (x:Int),.int .u64 (y:Int)] W _
 go_enter Tryz.func198,Tryz.ntmps198
 go_wp2_with fail
 go_ret
 refine ⟨congrArg (fun n=>Ending.returned (.int .u64 n)) ?_,Below.refl _ _⟩
 unfold Ad0
 first | exact Gr hx hy | exact Lc hx hy | exact Of hx hy | (rw [IntKind.wrap_u64];omega) | (rw [IntKind.wrap_u64,<-Int.natCast_mul];omega)
theorem Aee:Bj Tryz.prog 199:=A9 Tryz.func199 (by kernel_rfl) rfl
theorem Adn (w:World):Im w (.func (.func 199) #[] #[]) (vN Adx):=by
 refine ⟨_,_,rfl,Aee,fun W _ x y hx hy=>?_⟩
 show Calls Tryz.prog 199 #[.int .u64 (x:Int),.int .u64 (y:Int)] W _
 go_enter Tryz.func199,Tryz.ntmps199
 go_wp2_with fail
 go_ret
 refine ⟨congrArg (fun n=>Ending.returned (.int .u64 n)) ?_,Below.refl _ _⟩
 unfold Adx
 first | exact Gr hx hy | exact Lc hx hy | exact Of hx hy | (rw [IntKind.wrap_u64];omega) | (rw [IntKind.wrap_u64,<-Int.natCast_mul];omega)
theorem Aef:Bj Tryz.prog 200:=A9 Tryz.func200 (by kernel_rfl) rfl
theorem Adq (w:World):Im w (.func (.func 200) #[] #[]) (vN Adz):=by
 refine ⟨_,_,rfl,Aef,fun W _ x y hx hy=>?_⟩
 show Calls Tryz.prog 200 #[.int .u64 (x:Int),.int .u64 (y:Int)] W _
 go_enter Tryz.func200,Tryz.ntmps200
 go_wp2_with fail
 go_ret
 refine ⟨congrArg (fun n=>Ending.returned (.int .u64 n)) ?_,Below.refl _ _⟩
 unfold Adz
 first | exact Gr hx hy | exact Lc hx hy | exact Of hx hy | (rw [IntKind.wrap_u64];omega) | (rw [IntKind.wrap_u64,<-Int.natCast_mul];omega)
theorem Aeg:Bj Tryz.prog 201:=A9 Tryz.func201 (by kernel_rfl) rfl
theorem Adp (w:World):Im w (.func (.func 201) #[] #[]) (vN Ady):=by
 refine ⟨_,_,rfl,Aeg,fun W _ x y hx hy=>?_⟩
 show Calls Tryz.prog 201 #[.int .u64 (x:Int),.int .u64 (y:Int)] W _
 go_enter Tryz.func201,Tryz.ntmps201
 go_wp2_with fail
 go_ret
 refine ⟨congrArg (fun n=>Ending.returned (.int .u64 n)) ?_,Below.refl _ _⟩
 unfold Ady
 first | exact Gr hx hy | exact Lc hx hy | exact Of hx hy | (rw [IntKind.wrap_u64];omega) | (rw [IntKind.wrap_u64,<-Int.natCast_mul];omega)
theorem Ab3:Bj Tryz.prog 208:=A9 Tryz.func208 (by kernel_rfl) rfl
theorem Abr (w:World):Im w (.func (.func 208) #[] #[]) (vN Va):=by
 refine ⟨_,_,rfl,Ab3,fun W _ x y hx hy=>?_⟩
 show Calls Tryz.prog 208 #[.int .u64 (x:Int),.int .u64 (y:Int)] W _
 go_enter Tryz.func208,Tryz.ntmps208
 go_wp2_with fail
 go_ret
 refine ⟨congrArg (fun n=>Ending.returned (.int .u64 n)) ?_,Below.refl _ _⟩
 unfold Va
 first | exact Gr hx hy | exact Lc hx hy | exact Of hx hy | (rw [IntKind.wrap_u64];omega) | (rw [IntKind.wrap_u64,<-Int.natCast_mul];omega)
theorem Ab4:Bj Tryz.prog 209:=A9 Tryz.func209 (by kernel_rfl) rfl
theorem Zz (w:World):Im w (.func (.func 209) #[] #[]) (vN fOr):=by
 refine ⟨_,_,rfl,Ab4,fun W _ x y hx hy=>?_⟩
 show Calls Tryz.prog 209 #[.int .u64 (x:Int),.int .u64 (y:Int)] W _
 go_enter Tryz.func209,Tryz.ntmps209
 go_wp2_with fail
 go_ret
 refine ⟨congrArg (fun n=>Ending.returned (.int .u64 n)) ?_,Below.refl _ _⟩
 unfold fOr
 first | exact Gr hx hy | exact Lc hx hy | exact Of hx hy | (rw [IntKind.wrap_u64];omega) | (rw [IntKind.wrap_u64,<-Int.natCast_mul];omega)
theorem Ab0:Bj Tryz.prog 205:=A9 Tryz.func205 (by kernel_rfl) rfl
theorem Ab1:Bj Tryz.prog 206:=A9 Tryz.func206 (by kernel_rfl) rfl
theorem Ab2:Bj Tryz.prog 207:=A9 Tryz.func207 (by kernel_rfl) rfl
theorem Z5:Bj Tryz.prog 210:=A9 Tryz.func210 (by kernel_rfl) rfl
theorem Agb (w:World) (D:Nat) (hD:Blk w D #[.func (.func 195) #[] #[]] 216):Im w (.func (.func 205) #[] #[.pointer (some ⟨D,0,none⟩)]) (vB fLe):=by
 refine ⟨_,_,rfl,Ab0,fun W hW x y hx hy=>?_⟩
 show Calls Tryz.prog 205 #[.int .u64 (x:Int),.int .u64 (y:Int),.pointer (some ⟨D,0,none⟩)] W _
 have g0:=(hD.ext hW).has 0 _ rfl
 obtain ⟨k,lb,e1,e2,e3⟩:=Mi W
 injection e1 with e1 _ e4
 injection e1 with e1
 subst e1
 subst e4
 have HC:=Jh (e3 W (Below.refl _ _) y x hy hx)
 clear e3
 go_enter Tryz.func205,Tryz.ntmps205
 go_wp2_with ((with_reducible show Jw (Op.call { callee:=.value (.tmp _),args:=_,argTypes:=_ }));refine As rfl _ _ _ rfl rfl Oa rfl HC.out ?_;intro w1 j)
 go_ret
 refine ⟨congrArg (fun b=>Ending.returned (.bool b)) ?_,j⟩
 unfold fLe fLt
 rw [Bool.eq_iff_iff]
 try simp
theorem Aga (w:World) (D:Nat) (hD:Blk w D #[.func (.func 195) #[] #[]] 216):Im w (.func (.func 206) #[] #[.pointer (some ⟨D,0,none⟩)]) (vB fGt):=by
 refine ⟨_,_,rfl,Ab1,fun W hW x y hx hy=>?_⟩
 show Calls Tryz.prog 206 #[.int .u64 (x:Int),.int .u64 (y:Int),.pointer (some ⟨D,0,none⟩)] W _
 have g0:=(hD.ext hW).has 0 _ rfl
 obtain ⟨k,lb,e1,e2,e3⟩:=Mi W
 injection e1 with e1 _ e4
 injection e1 with e1
 subst e1
 subst e4
 have HC:=Jh (e3 W (Below.refl _ _) y x hy hx)
 clear e3
 go_enter Tryz.func206,Tryz.ntmps206
 go_wp2_with ((with_reducible show Jw (Op.call { callee:=.value (.tmp _),args:=_,argTypes:=_ }));refine As rfl _ _ _ rfl rfl Oa rfl HC.out ?_;intro w1 j)
 go_ret
 refine ⟨congrArg (fun b=>Ending.returned (.bool b)) ?_,j⟩
 unfold fGt fLt
 rw [Bool.eq_iff_iff]
 try simp
theorem Af9 (w:World) (D:Nat) (hD:Blk w D #[.func (.func 195) #[] #[]] 216):Im w (.func (.func 207) #[] #[.pointer (some ⟨D,0,none⟩)]) (vB fGe):=by
 refine ⟨_,_,rfl,Ab2,fun W hW x y hx hy=>?_⟩
 show Calls Tryz.prog 207 #[.int .u64 (x:Int),.int .u64 (y:Int),.pointer (some ⟨D,0,none⟩)] W _
 have g0:=(hD.ext hW).has 0 _ rfl
 obtain ⟨k,lb,e1,e2,e3⟩:=Mi W
 injection e1 with e1 _ e4
 injection e1 with e1
 subst e1
 subst e4
 have HC:=Jh (e3 W (Below.refl _ _) x y hx hy)
 clear e3
 go_enter Tryz.func207,Tryz.ntmps207
 go_wp2_with ((with_reducible show Jw (Op.call { callee:=.value (.tmp _),args:=_,argTypes:=_ }));refine As rfl _ _ _ rfl rfl Oa rfl HC.out ?_;intro w1 j)
 go_ret
 refine ⟨congrArg (fun b=>Ending.returned (.bool b)) ?_,j⟩
 unfold fGe fLt
 rw [Bool.eq_iff_iff]
 try simp
theorem I7 (w:World) (B:Nat) (F:Value) (g:Nat->Nat->Bool) (hB:Blk w B #[F] 216) (hF:Im w F (vB g)):Im w (.func (.func 210) #[] #[.pointer (some ⟨B,0,none⟩)]) (vN fun x y=>b2n (g x y)):=by
 refine ⟨_,_,rfl,Z5,fun W hW x y hx hy=>?_⟩
 show Calls Tryz.prog 210 #[.int .u64 (x:Int),.int .u64 (y:Int),.pointer (some ⟨B,0,none⟩)] W _
 have g0:=(hB.ext hW).has 0 _ rfl
 obtain ⟨k,lb,rfl,e2,e3⟩:=hF
 have HC:=Jh (e3 W hW x y hx hy)
 clear e3
 obtain ⟨c,hc⟩:∃ c,g x y=c:=⟨_,rfl⟩
 simp only [vB,vN,hc] at HC ⊢
 cases c
 all_goals go_enter Tryz.func210,Tryz.ntmps210
 all_goals go_wp2_with (first | ((with_reducible show Jw (Op.call { callee:=.value (.tmp _),args:=_,argTypes:=_ }));refine As rfl _ _ _ rfl rfl e2 rfl HC.out ?_;intro w1 j) | (go_at_call 189;refine (Ka _ _).mono ?_;rintro r w2 ⟨rfl,rfl⟩))
 all_goals go_ret
 all_goals exact ⟨rfl,j⟩
def left (n:Nat) (listed:Array Bool):Nat:=((List.range n).filter fun i=>!(listed.getD i true)).length
theorem Ye {l:List Nat} (hn:l.Nodup) {p q:Nat->Bool} {i:Nat} (hi:i∈l) (hp:p i=true) (hq:q i=false) (aa:∀ j,j≠i->q j=p j):(l.filter q).length+1=(l.filter p).length:=by
 induction l with
 | nil=>cases hi
 | cons x l ih =>
  obtain ⟨hx,hl⟩:=List.nodup_cons.1 hn
  by_cases u:x=i
  ·subst u
   have e:l.filter q=l.filter p:=List.filter_congr fun j hj=>aa j fun e=>hx (e ▸ hj)
   rw [List.filter_cons,List.filter_cons,hp,hq,e];simp
  ·have ab:i∈l:=by
    rcases List.mem_cons.1 hi with h | h
    ·exact absurd h.symm u
    ·exact h
   have:=ih hl ab
   rw [List.filter_cons,List.filter_cons,aa x u]
   split
   ·simp only [List.length_cons];omega
   ·exact this
theorem Ob {n i:Nat} {u:Array Bool} (hs:u.size=n) (hi:u.getD i true=false):left n (u.setIfInBounds i true)+1=left n u:=by
 have aa:i<u.size:=by
  rcases Nat.lt_or_ge i u.size with h | h
  ·exact h
  ·simp [Array.getD,show ¬ i<u.size by omega] at hi
 refine Ye List.nodup_range (i:=i) (List.mem_range.2 (by omega)) (by rw [hi];rfl) ?_ ?_
 ·simp [Array.getD,aa]
 ·intro j hj
  rw [getD_set_ne true (fun e=>hj e.symm)]
section
variable {P:Program} {md:Region.Mode} {ops:Array Oper} {Q:Exit->Act->World->Prop} {S:World->Prop}
def Afs (md:Region.Mode) (ops:Array Oper):Bool:=(List.range ops.size).all fun i=>match ops[i]? with
 | some o=>o.after.toList.all fun e=>!(Region.binds md e)||decide (e.on<i)
 | none=>true
theorem Aal (hu:Afs md ops=true) {u:Array Bool} (hs:u.size=ops.size) (h:left ops.size u≠0):Region.ready md ops u≠[]:=by
 have hex:∃ i,u.getD i true=false:=by
  have:(List.range ops.size).filter (fun i=>!(u.getD i true))≠[]:=fun e=>h (by unfold left;rw [e];rfl)
  obtain ⟨i,hi⟩:=List.exists_mem_of_ne_nil _ this
  exact ⟨i,by simpa using (List.mem_filter.1 hi).2⟩
 have ab:∀ n,u.getD n true=false->∃ i,u.getD i true=false/\∀ j,j<i->u.getD j true=true:=by
  intro n
  induction n using Nat.strongRecOn with
  | ind n ih =>
   intro hn
   by_cases hc:∃ j,j<n/\u.getD j true=false
   ·obtain ⟨j,hj,ac⟩:=hc
    exact ih j hj ac
   ·refine ⟨n,hn,fun j hj=>?_⟩
    cases he:u.getD j true with
    | true=>rfl
    | false=>exact absurd ⟨j,hj,he⟩ hc
 obtain ⟨i0,hi0⟩:=hex
 obtain ⟨i,hi,aa⟩:=ab i0 hi0
 have ae:i<u.size:=by
  rcases Nat.lt_or_ge i u.size with h | h
  ·exact h
  ·simp [Array.getD,show ¬ i<u.size by omega] at hi
 intro e
 have hm:i∈Region.ready md ops u:=by
  refine mem_ready.2 ⟨hi,ops[i]'(by omega),Array.getElem?_eq_getElem (by omega),fun e he hb=>?_⟩
  have h1:=List.all_eq_true.1 hu i (List.mem_range.2 (by omega))
  rw [Array.getElem?_eq_getElem (show i<ops.size by omega)] at h1
  have h2:=List.all_eq_true.1 h1 e (by simpa using he)
  simp [hb] at h2
  have h3:=aa e.on h2
  have h4:e.on<u.size:=by omega
  simp [Array.getD,h4] at h3 ⊢
  exact h3
 rw [e] at hm;cases hm
theorem Ad4 (I:Array Bool->Act->World->Prop) (u:Array Bool) (stop:Nat) (hu:Afs md ops=true)
  (aa:∀ j a w,I j a w->j.size=ops.size) (ac:∀ j a w,I j a w->left ops.size j≠0)
  (ab:∀ j a w,I j a w->stop∈Region.ready md ops j->j=u)
  (ae:∀ j a w i,I j a w->S w->i∈Region.ready md ops j->i≠stop->wpOp P ops Q i (fun a' w'=>S w'/\I (j.setIfInBounds i true) a' w') a w)
  (af:∀ a w,I u a w->S w->wpAnyH P md ops Q S (left ops.size u) u a w) :
  ∀ n j a w,left ops.size j=n->I j a w->S w->wpAnyH P md ops Q S n j a w:=by
 intro n
 induction n with
 | zero=>intro j a w hn hI _;exact absurd hn (ac _ _ _ hI)
 | succ n ih =>
  intro j a w hn hI hS
  by_cases ag:stop∈Region.ready md ops j
  ·have e:=ab _ _ _ hI ag
   rw [<-hn,e]
   exact af a w (e ▸ hI) hS
  ·refine ⟨fun h0=>absurd h0 (Aal hu (aa _ _ _ hI) (by rw [hn];omega)),fun i hi=>?_⟩
   have ai:=(mem_ready.1 hi).1
   refine wpOp_mono (fun a' w' h=>⟨h.1,ih _ a' w' ?_ h.2 h.1⟩) (ae _ _ _ i hI hS hi (fun e=>ag (e ▸ hi)))
   have:=Ob (aa _ _ _ hI) ai
   omega
end
open Go.RowKit Go.Maps Go.WideElems
abbrev RV:Value->Option (DataW Value × List MemPlace):=fun v=>some (.held v,[])
def FM (w:World) (M n:Nat) (D:DataW Value):Prop:=w.ownsMap Tryz.prog 3 RV M n D/\IsMap D
theorem FM.made (w:World):FM (w.alloc (.map #[] 0)) w.heap.size 0 (.map []):=⟨World.ownsMap_made _ _ _ _,isMap_empty⟩
theorem FM.kept {w w':World} {M n:Nat} {D:DataW Value} {R:Option Nat} (h:FM w M n D) (hg:w.grownBy w' R) (j:some M≠R):FM w' M n D:=⟨h.1.kept hg j,h.2⟩
theorem FM.lt {w:World} {M n:Nat} {D:DataW Value} (h:FM w M n D):M<w.heap.size:=h.1.lt
theorem FM.blk {w:World} {M n B:Nat} {D:DataW Value} {cs:Array Value} {T:TypeId} (h:FM w M n D) (hb:Blk w B cs T):B≠M:=by
 rintro rfl
 obtain ⟨⟨es,j,h1,-⟩,-⟩:=h
 have h2:w.heap[B]? = some (.cells cs T (0,0)):=hb
 rw [h1] at h2;cases h2
theorem Aii {n:Int} (h:-9223372036854775808<=n/\n<=9223372036854775807):(Lit.int .i64 n).wf=true:=by
 simp [Lit.wf,IntKind.min,IntKind.max,IntKind.signed,IntKind.bits];omega
theorem Ua:Keyed Tryz.prog 3:=int_keyed Tryz.underlying3
theorem FM.put {w:World} {M n:Nat} {D:DataW Value} (h:FM w M n D) (hn:n<1000) {k:Int} (hk:-9223372036854775808<=k/\k<=9223372036854775807) (v:Value) :
  ∃ w',(Instr.mapUpdate 219 (.map (some M)) (.int .i64 k) v).run Tryz.prog w=.ok () w'/\FM w' M (n+1) (D.put (.int .i64 k) (.held v))/\w.grownBy w' (some M):=by
 obtain ⟨w',h1,h2,h3⟩:=h.1.update Ua Tryz.underlying219 (by simp only [maxLen];omega) (keyOf_int_mk Tryz.underlying3 (Aii hk)) (show RV v=some (.held v,[]) from rfl)
 exact ⟨w',h1,⟨h2,h.2.put _ _⟩,h3⟩
def Ahp:DataW Value->Value
 | .held v=>v
 | _=>.nilFunc
theorem FM.look {w:World} {M n:Nat} {D:DataW Value} (h:FM w M n D) {k:Int} (hk:-9223372036854775808<=k/\k<=9223372036854775807) {v:Value} (hv:D.atKey (.int .i64 k) .nil=.held v) :
  (Instr.lookup 219 (.map (some M)) (.int .i64 k) true).run Tryz.prog w=.ok (.tuple #[v,.bool true]) w:=by
 obtain ⟨⟨es,aa,hb,F,-,rfl⟩,-⟩:=h
 rcases fit_look true Ua Tryz.underlying219 (z:=.nilFunc) (by kernel_rfl) hb F (keyOf_int_mk Tryz.underlying3 (Aii hk)) with ⟨-,-,u⟩ | ⟨e0,y,-,-,j,hR,u,-⟩
 ·rw [u] at hv
  cases hv
 ·rw [u] at hv
  have:y=(.held e0.val,[]):=(Option.some.inj hR).symm
  subst this
  have hv:e0.val=v:=congrArg Ahp hv
  rw [if_pos rfl] at j
  rw [<-hv];exact j
def Cj (op:Int):Nat->Nat->Nat :=
 if op=11\/op=25 then Va else if op=12\/op=26 then fOr else if op=13 then Ad0 else if op=14 then Adx else if op=15 then Adz else if op=16 then Ady
 else if op=19 then fun x y=>b2n (fEq x y) else if op=20 then fun x y=>b2n (fNe x y) else if op=21 then fun x y=>b2n (fLt x y) else if op=22 then fun x y=>b2n (fLe x y) else if op=23 then fun x y=>b2n (fGt x y) else fun x y=>b2n (fGe x y)
def Oh (D:Nat) (k:Int):Value :=
 if k=19 then .func (.func 203) #[] #[] else if k=20 then .func (.func 204) #[] #[] else if k=21 then .func (.func 195) #[] #[]
 else if k=22 then .func (.func 205) #[] #[.pointer (some ⟨D,0,none⟩)] else if k=23 then .func (.func 206) #[] #[.pointer (some ⟨D,0,none⟩)] else .func (.func 207) #[] #[.pointer (some ⟨D,0,none⟩)]
def PF (D:Nat) (w:World) (k:Int) (F:Value):Prop :=
 if 19<=k/\k<=24 then ∃ B,F=.func (.func 210) #[] #[.pointer (some ⟨B,0,none⟩)]/\Blk w B #[Oh D k] 216
 else F=.func (.func (if k=11 then 196 else if k=12 then 197 else if k=13 then 198 else if k=14 then 199 else if k=15 then 200 else if k=16 then 201 else if k=25 then 208 else 209)) #[] #[]
theorem PF.ext {D:Nat} {w w':World} {k:Int} {F:Value} (h:PF D w k F) (hx:Ext w w'):PF D w' k F:=by
 unfold PF at *
 split
 ·rename_i hk;rw [if_pos hk] at h;obtain ⟨B,h1,h2⟩:=h;exact ⟨B,h1,h2.ext hx⟩
 ·rename_i hk;rw [if_neg hk] at h;exact h
theorem PF.put {D M n:Nat} {DD:DataW Value} {w w':World} {k:Int} {F:Value} (h:PF D w k F) (hm:FM w M n DD) (hg:w.grownBy w' (some M)):PF D w' k F:=by
 unfold PF at *
 split
 ·rename_i hk;rw [if_pos hk] at h;obtain ⟨B,h1,h2⟩:=h;exact ⟨B,h1,h2.grown hg (hm.blk h2)⟩
 ·rename_i hk;rw [if_neg hk] at h;exact h
theorem PF.does {D:Nat} {w:World} {k:Int} {F:Value} (h1:11<=k) (h2:k<=26) (h3:k≠17) (h4:k≠18) (h:PF D w k F) (hD:Blk w D #[.func (.func 195) #[] #[]] 216):Im w F (vN (Cj k)):=by
 have hk:k=11\/k=12\/k=13\/k=14\/k=15\/k=16\/k=25\/k=26\/k=19\/k=20\/k=21\/k=22\/k=23\/k=24:=by omega
 rcases hk with rfl | rfl | rfl | rfl | rfl | rfl | rfl | rfl | rfl | rfl | rfl | rfl | rfl | rfl
 all_goals simp [PF,Oh] at h
 ·subst h;rw [show Cj 11=Va by simp [Cj]];exact Ado w
 ·subst h;rw [show Cj 12=fOr by simp [Cj]];exact Agd w
 ·subst h;rw [show Cj 13=Ad0 by simp [Cj]];exact Adr w
 ·subst h;rw [show Cj 14=Adx by simp [Cj]];exact Adn w
 ·subst h;rw [show Cj 15=Adz by simp [Cj]];exact Adq w
 ·subst h;rw [show Cj 16=Ady by simp [Cj]];exact Adp w
 ·subst h;rw [show Cj 25=Va by simp [Cj]];exact Abr w
 ·subst h;rw [show Cj 26=fOr by simp [Cj]];exact Zz w
 ·obtain ⟨B,rfl,hB⟩:=h;rw [show Cj 19=fun x y=>b2n (fEq x y) by simp [Cj]];exact I7 w B _ fEq hB (Af8 w)
 ·obtain ⟨B,rfl,hB⟩:=h;rw [show Cj 20=fun x y=>b2n (fNe x y) by simp [Cj]];exact I7 w B _ fNe hB (Agc w)
 ·obtain ⟨B,rfl,hB⟩:=h;rw [show Cj 21=fun x y=>b2n (fLt x y) by simp [Cj]];exact I7 w B _ fLt hB (Mi w)
 ·obtain ⟨B,rfl,hB⟩:=h;rw [show Cj 22=fun x y=>b2n (fLe x y) by simp [Cj]];exact I7 w B _ fLe hB (Agb w D hD)
 ·obtain ⟨B,rfl,hB⟩:=h;rw [show Cj 23=fun x y=>b2n (fGt x y) by simp [Cj]];exact I7 w B _ fGt hB (Aga w D hD)
 ·obtain ⟨B,rfl,hB⟩:=h;rw [show Cj 24=fun x y=>b2n (fGe x y) by simp [Cj]];exact I7 w B _ fGe hB (Af9 w D hD)
def Oi:List (Nat × Int):=[(1,11),(2,12),(3,13),(4,14),(5,15),(6,16),(8,19),(10,20),(13,21),(16,22),(19,23),(22,24),(23,25),(24,26)]
def Gi:List (Nat × Nat × Int):=[(7,8,19),(9,9,20),(12,11,21),(15,13,22),(18,15,23),(21,17,24)]
def pFr (op:Int) (D:Nat) (f:Nat->Value):Act :=
 ⟨#[.int .i64 op,undef,.nilFunc,.bool false,.bool false,.pointer (some ⟨D,0,none⟩),undef,f 7,f 8,f 9,Oh D 21,f 11,Oh D 22,f 13,Oh D 23,f 15,Oh D 24,f 17,undef,.int .i64 op,undef,undef,undef,undef,undef,undef,undef],[]⟩
structure PI (op:Int) (D N:Nat) (listed:Array Bool) (a:Act) (w:World):Prop where
 size:listed.size=33
 known:listed.getD 11 true=true/\listed.getD 14 true=true/\listed.getD 17 true=true/\listed.getD 20 true=true/\listed.getD 26 true=true
 later:∀ i,i=25\/(27<=i/\i<33)->listed.getD i true=false
 dep:∀ p∈Oi,listed.getD p.1 true=true->listed.getD 0 true=true
 frame:∃ f,a=pFr op D f /\
  (listed.getD 0 true=true->∃ M n DD,f 7=.map (some M)/\N<=M/\FM w M n DD/\n+left 33 listed<=40/\∀ p∈Oi,listed.getD p.1 true=true->∃ F,DD.atKey (.int .i64 p.2) .nil=.held F/\PF D w p.2 F) /\
  ∀ p∈Gi,listed.getD p.1 true=true->PF D w p.2.2 (f p.2.1)
theorem C5 {P:Program} {j:Array Oper} {Q:Exit->Act->World->Prop} {i:Nat} {o:Oper} {K:Act->World->Prop} {a:Act} {w:World} (hi:j[i]? = some o) (hw:Region.wanted o (yielded j a.tmps)=true) (h:Oper.wp P o a w K Q):wpOp P j Q i K a w:=by
 unfold wpOp
 simp only [hi,hw,if_true]
 exact .inl h
theorem A4 {l:Array Bool} {i:Nat} (h:l.getD i false=true):l.getD i true=true:=by
 unfold Array.getD at *
 split<;>simp_all
theorem Dk {l:Array Bool} {i j:Nat} (hi:i<l.size):(l.setIfInBounds i true).getD j true=true↔(j=i\/l.getD j true=true):=by
 by_cases h:j=i
 ·subst h;simp [Array.getD,hi]
 ·rw [getD_set_ne true (fun e=>h e.symm)];simp [h]
theorem PI.make {op:Int} {D N:Nat} {j:Array Bool} {a:Act} {w:World} (h:PI op D N j a w) (hN:N<=w.heap.size) (h0:j.getD 0 true=false):PI op D N (j.setIfInBounds 0 true) (a.put (some 7) (.map (some w.heap.size))) (w.alloc (.map #[] 0)):=by
 have hs:=h.size
 have ab:∀ p∈Oi,j.getD p.1 true=false:=fun p hp=>by
  cases e:j.getD p.1 true with
  | false=>rfl
  | true=>rw [h.dep p hp e] at h0;cases h0
 obtain ⟨f,rfl,h1,h2⟩:=h.frame
 have hl:=Ob hs h0
 have ac:left 33 j<=33:=by
  have:=List.length_filter_le (fun i=>!(j.getD i true)) (List.range 33)
  simpa [left] using this
 refine ⟨by simp [hs],?_,?_,fun _ _ _=>(Dk (by omega)).2 (.inl rfl),fun s=>if s=7 then .map (some w.heap.size) else f s,rfl,fun _=>⟨_,0,_,rfl,hN,FM.made w,by omega,fun p hp u=>?_⟩,fun p hp u=>?_⟩
 ·obtain ⟨k1,k2,k3,k4,k5⟩:=h.known
  simp only [Dk (show 0<j.size by omega)]
  exact ⟨.inr k1,.inr k2,.inr k3,.inr k4,.inr k5⟩
 ·intro i hi
  rw [getD_set_ne true (by omega)];exact h.later i hi
 ·rw [Dk (by omega)] at u
  rcases u with e | e
  ·have aa:p.1≠0:=by
    simp only [Oi,List.mem_cons,List.not_mem_nil,or_false] at hp
    rcases hp with rfl | rfl | rfl | rfl | rfl | rfl | rfl | rfl | rfl | rfl | rfl | rfl | rfl | rfl<;>decide
   exact absurd e aa
  ·rw [ab p hp] at e;cases e
 ·rw [Dk (by omega)] at u
  have aa:p.2.1≠7/\p.1≠0:=by
   simp only [Gi,List.mem_cons,List.not_mem_nil,or_false] at hp
   rcases hp with rfl | rfl | rfl | rfl | rfl | rfl<;>decide
  show PF D _ p.2.2 (if p.2.1=7 then _ else f p.2.1)
  rw [if_neg aa.1]
  exact (h2 p hp (u.resolve_left aa.2)).ext (Ab w _)
theorem Ae1:∀ p∈Oi,∀ q∈Oi,p.2=q.2->p=q:=by decide
theorem Acd:∀ p∈Gi,∀ q∈Gi,p.2.1=q.2.1->p=q:=by decide
theorem Agj (op:Int) (D:Nat) (f:Nat->Value) (u:Value):∀ p∈Gi,(pFr op D f).put (some p.2.1) u=pFr op D (fun s=>if s=p.2.1 then u else f s):=by
 intro p hp
 simp only [Gi,List.mem_cons,List.not_mem_nil,or_false] at hp
 rcases hp with rfl | rfl | rfl | rfl | rfl | rfl<;>rfl
theorem PI.put {op:Int} {D N:Nat} {u:Array Bool} {f:Nat->Value} {w:World} (h:PI op D N u (pFr op D f) w) {p:Nat × Int} (hp:p∈Oi) (hi:u.getD p.1 true=false) (h0:u.getD 0 true=true)
  (hk:-9223372036854775808<=p.2/\p.2<=9223372036854775807) {val:Value} (hv:PF D w p.2 val) :
  ∃ M w',f 7=.map (some M)/\N<=M/\(Instr.mapUpdate 219 (.map (some M)) (.int .i64 p.2) val).run Tryz.prog w=.ok () w'/\w.grownBy w' (some M)/\PI op D N (u.setIfInBounds p.1 true) (pFr op D f) w':=by
 have hs:=h.size
 have ac:=h.later
 obtain ⟨k1,k2,k3,k4,k5⟩:=h.known
 obtain ⟨f',hf,h1,h2⟩:=h.frame
 have e:∀ q∈Gi,f' q.2.1=f q.2.1:=by
  intro q hq
  have:=congrArg (fun a:Act=>a.tmps) hf
  simp only [pFr,Array.mk.injEq,List.cons.injEq] at this
  simp only [Gi,List.mem_cons,List.not_mem_nil,or_false] at hq
  rcases hq with rfl | rfl | rfl | rfl | rfl | rfl<;>simp [this]
 have e7:f' 7=f 7:=by
  have:=congrArg (fun a:Act=>a.tmps) hf
  simp only [pFr,Array.mk.injEq,List.cons.injEq] at this
  simp [this]
 obtain ⟨M,n,DD,q1,q2,q3,q4,q5⟩:=h1 h0
 have hl:=Ob hs hi
 obtain ⟨w',r1,r2,r3⟩:=q3.put (by omega) hk val
 have ab:p.1<u.size:=by
  rcases Nat.lt_or_ge p.1 u.size with h | h
  ·exact h
  ·simp [Array.getD,show ¬ p.1<u.size by omega] at hi
 refine ⟨M,w',by rw [<-e7];exact q1,q2,r1,r3,by simp [hs],?_,?_,fun _ _ _=>(Dk ab).2 (.inr h0),f,rfl,fun _=>⟨M,n+1,_,by rw [<-e7];exact q1,q2,r2,by omega,fun q hq aa=>?_⟩,fun q hq aa=>?_⟩
 ·simp only [Dk ab]
  exact ⟨.inr k1,.inr k2,.inr k3,.inr k4,.inr k5⟩
 ·intro j hj
  rw [getD_set_ne true]
  ·exact ac j hj
  ·simp only [Oi,List.mem_cons,List.not_mem_nil,or_false] at hp
   rcases hp with rfl | rfl | rfl | rfl | rfl | rfl | rfl | rfl | rfl | rfl | rfl | rfl | rfl | rfl<;>simp only<;>omega
 ·by_cases af:q=p
  ·subst af
   exact ⟨val,atKey_put_same q3.2 (by trivial) _ _,hv.put q3 r3⟩
  ·rw [Dk ab] at aa
   have ae:q.1≠p.1:=by
    intro e1
    have:∀ p∈Oi,∀ q∈Oi,p.1=q.1->p=q:=by decide
    exact af (this q hq p hp e1)
   obtain ⟨F,g1,g2⟩:=q5 q hq (aa.resolve_left ae)
   refine ⟨F,?_,g2.put q3 r3⟩
   rw [atKey_put_other,g1]
   intro e1
   injection e1 with _ e1
   exact af (Ae1 q hq p hp e1)
 ·rw [Dk ab] at aa
  have ae:q.1≠p.1:=by
   have:∀ p∈Oi,∀ q∈Gi,q.1≠p.1:=by decide
   exact this p hp q hq
  rw [<-e q hq]
  exact (h2 q hq (aa.resolve_left ae)).put q3 r3
theorem PI.called {op:Int} {D N:Nat} {u:Array Bool} {f:Nat->Value} {w:World} (h:PI op D N u (pFr op D f) w) {p:Nat × Nat × Int} (hp:p∈Gi) (hi:u.getD p.1 true=false) :
  PI op D N (u.setIfInBounds p.1 true) ((pFr op D f).put (some p.2.1) (.func (.func 210) #[] #[.pointer (some ⟨w.heap.size,0,none⟩)])) (w.alloc (.cells #[Oh D p.2.2] 216)):=by
 have hs:=h.size
 have ae:=h.later
 obtain ⟨k1,k2,k3,k4,k5⟩:=h.known
 obtain ⟨f',hf,h1,h2⟩:=h.frame
 have e:∀ q∈Gi,f' q.2.1=f q.2.1:=by
  intro q hq
  have:=congrArg (fun a:Act=>a.tmps) hf
  simp only [pFr,Array.mk.injEq,List.cons.injEq] at this
  simp only [Gi,List.mem_cons,List.not_mem_nil,or_false] at hq
  rcases hq with rfl | rfl | rfl | rfl | rfl | rfl<;>simp [this]
 have e7:f' 7=f 7:=by
  have:=congrArg (fun a:Act=>a.tmps) hf
  simp only [pFr,Array.mk.injEq,List.cons.injEq] at this
  simp [this]
 have hl:=Ob hs hi
 have hx:=Ab w (.cells #[Oh D p.2.2] 216)
 have ab:p.1<u.size:=by
  rcases Nat.lt_or_ge p.1 u.size with h | h
  ·exact h
  ·simp [Array.getD,show ¬ p.1<u.size by omega] at hi
 have h7:p.2.1≠7/\p.1≠0:=by
  have:∀ p∈Gi,p.2.1≠7/\p.1≠0:=by decide
  exact this p hp
 refine ⟨by simp [hs],?_,?_,fun q hq aa=>?_,_,Agj op D f _ p hp,fun h0=>?_,fun q hq aa=>?_⟩
 ·simp only [Dk ab]
  exact ⟨.inr k1,.inr k2,.inr k3,.inr k4,.inr k5⟩
 ·intro j hj
  rw [getD_set_ne true]
  ·exact ae j hj
  ·simp only [Gi,List.mem_cons,List.not_mem_nil,or_false] at hp
   rcases hp with rfl | rfl | rfl | rfl | rfl | rfl<;>simp only<;>omega
 ·rw [Dk ab] at aa
  have ac:q.1≠p.1:=by
   have:∀ p∈Gi,∀ q∈Oi,q.1≠p.1:=by decide
   exact this p hp q hq
  exact (Dk ab).2 (.inr (h.dep q hq (aa.resolve_left ac)))
 ·rw [Dk ab] at h0
  obtain ⟨M,n,DD,q1,q2,q3,q4,q5⟩:=h1 (h0.resolve_left (fun e=>h7.2 e.symm))
  refine ⟨M,n,DD,?_,q2,q3.kept (It hx w.heap.size) (by have:=q3.lt;intro e;injection e;omega),by omega,fun q hq aa=>?_⟩
  ·show (if 7=p.2.1 then _ else f 7)=_
   rw [if_neg (fun e=>h7.1 e.symm),<-e7];exact q1
  ·rw [Dk ab] at aa
   have ac:q.1≠p.1:=by
    have:∀ p∈Gi,∀ q∈Oi,q.1≠p.1:=by decide
    exact this p hp q hq
   obtain ⟨F,g1,g2⟩:=q5 q hq (aa.resolve_left ac)
   exact ⟨F,g1,g2.ext hx⟩
 ·by_cases af:q=p
  ·subst af
   show PF D _ q.2.2 (if q.2.1=q.2.1 then _ else _)
   rw [if_pos rfl]
   have hk:19<=q.2.2/\q.2.2<=24:=by
    have:∀ p∈Gi,19<=p.2.2/\p.2.2<=24:=by decide
    exact this q hq
   unfold PF
   rw [if_pos hk]
   exact ⟨_,rfl,Blk.new w _ _⟩
  ·rw [Dk ab] at aa
   have ac:q.1≠p.1:=by
    intro e1
    have:∀ p∈Gi,∀ q∈Gi,p.1=q.1->p=q:=by decide
    exact af (this q hq p hp e1)
   have ag:q.2.1≠p.2.1:=fun e1=>af (Acd q hq p hp e1)
   show PF D _ q.2.2 (if q.2.1=p.2.1 then _ else f q.2.1)
   rw [if_neg ag,<-e q hq]
   exact (h2 q hq (aa.resolve_left ac)).ext hx
theorem Gz {o:Oper} {a:Act} {w w':World} {K:Act->World->Prop} {Q:Exit->Act->World->Prop} {k:Int} {v:Operand} {M:Nat} {val:Value} (ho:o.op=.insert 219 (.tmp 7) (.const (.int .i64 k)) v) (hd:o.dst=none)
  (h7:a.eval (.tmp 7)=.map (some M)) (hv:a.eval v=val) (j:(Instr.mapUpdate 219 (.map (some M)) (.int .i64 k) val).run Tryz.prog w=.ok () w') (hK:K a w'):Oper.wp Tryz.prog o a w K Q:=by
 have hc:a.eval (.const (.int .i64 k))=.int .i64 k:=rfl
 unfold Oper.wp execOp
 simp only [ho,h7,hv,hc,Sem.run_bind,j,Result.andThen_ok,Sem.run_pure]
 show K (a.put o.dst undef) w'
 rw [hd];exact hK
theorem Dw (v:Value) (hv:v.oneCell'=true) (w:World):Calls Tryz.prog 202 #[v] w fun r w'=>r=.returned (.func (.func 210) #[] #[.pointer (some ⟨w.heap.size,0,none⟩)])/\w'=w.alloc (.cells #[v] 216):=by
 go_enter Tryz.func202,Tryz.ntmps202
 go_wp2_with fail
 go_ret
 exact ⟨rfl,rfl⟩
theorem Ys (op:Int) (h1:11<=op) (h2:op<=26) (h3:op≠17) (h4:op≠18) (w:World) :
  Calls Tryz.prog 192 #[.int .i64 op] w fun r w'=>∃ F,r=.returned (.tuple #[F,.bool (decide (19<=op)),.bool true])/\Im w' F (vN (Cj op))/\Ext w w':=by
 have ap:=Ab w (.cells #[.nilFunc] 216)
 have aj:=Blk.new w #[.nilFunc] 216
 have hs:=run_store Tryz.prog (w.alloc (.cells #[.nilFunc] 216)) ⟨w.heap.size,0,none⟩ (.func (.func 195) #[] #[]) .plain rfl
 rw [aj.cell 0,aj.frozen 0] at hs
 simp only [List.getElem?_cons_zero,List.getElem?_toArray,Bool.false_eq_true,if_false] at hs
 go_enter Tryz.func192,Tryz.ntmps192
 go_upto_region 2 with fail
 have HX:=Ab w (.cells #[.func (.func 195) #[] #[]] 216)
 have hD:=Blk.new w #[.func (.func 195) #[] #[]] 216
 obtain ⟨D,ai⟩:∃ D,w.heap.size=D:=⟨_,rfl⟩
 have ay:=Jh ai
 rw [ai] at hD ⊢
 clear hs aj ap ai
 generalize w.alloc _=w0 at *
 refine Jg w0 fun hH=>?_
 try simp only [J]
 (refine Jt 11 (.func (.func 195) #[] #[]) rfl (yif_load1 rfl (by intro W hW;have y:=(hD.ext hW).has 0 _ rfl;clear hW;go_simp)) hH ?_;try simp only [J])
 (refine Jk 14 (.func (.func 205) #[] #[.pointer (some ⟨D,0,none⟩)]) rfl hH ?_;try simp only [J])
 (refine Jk 17 (.func (.func 206) #[] #[.pointer (some ⟨D,0,none⟩)]) rfl hH ?_;try simp only [J])
 (refine Jk 20 (.func (.func 207) #[] #[.pointer (some ⟨D,0,none⟩)]) rfl hH ?_;try simp only [J])
 (refine Ji 26 (.int .i64 op) rfl hH ?_;try simp only [J])
 have HD:=Jh hD
 have aq:=Jh HX
 clear hD HX
 refine Ad4 (fun ac a W=>PI op D w0.heap.size ac a W) #[true,true,true,true,true,true,true,true,true,true,true,true,true,true,true,true,true,true,true,true,true,true,true,true,true,false,true,false,false,false,false,false,false] 25 ?hu ?hsize ?some ?full ?step ?fin _ _ _ _ ?cnt ?start hH
 case hu=>kernel_rfl
 case cnt=>kernel_rfl
 case hsize=>exact fun _ _ _ h=>h.size
 case some =>
  intro ac a W h e
  have ak:=h.later 25 (.inl rfl)
  have:25∈(List.range 33).filter fun i=>!(ac.getD i true):=List.mem_filter.2 ⟨List.mem_range.2 (by decide),by rw [ak];rfl⟩
  have e2:((List.range 33).filter fun i=>!(ac.getD i true)).length=0:=e
  rw [List.eq_nil_of_length_eq_zero e2] at this
  cases this
 case full =>
  intro ac a W h hr
  obtain ⟨ak,o,ho,u⟩:=mem_ready.1 hr
  injection ho with ho
  subst ho
  have hj:∀ j,j<25->ac.getD j true=true:=by
   intro j hj
   have hc:j=0\/j=1\/j=2\/j=3\/j=4\/j=5\/j=6\/j=7\/j=8\/j=9\/j=10\/j=11\/j=12\/j=13\/j=14\/j=15\/j=16\/j=17\/j=18\/j=19\/j=20\/j=21\/j=22\/j=23\/j=24:=by omega
   rcases hc with rfl | rfl | rfl | rfl | rfl | rfl | rfl | rfl | rfl | rfl | rfl | rfl | rfl | rfl | rfl | rfl | rfl | rfl | rfl | rfl | rfl | rfl | rfl | rfl | rfl
   ·exact A4 (u ⟨0,.data⟩ (by simp) rfl)
   ·exact A4 (u ⟨1,.data⟩ (by simp) rfl)
   ·exact A4 (u ⟨2,.data⟩ (by simp) rfl)
   ·exact A4 (u ⟨3,.data⟩ (by simp) rfl)
   ·exact A4 (u ⟨4,.data⟩ (by simp) rfl)
   ·exact A4 (u ⟨5,.data⟩ (by simp) rfl)
   ·exact A4 (u ⟨6,.data⟩ (by simp) rfl)
   ·exact A4 (u ⟨7,.data⟩ (by simp) rfl)
   ·exact A4 (u ⟨8,.data⟩ (by simp) rfl)
   ·exact A4 (u ⟨9,.data⟩ (by simp) rfl)
   ·exact A4 (u ⟨10,.data⟩ (by simp) rfl)
   ·exact A4 (u ⟨11,.data⟩ (by simp) rfl)
   ·exact A4 (u ⟨12,.data⟩ (by simp) rfl)
   ·exact A4 (u ⟨13,.data⟩ (by simp) rfl)
   ·exact A4 (u ⟨14,.data⟩ (by simp) rfl)
   ·exact A4 (u ⟨15,.data⟩ (by simp) rfl)
   ·exact A4 (u ⟨16,.data⟩ (by simp) rfl)
   ·exact A4 (u ⟨17,.data⟩ (by simp) rfl)
   ·exact A4 (u ⟨18,.data⟩ (by simp) rfl)
   ·exact A4 (u ⟨19,.data⟩ (by simp) rfl)
   ·exact A4 (u ⟨20,.data⟩ (by simp) rfl)
   ·exact A4 (u ⟨21,.data⟩ (by simp) rfl)
   ·exact A4 (u ⟨22,.data⟩ (by simp) rfl)
   ·exact A4 (u ⟨23,.data⟩ (by simp) rfl)
   ·exact A4 (u ⟨24,.data⟩ (by simp) rfl)
  have hl:=h.later
  have hk:=h.known.2.2.2.2
  refine Array.ext (by rw [h.size];rfl) fun i i1 i2=>?_
  have am:ac[i]=ac.getD i true:=by simp [Array.getD,i1]
  rw [am]
  have hs:=h.size
  have hc:i<25\/i=25\/i=26\/i=27\/i=28\/i=29\/i=30\/i=31\/i=32:=by omega
  rcases hc with h0 | rfl | rfl | rfl | rfl | rfl | rfl | rfl | rfl
  ·rw [hj i h0]
   have:∀ q:Fin 25,(#[true,true,true,true,true,true,true,true,true,true,true,true,true,true,true,true,true,true,true,true,true,true,true,true,true,false,true,false,false,false,false,false,false]:Array Bool)[q.val]? = some true:=by decide
   have:=this ⟨i,h0⟩
   simp only at this
   rw [Array.getElem?_eq_getElem i2] at this
   exact (Option.some.inj this).symm
  ·exact hl 25 (by decide)
  ·exact hk
  ·exact hl 27 (by decide)
  ·exact hl 28 (by decide)
  ·exact hl 29 (by decide)
  ·exact hl 30 (by decide)
  ·exact hl 31 (by decide)
  ·exact hl 32 (by decide)
 case start =>
  refine ⟨rfl,⟨rfl,rfl,rfl,rfl,rfl⟩,?_,?_,fun _=>undef,rfl,fun h=>absurd (show false=true from h) Bool.false_ne_true,?_⟩
  ·intro i hi
   have hc:i=25\/i=27\/i=28\/i=29\/i=30\/i=31\/i=32:=by omega
   rcases hc with rfl | rfl | rfl | rfl | rfl | rfl | rfl<;>rfl
  ·intro p hp
   simp only [Oi,List.mem_cons,List.not_mem_nil,or_false] at hp
   rcases hp with rfl | rfl | rfl | rfl | rfl | rfl | rfl | rfl | rfl | rfl | rfl | rfl | rfl | rfl<;>exact fun h=>absurd (show false=true from h) Bool.false_ne_true
  ·intro p hp
   simp only [Gi,List.mem_cons,List.not_mem_nil,or_false] at hp
   rcases hp with rfl | rfl | rfl | rfl | rfl | rfl<;>exact fun h=>absurd (show false=true from h) Bool.false_ne_true
 case step =>
  intro ac a W i h hS hr av
  obtain ⟨hi,o,ho,u⟩:=mem_ready.1 hr
  have an:=(Array.getElem?_eq_some_iff.1 ho).1
  obtain ⟨k1,k2,k3,k4,k5⟩:=h.known
  have hl:=h.later
  have n1:i≠11:=by rintro rfl;rw [k1] at hi;cases hi
  have n2:i≠14:=by rintro rfl;rw [k2] at hi;cases hi
  have n3:i≠17:=by rintro rfl;rw [k3] at hi;cases hi
  have n4:i≠20:=by rintro rfl;rw [k4] at hi;cases hi
  have n5:i≠26:=by rintro rfl;rw [k5] at hi;cases hi
  have aw:i<33:=an
  have ax:=hS.size
  clear an k1 k2 k3 k4 k5
  obtain ⟨f,hf,-,ae⟩:=h.frame
  subst hf
  have hc:i=0\/i=1\/i=2\/i=3\/i=4\/i=5\/i=6\/i=7\/i=8\/i=9\/i=10\/i=12\/i=13\/i=15\/i=16\/i=18\/i=19\/i=21\/i=22\/i=23\/i=24\/i=27\/i=28\/i=29\/i=30\/i=31\/i=32:=by omega
  clear n1 n2 n3 n4 n5 aw av
  rcases hc with rfl | rfl | rfl | rfl | rfl | rfl | rfl | rfl | rfl | rfl | rfl | rfl | rfl | rfl | rfl | rfl | rfl | rfl | rfl | rfl | rfl | rfl | rfl | rfl | rfl | rfl | rfl
  all_goals (injection ho with ho;subst ho)
  ·refine C5 rfl rfl ?_
   have au:(Instr.makeMap 219 none).run Tryz.prog W=.ok (.map (some W.heap.size)) (W.alloc (.map #[] 0)):=rfl
   unfold Oper.wp execOp
   simp only [Option.map_none,Sem.run_bind,au,Result.andThen_ok,Sem.run_pure]
   exact ⟨hS.alloc _,h.make ax hi⟩
  ·obtain ⟨M,w',q1,qN,aa,hg,ab⟩:=h.put (p:=(1,11)) (by decide) hi (A4 (u ⟨0,.data⟩ (by simp) rfl)) (by decide) (val:=.func (.func 196) #[] #[]) (by simp [PF])
   refine C5 rfl rfl (Gz rfl rfl q1 rfl aa ⟨hS.grown hg qN,ab⟩)
  ·obtain ⟨M,w',q1,qN,aa,hg,ab⟩:=h.put (p:=(2,12)) (by decide) hi (A4 (u ⟨0,.data⟩ (by simp) rfl)) (by decide) (val:=.func (.func 197) #[] #[]) (by simp [PF])
   refine C5 rfl rfl (Gz rfl rfl q1 rfl aa ⟨hS.grown hg qN,ab⟩)
  ·obtain ⟨M,w',q1,qN,aa,hg,ab⟩:=h.put (p:=(3,13)) (by decide) hi (A4 (u ⟨0,.data⟩ (by simp) rfl)) (by decide) (val:=.func (.func 198) #[] #[]) (by simp [PF])
   refine C5 rfl rfl (Gz rfl rfl q1 rfl aa ⟨hS.grown hg qN,ab⟩)
  ·obtain ⟨M,w',q1,qN,aa,hg,ab⟩:=h.put (p:=(4,14)) (by decide) hi (A4 (u ⟨0,.data⟩ (by simp) rfl)) (by decide) (val:=.func (.func 199) #[] #[]) (by simp [PF])
   refine C5 rfl rfl (Gz rfl rfl q1 rfl aa ⟨hS.grown hg qN,ab⟩)
  ·obtain ⟨M,w',q1,qN,aa,hg,ab⟩:=h.put (p:=(5,15)) (by decide) hi (A4 (u ⟨0,.data⟩ (by simp) rfl)) (by decide) (val:=.func (.func 200) #[] #[]) (by simp [PF])
   refine C5 rfl rfl (Gz rfl rfl q1 rfl aa ⟨hS.grown hg qN,ab⟩)
  ·obtain ⟨M,w',q1,qN,aa,hg,ab⟩:=h.put (p:=(6,16)) (by decide) hi (A4 (u ⟨0,.data⟩ (by simp) rfl)) (by decide) (val:=.func (.func 201) #[] #[]) (by simp [PF])
   refine C5 rfl rfl (Gz rfl rfl q1 rfl aa ⟨hS.grown hg qN,ab⟩)
  ·refine C5 rfl rfl ?_
   have af:=h.called (p:=(7,8,19)) (by decide) hi
   go_simp
   refine (Dw (Oh D 19) rfl W).mono ?_
   rintro r w' ⟨rfl,rfl⟩
   exact ⟨hS.alloc _,af⟩
  ·obtain ⟨M,w',q1,qN,aa,hg,ab⟩:=h.put (p:=(8,19)) (by decide) hi (A4 (u ⟨0,.data⟩ (by simp) rfl)) (by decide) (val:=f 8) (ae (7,8,19) (by decide) (A4 (u ⟨7,.data⟩ (by simp) rfl)))
   refine C5 rfl rfl (Gz rfl rfl q1 rfl aa ⟨hS.grown hg qN,ab⟩)
  ·refine C5 rfl rfl ?_
   have af:=h.called (p:=(9,9,20)) (by decide) hi
   go_simp
   refine (Dw (Oh D 20) rfl W).mono ?_
   rintro r w' ⟨rfl,rfl⟩
   exact ⟨hS.alloc _,af⟩
  ·obtain ⟨M,w',q1,qN,aa,hg,ab⟩:=h.put (p:=(10,20)) (by decide) hi (A4 (u ⟨0,.data⟩ (by simp) rfl)) (by decide) (val:=f 9) (ae (9,9,20) (by decide) (A4 (u ⟨9,.data⟩ (by simp) rfl)))
   refine C5 rfl rfl (Gz rfl rfl q1 rfl aa ⟨hS.grown hg qN,ab⟩)
  ·refine C5 rfl rfl ?_
   have af:=h.called (p:=(12,11,21)) (by decide) hi
   go_simp
   refine (Dw (Oh D 21) rfl W).mono ?_
   rintro r w' ⟨rfl,rfl⟩
   exact ⟨hS.alloc _,af⟩
  ·obtain ⟨M,w',q1,qN,aa,hg,ab⟩:=h.put (p:=(13,21)) (by decide) hi (A4 (u ⟨0,.data⟩ (by simp) rfl)) (by decide) (val:=f 11) (ae (12,11,21) (by decide) (A4 (u ⟨12,.data⟩ (by simp) rfl)))
   refine C5 rfl rfl (Gz rfl rfl q1 rfl aa ⟨hS.grown hg qN,ab⟩)
  ·refine C5 rfl rfl ?_
   have af:=h.called (p:=(15,13,22)) (by decide) hi
   go_simp
   refine (Dw (Oh D 22) rfl W).mono ?_
   rintro r w' ⟨rfl,rfl⟩
   exact ⟨hS.alloc _,af⟩
  ·obtain ⟨M,w',q1,qN,aa,hg,ab⟩:=h.put (p:=(16,22)) (by decide) hi (A4 (u ⟨0,.data⟩ (by simp) rfl)) (by decide) (val:=f 13) (ae (15,13,22) (by decide) (A4 (u ⟨15,.data⟩ (by simp) rfl)))
   refine C5 rfl rfl (Gz rfl rfl q1 rfl aa ⟨hS.grown hg qN,ab⟩)
  ·refine C5 rfl rfl ?_
   have af:=h.called (p:=(18,15,23)) (by decide) hi
   go_simp
   refine (Dw (Oh D 23) rfl W).mono ?_
   rintro r w' ⟨rfl,rfl⟩
   exact ⟨hS.alloc _,af⟩
  ·obtain ⟨M,w',q1,qN,aa,hg,ab⟩:=h.put (p:=(19,23)) (by decide) hi (A4 (u ⟨0,.data⟩ (by simp) rfl)) (by decide) (val:=f 15) (ae (18,15,23) (by decide) (A4 (u ⟨18,.data⟩ (by simp) rfl)))
   refine C5 rfl rfl (Gz rfl rfl q1 rfl aa ⟨hS.grown hg qN,ab⟩)
  ·refine C5 rfl rfl ?_
   have af:=h.called (p:=(21,17,24)) (by decide) hi
   go_simp
   refine (Dw (Oh D 24) rfl W).mono ?_
   rintro r w' ⟨rfl,rfl⟩
   exact ⟨hS.alloc _,af⟩
  ·obtain ⟨M,w',q1,qN,aa,hg,ab⟩:=h.put (p:=(22,24)) (by decide) hi (A4 (u ⟨0,.data⟩ (by simp) rfl)) (by decide) (val:=f 17) (ae (21,17,24) (by decide) (A4 (u ⟨21,.data⟩ (by simp) rfl)))
   refine C5 rfl rfl (Gz rfl rfl q1 rfl aa ⟨hS.grown hg qN,ab⟩)
  ·obtain ⟨M,w',q1,qN,aa,hg,ab⟩:=h.put (p:=(23,25)) (by decide) hi (A4 (u ⟨0,.data⟩ (by simp) rfl)) (by decide) (val:=.func (.func 208) #[] #[]) (by simp [PF])
   refine C5 rfl rfl (Gz rfl rfl q1 rfl aa ⟨hS.grown hg qN,ab⟩)
  ·obtain ⟨M,w',q1,qN,aa,hg,ab⟩:=h.put (p:=(24,26)) (by decide) hi (A4 (u ⟨0,.data⟩ (by simp) rfl)) (by decide) (val:=.func (.func 209) #[] #[]) (by simp [PF])
   refine C5 rfl rfl (Gz rfl rfl q1 rfl aa ⟨hS.grown hg qN,ab⟩)
  ·have e1:=A4 (u ⟨25,.data⟩ (by simp) rfl)
   rw [hl 25 (by decide)] at e1;cases e1
  ·have e1:=A4 (u ⟨27,.data⟩ (by simp) rfl)
   rw [hl 27 (by decide)] at e1;cases e1
  ·have e1:=A4 (u ⟨28,.data⟩ (by simp) rfl)
   rw [hl 28 (by decide)] at e1;cases e1
  ·have e1:=A4 (u ⟨28,.data⟩ (by simp) rfl)
   rw [hl 28 (by decide)] at e1;cases e1
  ·have e1:=A4 (u ⟨29,.data⟩ (by simp) rfl)
   rw [hl 29 (by decide)] at e1;cases e1
  ·have e1:=A4 (u ⟨30,.data⟩ (by simp) rfl)
   rw [hl 30 (by decide)] at e1;cases e1
 case fin =>
  intro a W h hH
  obtain ⟨f,hf,ag,ae⟩:=h.frame
  subst hf
  obtain ⟨M,n,DD,q1,q2,q3,q4,q5⟩:=ag rfl
  obtain ⟨F,g1,g2⟩:∃ F,DD.atKey (.int .i64 op) .nil=.held F/\PF D W op F:=by
   have hk:op=11\/op=12\/op=13\/op=14\/op=15\/op=16\/op=25\/op=26\/op=19\/op=20\/op=21\/op=22\/op=23\/op=24:=by omega
   rcases hk with rfl | rfl | rfl | rfl | rfl | rfl | rfl | rfl | rfl | rfl | rfl | rfl | rfl | rfl
   ·exact q5 (1,11) (by decide) rfl
   ·exact q5 (2,12) (by decide) rfl
   ·exact q5 (3,13) (by decide) rfl
   ·exact q5 (4,14) (by decide) rfl
   ·exact q5 (5,15) (by decide) rfl
   ·exact q5 (6,16) (by decide) rfl
   ·exact q5 (23,25) (by decide) rfl
   ·exact q5 (24,26) (by decide) rfl
   ·exact q5 (8,19) (by decide) rfl
   ·exact q5 (10,20) (by decide) rfl
   ·exact q5 (13,21) (by decide) rfl
   ·exact q5 (16,22) (by decide) rfl
   ·exact q5 (19,23) (by decide) rfl
   ·exact q5 (22,24) (by decide) rfl
  have al:=g2.does h1 h2 h3 h4 (HD.out.ext hH)
  have ar:=q3.look (k:=op) (by omega) g1
  have ao:=Jh al
  clear h g1 g2 q5 q4 q3 ag ae al
  unfold pFr
  rw [q1]
  show wpAnyH _ _ _ _ _ 7 _ _ _
  (refine Ji 25 (.map (some M)) rfl hH ?_;try simp only [J])
  (refine Jr 27 rfl fun K hK=>?_)
  go_simp
  refine hK.out _ _ hH (fun hH=>?_)
  clear hK K
  (refine Ji 28 (.tuple #[F,.bool true]) rfl hH ?_;try simp only [J])
  (refine Jk 29 (F) rfl hH ?_;try simp only [J])
  (refine Jk 30 (.bool true) rfl hH ?_;try simp only [J])
  (refine Ji 31 (F) rfl hH ?_;try simp only [J])
  (refine Ji 32 (.bool true) rfl hH ?_;try simp only [J])
  refine Jz ?_
  go_wp2_with fail
  refine bodyPost_ret (v:=.tuple #[F,.bool (decide (19<=op)),.bool true]) (by simp [results,Tryz.results192,go_sem]) rfl ?_
  exact ⟨F,rfl,ao.out,aq.out.trans hH⟩
end Go.Proofs.YtbliplladmamoaaGreat
