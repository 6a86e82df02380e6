/- Laws and walks that a claim of this seat leans on: Want. -/
import Derived.Test.YtbliplladmamoaaGreatS01
import Derived.Test.YtbliplladmamoaaGreatS02
import Derived.Test.YtbliplladmamoaaGreatS00
set_option maxRecDepth 100000
set_option maxHeartbeats 8000000
set_option linter.all false
namespace Go.Proofs.YtbliplladmamoaaGreat
open Go.RowKit
theorem Afd (x:Int) (l:List Int) (k:Nat) (h:k<l.length):((ints (List.replicate k x++l.drop k)).toArray.setIfInBounds k (.int .i64 x))=(ints (List.replicate (k+1) x++l.drop (k+1))).toArray:=by
 rw [Ja]
 congr 1
 show List.set (List.map _ _) k _=List.map _ _
 rw [List.drop_eq_getElem_cons h,List.replicate_succ',List.map_append,List.map_append,List.map_append,List.set_append_right _ _ (by simp)]
 simp only [List.map_cons,List.length_map,List.length_replicate,Nat.sub_self,Je,List.append_assoc,List.map_nil,List.cons_append,List.nil_append]
theorem Acm (x:Int) (l:List Int) (A B:Nat) (T1 T2:TypeId) (w:World) (hA:Blk w A #[.slice (some ⟨B,0,none⟩) l.length l.length] T1) (hB:Blk w B (ints l).toArray T2) (aa:A≠B) (hl:l.length<=1048576) :
  Calls Tryz.prog 161 #[.int .i64 x,.pointer (some ⟨A,0,none⟩)] w fun r w'=>r=.returned (.tuple #[])/\(Blk w' B (ints (List.replicate l.length x)).toArray T2/\w.grownBy w' (some B)):=by
 have g0:=hA.cell 0
 simp only [List.getElem?_toArray,List.getElem?_cons_zero] at g0
 have HA:=Jh hA
 have HB:=Jh hB
 clear hA hB
 go_enter Tryz.func161,Tryz.ntmps161
 go_wp2_with fail
 clear g0
 go_loopw [3,6] (fun _ i wr=>∃ k:Nat,k<=l.length/\i=.int .i64 k/\Blk wr B (ints (List.replicate k x++l.drop k)).toArray T2/\w.grownBy wr (some B)) (fun _ i _=>l.length-(intOf i).toNat)
 case atStart=>exact ⟨0,Nat.zero_le _,rfl,by simpa using HB.out,Cr _ _⟩
 case round =>
  obtain ⟨k,hk,rfl,hb,hg⟩:=hrel
  have j:=Jh hb
  have HG:=Jh hg
  clear hb hg
  have g0:=(HA.out.grown HG.out aa).cell 0
  simp only [List.getElem?_toArray,List.getElem?_cons_zero] at g0
  by_cases u:k<l.length
  ·have c:=j.out.cell k
   have c':wr.cell? ⟨B,k,none⟩=some (.int .i64 l[k]):=by
    rw [c,List.getElem?_toArray,List.getElem?_map,List.getElem?_append_right (by simp),List.length_replicate,Nat.sub_self,List.getElem?_drop,Nat.add_zero,List.getElem?_eq_getElem u];rfl
   have f:=j.out.frozen k
   clear c
   go_wp2_with fail
   go_roundw
   case rel=>exact ⟨k+1,by omega,by go_num,by rw [<-Afd x l k u];exact j.out.set k _,A5 HG.out (Ay _ _ _ _)⟩
   case measure=>simp [intOf];omega
  ·go_wp2_with fail
   go_end0
   obtain rfl:k=l.length:=by omega
   refine ⟨rfl,?_,HG.out⟩
   have:=j.out
   simpa using this
theorem Yz {w:World} {B n:Nat} {x:Int} {T:TypeId} (h:Blk w B (ints (List.replicate n x)).toArray T) (hn:1<=n):w.cell? ⟨B,0,none⟩=some (.int .i64 x):=by
 rw [h.cell]
 obtain ⟨m,rfl⟩:∃ m,n=m+1:=⟨n-1,by omega⟩
 simp [List.replicate_succ]
def Bw (w other:Int):Int:=if w=0 then other else w
theorem Ry (a b:Int) (w:World):Calls Tryz.prog 132 #[.int .i64 a,.int .i64 b] w fun r w'=>r=.returned (.int .i64 (Bw a b))/\w'=w:=by
 by_cases h:a=0
 ·go_enter Tryz.func132,Tryz.ntmps132
  go_wp2_with fail
  go_ret
  exact ⟨Bv (by simp [Bw,h]),rfl⟩
 ·go_enter Tryz.func132,Tryz.ntmps132
  go_wp2_with fail
  go_ret
  exact ⟨Bv (by simp [Bw,h]),rfl⟩
def Bo (e:E) (w:Int):Option (List Int) :=
 if e.op=6 then some (-1::List.replicate (e.l.length-1) w)
 else if e.op=7 then (if own e=0\/own e≠w\/64<own e then none else some (List.replicate e.l.length 0))
 else if e.op=4\/e.op=5 then
  if e.n=6\/e.n=25\/e.n=26 then (if w≠1 then none else some (List.replicate e.l.length (-1)))
  else if e.n=3\/e.n=4\/e.n=5 then (if w≠1 then none else some (List.replicate e.l.length 0))
  else if e.n=19\/e.n=20\/e.n=21\/e.n=22\/e.n=23\/e.n=24 then (if w≠1 then none else some (List.replicate e.l.length (Bw (own.fst e.l) 32)))
  else if e.n=17\/e.n=18 then some (w::List.replicate (e.l.length-1) 0)
  else some (List.replicate e.l.length w)
 else if own e≠w then none else some (List.replicate e.l.length 0)
def Xn (w:World) (n:Nat) (o:Option (List Int)) (r:Ending) (w':World):Prop :=
 (o=none/\r=.returned (.tuple #[.slice Option.none 0 0,.int .i64 90])/\Ext w w') \/
 (∃ l B,o=some l/\l.length=n/\r=.returned (.tuple #[.slice (some ⟨B,0,Option.none⟩) n n,.int .i64 0])/\Blk w' B (ints l).toArray 3/\Ext w w')
theorem V6 (e:E) (wd:Int) (cs:List Value) (w:World) (hV:VE w cs e) (av:F1 e) (hb:nodes e<=1048576) :
  Calls Tryz.prog 133 #[.agg cs.toArray,.int .i64 wd] w (Xn w e.l.length (Bo e wd)):=by
 have a3:=Jh av
 obtain ⟨h1,h2,h3,h4⟩:=(Fd e).1 av
 obtain ⟨s,rfl,hs⟩:=hV
 have aj:=Jh (show Bo e wd=_ from by unfold Bo;rfl)
 have az:=A8 nodes e.l (fun x _=>Gh x)
 have a6:=C7 e
 obtain ⟨a,b,o,cap,a0,a5,a7,ha,hr⟩:=hs.open
 have au:=Jh hs
 have a2:=Jh hb
 obtain ⟨op,ak,v,sig,hi,lo,n,l⟩:=e
 simp only at a0 a5 aj au h3 h4 az a6 ⊢
 subst a0
 have H3:=Jh h3
 have H4:=Jh h4
 clear hr ha h1 h2 h3 h4 hs av
 have HX:=((Ab w (.cells (E.cells ⟨op,ak,v,sig,hi,lo,n,l⟩ (.slice a l.length cap)).toArray 40)).alloc (.cells (Array.replicate l.length (Value.int .i64 0)) 3)).alloc (.cells #[.slice (some ⟨w.heap.size+1,0,Option.none⟩) l.length l.length] 49)
 have ax:=((Has.alloc w (E.cells ⟨op,ak,v,sig,hi,lo,n,l⟩ (.slice a l.length cap)) 40).ext (Ab _ (.cells (Array.replicate l.length (Value.int .i64 0)) 3))).ext (Ab _ (.cells #[.slice (some ⟨w.heap.size+1,0,Option.none⟩) l.length l.length] 49))
 have ap:=(Blk.new (w.alloc (.cells (E.cells ⟨op,ak,v,sig,hi,lo,n,l⟩ (.slice a l.length cap)).toArray 40)) (Array.replicate l.length (Value.int .i64 0)) 3).alloc (.cells #[.slice (some ⟨w.heap.size+1,0,Option.none⟩) l.length l.length] 49)
 have ar:=Blk.new ((w.alloc (.cells (E.cells ⟨op,ak,v,sig,hi,lo,n,l⟩ (.slice a l.length cap)).toArray 40)).alloc (.cells (Array.replicate l.length (Value.int .i64 0)) 3)) #[.slice (some ⟨w.heap.size+1,0,Option.none⟩) l.length l.length] 49
 simp only [World.size_alloc] at ap ar
 have ah:madeCells (Value.cells (.int .i64 0)) (l.length*1)=(Array.replicate l.length (Value.int .i64 0)):=by
  rw [Nat.mul_one];show madeCells #[_] _=_;rw [M1];simp
 have ay:=Jh ah
 clear ah
 go_enter Tryz.func133,Tryz.ntmps133
 go_upto_region 2 with (first | (at_make;refine Um rfl 49 _ _ rfl rfl rfl Tryz.underlying49 Yh (by omega) (by omega) ?_;rw [ay.out]))
 generalize ((w.alloc _).alloc _).alloc _=w3 at *
 rw [show Array.replicate l.length (Value.int .i64 0)=(ints (List.replicate l.length 0)).toArray from by simp] at ap
 have K0:=Jh ax
 have K1:=Jh ap
 have K2:=Jh ar
 clear ax ap ar ay
 have g0:=K0.out 0 _ rfl
 have hN:w.heap.size<w3.heap.size:=by have:=K2.out.lt;omega
 have am:∀ W,Hid (Ext w3 W->Calls Tryz.prog 131 #[.agg (E.cells ⟨op,ak,v,sig,hi,lo,n,l⟩ (.slice a l.length cap)).toArray] W fun r w'=>r=.returned (.int .i64 (own ⟨op,ak,v,sig,hi,lo,n,l⟩))/\Ext W w') :=
  fun W=>Jh fun hx=>O9 _ _ W ⟨_,rfl,au.out.ext (HX.trans hx)⟩ a3.out a2.out
 have HF:∀ W,Hid (Ext w3 W->Calls Tryz.prog 160 #[.slice a l.length cap] W fun r w'=>r=.returned (.int .i64 (own.fst l))/\Ext W w') :=
  fun W=>Jh fun hx=>Lr l (fun x _=>O9 x) H4.out (by omega) _ W (au.out.ext (HX.trans hx))
 have ai:∀ (x:Int) (W:World),Hid (Ext w3 W->Calls Tryz.prog 161 #[.int .i64 x,.pointer (some ⟨w.heap.size+1+1,0,Option.none⟩)] W fun r w'=>r=.returned (.tuple #[])/\(Blk w' (w.heap.size+1) (ints (List.replicate l.length x)).toArray 3/\W.grownBy w' (some (w.heap.size+1)))):=by
  intro x W
  refine Jh fun hx=>?_
  have:=Acm x (List.replicate l.length 0) (w.heap.size+1+1) (w.heap.size+1) 49 3 W (by simpa using K2.out.ext hx) (K1.out.ext hx) (by omega) (by simp;omega)
  simpa using this
 by_cases o6:op=6
 ·obtain rfl:=o6
  have h3:=H3.out (by simp)
  go_wp2_with (first | (go_at_call 161;refine ((ai _ _).out (Below.refl _ _)).mono ?_;rintro r w4 ⟨rfl,ag,ab⟩;have q2:=(K2.out.grown ab (by omega)).cell 0;have q1:=Yz ag h3;have f1:=ag.frozen 0))
  go_ret2
  refine .inr ⟨_,w.heap.size+1,(by rw [aj.out,if_pos (by trivial)]),by simp;omega,rfl,?_,HX.grown ab (by omega) |>.grown (Ay _ _ _ _) (by omega)⟩
  have:=ag.set 0 (.int .i64 (-1))
  obtain ⟨m,hm⟩:∃ m,l.length=m+1:=⟨l.length-1,by omega⟩
  rw [hm] at this ⊢
  simpa [List.replicate_succ] using this
 by_cases o7:op=7
 ·obtain rfl:=o7
  have hw:=aj.out
  rw [if_neg (by decide),if_pos (by trivial)] at hw
  have HW:=Jh hw
  clear hw aj
  generalize own ⟨7,ak,v,sig,hi,lo,n,l⟩=q at *
  by_cases aq:q=0
  ·go_wp2_with (first | ((with_reducible show Jl 40);refine Aa rfl 40 _ rfl rfl (K0.out) Ah rfl ?_) | (go_at_call 131;refine ((am _).out (Below.refl _ _)).mono ?_;rintro r w4 ⟨rfl,aa⟩))
   all_goals go_ret2
   all_goals exact .inl ⟨by rw [HW.out,if_pos (.inl aq)],rfl,HX.trans aa⟩
  have g1:(q==0)=false:=by rw [beq_eq_false_iff_ne];exact aq
  have a4:=Jh aq
  clear aq
  by_cases ac:q=wd
  ·by_cases a8:64<q
   ·have HQ:=Jh ac
    clear ac
    have g2:(q != wd)=false:=by rw [bne_eq_false_iff_eq];exact HQ.out
    go_wp2_with (first | ((with_reducible show Jl 40);refine Aa rfl 40 _ rfl rfl (K0.out) Ah rfl ?_) | (go_at_call 131;refine ((am _).out (Below.refl _ _)).mono ?_;rintro r w4 ⟨rfl,aa⟩))
    all_goals go_ret2
    all_goals exact .inl ⟨by rw [HW.out,if_pos (.inr (.inr (by omega)))],rfl,HX.trans aa⟩
   ·have HQ:=Jh ac
    clear ac
    have g2:(q != wd)=false:=by rw [bne_eq_false_iff_eq];exact HQ.out
    go_wp2_with (first | ((with_reducible show Jl 40);refine Aa rfl 40 _ rfl rfl (K0.out) Ah rfl ?_) | (go_at_call 131;refine ((am _).out (Below.refl _ _)).mono ?_;rintro r w4 ⟨rfl,aa⟩;have q2:=(K2.out.ext aa).cell 0))
    all_goals go_ret2
    all_goals exact .inr ⟨_,w.heap.size+1,(by rw [HW.out,if_neg (by have:=HQ.out;have:=a4.out;omega)]),by simp,rfl,K1.out.ext aa,HX.trans aa⟩
  ·have g2:(q != wd)=true:=by rw [bne_iff_ne];exact ac
   have HQ:=Jh ac
   clear ac
   go_wp2_with (first | ((with_reducible show Jl 40);refine Aa rfl 40 _ rfl rfl (K0.out) Ah rfl ?_) | (go_at_call 131;refine ((am _).out (Below.refl _ _)).mono ?_;rintro r w4 ⟨rfl,aa⟩))
   all_goals go_ret2
   all_goals exact .inl ⟨by rw [HW.out,if_pos (.inr (.inl HQ.out))],rfl,HX.trans aa⟩
 by_cases an:op=4\/op=5
 ·have h3:=H3.out (by omega)
  have hw:=aj.out
  rw [if_neg o6,if_neg o7,if_pos an] at hw
  have HW:=Jh hw
  have g6:=K0.out 6 _ rfl
  have q2:=K2.out.cell 0
  clear hw aj am o6 o7
  have HO:=Jh an
  clear an
  have HN:∀ (x:Int),Hid (∀ W,w3.grownBy W (some (w.heap.size+1))->Ext w W):=fun x=>Jh fun W hg=>HX.grown hg (by omega)
  by_cases n6:n=6\/n=25\/n=26
  ·have u:=HW.out
   rw [if_pos n6] at u
   have ae:=Jh u
   clear u
   by_cases j:wd=1
   ·have af:=Jh j
    have g9:(wd != 1)=false:=by rw [bne_eq_false_iff_eq];exact j
    clear j
    rcases HO.out with rfl | rfl<;>rcases n6 with rfl | rfl | rfl
    all_goals go_wp2_with (first | (go_at_call 161;refine ((ai _ _).out (Below.refl _ _)).mono ?_;rintro r w4 ⟨rfl,ag,ab⟩;have q2:=(K2.out.grown ab (by omega)).cell 0))
    all_goals go_ret2
    all_goals exact .inr ⟨_,w.heap.size+1,(by rw [ae.out,if_neg (by have:=af.out;omega)]),by simp,rfl,ag,(HN 0).out _ ab⟩
   ·have af:=Jh j
    have g9:(wd != 1)=true:=by rw [bne_iff_ne];exact j
    clear j
    rcases HO.out with rfl | rfl<;>rcases n6 with rfl | rfl | rfl
    all_goals go_wp2_with (first | (go_at_call 161;refine ((ai _ _).out (Below.refl _ _)).mono ?_;rintro r w4 ⟨rfl,ag,ab⟩;have q2:=(K2.out.grown ab (by omega)).cell 0))
    all_goals go_ret2
    all_goals exact .inl ⟨by rw [ae.out,if_pos af.out],rfl,(HN 0).out _ ab⟩
  by_cases n3:n=3\/n=4\/n=5
  ·have u:=HW.out
   rw [if_neg n6,if_pos n3] at u
   have ae:=Jh u
   clear u n6
   by_cases j:wd=1
   ·have af:=Jh j
    have g9:(wd != 1)=false:=by rw [bne_eq_false_iff_eq];exact j
    clear j
    rcases HO.out with rfl | rfl<;>rcases n3 with rfl | rfl | rfl
    all_goals go_wp2_with fail
    all_goals go_ret2
    all_goals exact .inr ⟨_,w.heap.size+1,(by rw [ae.out,if_neg (by have:=af.out;omega)]),by simp,rfl,K1.out,HX⟩
   ·have af:=Jh j
    have g9:(wd != 1)=true:=by rw [bne_iff_ne];exact j
    clear j
    rcases HO.out with rfl | rfl<;>rcases n3 with rfl | rfl | rfl
    all_goals go_wp2_with fail
    all_goals go_ret2
    all_goals exact .inl ⟨by rw [ae.out,if_pos af.out],rfl,HX⟩
  by_cases al:n=19\/n=20\/n=21\/n=22\/n=23\/n=24
  ·have u:=HW.out
   rw [if_neg n6,if_neg n3,if_pos al] at u
   have ae:=Jh u
   have g7:=K0.out 7 _ rfl
   clear u n6 n3
   by_cases j:wd=1
   ·have af:=Jh j
    have g9:(wd != 1)=false:=by rw [bne_eq_false_iff_eq];exact j
    clear j
    rcases HO.out with rfl | rfl<;>rcases al with rfl | rfl | rfl | rfl | rfl | rfl
    all_goals go_wp2_with (first | (go_at_call 160;refine ((HF _).out (Below.refl _ _)).mono ?_;rintro r w5 ⟨rfl,aw⟩) | (go_at_call 132;refine (Ry _ _ _).mono ?_;rintro r w6 ⟨rfl,rfl⟩) | (go_at_call 161;refine ((ai _ _).out aw).mono ?_;rintro r w4 ⟨rfl,ag,ab⟩;have q2:=((K2.out.ext aw).grown ab (by omega)).cell 0))
    all_goals go_ret2
    all_goals exact .inr ⟨_,w.heap.size+1,(by rw [ae.out,if_neg (by have:=af.out;omega)]),by simp,rfl,ag,(HX.trans aw).grown ab (by omega)⟩
   ·have af:=Jh j
    have g9:(wd != 1)=true:=by rw [bne_iff_ne];exact j
    clear j
    rcases HO.out with rfl | rfl<;>rcases al with rfl | rfl | rfl | rfl | rfl | rfl
    all_goals go_wp2_with fail
    all_goals go_ret2
    all_goals exact .inl ⟨by rw [ae.out,if_pos af.out],rfl,HX⟩
  by_cases ao:n=17\/n=18
  ·have u:=HW.out
   rw [if_neg n6,if_neg n3,if_neg al,if_pos ao] at u
   have ae:=Jh u
   clear u n6 n3 al
   have q1:=Yz K1.out h3
   have f1:=K1.out.frozen 0
   have h:=K1.out.set 0 (.int .i64 wd)
   have a1:=Jh h
   clear h
   rcases HO.out with rfl | rfl<;>rcases ao with rfl | rfl
   all_goals go_wp2_with fail
   all_goals go_ret2
   all_goals
    refine .inr ⟨_,w.heap.size+1,(by rw [ae.out]),by simp;omega,rfl,?_,HX.grown (Ay _ _ _ _) (by omega)⟩
    have:=a1.out
    obtain ⟨m,hm⟩:∃ m,l.length=m+1:=⟨l.length-1,by omega⟩
    rw [hm] at this ⊢
    simpa [List.replicate_succ] using this
  have u:=HW.out
  rw [if_neg n6,if_neg n3,if_neg al,if_neg ao] at u
  have ae:=Jh u
  clear u
  simp only [not_or] at n6 n3 al ao
  obtain ⟨m1,m2,m3⟩:=n6
  obtain ⟨m4,m5,m6⟩:=n3
  obtain ⟨m7,m8,m9,a9,ba,bb⟩:=al
  obtain ⟨bc,bd⟩:=ao
  rcases HO.out with rfl | rfl
  all_goals go_wp2_with (first | (go_at_call 161;refine ((ai _ _).out (Below.refl _ _)).mono ?_;rintro r w4 ⟨rfl,ag,ab⟩;have q2:=(K2.out.grown ab (by omega)).cell 0))
  all_goals go_ret2
  all_goals exact .inr ⟨_,w.heap.size+1,(by rw [ae.out]),by simp,rfl,ag,(HN 0).out _ ab⟩
 have hw:=aj.out
 rw [if_neg o6,if_neg o7,if_neg an] at hw
 have HW:=Jh hw
 simp only [not_or] at an
 obtain ⟨o4,o5⟩:=an
 clear hw aj
 generalize own ⟨op,ak,v,sig,hi,lo,n,l⟩=q at *
 by_cases ac:q=wd
 ·have HQ:=Jh ac
  have g2:(q != wd)=false:=by rw [bne_eq_false_iff_eq];exact ac
  clear ac
  go_wp2_with (first | ((with_reducible show Jl 40);refine Aa rfl 40 _ rfl rfl (K0.out) Ah rfl ?_) | (go_at_call 131;refine ((am _).out (Below.refl _ _)).mono ?_;rintro r w4 ⟨rfl,aa⟩;have q2:=(K2.out.ext aa).cell 0))
  go_ret2
  exact .inr ⟨_,w.heap.size+1,(by rw [HW.out,if_neg (by have:=HQ.out;omega)]),by simp,rfl,K1.out.ext aa,HX.trans aa⟩
 ·have g2:(q != wd)=true:=by rw [bne_iff_ne];exact ac
  have HQ:=Jh ac
  clear ac
  go_wp2_with (first | ((with_reducible show Jl 40);refine Aa rfl 40 _ rfl rfl (K0.out) Ah rfl ?_) | (go_at_call 131;refine ((am _).out (Below.refl _ _)).mono ?_;rintro r w4 ⟨rfl,aa⟩;have q2:=(K2.out.ext aa).cell 0))
  go_ret2
  exact .inl ⟨by rw [HW.out,if_pos HQ.out],rfl,HX.trans aa⟩
end Go.Proofs.YtbliplladmamoaaGreat
