/- Laws and walks that a claim of this seat leans on: Want. -/
import Derived.Test.YtpngepnfinbaoaaGreatC01
import Derived.Test.YtpngepnfinbaoaaGreatC02
import Derived.Test.YtpngepnfinbaoaaGreatC00
set_option maxRecDepth 100000
set_option maxHeartbeats 8000000
set_option linter.all false
namespace Go.Proofs.YtpngepnfinbaoaaGreat
open Go.RowKit
theorem set_upto (x:Int) (l:List Int) (k:Nat) (h:k<l.length):((ints (List.replicate k x++l.drop k)).toArray.setIfInBounds k (.int .i64 x))=(ints (List.replicate (k+1) x++l.drop (k+1))).toArray:=by
 rw [Ja]
 congr 1
 show List.set (List.map _ _) k _=List.map _ _
 rw [List.drop_eq_getElem_cons h,List.replicate_succ',List.map_append,List.map_append,List.map_append,List.set_append_right _ _ (by simp)]
 simp only [List.map_cons,List.length_map,List.length_replicate,Nat.sub_self,Je,List.append_assoc,List.map_nil,List.cons_append,List.nil_append]
theorem set_calls (x:Int) (l:List Int) (A B:Nat) (T1 T2:TypeId) (w:World) (hA:Blk w A #[.slice (some ⟨B,0,none⟩) l.length l.length] T1) (hB:Blk w B (ints l).toArray T2) (hne:A≠B) (hl:l.length<=1048576) :
  Calls Tryz.prog 151 #[.int .i64 x,.pointer (some ⟨A,0,none⟩)] w fun r w'=>r=.returned (.tuple #[])/\(Blk w' B (ints (List.replicate l.length x)).toArray T2/\w.grownBy w' (some B)):=by
 have g0:=hA.cell 0
 simp only [List.getElem?_toArray,List.getElem?_cons_zero] at g0
 have HA:=Jh hA
 have HB:=Jh hB
 clear hA hB
 go_enter Tryz.func151,Tryz.ntmps151
 go_wp2_with fail
 clear g0
 go_loopw [3,6] (fun _ i wr=>∃ k:Nat,k<=l.length/\i=.int .i64 k/\Blk wr B (ints (List.replicate k x++l.drop k)).toArray T2/\w.grownBy wr (some B)) (fun _ i _=>l.length-(intOf i).toNat)
 case atStart=>exact ⟨0,Nat.zero_le _,rfl,by simpa using HB.out,gb_refl _ _⟩
 case round =>
  obtain ⟨k,hk,rfl,hb,hg⟩:=hrel
  have HBk:=Jh hb
  have HG:=Jh hg
  clear hb hg
  have g0:=(HA.out.grown HG.out hne).cell 0
  simp only [List.getElem?_toArray,List.getElem?_cons_zero] at g0
  by_cases hlt:k<l.length
  ·have c:=HBk.out.cell k
   have c':wr.cell? ⟨B,k,none⟩=some (.int .i64 l[k]):=by
    rw [c,List.getElem?_toArray,List.getElem?_map,List.getElem?_append_right (by simp),List.length_replicate,Nat.sub_self,List.getElem?_drop,Nat.add_zero,List.getElem?_eq_getElem hlt];rfl
   have f:=HBk.out.frozen k
   clear c
   go_wp2_with fail
   go_roundw
   case rel=>exact ⟨k+1,by omega,by go_num,by rw [<-set_upto x l k hlt];exact HBk.out.set k _,gb_trans HG.out (gb_set _ _ _ _)⟩
   case measure=>simp [intOf];omega
  ·go_wp2_with fail
   go_end0
   obtain rfl:k=l.length:=by omega
   refine ⟨rfl,?_,HG.out⟩
   have:=HBk.out
   simpa using this
theorem rep_head {w:World} {B n:Nat} {x:Int} {T:TypeId} (h:Blk w B (ints (List.replicate n x)).toArray T) (hn:1<=n):w.cell? ⟨B,0,none⟩=some (.int .i64 x):=by
 rw [h.cell]
 obtain ⟨m,rfl⟩:∃ m,n=m+1:=⟨n-1,by omega⟩
 simp [List.replicate_succ]
def told (w other:Int):Int:=if w=0 then other else w
theorem told_calls (a b:Int) (w:World):Calls Tryz.prog 118 #[.int .i64 a,.int .i64 b] w fun r w'=>r=.returned (.int .i64 (told a b))/\w'=w:=by
 by_cases h:a=0
 ·go_enter Tryz.func118,Tryz.ntmps118
  go_wp2_with fail
  go_ret
  exact ⟨ret_int (by simp [told,h]),rfl⟩
 ·go_enter Tryz.func118,Tryz.ntmps118
  go_wp2_with fail
  go_ret
  exact ⟨ret_int (by simp [told,h]),rfl⟩
def wantedL (e:E) (w:Int):Option (List Int) :=
 if e.op=6 then some (-1::List.replicate (e.l.length-1) w)
 else if e.op=7 then (if own e=0\/own e≠w\/64<own e then none else some (List.replicate e.l.length 0))
 else if e.op=4\/e.op=5 then
  if e.n=6\/e.n=25\/e.n=26 then (if w≠1 then none else some (List.replicate e.l.length (-1)))
  else if e.n=3\/e.n=4\/e.n=5 then (if w≠1 then none else some (List.replicate e.l.length 0))
  else if e.n=19\/e.n=20\/e.n=21\/e.n=22\/e.n=23\/e.n=24 then (if w≠1 then none else some (List.replicate e.l.length (told (own.fst e.l) 32)))
  else if e.n=17\/e.n=18 then some (w::List.replicate (e.l.length-1) 0)
  else some (List.replicate e.l.length w)
 else if own e≠w then none else some (List.replicate e.l.length 0)
def WantPost (w:World) (n:Nat) (o:Option (List Int)) (r:Ending) (w':World):Prop :=
 (o=none/\r=.returned (.tuple #[.slice Option.none 0 0,.int .i64 90])/\Ext w w') \/
 (∃ l B,o=some l/\l.length=n/\r=.returned (.tuple #[.slice (some ⟨B,0,Option.none⟩) n n,.int .i64 0])/\Blk w' B (ints l).toArray 3/\Ext w w')
theorem wanted_calls (e:E) (wd:Int) (cs:List Value) (w:World) (hV:VE w cs e) (hok:OwnOk e) (hb:nodes e<=1048576) :
  Calls Tryz.prog 119 #[.agg cs.toArray,.int .i64 wd] w (WantPost w e.l.length (wantedL e wd)):=by
 have HOK:=Jh hok
 obtain ⟨h1,h2,h3,h4⟩:=(OwnOk_iff e).1 hok
 obtain ⟨s,rfl,hs⟩:=hV
 have HWL:=Jh (show wantedL e wd=_ from by unfold wantedL;rfl)
 have hlen:=length_le_sumBy nodes e.l (fun x _=>nodes_pos x)
 have hne:=nodes_eq e
 obtain ⟨a,b,o,cap,hsl,hc1,hc2,ha,hr⟩:=hs.open
 have HEs:=Jh hs
 have HNB:=Jh hb
 obtain ⟨op,ewd,v,sig,hi,lo,n,l⟩:=e
 simp only at hsl hc1 HWL HEs h3 h4 hlen hne ⊢
 subst hsl
 have H3:=Jh h3
 have H4:=Jh h4
 clear hr ha h1 h2 h3 h4 hs hok
 have HX:=((ext_alloc w (.cells (E.cells ⟨op,ewd,v,sig,hi,lo,n,l⟩ (.slice a l.length cap)).toArray 31)).alloc (.cells (Array.replicate l.length (Value.int .i64 0)) 3)).alloc (.cells #[.slice (some ⟨w.heap.size+1,0,Option.none⟩) l.length l.length] 53)
 have HB0:=((Has.alloc w (E.cells ⟨op,ewd,v,sig,hi,lo,n,l⟩ (.slice a l.length cap)) 31).ext (ext_alloc _ (.cells (Array.replicate l.length (Value.int .i64 0)) 3))).ext (ext_alloc _ (.cells #[.slice (some ⟨w.heap.size+1,0,Option.none⟩) l.length l.length] 53))
 have HB1:=(Blk.new (w.alloc (.cells (E.cells ⟨op,ewd,v,sig,hi,lo,n,l⟩ (.slice a l.length cap)).toArray 31)) (Array.replicate l.length (Value.int .i64 0)) 3).alloc (.cells #[.slice (some ⟨w.heap.size+1,0,Option.none⟩) l.length l.length] 53)
 have HB2:=Blk.new ((w.alloc (.cells (E.cells ⟨op,ewd,v,sig,hi,lo,n,l⟩ (.slice a l.length cap)).toArray 31)).alloc (.cells (Array.replicate l.length (Value.int .i64 0)) 3)) #[.slice (some ⟨w.heap.size+1,0,Option.none⟩) l.length l.length] 53
 simp only [World.size_alloc] at HB1 HB2
 have hmk:madeCells (Value.cells (.int .i64 0)) (l.length*1)=(Array.replicate l.length (Value.int .i64 0)):=by
  rw [Nat.mul_one];show madeCells #[_] _=_;rw [madeCells_one];simp
 have HMK:=Jh hmk
 clear hmk
 go_enter Tryz.func119,Tryz.ntmps119
 go_upto_region 2 with (first | (at_make;refine wpList_mk rfl 53 _ _ rfl rfl rfl Tryz.underlying53 info_int (by omega) (by omega) ?_;rw [HMK.out]))
 generalize ((w.alloc _).alloc _).alloc _=w3 at *
 rw [show Array.replicate l.length (Value.int .i64 0)=(ints (List.replicate l.length 0)).toArray from by simp] at HB1
 have K0:=Jh HB0
 have K1:=Jh HB1
 have K2:=Jh HB2
 clear HB0 HB1 HB2 HMK
 have g0:=K0.out 0 _ rfl
 have hN:w.heap.size<w3.heap.size:=by have:=K2.out.lt;omega
 have HOW:∀ W,Hid (Ext w3 W->Calls Tryz.prog 117 #[.agg (E.cells ⟨op,ewd,v,sig,hi,lo,n,l⟩ (.slice a l.length cap)).toArray] W fun r w'=>r=.returned (.int .i64 (own ⟨op,ewd,v,sig,hi,lo,n,l⟩))/\Ext W w') :=
  fun W=>Jh fun hx=>own_calls _ _ W ⟨_,rfl,HEs.out.ext (HX.trans hx)⟩ HOK.out HNB.out
 have HF:∀ W,Hid (Ext w3 W->Calls Tryz.prog 150 #[.slice a l.length cap] W fun r w'=>r=.returned (.int .i64 (own.fst l))/\Ext W w') :=
  fun W=>Jh fun hx=>first_calls l (fun x _=>own_calls x) H4.out (by omega) _ W (HEs.out.ext (HX.trans hx))
 have HSET:∀ (x:Int) (W:World),Hid (Ext w3 W->Calls Tryz.prog 151 #[.int .i64 x,.pointer (some ⟨w.heap.size+1+1,0,Option.none⟩)] W fun r w'=>r=.returned (.tuple #[])/\(Blk w' (w.heap.size+1) (ints (List.replicate l.length x)).toArray 3/\W.grownBy w' (some (w.heap.size+1)))):=by
  intro x W
  refine Jh fun hx=>?_
  have:=set_calls x (List.replicate l.length 0) (w.heap.size+1+1) (w.heap.size+1) 53 3 W (by simpa using K2.out.ext hx) (K1.out.ext hx) (by omega) (by simp;omega)
  simpa using this
 by_cases o6:op=6
 ·obtain rfl:=o6
  have h3:=H3.out (by simp)
  go_wp2_with (first | (go_at_call 151;refine ((HSET _ _).out (Below.refl _ _)).mono ?_;rintro r w4 ⟨rfl,hb4,hg4⟩;have q2:=(K2.out.grown hg4 (by omega)).cell 0;have q1:=rep_head hb4 h3;have f1:=hb4.frozen 0))
  go_ret2
  refine .inr ⟨_,w.heap.size+1,(by rw [HWL.out,if_pos (by trivial)]),by simp;omega,rfl,?_,HX.grown hg4 (by omega) |>.grown (gb_set _ _ _ _) (by omega)⟩
  have:=hb4.set 0 (.int .i64 (-1))
  obtain ⟨m,hm⟩:∃ m,l.length=m+1:=⟨l.length-1,by omega⟩
  rw [hm] at this ⊢
  simpa [List.replicate_succ] using this
 by_cases o7:op=7
 ·obtain rfl:=o7
  have hw:=HWL.out
  rw [if_neg (by decide),if_pos (by trivial)] at hw
  have HW:=Jh hw
  clear hw HWL
  generalize own ⟨7,ewd,v,sig,hi,lo,n,l⟩=q at *
  by_cases hq0:q=0
  ·go_wp2_with (first | ((with_reducible show Jl 31);refine Jm 31 (K0.out) agg_E rfl ?_) | (go_at_call 117;refine ((HOW _).out (Below.refl _ _)).mono ?_;rintro r w4 ⟨rfl,hx1⟩))
   all_goals go_ret2
   all_goals exact .inl ⟨by rw [HW.out,if_pos (.inl hq0)],rfl,HX.trans hx1⟩
  have g1:(q==0)=false:=by rw [beq_eq_false_iff_ne];exact hq0
  have HQ0:=Jh hq0
  clear hq0
  by_cases hq1:q=wd
  ·by_cases hq2:64<q
   ·have HQ:=Jh hq1
    clear hq1
    have g2:(q != wd)=false:=by rw [bne_eq_false_iff_eq];exact HQ.out
    go_wp2_with (first | ((with_reducible show Jl 31);refine Jm 31 (K0.out) agg_E rfl ?_) | (go_at_call 117;refine ((HOW _).out (Below.refl _ _)).mono ?_;rintro r w4 ⟨rfl,hx1⟩))
    all_goals go_ret2
    all_goals exact .inl ⟨by rw [HW.out,if_pos (.inr (.inr (by omega)))],rfl,HX.trans hx1⟩
   ·have HQ:=Jh hq1
    clear hq1
    have g2:(q != wd)=false:=by rw [bne_eq_false_iff_eq];exact HQ.out
    go_wp2_with (first | ((with_reducible show Jl 31);refine Jm 31 (K0.out) agg_E rfl ?_) | (go_at_call 117;refine ((HOW _).out (Below.refl _ _)).mono ?_;rintro r w4 ⟨rfl,hx1⟩;have q2:=(K2.out.ext hx1).cell 0))
    all_goals go_ret2
    all_goals exact .inr ⟨_,w.heap.size+1,(by rw [HW.out,if_neg (by have:=HQ.out;have:=HQ0.out;omega)]),by simp,rfl,K1.out.ext hx1,HX.trans hx1⟩
  ·have g2:(q != wd)=true:=by rw [bne_iff_ne];exact hq1
   have HQ:=Jh hq1
   clear hq1
   go_wp2_with (first | ((with_reducible show Jl 31);refine Jm 31 (K0.out) agg_E rfl ?_) | (go_at_call 117;refine ((HOW _).out (Below.refl _ _)).mono ?_;rintro r w4 ⟨rfl,hx1⟩))
   all_goals go_ret2
   all_goals exact .inl ⟨by rw [HW.out,if_pos (.inr (.inl HQ.out))],rfl,HX.trans hx1⟩
 by_cases o45:op=4\/op=5
 ·have h3:=H3.out (by omega)
  have hw:=HWL.out
  rw [if_neg o6,if_neg o7,if_pos o45] at hw
  have HW:=Jh hw
  have g6:=K0.out 6 _ rfl
  have q2:=K2.out.cell 0
  clear hw HWL HOW o6 o7
  have HO:=Jh o45
  clear o45
  have HN:∀ (x:Int),Hid (∀ W,w3.grownBy W (some (w.heap.size+1))->Ext w W):=fun x=>Jh fun W hg=>HX.grown hg (by omega)
  by_cases n6:n=6\/n=25\/n=26
  ·have hw2:=HW.out
   rw [if_pos n6] at hw2
   have HW2:=Jh hw2
   clear hw2
   by_cases hw1:wd=1
   ·have HW1:=Jh hw1
    have g9:(wd != 1)=false:=by rw [bne_eq_false_iff_eq];exact hw1
    clear hw1
    rcases HO.out with rfl | rfl<;>rcases n6 with rfl | rfl | rfl
    all_goals go_wp2_with (first | (go_at_call 151;refine ((HSET _ _).out (Below.refl _ _)).mono ?_;rintro r w4 ⟨rfl,hb4,hg4⟩;have q2:=(K2.out.grown hg4 (by omega)).cell 0))
    all_goals go_ret2
    all_goals exact .inr ⟨_,w.heap.size+1,(by rw [HW2.out,if_neg (by have:=HW1.out;omega)]),by simp,rfl,hb4,(HN 0).out _ hg4⟩
   ·have HW1:=Jh hw1
    have g9:(wd != 1)=true:=by rw [bne_iff_ne];exact hw1
    clear hw1
    rcases HO.out with rfl | rfl<;>rcases n6 with rfl | rfl | rfl
    all_goals go_wp2_with (first | (go_at_call 151;refine ((HSET _ _).out (Below.refl _ _)).mono ?_;rintro r w4 ⟨rfl,hb4,hg4⟩;have q2:=(K2.out.grown hg4 (by omega)).cell 0))
    all_goals go_ret2
    all_goals exact .inl ⟨by rw [HW2.out,if_pos HW1.out],rfl,(HN 0).out _ hg4⟩
  by_cases n3:n=3\/n=4\/n=5
  ·have hw2:=HW.out
   rw [if_neg n6,if_pos n3] at hw2
   have HW2:=Jh hw2
   clear hw2 n6
   by_cases hw1:wd=1
   ·have HW1:=Jh hw1
    have g9:(wd != 1)=false:=by rw [bne_eq_false_iff_eq];exact hw1
    clear hw1
    rcases HO.out with rfl | rfl<;>rcases n3 with rfl | rfl | rfl
    all_goals go_wp2_with fail
    all_goals go_ret2
    all_goals exact .inr ⟨_,w.heap.size+1,(by rw [HW2.out,if_neg (by have:=HW1.out;omega)]),by simp,rfl,K1.out,HX⟩
   ·have HW1:=Jh hw1
    have g9:(wd != 1)=true:=by rw [bne_iff_ne];exact hw1
    clear hw1
    rcases HO.out with rfl | rfl<;>rcases n3 with rfl | rfl | rfl
    all_goals go_wp2_with fail
    all_goals go_ret2
    all_goals exact .inl ⟨by rw [HW2.out,if_pos HW1.out],rfl,HX⟩
  by_cases n19:n=19\/n=20\/n=21\/n=22\/n=23\/n=24
  ·have hw2:=HW.out
   rw [if_neg n6,if_neg n3,if_pos n19] at hw2
   have HW2:=Jh hw2
   have g7:=K0.out 7 _ rfl
   clear hw2 n6 n3
   by_cases hw1:wd=1
   ·have HW1:=Jh hw1
    have g9:(wd != 1)=false:=by rw [bne_eq_false_iff_eq];exact hw1
    clear hw1
    rcases HO.out with rfl | rfl<;>rcases n19 with rfl | rfl | rfl | rfl | rfl | rfl
    all_goals go_wp2_with (first | (go_at_call 150;refine ((HF _).out (Below.refl _ _)).mono ?_;rintro r w5 ⟨rfl,hx5⟩) | (go_at_call 118;refine (told_calls _ _ _).mono ?_;rintro r w6 ⟨rfl,rfl⟩) | (go_at_call 151;refine ((HSET _ _).out hx5).mono ?_;rintro r w4 ⟨rfl,hb4,hg4⟩;have q2:=((K2.out.ext hx5).grown hg4 (by omega)).cell 0))
    all_goals go_ret2
    all_goals exact .inr ⟨_,w.heap.size+1,(by rw [HW2.out,if_neg (by have:=HW1.out;omega)]),by simp,rfl,hb4,(HX.trans hx5).grown hg4 (by omega)⟩
   ·have HW1:=Jh hw1
    have g9:(wd != 1)=true:=by rw [bne_iff_ne];exact hw1
    clear hw1
    rcases HO.out with rfl | rfl<;>rcases n19 with rfl | rfl | rfl | rfl | rfl | rfl
    all_goals go_wp2_with fail
    all_goals go_ret2
    all_goals exact .inl ⟨by rw [HW2.out,if_pos HW1.out],rfl,HX⟩
  by_cases n17:n=17\/n=18
  ·have hw2:=HW.out
   rw [if_neg n6,if_neg n3,if_neg n19,if_pos n17] at hw2
   have HW2:=Jh hw2
   clear hw2 n6 n3 n19
   have q1:=rep_head K1.out h3
   have f1:=K1.out.frozen 0
   have h:=K1.out.set 0 (.int .i64 wd)
   have HF2:=Jh h
   clear h
   rcases HO.out with rfl | rfl<;>rcases n17 with rfl | rfl
   all_goals go_wp2_with fail
   all_goals go_ret2
   all_goals
    refine .inr ⟨_,w.heap.size+1,(by rw [HW2.out]),by simp;omega,rfl,?_,HX.grown (gb_set _ _ _ _) (by omega)⟩
    have:=HF2.out
    obtain ⟨m,hm⟩:∃ m,l.length=m+1:=⟨l.length-1,by omega⟩
    rw [hm] at this ⊢
    simpa [List.replicate_succ] using this
  have hw2:=HW.out
  rw [if_neg n6,if_neg n3,if_neg n19,if_neg n17] at hw2
  have HW2:=Jh hw2
  clear hw2
  simp only [not_or] at n6 n3 n19 n17
  obtain ⟨m1,m2,m3⟩:=n6
  obtain ⟨m4,m5,m6⟩:=n3
  obtain ⟨m7,m8,m9,m10,m11,m12⟩:=n19
  obtain ⟨m13,m14⟩:=n17
  rcases HO.out with rfl | rfl
  all_goals go_wp2_with (first | (go_at_call 151;refine ((HSET _ _).out (Below.refl _ _)).mono ?_;rintro r w4 ⟨rfl,hb4,hg4⟩;have q2:=(K2.out.grown hg4 (by omega)).cell 0))
  all_goals go_ret2
  all_goals exact .inr ⟨_,w.heap.size+1,(by rw [HW2.out]),by simp,rfl,hb4,(HN 0).out _ hg4⟩
 have hw:=HWL.out
 rw [if_neg o6,if_neg o7,if_neg o45] at hw
 have HW:=Jh hw
 simp only [not_or] at o45
 obtain ⟨o4,o5⟩:=o45
 clear hw HWL
 generalize own ⟨op,ewd,v,sig,hi,lo,n,l⟩=q at *
 by_cases hq1:q=wd
 ·have HQ:=Jh hq1
  have g2:(q != wd)=false:=by rw [bne_eq_false_iff_eq];exact hq1
  clear hq1
  go_wp2_with (first | ((with_reducible show Jl 31);refine Jm 31 (K0.out) agg_E rfl ?_) | (go_at_call 117;refine ((HOW _).out (Below.refl _ _)).mono ?_;rintro r w4 ⟨rfl,hx1⟩;have q2:=(K2.out.ext hx1).cell 0))
  go_ret2
  exact .inr ⟨_,w.heap.size+1,(by rw [HW.out,if_neg (by have:=HQ.out;omega)]),by simp,rfl,K1.out.ext hx1,HX.trans hx1⟩
 ·have g2:(q != wd)=true:=by rw [bne_iff_ne];exact hq1
  have HQ:=Jh hq1
  clear hq1
  go_wp2_with (first | ((with_reducible show Jl 31);refine Jm 31 (K0.out) agg_E rfl ?_) | (go_at_call 117;refine ((HOW _).out (Below.refl _ _)).mono ?_;rintro r w4 ⟨rfl,hx1⟩;have q2:=(K2.out.ext hx1).cell 0))
  go_ret2
  exact .inl ⟨by rw [HW.out,if_pos HQ.out],rfl,HX.trans hx1⟩
end Go.Proofs.YtpngepnfinbaoaaGreat
