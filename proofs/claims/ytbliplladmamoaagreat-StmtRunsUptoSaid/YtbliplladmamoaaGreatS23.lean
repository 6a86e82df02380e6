/- Laws and walks that a claim of this seat leans on: TakeL, WordC, R01a, R01b, R01c, R01d. -/
import Derived.Test.YtbliplladmamoaaGreatS20
import Derived.Test.YtbliplladmamoaaGreatS15
import Derived.Test.YtbliplladmamoaaGreatS21
import Derived.Test.YtbliplladmamoaaGreatS18
import Derived.Test.YtbliplladmamoaaGreatS16
import Derived.Test.YtbliplladmamoaaGreatS00
set_option maxRecDepth 100000
set_option maxHeartbeats 8000000
set_option linter.all false
namespace Go.Proofs.YtbliplladmamoaaGreat
open Go.RowKit
theorem Qi {n:Nat} (h:n<18446744073709551616):IntKind.u64.wrap (n:Int)=n:=by obtain ⟨x,rfl⟩:=L9 h;exact Ma x
theorem Aes {a b:Nat} (ha:a<18446744073709551616) (hb:b<18446744073709551616):bits .andNot .u64 (a:Int) (b:Int)=((a &&& (2^64-(b+1)):Nat):Int):=by
 obtain ⟨x,rfl⟩:=L9 ha
 obtain ⟨y,rfl⟩:=L9 hb
 rw [Za,BitVec.toNat_and,BitVec.toNat_not,show (2:Nat)^64-(y.toNat+1)=2^64-1-y.toNat by omega]
def Ai1 (a b j:Nat):Nat:=(a &&& (2^64-(2^j+1))) ||| (b &&& 2^j)
theorem Ax.cellf {N g cap n:Nat} {l:List Nat} {w:World} (h:Ax N (.slice (some ⟨g,0,none⟩) n cap) l w) {j:Nat} (hj:j<l.length):w.cell? ⟨g,j,none⟩=some (W64 l[j])/\w.frozen? ⟨g,j,none⟩=false:=by
 obtain ⟨g',ab,e,-,hc⟩:=h.open1 (by omega)
 injection e with e
 injection e with e
 injection e with e
 subst e
 obtain ⟨-,aa,u⟩:=h.at rfl
 exact ⟨hc j _ (List.getElem?_eq_getElem hj),Blk.frozen (cs:=aa) (T:=35) u j⟩
theorem Aep {k:Nat} (h:k<=63):IntKind.u64.wrap (IntKind.u64.wrap (2^k)-1)=((2^k-1:Nat):Int):=by
 revert k
 decide +kernel
theorem Fo (wd:Int) (h1:1<=wd) (h2:wd<=64) (w:World):Calls Tryz.prog 40 #[.int .i64 wd] w fun r w'=>r=.returned (.int .u64 ((2^wd.toNat-1:Nat):Int))/\w'=w:=by
 obtain ⟨k,rfl⟩:=Int.eq_ofNat_of_zero_le (show 0<=wd by omega)
 rw [Int.toNat_natCast]
 have c1:decide ((k:Int)<1)=false:=decide_eq_false (by omega)
 go_enter Tryz.func40,Tryz.ntmps40
 by_cases h3:(63:Int)<(k:Int)
 ·have c2:decide ((63:Int)<(k:Int))=true:=decide_eq_true h3
  obtain rfl:k=64:=by omega
  clear h3
  go_wp2_with fail
  go_ret
  exact ⟨rfl,rfl⟩
 ·have c2:decide ((63:Int)<(k:Int))=false:=decide_eq_false h3
  have hm:=Aep (show k<=63 by omega)
  have HM:=Jh hm
  clear h3 hm
  go_wp2_with fail
  go_ret
  refine ⟨?_,rfl⟩
  rw [<-HM.out]
  first | rfl | (trace_state;simp)
theorem Dd (a:Bt) (ha:a.ok) (w:World):Calls Tryz.prog 180 #[.agg a.cells.toArray] w fun r w'=>r=.returned (.int .i64 0)/\Ext w w':=by
 obtain ⟨h1,h2,h3⟩:=ha
 have HM:=Jh (fun W=>Fo a.w h1 h2 W)
 obtain ⟨wd,v⟩:=a
 simp only at h1 h2 h3 HM
 have hv:v<=2^wd.toNat-1:=by omega
 generalize 2^wd.toNat-1=M at *
 have c1:decide (wd<1)=false:=decide_eq_false (by omega)
 have c2:decide (64<wd)=false:=decide_eq_false (by omega)
 have c3:decide (M<v)=false:=decide_eq_false (by omega)
 clear h1 h2 h3 hv
 have HX:=Ab w (.cells (Bt.cells ⟨wd,v⟩).toArray 151)
 have hb:=Blk.new w (Bt.cells ⟨wd,v⟩).toArray 151
 go_enter Tryz.func180,Tryz.ntmps180
 go_upto_region 1 with fail
 generalize w.alloc _=w0 at *
 have g0:=hb.has 0 _ rfl
 have g1:=hb.has 1 _ rfl
 go_quiet (first | (go_at_call 40;refine Calls.quiet_of_same (HM.out _)))
 go_wp2_with fail
 go_ret
 exact ⟨rfl,HX.drewNB nq⟩
theorem Qv (b:Bool) (w:World):Calls Tryz.prog 181 #[.bool b] w fun r w'=>r=.returned (.agg (Bt.cells ⟨1,b2n b⟩).toArray)/\Ext w w':=by
 have HX:=Ab w (.cells #[.int .i64 0,.int .u64 0] 151)
 have hb:=Blk.new w #[.int .i64 0,.int .u64 0] 151
 go_enter Tryz.func181,Tryz.ntmps181
 go_upto_region 1 with fail
 generalize w.alloc _=w0 at *
 cases b
 ·go_wp2_with (first | ((with_reducible show Js 151);refine Ac rfl 151 _ _ rfl (hb) rfl (cs:=Bt.cells ⟨1,b2n false⟩) (rfl) Ae (rfl) rfl (rfl) ?_;intro w4 j u) | ((with_reducible show bodyPost _ _ _ _ _ _);refine Hid.out ?_))
  refine Jh ?_
  exact Av rfl rfl j.has Ae rfl rfl ⟨rfl,HX.grown u (by omega)⟩
 ·go_wp2_with (first | ((with_reducible show Js 151);refine Ac rfl 151 _ _ rfl (hb) rfl (cs:=Bt.cells ⟨1,b2n true⟩) (rfl) Ae (rfl) rfl (rfl) ?_;intro w4 j u) | ((with_reducible show bodyPost _ _ _ _ _ _);refine Hid.out ?_))
  refine Jh ?_
  exact Av rfl rfl j.has Ae rfl rfl ⟨rfl,HX.grown u (by omega)⟩
def par (k v:Nat):Bool:=decide (pop k v%2=1)
theorem Ae3 (k v:Nat):par (k+1) v=if v / 2^k%2=1 then !par k v else par k v:=by
 have h:=Vo k 1 v
 rw [show pop 1 (v / 2^k)=v / 2^k%2 by simp [pop]] at h
 unfold par
 rw [h]
 by_cases c:v / 2^k%2=1
 ·rw [if_pos c,c]
  by_cases p:pop k v%2=1
  ·rw [decide_eq_true p,decide_eq_false (by omega)];rfl
  ·rw [decide_eq_false p,decide_eq_true (by omega)];rfl
 ·rw [if_neg c,show v / 2^k%2=0 by omega,Nat.add_zero]
theorem Af0 (n:Nat) (h:n<2^64):bits .and .u64 (n:Int) 1=((n%2:Nat):Int):=by
 rw [show (1:Int)=((1:Nat):Int) from rfl,Gr h (by decide),show (1:Nat)=2^1-1 from rfl,Nat.and_two_pow_sub_one_eq_mod]
theorem Aae (v:Nat) (hv:v<2^64) (w:World):Calls Tryz.prog 182 #[.int .u64 (v:Int)] w fun r w'=>r=.returned (.bool (par 64 v))/\w'=w:=by
 go_enter Tryz.func182,Tryz.ntmps182
 go_wp2_with fail
 go_loopw [3,4] (fun b i wr=>∃ k:Nat,k<=64/\i=.int .i64 k/\b=.bool (par k v)/\wr=w) (fun _ i _=>64-(intOf i).toNat)
 case atStart=>exact ⟨0,Nat.zero_le _,rfl,rfl,rfl⟩
 case round =>
  obtain ⟨k,hk,rfl,rfl,rfl⟩:=hrel
  by_cases j:k<64
  ·have hp:=Ae3 k v
   have hn:v / 2^k<2^64:=Nat.lt_of_le_of_lt (Nat.div_le_self _ _) hv
   have h1:(v:Int) / 2^k=((v / 2^k:Nat):Int):=Abc v k
   have h2:=Af0 _ hn
   generalize v / 2^k=n at *
   have H1:=Jh h1
   have H2:=Jh h2
   have HP:=Jh hp
   clear h1 h2 hp
   by_cases c:n%2=1
   ·have bt:(bits .and .u64 ((v:Int) / 2^k) 1==1)=true:=by rw [H1.out,H2.out,beq_iff_eq];omega
    rw [if_pos c] at HP
    go_wp2_with fail
    go_roundw
    case rel=>exact ⟨k+1,by omega,by go_num,by rw [HP.out],trivial⟩
    case measure=>simp [intOf];omega
   ·have bt:(bits .and .u64 ((v:Int) / 2^k) 1==1)=false:=by rw [H1.out,H2.out,beq_eq_false_iff_ne];omega
    rw [if_neg c] at HP
    go_wp2_with fail
    go_roundw
    case rel=>exact ⟨k+1,by omega,by go_num,by rw [HP.out],trivial⟩
    case measure=>simp [intOf];omega
  ·obtain rfl:k=64:=by omega
   go_wp2_with fail
   go_ret
   exact ⟨rfl,rfl⟩
theorem Mg {q w:Nat} (hq:q<2^64) (hw:w<=64):bits .and .u64 (q:Int) ((2^w-1:Nat):Int)=((q%2^w:Nat):Int):=by
 have h:=Nat.pow_le_pow_right (n:=2) (by decide) hw
 rw [Gr hq (by have:=Nat.two_pow_pos w;omega),Nat.and_two_pow_sub_one_eq_mod]
theorem N3 (a:Bt) (ha:a.ok) (hi lo:Int) (h1:0<=lo) (h2:lo<=hi) (h3:hi<a.w) (w:World) :
  Calls Tryz.prog 146 #[.agg a.cells.toArray,.int .i64 hi,.int .i64 lo] w (Gk w ⟨hi-lo+1,a.v / 2^lo.toNat%2^(hi-lo+1).toNat⟩):=by
 have HX:=(Ab w (.cells a.cells.toArray 151)).trans (Ab _ (.cells #[.int .i64 0,.int .u64 0] 151))
 have hD:=(Blk.new w a.cells.toArray 151).ext (Ab _ (.cells #[.int .i64 0,.int .u64 0] 151))
 have hR:=Blk.new (w.alloc (.cells a.cells.toArray 151)) #[.int .i64 0,.int .u64 0] 151
 rw [show (w.alloc (.cells a.cells.toArray 151)).heap.size=w.heap.size+1 by simp] at hR
 have ag:=Jh (fun W=>Dd a ha W)
 have aa:=Bt.lt64 ha
 have af:=ha.2.1
 clear ha
 obtain ⟨wd,v⟩:=a
 simp only at h3 aa af
 obtain ⟨l,rfl⟩:=Int.eq_ofNat_of_zero_le h1
 rw [Int.toNat_natCast]
 have u:v / 2^l<2^64:=Nat.lt_of_le_of_lt (Nat.div_le_self _ _) aa
 have HM:=Jh (fun W=>Fo (hi-(l:Int)+1) (by omega) (by omega) W)
 have he:=Mg u (show (hi-(l:Int)+1).toNat<=64 by omega)
 have hs:=Abc v l
 obtain ⟨q,hq⟩:∃ q,v / 2^l=q:=⟨_,rfl⟩
 obtain ⟨M,hM⟩:∃ M,2^(hi-(l:Int)+1).toNat-1=M:=⟨_,rfl⟩
 obtain ⟨R,ab⟩:∃ R,v / 2^l%2^(hi-(l:Int)+1).toNat=R:=⟨_,rfl⟩
 rw [ab,hM,hq] at he
 rw [hq] at hs
 rw [hM] at HM
 rw [ab]
 have E:=Jh he
 have S:=Jh hs
 clear he hs hq hM ab u aa
 have c1:decide ((l:Int)<0)=false:=decide_eq_false (by omega)
 have c2:decide (hi<(l:Int))=false:=decide_eq_false (by omega)
 have c3:decide (wd<=hi)=false:=decide_eq_false (by omega)
 go_enter Tryz.func146,Tryz.ntmps146
 go_upto_region 1 with fail
 generalize (w.alloc _).alloc _=w0 at *
 have ac:=hD.has
 go_upto_region 4 with (first | ((with_reducible show Jl 151);refine Aa rfl 151 _ rfl rfl (ac) Ae rfl ?_) | (go_at_call 180;refine (ag.out _).mono ?_;rintro r w1 ⟨rfl,j⟩;have g0:=(hD.ext j).has 0 _ rfl))
 have ai:=hD.ext j
 have aj:=hR.ext j
 have ak:=HX.trans j
 clear hD hR HX j g0 ac
 refine wp_region_held_drew (S:=fun W=>Ext w W/\Blk W w.heap.size (Bt.cells ⟨wd,v⟩).toArray 151) (by kernel_rfl) ⟨ak.drew,ai.drew⟩ (fun hH=>?_)
 try simp only [J]
 (refine Ji 0 (.int .i64 (hi-(l:Int)+1)) rfl hH ?_;try simp only [J])
 (refine Jk 1 (.pointer (some ⟨w.heap.size,1,none⟩)) rfl hH ?_;try simp only [J])
 (refine Jt 2 (.int .u64 (v:Int)) rfl (yif_load1 rfl (by intro W hW;have y:=hW.2.has 1 _ rfl;clear hW;go_simp)) hH ?_;try simp only [J])
 (refine Ji 3 (.int .i64 (l:Int)) rfl hH ?_;try simp only [J])
 (refine Jt 4 (.int .u64 (q:Int)) rfl (yif_load1 rfl (by intro W hW;clear hW;go_simp;exact S.out)) hH ?_;try simp only [J])
 (refine Ji 5 (.int .i64 (hi-(l:Int)+1)) rfl hH ?_;try simp only [J])
 (refine Jr 6 rfl fun K hK=>?_)
 go_simp
 refine (HM.out _).mono ?_
 rintro r w3 ⟨rfl,rfl⟩
 refine hK.out _ _ hH (fun hH=>?_)
 clear hK K
 try simp only [J]
 (refine Jt 7 (.int .u64 (R:Int)) rfl (yif_load1 rfl (by intro W hW;clear hW;go_simp;exact E.out)) hH ?_;try simp only [J])
 (refine Jk 8 (.agg (Bt.cells ⟨hi-(l:Int)+1,R⟩).toArray) rfl hH ?_;try simp only [J])
 (refine Jr 9 rfl fun K hK=>?_)
 refine Az rfl 151 _ _ rfl aj.drew rfl (cs:=Bt.cells ⟨hi-(l:Int)+1,R⟩) rfl Ae rfl rfl rfl ?_
 intro w4 al ae
 refine hK.out _ _ ⟨hH.1.grown ae (by omega),hH.2.grown ae (by omega)⟩ (fun hH=>?_)
 clear hK K
 try simp only [J]
 (refine Ji 10 (.int .i64 0) rfl hH ?_;try simp only [J])
 refine Jz ?_
 go_wp2_with ((with_reducible show bodyPost _ _ _ _ _ _);refine Hid.out ?_)
 refine Jh ?_
 exact Am rfl rfl rfl al.has Ae rfl rfl ⟨rfl,hH.1⟩
theorem Agz {w v:Nat} (hw:w<=64) (hv:v<2^w):bits .and .u64 (IntKind.u64.wrap (-(v:Int))) ((2^w-1:Nat):Int)=(((2^w-v)%2^w:Nat):Int):=by
 have e:IntKind.u64.wrap (-(v:Int))=(((18446744073709551616-v)%18446744073709551616:Nat):Int):=by
  have:=Nat.pow_le_pow_right (n:=2) (by decide) hw
  rw [IntKind.wrap_u64]
  omega
 rw [e,Mg (by omega) hw,Afq hw hv]
theorem Agk (v:Nat):b2n (par 64 v)=Ae6 v%2:=by
 rw [Yy]
 unfold par b2n
 by_cases c:pop 64 v%2=1
 ·rw [if_pos (decide_eq_true c)];omega
 ·rw [if_neg (by simp [c])];omega
theorem Aa3 (a b:Nat):((a:Int)==(b:Int))=decide (a=b):=by
 rw [Bool.eq_iff_iff]
 simp
 omega
theorem Abl (op:Int) (h1:1<=op) (h6:op<=6) (a:Bt) (ha:a.ok) (hw:op=6->a.w=1) (w:World) :
  Calls Tryz.prog 147 #[.int .i64 op,.agg a.cells.toArray] w (Gk w ⟨unW op a.w,unM op a.w.toNat a.v⟩):=by
 have HX:=Jh ((Ab w (.cells a.cells.toArray 151)).trans (Ab _ (.cells #[.int .i64 0,.int .u64 0] 151)))
 have hD:=(Blk.new w a.cells.toArray 151).ext (Ab _ (.cells #[.int .i64 0,.int .u64 0] 151))
 have hR:=Blk.new (w.alloc (.cells a.cells.toArray 151)) #[.int .i64 0,.int .u64 0] 151
 rw [show (w.alloc (.cells a.cells.toArray 151)).heap.size=w.heap.size+1 by simp] at hR
 have ap:=Jh (fun W=>Dd a ha W)
 have am:=Bt.lt64 ha
 have HM:=Jh (fun W=>Fo a.w ha.1 ha.2.1 W)
 have al:=Jh (fun W=>Aae a.v am W)
 have ai:=Jh Qv
 have hv:=ha.2.2
 have au:=ha.1
 have av:=ha.2.1
 clear ha
 obtain ⟨wd,v⟩:=a
 simp only at am hv hw au av HM al
 have aj:=Jh (Agz (show wd.toNat<=64 by omega) hv)
 have ar:v<=2^wd.toNat-1:=by omega
 have ao:2^wd.toNat-1<18446744073709551616:=by
  have:=Nat.pow_le_pow_right (n:=2) (by decide) (show wd.toNat<=64 by omega)
  omega
 obtain ⟨aw,af⟩:∃ r,unM op wd.toNat v=r:=⟨_,rfl⟩
 have ab:=Jh af
 rw [af]
 clear af
 obtain ⟨M,hM⟩:∃ M,2^wd.toNat-1=M:=⟨_,rfl⟩
 rw [hM] at HM aj ar ao
 have ak:=Jh hM
 clear hM
 go_enter Tryz.func147,Tryz.ntmps147
 go_upto_region 1 with fail
 generalize (w.alloc _).alloc _=w0 at *
 have an:=hD.has
 have HD:=Jh hD
 have HR:=Jh hR
 clear hD hR
 go_upto_region 4 with (first | ((with_reducible show Jl 151);refine Aa rfl 151 _ rfl rfl (an) Ae rfl ?_) | (go_at_call 180;refine (ap.out _).mono ?_;rintro r w1 ⟨rfl,ag⟩;have g0:=(HD.out.ext ag).has 0 _ rfl;have g1:=(HD.out.ext ag).has 1 _ rfl) | (go_at_call 40;refine (HM.out _).mono ?_;rintro r w2 ⟨rfl,rfl⟩))
 have ac:=Jh (HR.out.ext ag)
 have ae:=Jh (HX.out.trans ag)
 clear ag an HD HR HX
 have aq:op=1\/op=2\/op=3\/op=4\/op=5\/op=6:=by omega
 clear h1 h6
 rcases aq with rfl | rfl | rfl | rfl | rfl | rfl
 ·go_wp2_with (first | ((with_reducible show Js 151);refine Ac rfl 151 _ _ rfl (ac.out) rfl (cs:=[.int .i64 wd,.int .u64 _]) (rfl) Ae (rfl) rfl (rfl) ?_;intro w4 j u) | ((with_reducible show bodyPost _ _ _ _ _ _);refine Hid.out ?_))
  refine Jh ?_
  refine Am rfl rfl rfl j.has Ae rfl rfl ⟨?_,ae.out.grown u (by omega)⟩
  rw [<-ab.out,show unM 1 wd.toNat v=M-v by rw [<-ak.out];rfl,show ((M:Int)-(v:Int))=((M-v:Nat):Int) by omega]
  rfl
 ·go_wp2_with (first | ((with_reducible show Js 151);refine Ac rfl 151 _ _ rfl (ac.out) rfl (cs:=[.int .i64 wd,.int .u64 _]) (rfl) Ae (rfl) rfl (rfl) ?_;intro w4 j u) | ((with_reducible show bodyPost _ _ _ _ _ _);refine Hid.out ?_))
  refine Jh ?_
  refine Am rfl rfl rfl j.has Ae rfl rfl ⟨?_,ae.out.grown u (by omega)⟩
  rw [<-ab.out,aj.out]
  rfl
 ·go_wp2_with (first | (go_at_call 181;refine (ai.out _ _).mono ?_;rintro r w5 ⟨rfl,aa⟩) | ((with_reducible show Js 151);refine Ac rfl 151 _ _ rfl (ac.out.ext aa) rfl (cs:=Bt.cells ⟨1,b2n _⟩) (rfl) Ae (rfl) rfl (rfl) ?_;intro w4 j u) | ((with_reducible show bodyPost _ _ _ _ _ _);refine Hid.out ?_))
  refine Jh ?_
  refine Am rfl rfl rfl j.has Ae rfl rfl ⟨?_,(ae.out.trans aa).grown u (by omega)⟩
  rw [<-ab.out,show unM 3 wd.toNat v=b2n (decide (v=M)) by rw [<-ak.out];rfl,<-Aa3]
  rfl
 ·go_wp2_with (first | (go_at_call 181;refine (ai.out _ _).mono ?_;rintro r w5 ⟨rfl,aa⟩) | ((with_reducible show Js 151);refine Ac rfl 151 _ _ rfl (ac.out.ext aa) rfl (cs:=Bt.cells ⟨1,b2n _⟩) (rfl) Ae (rfl) rfl (rfl) ?_;intro w4 j u) | ((with_reducible show bodyPost _ _ _ _ _ _);refine Hid.out ?_))
  refine Jh ?_
  refine Am rfl rfl rfl j.has Ae rfl rfl ⟨?_,(ae.out.trans aa).grown u (by omega)⟩
  rw [<-ab.out,show unM 4 wd.toNat v=b2n (decide (v≠0)) from rfl,show decide (v≠0)=((v:Int) != 0) by (rw [Bool.eq_iff_iff];simp)]
  rfl
 ·go_wp2_with (first | (go_at_call 182;refine (al.out _).mono ?_;rintro r w6 ⟨rfl,rfl⟩) | (go_at_call 181;refine (ai.out _ _).mono ?_;rintro r w5 ⟨rfl,aa⟩) | ((with_reducible show Js 151);refine Ac rfl 151 _ _ rfl (ac.out.ext aa) rfl (cs:=Bt.cells ⟨1,b2n _⟩) (rfl) Ae (rfl) rfl (rfl) ?_;intro w4 j u) | ((with_reducible show bodyPost _ _ _ _ _ _);refine Hid.out ?_))
  refine Jh ?_
  refine Am rfl rfl rfl j.has Ae rfl rfl ⟨?_,(ae.out.trans aa).grown u (by omega)⟩
  rw [<-ab.out,show unM 5 wd.toNat v=Ae6 v%2 from rfl,<-Agk]
  rfl
 ·obtain rfl:=hw rfl
  go_wp2_with (first | (go_at_call 181;refine (ai.out _ _).mono ?_;rintro r w5 ⟨rfl,aa⟩) | ((with_reducible show Js 151);refine Ac rfl 151 _ _ rfl (ac.out.ext aa) rfl (cs:=Bt.cells ⟨1,b2n _⟩) (rfl) Ae (rfl) rfl (rfl) ?_;intro w4 j u) | ((with_reducible show bodyPost _ _ _ _ _ _);refine Hid.out ?_))
  refine Jh ?_
  refine Am rfl rfl rfl j.has Ae rfl rfl ⟨?_,(ae.out.trans aa).grown u (by omega)⟩
  rw [<-ab.out,show unM 6 (1:Int).toNat v=b2n (decide (v=0)) from rfl,show decide (v=0)=((v:Int)==0) by (rw [Bool.eq_iff_iff];simp)]
  rfl
theorem Uk (v n:Nat) (hv:v<2^64) (w:World):Calls Tryz.prog 183 #[.int .u64 (v:Int),.int .u64 (n:Int)] w fun r w'=>r=.returned (.int .u64 ((v*2^n%18446744073709551616:Nat):Int))/\w'=w:=by
 obtain ⟨m,e1,hm,j⟩:=Abe v n 64 (by decide)
 have u:=Afg v n
 rw [e1] at u
 rw [Nat.mod_eq_of_lt hm] at j
 rw [show (2:Nat)^64=18446744073709551616 from rfl] at j
 rw [<-j]
 have HM:=Jh j
 clear e1 j hm
 go_enter Tryz.func183,Tryz.ntmps183
 by_cases h:(63:Int)<(n:Int)
 ·have c:decide ((63:Int)<(n:Int))=true:=decide_eq_true h
  have hz:m=0:=by
   rw [HM.out,show n=64+(n-64) by omega,Nat.pow_add,show (2:Nat)^64=18446744073709551616 from rfl,<-Nat.mul_assoc,Nat.mul_right_comm,Nat.mul_mod_left]
  subst hz
  clear h u
  go_wp2_with fail
  go_ret
  exact ⟨rfl,rfl⟩
 ·have c:decide ((63:Int)<(n:Int))=false:=decide_eq_false h
  clear h
  go_wp2_with fail
  go_ret
  exact ⟨rfl,rfl⟩
theorem Yc (v n:Nat) (hv:v<2^64) (w:World):Calls Tryz.prog 184 #[.int .u64 (v:Int),.int .u64 (n:Int)] w fun r w'=>r=.returned (.int .u64 ((v / 2^n:Nat):Int))/\w'=w:=by
 have j:=Aap v n
 rw [Vw v n hv] at j
 have hz:63<n->v / 2^n=0:=fun h=>Nat.div_eq_of_lt (Nat.lt_of_lt_of_le hv (Nat.pow_le_pow_right (by decide) (by omega)))
 generalize v / 2^n=m at *
 go_enter Tryz.func184,Tryz.ntmps184
 by_cases h:(63:Int)<(n:Int)
 ·have c:decide ((63:Int)<(n:Int))=true:=decide_eq_true h
  have u:=hz (by omega)
  subst u
  clear h j hz
  go_wp2_with fail
  go_ret
  exact ⟨rfl,rfl⟩
 ·have c:decide ((63:Int)<(n:Int))=false:=decide_eq_false h
  clear h hz
  go_wp2_with fail
  go_ret
  exact ⟨rfl,rfl⟩
theorem Af3 (a b:Nat):decide (a≠b)=((a:Int) != (b:Int)):=by
 rw [Bool.eq_iff_iff]
 simp
 omega
theorem Mn {n w:Nat} (hw:w<=64):n%18446744073709551616%2^w=n%2^w:=Nat.mod_mod_of_dvd _ ⟨_,(Rm hw).symm⟩
theorem Aft (a b:Nat):IntKind.u64.wrap ((a:Int)+(b:Int))=(((a+b)%18446744073709551616:Nat):Int):=by rw [IntKind.wrap_u64];omega
theorem Afu (a b:Nat):IntKind.u64.wrap ((a:Int)*(b:Int))=((a*b%18446744073709551616:Nat):Int):=by
 rw [IntKind.wrap_u64,<-Int.natCast_mul];omega
theorem Afv (a b:Nat) (hb:b<=18446744073709551616):IntKind.u64.wrap ((a:Int)-(b:Int))=(((a+18446744073709551616-b)%18446744073709551616:Nat):Int):=by
 rw [IntKind.wrap_u64];omega
theorem Agv {a b w:Nat} (hw:w<=64) (hb:b<2^w):(a+18446744073709551616-b)%2^w=(a+2^w-b)%2^w:=by
 have e:=Rm hw
 have hk:=Nat.two_pow_pos (64-w)
 generalize 2^w=M at *
 generalize 2^(64-w)=K at *
 have h6:a+18446744073709551616-b=M*(K-1)+(a+M-b):=by
  have:M*(K-1)=M*K-M:=by rw [Nat.mul_sub,Nat.mul_one]
  have:M<=M*K:=Nat.le_mul_of_pos_right _ hk
  omega
 rw [h6,Nat.mul_add_mod]
theorem Ze (op:Int) (h1:11<=op) (h2:op<=26) (a b:Bt) (ha:a.ok) (hb:b.ok) (a9:op≠17->op≠18->a.w=b.w) (a6:25<=op->a.w=1) (w:World) :
  Calls Tryz.prog 148 #[.int .i64 op,.agg a.cells.toArray,.agg b.cells.toArray] w (Gk w ⟨Fm op a.w,D4 op a.w.toNat a.v b.v⟩):=by
 have x1:=Ab w (.cells a.cells.toArray 151)
 have x2:=Ab (w.alloc (.cells a.cells.toArray 151)) (.cells b.cells.toArray 151)
 have x3:=Ab ((w.alloc (.cells a.cells.toArray 151)).alloc (.cells b.cells.toArray 151)) (.cells #[.int .i64 0,.int .u64 0] 151)
 have hA:=((Blk.new w a.cells.toArray 151).ext x2).ext x3
 have hB:=(Blk.new (w.alloc (.cells a.cells.toArray 151)) b.cells.toArray 151).ext x3
 have hR:=Blk.new ((w.alloc (.cells a.cells.toArray 151)).alloc (.cells b.cells.toArray 151)) #[.int .i64 0,.int .u64 0] 151
 have hX:=(x1.trans x2).trans x3
 simp only [World.size_alloc] at hB hR
 clear x1 x2 x3
 have a4:=Jh (fun W=>Dd a ha W)
 have a5:=Jh (fun W=>Dd b hb W)
 have al:=Jh Qv
 have aj:=Bt.lt64 ha
 have am:=Bt.lt64 hb
 have HM:=Jh (fun W=>Fo a.w ha.1 ha.2.1 W)
 have ah:=Jh (fun W=>Uk a.v b.v aj W)
 have ax:=Jh (fun W=>Yc a.v b.v aj W)
 have a3:=Jh ha.2.2
 have b3:=Jh hb.2.2
 have an:=Jh a6
 have ao:=Jh a9
 have ag:=Jh (show a.w.toNat<=64 by have:=ha.2.1;omega)
 clear ha hb a9 a6
 obtain ⟨wd,av⟩:=a
 obtain ⟨bw,bv⟩:=b
 simp only at aj am a3 b3 ao an HM ah ax ag
 obtain ⟨aq,aw⟩:∃ r,D4 op wd.toNat av bv=r:=⟨_,rfl⟩
 have ab:=Jh aw
 rw [aw]
 clear aw
 obtain ⟨M,hM⟩:∃ M,2^wd.toNat-1=M:=⟨_,rfl⟩
 have ap:=Jh (fun (q:Nat) (hq:q<2^64)=>Mg hq ag.out)
 rw [hM] at HM ap
 clear hM
 go_enter Tryz.func148,Tryz.ntmps148
 go_upto_region 1 with fail
 generalize ((w.alloc _).alloc _).alloc _=w0 at *
 have a7:=hA.has
 have HA:=Jh hA
 have HB:=Jh hB
 have HR:=Jh hR
 have HX:=Jh hX
 clear hA hB hR hX
 go_upto_region 4 with (first | ((with_reducible show Jl 151);refine Aa rfl 151 _ rfl rfl (a7) Ae rfl ?_) | (go_at_call 180;refine (a4.out _).mono ?_;rintro r w1 ⟨rfl,ai⟩;have a8:=(HB.out.ext ai).has;clear a4) | ((with_reducible show Jl 151);refine Aa rfl 151 _ rfl rfl (a8) Ae rfl ?_) | (go_at_call 180;refine (a5.out _).mono ?_;rintro r w2 ⟨rfl,ak⟩;have g0:=(HA.out.ext (ai.trans ak)).has 0 _ rfl;have g1:=(HA.out.ext (ai.trans ak)).has 1 _ rfl;have k0:=(HB.out.ext (ai.trans ak)).has 0 _ rfl;have k1:=(HB.out.ext (ai.trans ak)).has 1 _ rfl) | (go_at_call 40;refine (HM.out _).mono ?_;rintro r w3 ⟨rfl,rfl⟩))
 have ay:=Jh (HA.out.ext (ai.trans ak))
 have az:=Jh (HB.out.ext (ai.trans ak))
 have ae:=Jh (HR.out.ext (ai.trans ak))
 have af:=Jh (HX.out.trans (ai.trans ak))
 clear ai ak a7 a8 HA HB HR HX a5 HM
 have a0:op=17\/op=18\/op=11\/op=12\/op=13\/op=14\/op=15\/op=16\/op=19\/op=20\/op=21\/op=22\/op=23\/op=24\/op=25\/op=26:=by omega
 clear h1 h2
 by_cases a1:op=17
 ·subst a1
  clear g0 g1 k0 k1 ao an a0
  have ar:=ab.out
  have hu:=ap.out (av*2^bv%18446744073709551616) (by omega)
  rw [Mn ag.out] at hu
  rw [show D4 17 wd.toNat av bv=av*2^bv%2^wd.toNat from rfl] at ar
  rw [ar] at hu
  generalize av*2^bv%18446744073709551616=u at *
  have HU:=Jh hu
  clear hu ar
  go_wp2_with fail
  refine wp_region_held_drew (S:=fun W=>Ext w W/\Blk W w.heap.size (Bt.cells ⟨wd,av⟩).toArray 151/\Blk W (w.heap.size+1) (Bt.cells ⟨bw,bv⟩).toArray 151) (by kernel_rfl) ⟨af.out.drew,ay.out.drew,az.out.drew⟩ (fun hH=>?_)
  try simp only [J]
  (refine Jk 0 (.pointer (some ⟨w.heap.size,0,none⟩)) rfl hH ?_;try simp only [J])
  (refine Jt 1 (.int .i64 wd) rfl (yif_load1 rfl (by intro W hW;have y:=hW.2.1.has 0 _ rfl;clear hW;go_simp)) hH ?_;try simp only [J])
  (refine Jk 2 (.pointer (some ⟨w.heap.size,1,none⟩)) rfl hH ?_;try simp only [J])
  (refine Jt 3 (.int .u64 (av:Int)) rfl (yif_load1 rfl (by intro W hW;have y:=hW.2.1.has 1 _ rfl;clear hW;go_simp)) hH ?_;try simp only [J])
  (refine Jk 4 (.pointer (some ⟨w.heap.size+1,1,none⟩)) rfl hH ?_;try simp only [J])
  (refine Jt 5 (.int .u64 (bv:Int)) rfl (yif_load1 rfl (by intro W hW;have y:=hW.2.2.has 1 _ rfl;clear hW;go_simp)) hH ?_;try simp only [J])
  (refine Ji 7 (.int .u64 (M:Int)) rfl hH ?_;try simp only [J])
  (refine Jr 6 rfl fun K hK=>?_)
  go_simp
  refine (ah.out _).mono ?_
  rintro r w3 ⟨rfl,rfl⟩
  refine hK.out _ _ hH (fun hH=>?_)
  clear hK K
  try simp only [J]
  (refine Jt 8 (.int .u64 (aq:Int)) rfl (yif_load1 rfl (by intro W hW;clear hW;go_simp;exact HU.out)) hH ?_;try simp only [J])
  (refine Jk 9 (.agg (Bt.cells ⟨wd,aq⟩).toArray) rfl hH ?_;try simp only [J])
  (refine Jr 10 rfl fun K hK=>?_)
  refine Az rfl 151 _ _ rfl ae.out.drew rfl (cs:=Bt.cells ⟨wd,aq⟩) rfl Ae rfl rfl rfl ?_
  intro w4 aa j
  refine hK.out _ _ ⟨hH.1.grown j (by omega),hH.2.1.grown j (by omega),hH.2.2.grown j (by omega)⟩ (fun hH=>?_)
  clear hK K
  try simp only [J]
  (refine Ji 11 (.int .i64 0) rfl hH ?_;try simp only [J])
  refine Jz ?_
  go_wp2_with ((with_reducible show bodyPost _ _ _ _ _ _);refine Hid.out ?_)
  refine Jh ?_
  exact Am rfl rfl rfl aa.has Ae rfl rfl ⟨rfl,hH.1⟩
 by_cases a2:op=18
 ·subst a2
  clear g0 g1 k0 k1 ao an a0
  have au:=ab.out
  rw [show D4 18 wd.toNat av bv=av / 2^bv from rfl] at au
  rw [au] at ax
  clear au
  go_wp2_with fail
  refine wp_region_held_drew (S:=fun W=>Ext w W/\Blk W w.heap.size (Bt.cells ⟨wd,av⟩).toArray 151/\Blk W (w.heap.size+1) (Bt.cells ⟨bw,bv⟩).toArray 151) (by kernel_rfl) ⟨af.out.drew,ay.out.drew,az.out.drew⟩ (fun hH=>?_)
  try simp only [J]
  (refine Jk 0 (.pointer (some ⟨w.heap.size,0,none⟩)) rfl hH ?_;try simp only [J])
  (refine Jt 1 (.int .i64 wd) rfl (yif_load1 rfl (by intro W hW;have y:=hW.2.1.has 0 _ rfl;clear hW;go_simp)) hH ?_;try simp only [J])
  (refine Jk 2 (.pointer (some ⟨w.heap.size,1,none⟩)) rfl hH ?_;try simp only [J])
  (refine Jt 3 (.int .u64 (av:Int)) rfl (yif_load1 rfl (by intro W hW;have y:=hW.2.1.has 1 _ rfl;clear hW;go_simp)) hH ?_;try simp only [J])
  (refine Jk 4 (.pointer (some ⟨w.heap.size+1,1,none⟩)) rfl hH ?_;try simp only [J])
  (refine Jt 5 (.int .u64 (bv:Int)) rfl (yif_load1 rfl (by intro W hW;have y:=hW.2.2.has 1 _ rfl;clear hW;go_simp)) hH ?_;try simp only [J])
  (refine Jr 6 rfl fun K hK=>?_)
  go_simp
  refine (ax.out _).mono ?_
  rintro r w3 ⟨rfl,rfl⟩
  refine hK.out _ _ hH (fun hH=>?_)
  clear hK K
  try simp only [J]
  (refine Jk 7 (.agg (Bt.cells ⟨wd,aq⟩).toArray) rfl hH ?_;try simp only [J])
  (refine Jr 8 rfl fun K hK=>?_)
  refine Az rfl 151 _ _ rfl ae.out.drew rfl (cs:=Bt.cells ⟨wd,aq⟩) rfl Ae rfl rfl rfl ?_
  intro w4 aa j
  refine hK.out _ _ ⟨hH.1.grown j (by omega),hH.2.1.grown j (by omega),hH.2.2.grown j (by omega)⟩ (fun hH=>?_)
  clear hK K
  try simp only [J]
  (refine Ji 9 (.int .i64 0) rfl hH ?_;try simp only [J])
  refine Jz ?_
  go_wp2_with ((with_reducible show bodyPost _ _ _ _ _ _);refine Hid.out ?_)
  refine Jh ?_
  exact Am rfl rfl rfl aa.has Ae rfl rfl ⟨rfl,hH.1⟩
 have bb:=ao.out a1 a2
 subst bb
 have cw:(wd != wd)=false:=by simp
 have ba:op=11\/op=12\/op=13\/op=14\/op=15\/op=16\/op=19\/op=20\/op=21\/op=22\/op=23\/op=24\/op=25\/op=26:=by omega
 clear a0 a1 a2 ao ay az ah ax
 rcases ba with rfl | rfl | rfl | rfl | rfl | rfl | rfl | rfl | rfl | rfl | rfl | rfl | rfl | rfl
 ·go_wp2_with (first | ((with_reducible show Js 151);refine Ac rfl 151 _ _ rfl (ae.out) rfl (cs:=[.int .i64 wd,.int .u64 _]) (rfl) Ae (rfl) rfl (rfl) ?_;intro w4 aa j) | ((with_reducible show bodyPost _ _ _ _ _ _);refine Hid.out ?_))
  refine Jh ?_
  refine Am rfl rfl rfl aa.has Ae rfl rfl ⟨?_,af.out.grown j (by omega)⟩
  rw [<-ab.out,Gr aj am]
  rfl
 ·go_wp2_with (first | ((with_reducible show Js 151);refine Ac rfl 151 _ _ rfl (ae.out) rfl (cs:=[.int .i64 wd,.int .u64 _]) (rfl) Ae (rfl) rfl (rfl) ?_;intro w4 aa j) | ((with_reducible show bodyPost _ _ _ _ _ _);refine Hid.out ?_))
  refine Jh ?_
  refine Am rfl rfl rfl aa.has Ae rfl rfl ⟨?_,af.out.grown j (by omega)⟩
  rw [<-ab.out,Lc aj am]
  rfl
 ·go_wp2_with (first | ((with_reducible show Js 151);refine Ac rfl 151 _ _ rfl (ae.out) rfl (cs:=[.int .i64 wd,.int .u64 _]) (rfl) Ae (rfl) rfl (rfl) ?_;intro w4 aa j) | ((with_reducible show bodyPost _ _ _ _ _ _);refine Hid.out ?_))
  refine Jh ?_
  refine Am rfl rfl rfl aa.has Ae rfl rfl ⟨?_,af.out.grown j (by omega)⟩
  rw [<-ab.out,Of aj am]
  rfl
 ·go_wp2_with (first | ((with_reducible show Js 151);refine Ac rfl 151 _ _ rfl (ae.out) rfl (cs:=[.int .i64 wd,.int .u64 _]) (rfl) Ae (rfl) rfl (rfl) ?_;intro w4 aa j) | ((with_reducible show bodyPost _ _ _ _ _ _);refine Hid.out ?_))
  refine Jh ?_
  refine Am rfl rfl rfl aa.has Ae rfl rfl ⟨?_,af.out.grown j (by omega)⟩
  rw [<-ab.out,Aft,ap.out _ (Nat.mod_lt _ (by decide)),Mn ag.out]
  rfl
 ·go_wp2_with (first | ((with_reducible show Js 151);refine Ac rfl 151 _ _ rfl (ae.out) rfl (cs:=[.int .i64 wd,.int .u64 _]) (rfl) Ae (rfl) rfl (rfl) ?_;intro w4 aa j) | ((with_reducible show bodyPost _ _ _ _ _ _);refine Hid.out ?_))
  refine Jh ?_
  refine Am rfl rfl rfl aa.has Ae rfl rfl ⟨?_,af.out.grown j (by omega)⟩
  rw [<-ab.out,Afv _ _ (by omega),ap.out _ (Nat.mod_lt _ (by decide)),Mn ag.out,Agv ag.out b3.out]
  rfl
 ·go_wp2_with (first | ((with_reducible show Js 151);refine Ac rfl 151 _ _ rfl (ae.out) rfl (cs:=[.int .i64 wd,.int .u64 _]) (rfl) Ae (rfl) rfl (rfl) ?_;intro w4 aa j) | ((with_reducible show bodyPost _ _ _ _ _ _);refine Hid.out ?_))
  refine Jh ?_
  refine Am rfl rfl rfl aa.has Ae rfl rfl ⟨?_,af.out.grown j (by omega)⟩
  rw [<-ab.out,Afu,ap.out _ (Nat.mod_lt _ (by decide)),Mn ag.out]
  rfl
 ·go_wp2_with (first | (go_at_call 181;refine (al.out _ _).mono ?_;rintro r w5 ⟨rfl,ac⟩) | ((with_reducible show Js 151);refine Ac rfl 151 _ _ rfl (ae.out.ext ac) rfl (cs:=Bt.cells ⟨1,b2n _⟩) (rfl) Ae (rfl) rfl (rfl) ?_;intro w4 aa j) | ((with_reducible show bodyPost _ _ _ _ _ _);refine Hid.out ?_))
  refine Jh ?_
  refine Am rfl rfl rfl aa.has Ae rfl rfl ⟨?_,(af.out.trans ac).grown j (by omega)⟩
  rw [<-ab.out,show D4 19 wd.toNat av bv=b2n (decide (av=bv)) from rfl,<-Aa3]
  rfl
 ·go_wp2_with (first | (go_at_call 181;refine (al.out _ _).mono ?_;rintro r w5 ⟨rfl,ac⟩) | ((with_reducible show Js 151);refine Ac rfl 151 _ _ rfl (ae.out.ext ac) rfl (cs:=Bt.cells ⟨1,b2n _⟩) (rfl) Ae (rfl) rfl (rfl) ?_;intro w4 aa j) | ((with_reducible show bodyPost _ _ _ _ _ _);refine Hid.out ?_))
  refine Jh ?_
  refine Am rfl rfl rfl aa.has Ae rfl rfl ⟨?_,(af.out.trans ac).grown j (by omega)⟩
  rw [<-ab.out,show D4 20 wd.toNat av bv=b2n (decide (av≠bv)) from rfl,Af3]
  rfl
 ·go_wp2_with (first | (go_at_call 181;refine (al.out _ _).mono ?_;rintro r w5 ⟨rfl,ac⟩) | ((with_reducible show Js 151);refine Ac rfl 151 _ _ rfl (ae.out.ext ac) rfl (cs:=Bt.cells ⟨1,b2n _⟩) (rfl) Ae (rfl) rfl (rfl) ?_;intro w4 aa j) | ((with_reducible show bodyPost _ _ _ _ _ _);refine Hid.out ?_))
  refine Jh ?_
  refine Am rfl rfl rfl aa.has Ae rfl rfl ⟨?_,(af.out.trans ac).grown j (by omega)⟩
  rw [<-ab.out,show D4 21 wd.toNat av bv=b2n (decide (av<bv)) from rfl]
  rfl
 ·go_wp2_with (first | (go_at_call 181;refine (al.out _ _).mono ?_;rintro r w5 ⟨rfl,ac⟩) | ((with_reducible show Js 151);refine Ac rfl 151 _ _ rfl (ae.out.ext ac) rfl (cs:=Bt.cells ⟨1,b2n _⟩) (rfl) Ae (rfl) rfl (rfl) ?_;intro w4 aa j) | ((with_reducible show bodyPost _ _ _ _ _ _);refine Hid.out ?_))
  refine Jh ?_
  refine Am rfl rfl rfl aa.has Ae rfl rfl ⟨?_,(af.out.trans ac).grown j (by omega)⟩
  rw [<-ab.out,show D4 22 wd.toNat av bv=b2n (decide (av<=bv)) from rfl]
  rfl
 ·go_wp2_with (first | (go_at_call 181;refine (al.out _ _).mono ?_;rintro r w5 ⟨rfl,ac⟩) | ((with_reducible show Js 151);refine Ac rfl 151 _ _ rfl (ae.out.ext ac) rfl (cs:=Bt.cells ⟨1,b2n _⟩) (rfl) Ae (rfl) rfl (rfl) ?_;intro w4 aa j) | ((with_reducible show bodyPost _ _ _ _ _ _);refine Hid.out ?_))
  refine Jh ?_
  refine Am rfl rfl rfl aa.has Ae rfl rfl ⟨?_,(af.out.trans ac).grown j (by omega)⟩
  rw [<-ab.out,show D4 23 wd.toNat av bv=b2n (decide (bv<av)) from rfl]
  rfl
 ·go_wp2_with (first | (go_at_call 181;refine (al.out _ _).mono ?_;rintro r w5 ⟨rfl,ac⟩) | ((with_reducible show Js 151);refine Ac rfl 151 _ _ rfl (ae.out.ext ac) rfl (cs:=Bt.cells ⟨1,b2n _⟩) (rfl) Ae (rfl) rfl (rfl) ?_;intro w4 aa j) | ((with_reducible show bodyPost _ _ _ _ _ _);refine Hid.out ?_))
  refine Jh ?_
  refine Am rfl rfl rfl aa.has Ae rfl rfl ⟨?_,(af.out.trans ac).grown j (by omega)⟩
  rw [<-ab.out,show D4 24 wd.toNat av bv=b2n (decide (bv<=av)) from rfl]
  rfl
 ·obtain rfl:=an.out (by decide)
  have h0:av=0\/av=1:=by have:=a3.out;simp at this;omega
  have h1:bv=0\/bv=1:=by have:=b3.out;simp at this;omega
  rcases h0 with rfl | rfl
  all_goals rcases h1 with rfl | rfl
  all_goals go_wp2_with (first | (go_at_call 181;refine (al.out _ _).mono ?_;rintro r w5 ⟨rfl,ac⟩) | ((with_reducible show Js 151);refine Ac rfl 151 _ _ rfl (ae.out.ext ac) rfl (cs:=Bt.cells ⟨1,b2n _⟩) (rfl) Ae (rfl) rfl (rfl) ?_;intro w4 aa j) | ((with_reducible show bodyPost _ _ _ _ _ _);refine Hid.out ?_))
  all_goals refine Jh ?_
  all_goals refine Am rfl rfl rfl aa.has Ae rfl rfl ⟨?_,(af.out.trans ac).grown j (by omega)⟩
  all_goals rw [<-ab.out]
  all_goals rfl
 ·obtain rfl:=an.out (by decide)
  have h0:av=0\/av=1:=by have:=a3.out;simp at this;omega
  have h1:bv=0\/bv=1:=by have:=b3.out;simp at this;omega
  rcases h0 with rfl | rfl
  all_goals rcases h1 with rfl | rfl
  all_goals go_wp2_with (first | (go_at_call 181;refine (al.out _ _).mono ?_;rintro r w5 ⟨rfl,ac⟩) | ((with_reducible show Js 151);refine Ac rfl 151 _ _ rfl (ae.out.ext ac) rfl (cs:=Bt.cells ⟨1,b2n _⟩) (rfl) Ae (rfl) rfl (rfl) ?_;intro w4 aa j) | ((with_reducible show bodyPost _ _ _ _ _ _);refine Hid.out ?_))
  all_goals refine Jh ?_
  all_goals refine Am rfl rfl rfl aa.has Ae rfl rfl ⟨?_,(af.out.trans ac).grown j (by omega)⟩
  all_goals rw [<-ab.out]
  all_goals rfl
theorem Xb (c a b:Bt) (hc:c.ok) (ha:a.ok) (hb:b.ok) (al:c.w=1) (ak:a.w=b.w) (w:World) :
  Calls Tryz.prog 149 #[.agg c.cells.toArray,.agg a.cells.toArray,.agg b.cells.toArray] w (Gk w ⟨a.w,if c.v=1 then a.v else b.v⟩):=by
 have x1:=Ab w (.cells c.cells.toArray 151)
 have x2:=Ab (w.alloc (.cells c.cells.toArray 151)) (.cells a.cells.toArray 151)
 have x3:=Ab ((w.alloc (.cells c.cells.toArray 151)).alloc (.cells a.cells.toArray 151)) (.cells b.cells.toArray 151)
 have x4:=Ab (((w.alloc (.cells c.cells.toArray 151)).alloc (.cells a.cells.toArray 151)).alloc (.cells b.cells.toArray 151)) (.cells #[.int .i64 0,.int .u64 0] 151)
 have hC:=(((Blk.new w c.cells.toArray 151).ext x2).ext x3).ext x4
 have hA:=((Blk.new (w.alloc (.cells c.cells.toArray 151)) a.cells.toArray 151).ext x3).ext x4
 have hB:=(Blk.new ((w.alloc (.cells c.cells.toArray 151)).alloc (.cells a.cells.toArray 151)) b.cells.toArray 151).ext x4
 have hR:=Blk.new (((w.alloc (.cells c.cells.toArray 151)).alloc (.cells a.cells.toArray 151)).alloc (.cells b.cells.toArray 151)) #[.int .i64 0,.int .u64 0] 151
 have hX:=((x1.trans x2).trans x3).trans x4
 simp only [World.size_alloc] at hA hB hR
 clear x1 x2 x3 x4
 have aj:=Jh (fun W=>Dd c hc W)
 have ai:=Jh (fun W=>Dd a ha W)
 have am:=Jh (fun W=>Dd b hb W)
 clear hc ha hb
 obtain ⟨cw,cv⟩:=c
 obtain ⟨wd,av⟩:=a
 obtain ⟨bw,bv⟩:=b
 simp only at al ak
 subst al
 subst ak
 have cw:(wd != wd)=false:=by simp
 obtain ⟨tv,ag⟩:∃ tv,(if cv=1 then av else bv)=tv:=⟨_,rfl⟩
 have ac:=Jh ag
 rw [ag]
 clear ag
 go_enter Tryz.func149,Tryz.ntmps149
 go_upto_region 1 with fail
 generalize (((w.alloc _).alloc _).alloc _).alloc _=w0 at *
 have c0:=hC.has
 have HA:=Jh hA
 have HB:=Jh hB
 have HC:=Jh hC
 have HR:=Jh hR
 have HX:=Jh hX
 clear hA hB hC hR hX
 go_upto_region 3 with (first | ((with_reducible show Jl 151);refine Aa rfl 151 _ rfl rfl (c0) Ae rfl ?_) | (go_at_call 180;refine (aj.out _).mono ?_;rintro r w1 ⟨rfl,j⟩;have a1:=(HA.out.ext j).has;clear aj) | ((with_reducible show Jl 151);refine Aa rfl 151 _ rfl rfl (a1) Ae rfl ?_) | (go_at_call 180;refine (ai.out _).mono ?_;rintro r w2 ⟨rfl,u⟩;have b2:=(HB.out.ext (j.trans u)).has;clear ai) | ((with_reducible show Jl 151);refine Aa rfl 151 _ rfl rfl (b2) Ae rfl ?_) | (go_at_call 180;refine (am.out _).mono ?_;rintro r w3 ⟨rfl,ab⟩;have z0:=(HC.out.ext ((j.trans u).trans ab)).has 0 _ rfl;have z1:=(HC.out.ext ((j.trans u).trans ab)).has 1 _ rfl;have z2:=(HA.out.ext ((j.trans u).trans ab)).has 0 _ rfl;have z3:=(HB.out.ext ((j.trans u).trans ab)).has 0 _ rfl))
 have aa:=Jh ((j.trans u).trans ab)
 have a3:=(HA.out.ext aa.out).has
 have b3:=(HB.out.ext aa.out).has
 clear j u ab c0 a1 b2
 by_cases h1:cv=1
 ·have b1:((cv:Int)==1)=true:=by rw [beq_iff_eq];omega
  obtain rfl:tv=av:=by rw [<-ac.out,if_pos h1]
  clear h1 ac
  go_wp2_with (first | ((with_reducible show Jl 151);refine Aa rfl 151 _ rfl rfl (a3) Ae rfl ?_) | ((with_reducible show Js 151);refine Ac rfl 151 _ _ rfl (HR.out.ext aa.out) rfl (cs:=Bt.cells ⟨wd,tv⟩) (rfl) Ae (rfl) rfl (rfl) ?_;intro w4 ae af) | ((with_reducible show bodyPost _ _ _ _ _ _);refine Hid.out ?_))
  refine Jh ?_
  exact Am rfl rfl rfl ae.has Ae rfl rfl ⟨rfl,(HX.out.trans aa.out).grown af (by omega)⟩
 ·have b1:((cv:Int)==1)=false:=by rw [beq_eq_false_iff_ne];omega
  obtain rfl:tv=bv:=by rw [<-ac.out,if_neg h1]
  clear h1 ac
  go_wp2_with (first | ((with_reducible show Jl 151);refine Aa rfl 151 _ rfl rfl (b3) Ae rfl ?_) | ((with_reducible show Js 151);refine Ac rfl 151 _ _ rfl (HR.out.ext aa.out) rfl (cs:=Bt.cells ⟨wd,tv⟩) (rfl) Ae (rfl) rfl (rfl) ?_;intro w4 ae af) | ((with_reducible show bodyPost _ _ _ _ _ _);refine Hid.out ?_))
  refine Jh ?_
  exact Am rfl rfl rfl ae.has Ae rfl rfl ⟨rfl,(HX.out.trans aa.out).grown af (by omega)⟩
theorem Agy {A v:Nat} (hv:v<2^(A+1)):v / 2^A=if 2^A<=v then 1 else 0:=by
 have h0:=Nat.two_pow_pos A
 rw [Nat.pow_succ] at hv
 by_cases h:2^A<=v
 ·rw [if_pos h]
  have h1:1<=v / 2^A:=(Nat.le_div_iff_mul_le h0).2 (by omega)
  have h2:v / 2^A<2:=(Nat.div_lt_iff_lt_mul h0).2 (by omega)
  omega
 ·rw [if_neg h,Nat.div_eq_of_lt (by omega)]
theorem Ahj {v wa wd:Nat} (hv:v<2^wa) (h:wa<=wd):v ||| (2^wd-1-(2^wa-1))=v+(2^wd-2^wa):=by
 have h0:=Nat.two_pow_pos wa
 have h1:=Nat.pow_le_pow_right (n:=2) (by decide) h
 have e:2^wd-1-(2^wa-1)=2^wa*(2^(wd-wa)-1):=by
  rw [Nat.mul_sub,<-Nat.pow_add,show wa+(wd-wa)=wd by omega]
  omega
 have e2:2^wd-2^wa=2^wa*(2^(wd-wa)-1):=by omega
 rw [e,e2,Nat.or_comm,<-Nat.two_pow_add_eq_or_of_lt hv,Nat.add_comm]
theorem Zi (op wd:Int) (h1:31<=op) (h3:op<=33) (h0:1<=wd) (av:wd<=64) (a:Bt) (ha:a.ok) (hz:op≠33->a.w<=wd) (hc:op=33->wd<=a.w) (w:World) :
  Calls Tryz.prog 151 #[.int .i64 op,.int .i64 wd,.agg a.cells.toArray] w (Gk w ⟨wd,Ir op wd.toNat a.w.toNat a.v⟩):=by
 have HX:=Jh ((Ab w (.cells a.cells.toArray 151)).trans (Ab _ (.cells #[.int .i64 0,.int .u64 0] 151)))
 have hD:=(Blk.new w a.cells.toArray 151).ext (Ab _ (.cells #[.int .i64 0,.int .u64 0] 151))
 have hR:=Blk.new (w.alloc (.cells a.cells.toArray 151)) #[.int .i64 0,.int .u64 0] 151
 rw [show (w.alloc (.cells a.cells.toArray 151)).heap.size=w.heap.size+1 by simp] at hR
 have aq:=Jh (fun W=>Dd a ha W)
 have aj:=Jh (fun W=>Fo a.w ha.1 ha.2.1 W)
 have ak:=Jh (fun W=>Fo wd h0 av W)
 have ag:=Bt.lt64 ha
 have a1:=ha.1
 have a2:=ha.2.1
 have hv:=ha.2.2
 clear ha
 obtain ⟨wa,v⟩:=a
 simp only at a1 a2 hv hz hc ag aj
 have c1:decide (wd<1)=false:=decide_eq_false (by omega)
 have c2:decide (64<wd)=false:=decide_eq_false (by omega)
 obtain ⟨ab,af⟩:∃ r,Ir op wd.toNat wa.toNat v=r:=⟨_,rfl⟩
 have aa:=Jh af
 rw [af]
 clear af
 go_enter Tryz.func151,Tryz.ntmps151
 go_upto_region 1 with fail
 generalize (w.alloc _).alloc _=w0 at *
 have au:=hD.has
 have HD:=Jh hD
 have HR:=Jh hR
 clear hD hR
 go_upto_region 3 with (first | ((with_reducible show Jl 151);refine Aa rfl 151 _ rfl rfl (au) Ae rfl ?_) | (go_at_call 180;refine (aq.out _).mono ?_;rintro r w1 ⟨rfl,ae⟩;have g0:=(HD.out.ext ae).has 0 _ rfl;have g1:=(HD.out.ext ae).has 1 _ rfl))
 have ar:=Jh (HD.out.ext ae)
 have al:=Jh (HR.out.ext ae)
 have am:=Jh (HX.out.trans ae)
 clear ae au HD HR HX aq c1 c2
 have ax:op=31\/op=32\/op=33:=by omega
 clear h1 h3
 rcases ax with rfl | rfl | rfl
 ·have b3:decide (wa<=wd)=true:=decide_eq_true (hz (by decide))
  clear hz hc
  go_wp2_with (first | ((with_reducible show Js 151);refine Ac rfl 151 _ _ rfl (al.out) rfl (cs:=Bt.cells ⟨wd,v⟩) (rfl) Ae (rfl) rfl (rfl) ?_;intro w4 ac u) | ((with_reducible show bodyPost _ _ _ _ _ _);refine Hid.out ?_))
  refine Jh ?_
  exact Am rfl rfl rfl ac.has Ae rfl rfl ⟨by rw [<-aa.out];rfl,am.out.grown u (by omega)⟩
 ·have aw:=hz (by decide)
  have b3:decide (wa<=wd)=true:=decide_eq_true aw
  clear hz hc
  obtain ⟨A,rfl⟩:∃ A:Nat,wa=((A+1:Nat):Int):=⟨(wa-1).toNat,by omega⟩
  rw [Int.toNat_natCast] at hv aj
  have ht:=Agy hv
  have hs:=Abc v A
  have ho:=Ahj hv (show A+1<=wd.toNat by omega)
  have j:Ir 32 wd.toNat (((A+1:Nat):Int)).toNat v=if 2^A<=v then v+(2^wd.toNat-2^(A+1)) else v:=by
   unfold Ir
   rw [Int.toNat_natCast,Nat.add_sub_cancel]
   by_cases h:2^A<=v
   ·rw [if_pos ⟨rfl,h⟩,if_pos h]
   ·rw [if_neg (fun hh=>h hh.2),if_neg (by decide),if_neg h]
  have ai:2^(A+1)-1<=2^wd.toNat-1:=by
   have:=Nat.pow_le_pow_right (n:=2) (by decide) (show A+1<=wd.toNat by omega)
   omega
  have an:2^wd.toNat-1<18446744073709551616:=by
   have:=Nat.pow_le_pow_right (n:=2) (by decide) (show wd.toNat<=64 by omega)
   omega
  rw [aa.out] at j
  clear aa
  by_cases h:2^A<=v
  ·rw [if_pos h] at ht
   rw [if_pos h,<-ho] at j
   rw [ht] at hs
   obtain ⟨m1,ao⟩:∃ m,2^(A+1)-1=m:=⟨_,rfl⟩
   obtain ⟨m2,ap⟩:∃ m,2^wd.toNat-1=m:=⟨_,rfl⟩
   rw [ao] at aj ai
   rw [ap] at ak ai an
   rw [ao,ap] at j
   have E:=Jh (Lc ag (show m2-m1<18446744073709551616 by omega))
   have HS:=Jh (show IntKind.u64.wrap ((m2:Int)-(m1:Int))=((m2-m1:Nat):Int) by rw [IntKind.wrap_u64];omega)
   rw [<-j] at E
   clear j
   generalize m2-m1=D at *
   clear ho ao ap ht h ai an hv
   go_wp2_with fail
   refine wp_region_held_drew (S:=fun W=>Ext w W/\Blk W w.heap.size (Bt.cells ⟨((A+1:Nat):Int),v⟩).toArray 151) (by kernel_rfl) ⟨am.out.drew,ar.out.drew⟩ (fun hH=>?_)
   try simp only [J]
   (refine Ji 0 (.int .i64 wd) rfl hH ?_;try simp only [J])
   (refine Jk 1 (.pointer (some ⟨w.heap.size,1,none⟩)) rfl hH ?_;try simp only [J])
   (refine Jt 2 (.int .u64 (v:Int)) rfl (yif_load1 rfl (by intro W hW;have y:=hW.2.has 1 _ rfl;clear hW;go_simp)) hH ?_;try simp only [J])
   (refine Ji 3 (.int .i64 wd) rfl hH ?_;try simp only [J])
   (refine Jk 5 (.pointer (some ⟨w.heap.size,0,none⟩)) rfl hH ?_;try simp only [J])
   (refine Jt 6 (.int .i64 ((A+1:Nat):Int)) rfl (yif_load1 rfl (by intro W hW;have y:=hW.2.has 0 _ rfl;clear hW;go_simp)) hH ?_;try simp only [J])
   (refine Jr 4 rfl fun K hK=>?_)
   go_simp
   refine (ak.out _).mono ?_
   rintro r w3 ⟨rfl,rfl⟩
   refine hK.out _ _ hH (fun hH=>?_)
   clear hK K
   try simp only [J]
   (refine Jr 7 rfl fun K hK=>?_)
   go_simp
   refine (aj.out _).mono ?_
   rintro r w3 ⟨rfl,rfl⟩
   refine hK.out _ _ hH (fun hH=>?_)
   clear hK K
   try simp only [J]
   (refine Jt 8 (.int .u64 (D:Int)) rfl (yif_load1 rfl (by intro W hW;clear hW;go_simp;exact HS.out)) hH ?_;try simp only [J])
   (refine Jt 9 (.int .u64 (ab:Int)) rfl (yif_load1 rfl (by intro W hW;clear hW;go_simp;exact E.out)) hH ?_;try simp only [J])
   (refine Jk 10 (.agg (Bt.cells ⟨wd,ab⟩).toArray) rfl hH ?_;try simp only [J])
   (refine Jr 11 rfl fun K hK=>?_)
   refine Az rfl 151 _ _ rfl al.out.drew rfl (cs:=Bt.cells ⟨wd,ab⟩) rfl Ae rfl rfl rfl ?_
   intro w4 ac u
   refine hK.out _ _ ⟨hH.1.grown u (by omega),hH.2.grown u (by omega)⟩ (fun hH=>?_)
   clear hK K
   try simp only [J]
   (refine Ji 12 (.int .i64 0) rfl hH ?_;try simp only [J])
   refine Jz ?_
   go_wp2_with ((with_reducible show bodyPost _ _ _ _ _ _);refine Hid.out ?_)
   refine Jh ?_
   exact Am rfl rfl rfl ac.has Ae rfl rfl ⟨rfl,hH.1⟩
  ·rw [if_neg h] at ht
   rw [if_neg h] at j
   subst j
   rw [ht] at hs
   clear ho ht h ai an hv
   go_wp2_with (first | ((with_reducible show Js 151);refine Ac rfl 151 _ _ rfl (al.out) rfl (cs:=Bt.cells ⟨wd,ab⟩) (rfl) Ae (rfl) rfl (rfl) ?_;intro w4 ac u) | ((with_reducible show bodyPost _ _ _ _ _ _);refine Hid.out ?_))
   refine Jh ?_
   exact Am rfl rfl rfl ac.has Ae rfl rfl ⟨rfl,am.out.grown u (by omega)⟩
 ·have b3:decide (wd<=wa)=true:=decide_eq_true (hc rfl)
  have he:=Mg ag (show wd.toNat<=64 by omega)
  have j:=aa.out
  rw [show Ir 33 wd.toNat wa.toNat v=v%2^wd.toNat from by simp [Ir]] at j
  clear aa
  obtain ⟨M,hM⟩:∃ M,2^wd.toNat-1=M:=⟨_,rfl⟩
  rw [hM] at ak he
  rw [j] at he
  clear j
  have E:=Jh he
  clear he hM hz hc hv
  go_wp2_with fail
  refine wp_region_held_drew (S:=fun W=>Ext w W/\Blk W w.heap.size (Bt.cells ⟨wa,v⟩).toArray 151) (by kernel_rfl) ⟨am.out.drew,ar.out.drew⟩ (fun hH=>?_)
  try simp only [J]
  (refine Ji 0 (.int .i64 wd) rfl hH ?_;try simp only [J])
  (refine Jk 1 (.pointer (some ⟨w.heap.size,1,none⟩)) rfl hH ?_;try simp only [J])
  (refine Jt 2 (.int .u64 (v:Int)) rfl (yif_load1 rfl (by intro W hW;have y:=hW.2.has 1 _ rfl;clear hW;go_simp)) hH ?_;try simp only [J])
  (refine Ji 3 (.int .i64 wd) rfl hH ?_;try simp only [J])
  (refine Jr 4 rfl fun K hK=>?_)
  go_simp
  refine (ak.out _).mono ?_
  rintro r w3 ⟨rfl,rfl⟩
  refine hK.out _ _ hH (fun hH=>?_)
  clear hK K
  try simp only [J]
  (refine Jt 5 (.int .u64 (ab:Int)) rfl (yif_load1 rfl (by intro W hW;clear hW;go_simp;exact E.out)) hH ?_;try simp only [J])
  (refine Jk 6 (.agg (Bt.cells ⟨wd,ab⟩).toArray) rfl hH ?_;try simp only [J])
  (refine Jr 7 rfl fun K hK=>?_)
  refine Az rfl 151 _ _ rfl al.out.drew rfl (cs:=Bt.cells ⟨wd,ab⟩) rfl Ae rfl rfl rfl ?_
  intro w4 ac u
  refine hK.out _ _ ⟨hH.1.grown u (by omega),hH.2.grown u (by omega)⟩ (fun hH=>?_)
  clear hK K
  try simp only [J]
  (refine Ji 8 (.int .i64 0) rfl hH ?_;try simp only [J])
  refine Jz ?_
  go_wp2_with ((with_reducible show bodyPost _ _ _ _ _ _);refine Hid.out ?_)
  refine Jh ?_
  exact Am rfl rfl rfl ac.has Ae rfl rfl ⟨rfl,hH.1⟩
end Go.Proofs.YtbliplladmamoaaGreat
