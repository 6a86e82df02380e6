/- Laws and walks that a claim of this seat leans on: Bitv7, Value, Value2. -/
import Derived.Test.YtbliplladmamoaaGreatS17
import Derived.Test.YtbliplladmamoaaGreatS16
import Derived.Test.YtbliplladmamoaaGreatS00
set_option maxRecDepth 100000
set_option maxHeartbeats 8000000
set_option linter.all false
namespace Go.Proofs.YtbliplladmamoaaGreat
open Go.RowKit
def Fm (op w:Int):Int:=if op<=18 then w else 1
theorem Afg (a b:Nat):Op.shift .shl .u64 (a:Int) .u64 (b:Int)=pure (.int .u64 (IntKind.u64.wrap ((a:Int)*2^(min b 64)))):=by
 unfold Op.shift
 rw [if_neg (by omega)]
 rfl
theorem Aap (a b:Nat):Op.shift .shr .u64 (a:Int) .u64 (b:Int)=pure (.int .u64 ((a / 2^(min b 64):Nat):Int)):=by
 unfold Op.shift
 rw [if_neg (by omega)]
 show pure (Value.int .u64 ((a:Int).fdiv (2^min b 64)))=_
 rw [Int.fdiv_eq_ediv_of_nonneg _ (Int.le_of_lt (Int.pow_pos (by decide)))]
 norm_cast
theorem Abe (a b w:Nat) (hw:w<=64):∃ n:Nat,IntKind.u64.wrap ((a:Int)*2^(min b 64))=(n:Int)/\n<2^64/\n%2^w=a*2^b%2^w:=by
 have e:=Rm hw
 refine ⟨a*2^(min b 64)%18446744073709551616,?_,by omega,?_⟩
 ·rw [IntKind.wrap_u64,show ((a:Int)*2^(min b 64))=((a*2^(min b 64):Nat):Int) by norm_cast]
  omega
 ·rw [Nat.mod_mod_of_dvd _ ⟨_,e.symm⟩]
  by_cases h:b<=64
  ·rw [Nat.min_eq_left h]
  ·rw [Nat.min_eq_right (by omega)]
   have h1:a*2^64=2^w*(a*2^(64-w)):=by
    rw [show (2:Nat)^64=2^w*2^(64-w) by rw [e]]
    rw [<-Nat.mul_assoc,Nat.mul_comm a,Nat.mul_assoc]
   have h2:a*2^b=2^w*(a*2^(b-w)):=by
    have:(2:Nat)^b=2^w*2^(b-w):=by rw [<-Nat.pow_add];congr 1;omega
    rw [this,<-Nat.mul_assoc,Nat.mul_comm a,Nat.mul_assoc]
   rw [h1,h2,Nat.mul_mod_right,Nat.mul_mod_right]
theorem Vw (a b:Nat) (ha:a<2^64):a / 2^(min b 64)=a / 2^b:=by
 by_cases h:b<=64
 ·rw [Nat.min_eq_left h]
 ·rw [Nat.min_eq_right (by omega),Nat.div_eq_of_lt ha,Nat.div_eq_of_lt (Nat.lt_of_lt_of_le ha (Nat.pow_le_pow_right (by decide) (by omega)))]
theorem Ae2 (op:Int) (h1:11<=op) (h2:op<=26) (h3:op≠17) (h4:op≠18) (w a b:Nat) (hw:1<=w) (u:w<=64) (ha:a<2^w) (hb:b<2^w) (j:25<=op->w=1) :
  Cj op a b<2^64/\Cj op a b%2^(Fm op w).toNat=D4 op w a b:=by
 have e:=Rm u
 have hM:=Nat.pow_le_pow_right (n:=2) (by decide) u
 have hd:2^w ∣ 18446744073709551616:=⟨_,e.symm⟩
 have hk:op=11\/op=12\/op=13\/op=14\/op=15\/op=16\/op=25\/op=26\/op=19\/op=20\/op=21\/op=22\/op=23\/op=24:=by omega
 have b2:∀ c:Bool,b2n c<18446744073709551616/\b2n c<2:=fun c=>by cases c<;>decide
 rcases hk with rfl | rfl | rfl | rfl | rfl | rfl | rfl | rfl | rfl | rfl | rfl | rfl | rfl | rfl
 ·have:=Nat.and_lt_two_pow a hb
  simp [Cj,Fm,D4,Va];exact ⟨by omega,Nat.mod_eq_of_lt this⟩
 ·have:=Nat.or_lt_two_pow ha hb
  simp [Cj,Fm,D4,fOr];exact ⟨by omega,Nat.mod_eq_of_lt this⟩
 ·have:=Nat.xor_lt_two_pow ha hb
  simp [Cj,Fm,D4,Ad0];exact ⟨by omega,Nat.mod_eq_of_lt this⟩
 ·simp [Cj,Fm,D4,Adx];exact ⟨by omega,Nat.mod_mod_of_dvd _ hd⟩
 ·simp [Cj,Fm,D4,Adz]
  refine ⟨by omega,?_⟩
  rw [Nat.mod_mod_of_dvd _ hd]
  have hk:=Nat.two_pow_pos (64-w)
  generalize 2^w=M at *
  generalize 2^(64-w)=K at *
  have h6:a+18446744073709551616-b=M*(K-1)+(a+M-b):=by
   have:M*(K-1)=M*K-M:=by rw [Nat.mul_sub,Nat.mul_one]
   have:M<=M*K:=Nat.le_mul_of_pos_right _ hk
   omega
  rw [h6,Nat.mul_add_mod]
 ·simp [Cj,Fm,D4,Ady];exact ⟨by omega,Nat.mod_mod_of_dvd _ hd⟩
 ·obtain rfl:=j (by decide)
  have:=Nat.and_lt_two_pow a hb
  simp [Cj,Fm,D4,Va];exact ⟨by omega,by omega⟩
 ·obtain rfl:=j (by decide)
  have:=Nat.or_lt_two_pow ha hb
  simp [Cj,Fm,D4,fOr];exact ⟨by omega,by omega⟩
 ·simp [Cj,Fm,D4,fEq];exact b2 _
 ·simp [Cj,Fm,D4,fNe];exact b2 _
 ·simp [Cj,Fm,D4,fLt];exact b2 _
 ·simp [Cj,Fm,D4,fLe];exact b2 _
 ·simp [Cj,Fm,D4,fGt];exact b2 _
 ·simp [Cj,Fm,D4,fGe];exact b2 _
theorem Abh (op:Int) (h1:11<=op) (h2:op<=26) (a b:Bt) (ha:a.ok) (hb:b.ok) (a6:op≠17->op≠18->a.w=b.w) (a0:25<=op->a.w=1) (w:World) :
  Calls Tryz.prog 167 #[.int .i64 op,.agg a.cells.toArray,.agg b.cells.toArray] w (Gk w ⟨Fm op a.w,D4 op a.w.toNat a.v b.v⟩):=by
 have x1:=Ab w (.cells a.cells.toArray 151)
 have x2:=Ab (w.alloc (.cells a.cells.toArray 151)) (.cells b.cells.toArray 151)
 have x3:=Ab ((w.alloc (.cells a.cells.toArray 151)).alloc (.cells b.cells.toArray 151)) (.cells #[.int .i64 0,.int .u64 0] 151)
 have hA:=((Blk.new w a.cells.toArray 151).ext x2).ext x3
 have hB:=(Blk.new (w.alloc (.cells a.cells.toArray 151)) b.cells.toArray 151).ext x3
 have hR:=Blk.new ((w.alloc (.cells a.cells.toArray 151)).alloc (.cells b.cells.toArray 151)) #[.int .i64 0,.int .u64 0] 151
 have HX:=(x1.trans x2).trans x3
 simp only [World.size_alloc] at hB hR
 clear x1 x2 x3
 have ah:=Jh (fun (s:Value) (W:World) (h:Bts W s [a,b])=>Ox [a,b] (by simp;exact ⟨ha,hb⟩) s W h)
 have aj:=fun (wd:Int) (n:Nat) (hn:n<2^64) (h0:0<=wd) (h1:wd<=64) (w:World)=>Hb wd n hn h0 h1 w
 have ai:=Bt.lt64 ha
 have aq:=Bt.lt64 hb
 have a1:=ha.1
 have a2:=ha.2.1
 have a3:=Jh ha.2.2
 have b3:=Jh hb.2.2
 have az:=Jh a6
 have ar:=Jh a0
 clear ha hb a6 a0
 obtain ⟨wd,av⟩:=a
 obtain ⟨bw,bv⟩:=b
 simp only at ai aq a1 a2 a3 b3 az ar
 obtain ⟨bg,an⟩:∃ r,D4 op wd.toNat av bv=r:=⟨_,rfl⟩
 have aa:=Jh an
 rw [an]
 clear an
 go_enter Tryz.func167,Tryz.ntmps167
 go_upto_region 1 with fail
 generalize ((w.alloc _).alloc _).alloc _=w0 at *
 have a4:=hA.has
 have a5:=hB.has
 have ao:=Ab w0 (.cells ([Bt.cells ⟨wd,av⟩,Bt.cells ⟨bw,bv⟩].flatten.toArray) 151)
 have a7:=Bts.of_blk [⟨wd,av⟩,⟨bw,bv⟩] 2 (Blk.new w0 ([Bt.cells ⟨wd,av⟩,Bt.cells ⟨bw,bv⟩].flatten.toArray) 151) (by simp) (by decide)
 have au:=Jh (ah.out _ _ a7)
 have HA:=Jh (hA.ext ao)
 have HB:=Jh (hB.ext ao)
 have HR:=Jh (hR.ext ao)
 have ak:=Jh (HX.trans ao)
 clear hA hB hR ao a7 ah HX
 go_upto_region 2 with (first | ((with_reducible show Jw (Op.load _ _));refine Hid.out ?_))
 refine Jh ?_
 refine Aa rfl 151 _ rfl rfl (a4) Ae rfl ?_
 refine Aa rfl 151 _ rfl rfl (a5) Ae rfl ?_
 refine Dq rfl _ 2 _ rfl Ic (vs:=[.agg (Bt.cells ⟨wd,av⟩).toArray,.agg (Bt.cells ⟨bw,bv⟩).toArray]) rfl rfl (css:=[Bt.cells ⟨wd,av⟩,Bt.cells ⟨bw,bv⟩]) rfl (by simp) (by decide) (by decide) ?_
 clear a4 a5
 generalize w0.alloc _=w1 at *
 generalize w0.heap.size=B0 at *
 try simp only [J]
 by_cases af:op=17
 ·subst af
  obtain ⟨n,e1,hn,hm⟩:=Abe av bv wd.toNat (by omega)
  have ay:=Afg av bv
  rw [e1] at ay
  have HM:=Jh hm
  clear e1 hm
  go_wp2_with (first | (go_at_call 191;refine au.out.mono ?_;rintro r w2 ⟨rfl,j⟩;have g0:=(HA.out.ext j).has 0 _ rfl;have g1:=(HA.out.ext j).has 1 _ rfl;have g2:=(HB.out.ext j).has 1 _ rfl;have g3:=(HB.out.ext j).has 0 _ rfl) | (go_at_call 187;refine (aj wd n hn (by omega) (by omega) _).mono ?_;rintro r w3 ⟨rfl,u⟩) | ((with_reducible show Js 151);refine Ac rfl 151 _ _ rfl (HR.out.ext (j.trans u)) rfl (cs:=Bt.cells ⟨wd,n%2^wd.toNat⟩) (rfl) Ae (rfl) rfl (rfl) ?_;intro w4 aw ax))
  refine Am rfl rfl rfl aw.has Ae rfl rfl ⟨?_,(ak.out.trans (j.trans u)).grown ax (by omega)⟩
  rw [<-aa.out,HM.out]
  simp [Fm,D4]
 ·by_cases ag:op=18
  ·subst ag
   obtain ⟨n,ab⟩:∃ n,av / 2^(min bv 64)=n:=⟨_,rfl⟩
   have hn:n<2^64:=by rw [<-ab];exact Nat.lt_of_le_of_lt (Nat.div_le_self _ _) ai
   have ay:=Aap av bv
   rw [ab] at ay
   have HM:=Jh ab
   clear ab af
   go_wp2_with (first | (go_at_call 191;refine au.out.mono ?_;rintro r w2 ⟨rfl,j⟩;have g0:=(HA.out.ext j).has 0 _ rfl;have g1:=(HA.out.ext j).has 1 _ rfl;have g2:=(HB.out.ext j).has 1 _ rfl;have g3:=(HB.out.ext j).has 0 _ rfl) | (go_at_call 187;refine (aj wd n hn (by omega) (by omega) _).mono ?_;rintro r w3 ⟨rfl,u⟩) | ((with_reducible show Js 151);refine Ac rfl 151 _ _ rfl (HR.out.ext (j.trans u)) rfl (cs:=Bt.cells ⟨wd,n%2^wd.toNat⟩) (rfl) Ae (rfl) rfl (rfl) ?_;intro w4 aw ax))
   refine Am rfl rfl rfl aw.has Ae rfl rfl ⟨?_,(ak.out.trans (j.trans u)).grown ax (by omega)⟩
   rw [<-aa.out,<-HM.out,Vw _ _ ai,Nat.mod_eq_of_lt (Nat.lt_of_le_of_lt (Nat.div_le_self _ _) a3.out)]
   simp [Fm,D4]
  ·have bd:=az.out af ag
   subst bd
   have ap:=Ae2 op h1 h2 af ag wd.toNat av bv (by omega) (by omega) a3.out b3.out (fun h=>by have:=ar.out h;omega)
   obtain ⟨n,ab⟩:∃ n,Cj op av bv=n:=⟨_,rfl⟩
   have ba:=Jh ab
   rw [ab,show ((wd.toNat:Nat):Int)=wd by omega] at ap
   have hn:=ap.1
   have HM:=Jh ap.2
   clear ap ab
   have bi:(op==17)=false:=by rw [beq_eq_false_iff_ne];exact af
   have bj:(op==18)=false:=by rw [beq_eq_false_iff_ne];exact ag
   have a9:=Jh (fun W=>Ys op h1 h2 af ag W)
   have be:=Jh af
   have bf:=Jh ag
   clear af ag
   go_wp2_with (first | (go_at_call 191;refine au.out.mono ?_;rintro r w2 ⟨rfl,j⟩;have g0:=(HA.out.ext j).has 0 _ rfl;have g1:=(HA.out.ext j).has 1 _ rfl;have g2:=(HB.out.ext j).has 1 _ rfl;have g3:=(HB.out.ext j).has 0 _ rfl) | (go_at_call 192;refine Hid.out ?_))
   refine Jh ?_
   clear g0 g1 g2 g3
   refine (a9.out w2).mono ?_
   rintro r w3 ⟨F,rfl,⟨k,lb,rfl,eg,a8⟩,u⟩
   have hc:=a8 w3 (Below.refl _ _) av bv ai aq
   simp only [vN,ba.out] at hc
   have HC:=Jh hc
   clear hc a8
   have g0:=((HA.out.ext j).ext u).has 0 _ rfl
   have g1:=((HA.out.ext j).ext u).has 1 _ rfl
   have g2:=((HB.out.ext j).ext u).has 1 _ rfl
   have g3:=((HB.out.ext j).ext u).has 0 _ rfl
   by_cases bc:25<=op
   ·have bb:19<=op:=by omega
    obtain rfl:=ar.out bc
    go_wp2_with (first | ((with_reducible show Jw (Op.call { callee:=.value (.tmp _),args:=_,argTypes:=_ }));refine As rfl _ _ _ rfl rfl eg rfl HC.out ?_;intro w4 ac) | (go_at_call 187;refine (aj 1 n hn (by omega) (by omega) _).mono ?_;rintro r w5 ⟨rfl,ae⟩) | ((with_reducible show Js 151);refine Ac rfl 151 _ _ rfl (HR.out.ext (j.trans (u.trans (ac.trans ae)))) rfl (cs:=Bt.cells ⟨1,n%2^(1:Int).toNat⟩) (rfl) Ae (rfl) rfl (rfl) ?_;intro w6 al am))
    refine Am rfl rfl rfl al.has Ae rfl rfl ⟨?_,(ak.out.trans (j.trans (u.trans (ac.trans ae)))).grown am (by omega)⟩
    have hM:=HM.out
    rw [show Fm op 1=1 by unfold Fm;split<;>rfl] at hM ⊢
    rw [hM,aa.out];rfl
   ·by_cases bb:19<=op
    ·go_wp2_with (first | ((with_reducible show Jw (Op.call { callee:=.value (.tmp _),args:=_,argTypes:=_ }));refine As rfl _ _ _ rfl rfl eg rfl HC.out ?_;intro w4 ac) | (go_at_call 187;refine (aj 1 n hn (by omega) (by omega) _).mono ?_;rintro r w5 ⟨rfl,ae⟩) | ((with_reducible show Js 151);refine Ac rfl 151 _ _ rfl (HR.out.ext (j.trans (u.trans (ac.trans ae)))) rfl (cs:=Bt.cells ⟨1,n%2^(1:Int).toNat⟩) (rfl) Ae (rfl) rfl (rfl) ?_;intro w6 al am))
     refine Am rfl rfl rfl al.has Ae rfl rfl ⟨?_,(ak.out.trans (j.trans (u.trans (ac.trans ae)))).grown am (by omega)⟩
     have hM:=HM.out
     rw [show Fm op wd=1 by unfold Fm;rw [if_neg (by omega)]] at hM ⊢
     rw [hM,aa.out];rfl
    ·go_wp2_with (first | ((with_reducible show Jw (Op.call { callee:=.value (.tmp _),args:=_,argTypes:=_ }));refine As rfl _ _ _ rfl rfl eg rfl HC.out ?_;intro w4 ac) | (go_at_call 187;refine (aj wd n hn (by omega) (by omega) _).mono ?_;rintro r w5 ⟨rfl,ae⟩) | ((with_reducible show Js 151);refine Ac rfl 151 _ _ rfl (HR.out.ext (j.trans (u.trans (ac.trans ae)))) rfl (cs:=Bt.cells ⟨wd,n%2^(wd:Int).toNat⟩) (rfl) Ae (rfl) rfl (rfl) ?_;intro w6 al am))
     refine Am rfl rfl rfl al.has Ae rfl rfl ⟨?_,(ak.out.trans (j.trans (u.trans (ac.trans ae)))).grown am (by omega)⟩
     have hM:=HM.out
     rw [show Fm op wd=wd by unfold Fm;rw [if_pos (by omega)]] at hM ⊢
     rw [hM,aa.out];rfl
theorem Om {P:Program} {ab:Array Oper} {o:Oper} {a:Act} {w:World} {K:Act->World->Prop} {Q:Exit->Act->World->Prop} {E:Prop} (hw:Region.wanted o (yielded ab a.tmps)=true)
  (x:Operand) (l:List Operand) (j:Array TypeId) (ho:o.op=.call { callee:=.value x,args:=l.toArray,argTypes:=j })
  {g:FuncId} {lb:Array Value} (hx:a.eval x=.func (.func g) #[] lb) (eg:Bj P g) {args:List Value} (u:l.map a.eval=args) {v:Value} {R:World->Prop}
  (hc:Calls P g (args.toArray++lb) w fun r w'=>r=.returned v/\R w') (h:∀ w',R w'->K (a.put o.dst v) w'):if Region.wanted o (yielded ab a.tmps)=true then Oper.wp P o a w K Q else E:=by
 rw [if_pos hw]
 obtain ⟨dst,op,ty,pos,after,guard⟩:=o
 simp only at ho
 subst ho
 subst u
 rw [<-List.map_toArray] at hc
 generalize l.toArray=xs at *
 have aa:(execOp a.eval { dst,op:=.call { callee:=.value x,args:=xs,argTypes:=j },type:=ty,pos,after,guard }).run P w=.ok (.enter g (xs.map a.eval++lb)) w:=by
  have h1:execOp a.eval { dst,op:=.call { callee:=.value x,args:=xs,argTypes:=j },type:=ty,pos,after,guard } = (Deferred.ofValue (a.eval x) (xs.map a.eval) >>= fun d=>invoke d.target d.args):=rfl
  have h2:(Deferred.ofValue (.func (.func g) #[] lb) (xs.map a.eval) >>= fun d=>invoke d.target d.args)=callFunc g (#[]++xs.map a.eval++lb):=rfl
  rw [h1,hx,h2,eg,Array.empty_append]
 unfold Oper.wp
 rw [aa]
 exact hc.mono fun r w' ⟨hr,hR⟩=>by subst hr;exact h w' hR
theorem Yn:Bj Tryz.prog 163:=A9 Tryz.func163 (by kernel_rfl) rfl
theorem Aej:Bj Tryz.prog 164:=A9 Tryz.func164 (by kernel_rfl) rfl
def Ac6 (wb:World) (ls:List Ai) (vs:List Nat) (F:Value):Prop :=
 ∃ k lb,F=.func (.func k) #[] lb/\Bj Tryz.prog k/\∀ W,Ext wb W->∀ sig:Int,0<=sig->sig<ls.length->Calls Tryz.prog k (#[.int .i64 sig]++lb) W fun r W'=>r=.returned (.int .u64 (vs.getD sig.toNat 0:Nat))/\Ext W W'
def Io (wb:World) (ls:List Ai) (vs:List Nat) (S:Nat):Prop :=
 ∃ D L F sv pv cv,Blk wb S #[.func (.func 163) #[] #[.pointer (some ⟨D,0,none⟩),.pointer (some ⟨L,0,none⟩)]] 198/\Blk wb D #[sv,pv,cv] 26/\Blk wb L #[F] 82/\Cq wb sv ls/\Ac6 wb ls vs F
theorem On {wb:World} {ls:List Ai} {vs:List Nat} {D L:Nat} {F sv pv cv:Value} (hD:Blk wb D #[sv,pv,cv] 26) (hL:Blk wb L #[F] 82) (hS:Cq wb sv ls) (hF:Ac6 wb ls vs F)
  (e:E) (cs:List Value) (w:World) (hx:Ext wb w) (hV:VE w cs e) (h0:0<=e.sig) (h1:e.sig<ls.length) :
  Calls Tryz.prog 163 #[.agg cs.toArray,.pointer (some ⟨D,0,none⟩),.pointer (some ⟨L,0,none⟩)] w fun r w'=>r=.returned (.agg (Bt.cells ⟨Dn ls e.sig,vs.getD e.sig.toNat 0⟩).toArray)/\Ext w w':=by
 obtain ⟨s,rfl,-⟩:=hV
 obtain ⟨a',b',o',ab,rfl,aj,ak,ha,hr⟩:=(hS.ext hx).open
 obtain ⟨kf,lb,rfl,ek,hk⟩:=hF
 obtain ⟨k,u⟩:=Int.eq_ofNat_of_zero_le h0
 have ae:k<ls.length:=by omega
 obtain rfl:=ha (by omega)
 have af:Dn ls e.sig=ls[k].w:=by rw [u];simp [Dn,List.getElem?_eq_getElem ae]
 have x1:=Ab w (.cells (e.cells s).toArray 40)
 have x2:=Ab (w.alloc (.cells (e.cells s).toArray 40)) (.cells #[.int .i64 0,.int .u64 0] 151)
 have hE:=(Blk.new w (e.cells s).toArray 40).ext x2
 have hR:=Blk.new (w.alloc (.cells (e.cells s).toArray 40)) #[.int .i64 0,.int .u64 0] 151
 have hX:=x1.trans x2
 simp only [World.size_alloc] at hR
 clear x1 x2
 have ag:=Jh (fun W (h:Ext w W)=>(Cq.get (hr.mono fun x _ b o hh=>C6.ext' h hh) ae:Has W b' (o'+k*4) ls[k].cells))
 have HD:=Jh (fun W (h:Ext w W)=>(hD.ext (hx.trans h)))
 have HL:=Jh (fun W (h:Ext w W)=>(hL.ext (hx.trans h)))
 have j:=Jh (fun W (h:Ext w W)=>hk W (hx.trans h) e.sig h0 h1)
 rw [af]
 generalize ls[k]=x at *
 clear hk hD hL hS hr af
 rw [u] at j ⊢
 simp only [Int.toNat_natCast] at j ⊢
 obtain ⟨V,hv⟩:∃ V,vs.getD k 0=V:=⟨_,rfl⟩
 rw [hv] at j ⊢
 clear hv
 go_enter Tryz.func163,Tryz.ntmps163
 go_upto_region 1 with fail
 generalize (w.alloc _).alloc _=w0 at *
 have HR:=Jh hR
 have HE:=Jh hE
 clear hR hE
 refine wp_region_held_drew (S:=fun W=>Ext w W/\Blk W w.heap.size (e.cells s).toArray 40) (by kernel_rfl) ⟨hX.drew,HE.out.drew⟩ (fun hH=>?_)
 try simp only [J]
 (refine Ji 0 _ rfl hH ?_;try simp only [J])
 (refine Jt 1 (.slice (some ⟨b',o',none⟩) ls.length ab) rfl (yif_load1 rfl (by intro W hW;have y:=(HD.out W hW.1).has 0 _ rfl;clear hW;go_simp)) hH ?_;try simp only [J])
 (refine Ji 2 _ rfl hH ?_;try simp only [J])
 (refine Jt 3 (.int .i64 k) rfl (yif_load1 rfl (by intro W hW;have y:=hW.2.has 3 _ rfl;rw [u] at y;clear hW;go_simp)) hH ?_;try simp only [J])
 (refine Jp 4 (.pointer (some ⟨b',o'+k*4,none⟩)) rfl hH ?_;try simp only [J])
 (refine Jt 5 _ rfl (yif_load1 rfl (by intro W hW;clear hW;go_simp;rfl)) hH ?_;try simp only [J])
 (refine Jt 6 (.int .i64 x.w) rfl (yif_load1 rfl (by intro W hW;have y:=ag.out W hW.1 1 _ rfl;clear hW;go_simp)) hH ?_;try simp only [J])
 (refine Jt 7 (.func (.func kf) #[] lb) rfl (yif_load1 rfl (by intro W hW;have y:=(HL.out W hW.1).has 0 _ rfl;clear hW;go_simp)) hH ?_;try simp only [J])
 (refine Ji 8 _ rfl hH ?_;try simp only [J])
 (refine Jt 9 (.int .i64 k) rfl (yif_load1 rfl (by intro W hW;have y:=hW.2.has 3 _ rfl;rw [u] at y;clear hW;go_simp)) hH ?_;try simp only [J])
 (refine Jr 10 rfl fun K hK=>?_)
 refine Om rfl _ _ _ rfl rfl ek rfl (j.out _ hH.1) ?_
 intro w3 aa
 refine hK.out _ _ ⟨hH.1.trans aa,hH.2.ext aa⟩ (fun hH=>?_)
 clear hK K
 try simp only [J]
 (refine Jk 11 (.agg (Bt.cells ⟨x.w,V⟩).toArray) rfl hH ?_;try simp only [J])
 (refine Jr 12 rfl fun K hK=>?_)
 refine Az rfl 151 _ _ rfl (HR.out.drew.ext aa) rfl (cs:=Bt.cells ⟨x.w,V⟩) rfl Ae rfl rfl rfl ?_
 intro w4 ai ac
 refine hK.out _ _ ⟨hH.1.grown ac (by omega),hH.2.grown ac (by omega)⟩ (fun hH=>?_)
 clear hK K
 refine Jz ?_
 go_wp2_with ((with_reducible show bodyPost _ _ _ _ _ _);refine Hid.out ?_)
 refine Jh ?_
 exact Av rfl rfl ai.has Ae rfl rfl ⟨rfl,hH.1⟩
theorem Ahu {wb:World} {ls:List Ai} {vs:List Nat} {S:Nat} (ar:∀ x∈ls,1<=x.w/\x.w<=64) (aj:Nc ls vs) (u:Io wb ls vs S) {wd sig hi lo nn:Int} {n:Nat} (s0 s:Value) (w:World) (hx:Ext wb w) (ac:Es w s0 [])
  (aa:Bts w s (([]:List E).map (evB vs))) :
  Calls Tryz.prog 164 #[.agg (E.cells (⟨1,wd,(n:Int),sig,hi,lo,nn,[]⟩) s0).toArray,s,.pointer (some ⟨S,0,none⟩)] w fun r w'=>r=.returned (.agg (Bt.cells ⟨wd,n⟩).toArray)/\Ext w w':=by
 have an:(E.cells (⟨1,wd,(n:Int),sig,hi,lo,nn,[]⟩) s0).all (·.oneCell')=true:=by simp [ac.one,Bc]
 obtain ⟨D,L,F,sv,pv,cv,qS,qD,qL,au,qF⟩:=u
 have ap:=Jh (fun W (h:Ext w W)=>qS.ext (hx.trans h))
 obtain ⟨ab,bb,ob,ak,rfl,al,am,aq,af⟩:=aa.open
 have ao:=Jh (fun W (h:Ext w W)=>(af.mono fun x _ b o (hh:Has w b o x.cells)=>Has.ext hh h:Rows 2 (Nv W) _ bb ob))
 have x1:=Ab w (.cells (E.cells (⟨1,wd,(n:Int),sig,hi,lo,nn,[]⟩) s0).toArray 40)
 have x2:=Ab (w.alloc (.cells (E.cells (⟨1,wd,(n:Int),sig,hi,lo,nn,[]⟩) s0).toArray 40)) (.cells #[.int .i64 0,.int .u64 0] 151)
 have hE:=(Blk.new w (E.cells (⟨1,wd,(n:Int),sig,hi,lo,nn,[]⟩) s0).toArray 40).ext x2
 have hR:=Blk.new (w.alloc (.cells (E.cells (⟨1,wd,(n:Int),sig,hi,lo,nn,[]⟩) s0).toArray 40)) #[.int .i64 0,.int .u64 0] 151
 have hX:=x1.trans x2
 simp only [World.size_alloc] at hR
 clear x1 x2
 go_enter Tryz.func164,Tryz.ntmps164
 go_upto_region 1 with fail
 generalize (w.alloc _).alloc _=w0 at *
 have HE:=Jh hE
 have HR:=Jh hR
 have HX:=Jh hX
 have g0:=hE.has 0 _ rfl
 clear hE hR hX
 have g1:=HE.out.has 1 _ rfl
 have g2:=HE.out.has 2 _ rfl
 go_wp2_with (first | ((with_reducible show Js 151);refine Ac rfl 151 _ _ rfl (HR.out) rfl (cs:=Bt.cells ⟨wd,n⟩) (rfl) Ae (rfl) rfl (rfl) ?_;intro w4 j ag) | ((with_reducible show Jl 151);refine Aa rfl 151 _ rfl rfl (j.has) Ae rfl ?_) | ((with_reducible show Js 151);refine Ac rfl 151 _ _ rfl (j) rfl (cs:=Bt.cells ⟨wd,n⟩) (rfl) Ae (rfl) rfl (rfl) ?_;intro w9 ae ai) | ((with_reducible show bodyPost _ _ _ _ _ _);refine Hid.out ?_))
 refine Jh ?_
 refine Av rfl rfl ae.has Ae rfl rfl ⟨rfl,(HX.out.grown ag (by omega)).grown ai (by omega)⟩
theorem Ahv {wb:World} {ls:List Ai} {vs:List Nat} {S:Nat} (aw:∀ x∈ls,1<=x.w/\x.w<=64) (j:Nc ls vs) (af:Io wb ls vs S) {wd v sig hi lo nn:Int} (h0:0<=sig) (h1:sig<ls.length) (av:0<=lo) (au:lo<=hi) (ar:hi<Dn ls sig) (s0 s:Value) (w:World) (hx:Ext wb w) (ac:Es w s0 [])
  (an:Bts w s (([]:List E).map (evB vs))) :
  Calls Tryz.prog 164 #[.agg (E.cells (⟨2,wd,v,sig,hi,lo,nn,[]⟩) s0).toArray,s,.pointer (some ⟨S,0,none⟩)] w fun r w'=>r=.returned (.agg (Bt.cells ⟨hi-lo+1,vs.getD sig.toNat 0 / 2^lo.toNat%2^(hi-lo+1).toNat⟩).toArray)/\Ext w w':=by
 have a0:(E.cells (⟨2,wd,v,sig,hi,lo,nn,[]⟩) s0).all (·.oneCell')=true:=by simp [ac.one,Bc]
 obtain ⟨D,L,F,sv,pv,cv,qS,qD,qL,ax,qF⟩:=af
 have ak:=Jh (fun W (h:Ext w W)=>qS.ext (hx.trans h))
 obtain ⟨ab,bb,ob,ay,rfl,az,ah,a2,ap⟩:=an.open
 have a1:=Jh (fun W (h:Ext w W)=>(ap.mono fun x _ b o (hh:Has w b o x.cells)=>Has.ext hh h:Rows 2 (Nv W) _ bb ob))
 have x1:=Ab w (.cells (E.cells (⟨2,wd,v,sig,hi,lo,nn,[]⟩) s0).toArray 40)
 have x2:=Ab (w.alloc (.cells (E.cells (⟨2,wd,v,sig,hi,lo,nn,[]⟩) s0).toArray 40)) (.cells #[.int .i64 0,.int .u64 0] 151)
 have hE:=(Blk.new w (E.cells (⟨2,wd,v,sig,hi,lo,nn,[]⟩) s0).toArray 40).ext x2
 have hR:=Blk.new (w.alloc (.cells (E.cells (⟨2,wd,v,sig,hi,lo,nn,[]⟩) s0).toArray 40)) #[.int .i64 0,.int .u64 0] 151
 have hX:=x1.trans x2
 simp only [World.size_alloc] at hR
 clear x1 x2
 have aj:Bt.ok ⟨Dn ls sig,vs.getD sig.toNat 0⟩:=by
  obtain ⟨k,hk⟩:=Int.eq_ofNat_of_zero_le h0
  have ai:k<ls.length:=by omega
  have h2:Dn ls sig=ls[k].w:=by rw [hk];simp [Dn,List.getElem?_eq_getElem ai]
  have h3:=aw _ (List.getElem_mem ai)
  exact ⟨by rw [h2];exact h3.1,by rw [h2];exact h3.2,j sig h0 h1⟩
 have al:=Jh (fun W=>Xl _ aj hi lo av au ar W)
 have am:=Jh (fun W (h:Ext w W)=>On qD qL ax qF (⟨2,wd,v,sig,hi,lo,nn,[]⟩) (E.cells (⟨2,wd,v,sig,hi,lo,nn,[]⟩) s0) W (hx.trans h) ⟨s0,rfl,ac.ext h⟩ h0 h1)
 go_enter Tryz.func164,Tryz.ntmps164
 go_upto_region 1 with fail
 generalize (w.alloc _).alloc _=w0 at *
 have HE:=Jh hE
 have HR:=Jh hR
 have HX:=Jh hX
 have g0:=hE.has 0 _ rfl
 clear hE hR hX
 go_wp2_with fail
 refine wp_region_held_drew (S:=fun W=>Ext w W/\Blk W w.heap.size (E.cells (⟨2,wd,v,sig,hi,lo,nn,[]⟩) s0).toArray 40) (by kernel_rfl) ⟨HX.out.drew,HE.out.drew⟩ (fun hH=>?_)
 try simp only [J]
 (refine Jt 0 (.func (.func 163) #[] #[.pointer (some ⟨D,0,none⟩),.pointer (some ⟨L,0,none⟩)]) rfl (yif_load1 rfl (by intro W hW;have y:=(ak.out W hW.1).has 0 _ rfl;clear hW;go_simp)) hH ?_;try simp only [J])
 (refine Jt 1 (.agg (E.cells (⟨2,wd,v,sig,hi,lo,nn,[]⟩) s0).toArray) rfl (Ar rfl 40 _ rfl rfl (fun W hW=>hW.2.has) Ah rfl) hH ?_;try simp only [J])
 (refine Ji 3 _ rfl hH ?_;try simp only [J])
 (refine Jt 4 (.int .i64 hi) rfl (yif_load1 rfl (by intro W hW;have y:=hW.2.has 4 _ rfl;clear hW;go_simp)) hH ?_;try simp only [J])
 (refine Ji 5 _ rfl hH ?_;try simp only [J])
 (refine Jt 6 (.int .i64 lo) rfl (yif_load1 rfl (by intro W hW;have y:=hW.2.has 5 _ rfl;clear hW;go_simp)) hH ?_;try simp only [J])
 (refine Jr 2 rfl fun K hK=>?_)
 refine Om rfl _ _ _ rfl rfl Yn rfl (am.out _ hH.1) ?_
 intro w2 u
 refine hK.out _ _ ⟨hH.1.trans u,hH.2.ext u⟩ (fun hH=>?_)
 clear hK K
 try simp only [J]
 (refine Jr 7 rfl fun K hK=>?_)
 go_simp
 refine (al.out _).mono ?_
 rintro r w3 ⟨rfl,aa⟩
 refine hK.out _ _ ⟨hH.1.trans aa,hH.2.ext aa⟩ (fun hH=>?_)
 clear hK K
 try simp only [J]
 (refine Ji 8 (.tuple #[.agg (Bt.cells ⟨hi-lo+1,vs.getD sig.toNat 0 / 2^lo.toNat%2^(hi-lo+1).toNat⟩).toArray,.int .i64 0]) rfl hH ?_;try simp only [J])
 (refine Jk 9 (.agg (Bt.cells ⟨hi-lo+1,vs.getD sig.toNat 0 / 2^lo.toNat%2^(hi-lo+1).toNat⟩).toArray) rfl hH ?_;try simp only [J])
 (refine Jk 10 (.int .i64 0) rfl hH ?_;try simp only [J])
 (refine Jr 11 rfl fun K hK=>?_)
 refine Az rfl 151 _ _ rfl ((HR.out.drew.ext u).ext aa) rfl (cs:=Bt.cells ⟨hi-lo+1,vs.getD sig.toNat 0 / 2^lo.toNat%2^(hi-lo+1).toNat⟩) rfl Ae rfl rfl rfl ?_
 intro w4 ae ag
 refine hK.out _ _ ⟨hH.1.grown ag (by omega),hH.2.grown ag (by omega)⟩ (fun hH=>?_)
 clear hK K
 refine Jz ?_
 go_wp2_with (first | ((with_reducible show Jl 151);refine Aa rfl 151 _ rfl rfl (ae.has) Ae rfl ?_) | ((with_reducible show Js 151);refine Ac rfl 151 _ _ rfl (ae) rfl (cs:=Bt.cells ⟨hi-lo+1,vs.getD sig.toNat 0 / 2^lo.toNat%2^(hi-lo+1).toNat⟩) (rfl) Ae (rfl) rfl (rfl) ?_;intro w9 ao aq) | ((with_reducible show bodyPost _ _ _ _ _ _);refine Hid.out ?_))
 refine Jh ?_
 refine Av rfl rfl ao.has Ae rfl rfl ⟨?_,(hH.1).grown aq (by omega)⟩
 rfl
theorem Aht {wb:World} {ls:List Ai} {vs:List Nat} {S:Nat} (ah:∀ x∈ls,1<=x.w/\x.w<=64) (u:Nc ls vs) (ai:Io wb ls vs S) {wd v sig hi lo nn:Int} {x:E} (h0:0<=sig) (h1:sig<ls.length) (s0 s:Value) (w:World) (hx:Ext wb w) (af:Es w s0 [x])
  (au:Bts w s (([x]:List E).map (evB vs))) :
  Calls Tryz.prog 164 #[.agg (E.cells (⟨3,wd,v,sig,hi,lo,nn,[x]⟩) s0).toArray,s,.pointer (some ⟨S,0,none⟩)] w fun r w'=>r=.returned (.agg (Bt.cells ⟨1,vs.getD sig.toNat 0 / 2^evM vs x%2⟩).toArray)/\Ext w w':=by
 have a5:(E.cells (⟨3,wd,v,sig,hi,lo,nn,[x]⟩) s0).all (·.oneCell')=true:=by simp [af.one,Bc]
 obtain ⟨D,L,F,sv,pv,cv,qS,qD,qL,a1,qF⟩:=ai
 have ap:=Jh (fun W (h:Ext w W)=>qS.ext (hx.trans h))
 obtain ⟨ab,bb,ob,a2,rfl,a3,a4,ax,ay⟩:=au.open
 have an:=Jh (fun W (h:Ext w W)=>(ay.mono fun x _ b o (hh:Has w b o x.cells)=>Has.ext hh h:Rows 2 (Nv W) _ bb ob))
 have x1:=Ab w (.cells (E.cells (⟨3,wd,v,sig,hi,lo,nn,[x]⟩) s0).toArray 40)
 have x2:=Ab (w.alloc (.cells (E.cells (⟨3,wd,v,sig,hi,lo,nn,[x]⟩) s0).toArray 40)) (.cells #[.int .i64 0,.int .u64 0] 151)
 have hE:=(Blk.new w (E.cells (⟨3,wd,v,sig,hi,lo,nn,[x]⟩) s0).toArray 40).ext x2
 have hR:=Blk.new (w.alloc (.cells (E.cells (⟨3,wd,v,sig,hi,lo,nn,[x]⟩) s0).toArray 40)) #[.int .i64 0,.int .u64 0] 151
 have hX:=x1.trans x2
 simp only [World.size_alloc] at hR
 clear x1 x2
 have ae:=Jh (fun W (h:Ext w W)=>On qD qL a1 qF (⟨3,wd,v,sig,hi,lo,nn,[x]⟩) (E.cells (⟨3,wd,v,sig,hi,lo,nn,[x]⟩) s0) W (hx.trans h) ⟨s0,rfl,af.ext h⟩ h0 h1)
 have j:vs.getD sig.toNat 0<2^64:=by
  obtain ⟨k,hk⟩:=Int.eq_ofNat_of_zero_le h0
  have ak:k<ls.length:=by omega
  have h2:Dn ls sig=ls[k].w:=by rw [hk];simp [Dn,List.getElem?_eq_getElem ak]
  have h3:=ah _ (List.getElem_mem ak)
  exact Nat.lt_of_lt_of_le (u sig h0 h1) (Nat.pow_le_pow_right (by decide) (by omega))
 obtain rfl:=ax (by simp)
 have H0:=Jh (fun W (h:Ext w W)=>(by have:=Bts.get (an.out W h) (k:=0) (by simp);simpa using this:Has W bb (ob) (evB vs x).cells))
 obtain ⟨A,hA⟩:∃ A,vs.getD sig.toNat 0=A:=⟨_,rfl⟩
 obtain ⟨B,hB⟩:∃ B,evM vs x=B:=⟨_,rfl⟩
 have ao:=Jh (show evB vs x=⟨x.w,B⟩ by unfold evB;rw [hB])
 simp only [ao.out] at H0
 rw [hA] at ae j ⊢
 rw [hB]
 have a0:=Aap A B
 obtain ⟨m,hm⟩:∃ m,A / 2^(min B 64)=m:=⟨_,rfl⟩
 rw [hm] at a0
 have al:m<18446744073709551616:=by rw [<-hm];exact Nat.lt_of_le_of_lt (Nat.div_le_self _ _) j
 have ac:=Jh (show bits .and .u64 (m:Int) 1=((m%2:Nat):Int) by
  have:=Gr (a:=m) (b:=1) al (by decide)
  rw [Nat.and_one_is_mod] at this
  exact this)
 have HM:=Jh (show m=A / 2^B by rw [<-hm,Vw A B j])
 clear hm hA hB
 go_enter Tryz.func164,Tryz.ntmps164
 go_upto_region 1 with fail
 generalize (w.alloc _).alloc _=w0 at *
 have HE:=Jh hE
 have HR:=Jh hR
 have HX:=Jh hX
 have g0:=hE.has 0 _ rfl
 clear hE hR hX
 have k0:=HE.out.has
 have k1:=(ap.out w0 HX.out).has 0 _ rfl
 go_wp2_with (first | ((with_reducible show Jl 40);refine Aa rfl 40 _ rfl rfl (k0) Ah rfl ?_) | ((with_reducible show Jw (Op.call { callee:=.value (.tmp _),args:=_,argTypes:=_ }));refine As rfl _ _ _ rfl rfl Yn rfl (ae.out _ HX.out) ?_;intro w2 am) | ((with_reducible show Js 151);refine Ad rfl 151 _ _ rfl rfl (by first | rfl | simp) rfl Ae (rfl) rfl (rfl) ?_))
 have aa:=am.alloc (.cells (Bt.cells ⟨Dn ls sig,A⟩).toArray 151)
 have av:=Blk.new w2 (Bt.cells ⟨Dn ls sig,A⟩).toArray 151
 have aq:=Jh (HR.out.ext aa)
 have ar:=Jh (HX.out.trans aa)
 clear k0 k1 aa
 have a7:=am.size
 have a6:=HR.out.lt
 generalize w2.alloc _=w3 at *
 generalize w2.heap.size=B2 at *
 refine wp_region_held_drew (S:=fun W=>Ext w W/\Blk W B2 (Bt.cells ⟨Dn ls sig,A⟩).toArray 151) (by kernel_rfl) ⟨ar.out.drew,av.drew⟩ (fun hH=>?_)
 try simp only [J]
 (refine Ji 0 _ rfl hH ?_;try simp only [J])
 (refine Jt 1 (.int .u64 (A:Int)) rfl (yif_load1 rfl (by intro W hW;have y:=hW.2.has 1 _ rfl;clear hW;go_simp)) hH ?_;try simp only [J])
 (refine Ji 2 _ rfl hH ?_;try simp only [J])
 (refine Jk 3 (.pointer (some ⟨bb,ob,none⟩)) rfl hH ?_;try simp only [J])
 (refine Jk 4 (.pointer (some ⟨bb,ob+1,none⟩)) rfl hH ?_;try simp only [J])
 (refine Jt 5 (.int .u64 (B:Int)) rfl (yif_load1 rfl (by intro W hW;have y:=H0.out W hW.1 1 _ rfl;clear hW;go_simp)) hH ?_;try simp only [J])
 (refine Jk 6 (.int .u64 (m:Int)) rfl hH ?_;try simp only [J])
 (refine Jt 7 (.int .u64 ((m%2:Nat):Int)) rfl (yif_load1 rfl (by intro W hW;clear hW;go_simp;exact ac.out)) hH ?_;try simp only [J])
 (refine Jk 8 (.agg (Bt.cells ⟨1,m%2⟩).toArray) rfl hH ?_;try simp only [J])
 (refine Jr 9 rfl fun K hK=>?_)
 refine Az rfl 151 _ _ rfl aq.out.drew rfl (cs:=Bt.cells ⟨1,m%2⟩) rfl Ae rfl rfl rfl ?_
 intro w4 ag aj
 refine hK.out _ _ ⟨hH.1.grown aj (by omega),hH.2.grown aj (by omega)⟩ (fun hH=>?_)
 clear hK K
 refine Jz ?_
 go_wp2_with (first | ((with_reducible show Jl 151);refine Aa rfl 151 _ rfl rfl (ag.has) Ae rfl ?_) | ((with_reducible show Js 151);refine Ac rfl 151 _ _ rfl (ag) rfl (cs:=Bt.cells ⟨1,m%2⟩) (rfl) Ae (rfl) rfl (rfl) ?_;intro w9 aw az) | ((with_reducible show bodyPost _ _ _ _ _ _);refine Hid.out ?_))
 refine Jh ?_
 refine Av rfl rfl aw.has Ae rfl rfl ⟨?_,(hH.1).grown az (by omega)⟩
 rw [HM.out]
theorem Aih {wb:World} {ls:List Ai} {vs:List Nat} {S:Nat} (av:∀ x∈ls,1<=x.w/\x.w<=64) (am:Nc ls vs) (aa:Io wb ls vs S) {wd v sig hi lo nn:Int} {x:E} (an:(evB vs x).ok) (h0:1<=nn) (h1:nn<=6) (h6:nn=6->x.w=1) (s0 s:Value) (w:World) (hx:Ext wb w) (ag:Es w s0 [x])
  (af:Bts w s (([x]:List E).map (evB vs))) :
  Calls Tryz.prog 164 #[.agg (E.cells (⟨4,wd,v,sig,hi,lo,nn,[x]⟩) s0).toArray,s,.pointer (some ⟨S,0,none⟩)] w fun r w'=>r=.returned (.agg (Bt.cells ⟨unW nn x.w,unM nn x.w.toNat (evM vs x)⟩).toArray)/\Ext w w':=by
 have ar:(E.cells (⟨4,wd,v,sig,hi,lo,nn,[x]⟩) s0).all (·.oneCell')=true:=by simp [ag.one,Bc]
 obtain ⟨D,L,F,sv,pv,cv,qS,qD,qL,aw,qF⟩:=aa
 have au:=Jh (fun W (h:Ext w W)=>qS.ext (hx.trans h))
 obtain ⟨ab,bb,ob,ao,rfl,ap,aq,aj,ak⟩:=af.open
 have ae:=Jh (fun W (h:Ext w W)=>(ak.mono fun x _ b o (hh:Has w b o x.cells)=>Has.ext hh h:Rows 2 (Nv W) _ bb ob))
 have x1:=Ab w (.cells (E.cells (⟨4,wd,v,sig,hi,lo,nn,[x]⟩) s0).toArray 40)
 have x2:=Ab (w.alloc (.cells (E.cells (⟨4,wd,v,sig,hi,lo,nn,[x]⟩) s0).toArray 40)) (.cells #[.int .i64 0,.int .u64 0] 151)
 have hE:=(Blk.new w (E.cells (⟨4,wd,v,sig,hi,lo,nn,[x]⟩) s0).toArray 40).ext x2
 have hR:=Blk.new (w.alloc (.cells (E.cells (⟨4,wd,v,sig,hi,lo,nn,[x]⟩) s0).toArray 40)) #[.int .i64 0,.int .u64 0] 151
 have hX:=x1.trans x2
 simp only [World.size_alloc] at hR
 clear x1 x2
 have HU:=Jh (fun W=>Ada nn h0 h1 (evB vs x) an h6 W)
 obtain rfl:=aj (by simp)
 have H0:=Jh (fun W (h:Ext w W)=>(by have:=Bts.get (ae.out W h) (k:=0) (by simp);simpa using this:Has W bb (ob) (evB vs x).cells))
 go_enter Tryz.func164,Tryz.ntmps164
 go_upto_region 1 with fail
 generalize (w.alloc _).alloc _=w0 at *
 have HE:=Jh hE
 have HR:=Jh hR
 have HX:=Jh hX
 have g0:=hE.has 0 _ rfl
 clear hE hR hX
 go_wp2_with fail
 refine wp_region_held_drew (S:=fun W=>Ext w W/\Blk W w.heap.size (E.cells (⟨4,wd,v,sig,hi,lo,nn,[x]⟩) s0).toArray 40) (by kernel_rfl) ⟨HX.out.drew,HE.out.drew⟩ (fun hH=>?_)
 try simp only [J]
 (refine Ji 0 _ rfl hH ?_;try simp only [J])
 (refine Jt 1 (.int .i64 nn) rfl (yif_load1 rfl (by intro W hW;have y:=hW.2.has 6 _ rfl;clear hW;go_simp)) hH ?_;try simp only [J])
 (refine Ji 2 _ rfl hH ?_;try simp only [J])
 (refine Jk 3 (.pointer (some ⟨bb,ob,none⟩)) rfl hH ?_;try simp only [J])
 (refine Jt 4 (.agg (evB vs x).cells.toArray) rfl (Ar rfl 151 _ rfl rfl (fun W hW=>H0.out W hW.1) Ae rfl) hH ?_;try simp only [J])
 (refine Jr 5 rfl fun K hK=>?_)
 go_simp
 refine (HU.out _).mono ?_
 rintro r w3 ⟨rfl,j⟩
 refine hK.out _ _ ⟨hH.1.trans j,hH.2.ext j⟩ (fun hH=>?_)
 clear hK K
 try simp only [J]
 (refine Ji 6 (.tuple #[.agg (Bt.cells ⟨unW nn (evB vs x).w,unM nn (evB vs x).w.toNat (evB vs x).v⟩).toArray,.int .i64 0]) rfl hH ?_;try simp only [J])
 (refine Jk 7 (.agg (Bt.cells ⟨unW nn (evB vs x).w,unM nn (evB vs x).w.toNat (evB vs x).v⟩).toArray) rfl hH ?_;try simp only [J])
 (refine Jk 8 (.int .i64 0) rfl hH ?_;try simp only [J])
 (refine Jr 9 rfl fun K hK=>?_)
 refine Az rfl 151 _ _ rfl (HR.out.drew.ext j) rfl (cs:=Bt.cells ⟨unW nn (evB vs x).w,unM nn (evB vs x).w.toNat (evB vs x).v⟩) rfl Ae rfl rfl rfl ?_
 intro w4 u ac
 refine hK.out _ _ ⟨hH.1.grown ac (by omega),hH.2.grown ac (by omega)⟩ (fun hH=>?_)
 clear hK K
 refine Jz ?_
 go_wp2_with (first | ((with_reducible show Jl 151);refine Aa rfl 151 _ rfl rfl (u.has) Ae rfl ?_) | ((with_reducible show Js 151);refine Ac rfl 151 _ _ rfl (u) rfl (cs:=Bt.cells ⟨unW nn (evB vs x).w,unM nn (evB vs x).w.toNat (evB vs x).v⟩) (rfl) Ae (rfl) rfl (rfl) ?_;intro w9 ai al) | ((with_reducible show bodyPost _ _ _ _ _ _);refine Hid.out ?_))
 refine Jh ?_
 refine Av rfl rfl ai.has Ae rfl rfl ⟨?_,(hH.1).grown al (by omega)⟩
 rfl
theorem Ahq {wb:World} {ls:List Ai} {vs:List Nat} {S:Nat} (ay:∀ x∈ls,1<=x.w/\x.w<=64) (an:Nc ls vs) (ac:Io wb ls vs S) {wd v sig hi lo nn:Int} {x y:E} (ao:(evB vs x).ok) (aq:(evB vs y).ok) (h0:11<=nn) (h1:nn<=26) (ap:nn≠17->nn≠18->x.w=y.w) (af:25<=nn->x.w=1) (s0 s:Value) (w:World) (hx:Ext wb w) (ai:Es w s0 [x,y])
  (ag:Bts w s (([x,y]:List E).map (evB vs))) :
  Calls Tryz.prog 164 #[.agg (E.cells (⟨5,wd,v,sig,hi,lo,nn,[x,y]⟩) s0).toArray,s,.pointer (some ⟨S,0,none⟩)] w fun r w'=>r=.returned (.agg (Bt.cells ⟨Fm nn x.w,D4 nn x.w.toNat (evM vs x) (evM vs y)⟩).toArray)/\Ext w w':=by
 have aw:(E.cells (⟨5,wd,v,sig,hi,lo,nn,[x,y]⟩) s0).all (·.oneCell')=true:=by simp [ai.one,Bc]
 obtain ⟨D,L,F,sv,pv,cv,qS,qD,qL,az,qF⟩:=ac
 have ax:=Jh (fun W (h:Ext w W)=>qS.ext (hx.trans h))
 obtain ⟨ab,bb,ob,ar,rfl,au,av,ak,al⟩:=ag.open
 have u:=Jh (fun W (h:Ext w W)=>(al.mono fun x _ b o (hh:Has w b o x.cells)=>Has.ext hh h:Rows 2 (Nv W) _ bb ob))
 have x1:=Ab w (.cells (E.cells (⟨5,wd,v,sig,hi,lo,nn,[x,y]⟩) s0).toArray 40)
 have x2:=Ab (w.alloc (.cells (E.cells (⟨5,wd,v,sig,hi,lo,nn,[x,y]⟩) s0).toArray 40)) (.cells #[.int .i64 0,.int .u64 0] 151)
 have hE:=(Blk.new w (E.cells (⟨5,wd,v,sig,hi,lo,nn,[x,y]⟩) s0).toArray 40).ext x2
 have hR:=Blk.new (w.alloc (.cells (E.cells (⟨5,wd,v,sig,hi,lo,nn,[x,y]⟩) s0).toArray 40)) #[.int .i64 0,.int .u64 0] 151
 have hX:=x1.trans x2
 simp only [World.size_alloc] at hR
 clear x1 x2
 have HU:=Jh (fun W=>Abh nn h0 h1 (evB vs x) (evB vs y) ao aq ap af W)
 obtain rfl:=ak (by simp)
 have H0:=Jh (fun W (h:Ext w W)=>(by have:=Bts.get (u.out W h) (k:=0) (by simp);simpa using this:Has W bb (ob) (evB vs x).cells))
 have H1:=Jh (fun W (h:Ext w W)=>(by have:=Bts.get (u.out W h) (k:=1) (by simp);simpa using this:Has W bb (ob+2) (evB vs y).cells))
 go_enter Tryz.func164,Tryz.ntmps164
 go_upto_region 1 with fail
 generalize (w.alloc _).alloc _=w0 at *
 have HE:=Jh hE
 have HR:=Jh hR
 have HX:=Jh hX
 have g0:=hE.has 0 _ rfl
 clear hE hR hX
 go_wp2_with fail
 refine wp_region_held_drew (S:=fun W=>Ext w W/\Blk W w.heap.size (E.cells (⟨5,wd,v,sig,hi,lo,nn,[x,y]⟩) s0).toArray 40) (by kernel_rfl) ⟨HX.out.drew,HE.out.drew⟩ (fun hH=>?_)
 try simp only [J]
 (refine Ji 0 _ rfl hH ?_;try simp only [J])
 (refine Jt 1 (.int .i64 nn) rfl (yif_load1 rfl (by intro W hW;have y:=hW.2.has 6 _ rfl;clear hW;go_simp)) hH ?_;try simp only [J])
 (refine Ji 2 _ rfl hH ?_;try simp only [J])
 (refine Jk 3 (.pointer (some ⟨bb,ob,none⟩)) rfl hH ?_;try simp only [J])
 (refine Jt 4 (.agg (evB vs x).cells.toArray) rfl (Ar rfl 151 _ rfl rfl (fun W hW=>H0.out W hW.1) Ae rfl) hH ?_;try simp only [J])
 (refine Ji 5 _ rfl hH ?_;try simp only [J])
 (refine Jk 6 (.pointer (some ⟨bb,ob+2,none⟩)) rfl hH ?_;try simp only [J])
 (refine Jt 7 (.agg (evB vs y).cells.toArray) rfl (Ar rfl 151 _ rfl rfl (fun W hW=>H1.out W hW.1) Ae rfl) hH ?_;try simp only [J])
 (refine Jr 8 rfl fun K hK=>?_)
 go_simp
 refine (HU.out _).mono ?_
 rintro r w3 ⟨rfl,j⟩
 refine hK.out _ _ ⟨hH.1.trans j,hH.2.ext j⟩ (fun hH=>?_)
 clear hK K
 try simp only [J]
 (refine Ji 9 (.tuple #[.agg (Bt.cells ⟨Fm nn (evB vs x).w,D4 nn (evB vs x).w.toNat (evB vs x).v (evB vs y).v⟩).toArray,.int .i64 0]) rfl hH ?_;try simp only [J])
 (refine Jk 10 (.agg (Bt.cells ⟨Fm nn (evB vs x).w,D4 nn (evB vs x).w.toNat (evB vs x).v (evB vs y).v⟩).toArray) rfl hH ?_;try simp only [J])
 (refine Jk 11 (.int .i64 0) rfl hH ?_;try simp only [J])
 (refine Jr 12 rfl fun K hK=>?_)
 refine Az rfl 151 _ _ rfl (HR.out.drew.ext j) rfl (cs:=Bt.cells ⟨Fm nn (evB vs x).w,D4 nn (evB vs x).w.toNat (evB vs x).v (evB vs y).v⟩) rfl Ae rfl rfl rfl ?_
 intro w4 aa ae
 refine hK.out _ _ ⟨hH.1.grown ae (by omega),hH.2.grown ae (by omega)⟩ (fun hH=>?_)
 clear hK K
 refine Jz ?_
 go_wp2_with (first | ((with_reducible show Jl 151);refine Aa rfl 151 _ rfl rfl (aa.has) Ae rfl ?_) | ((with_reducible show Js 151);refine Ac rfl 151 _ _ rfl (aa) rfl (cs:=Bt.cells ⟨Fm nn (evB vs x).w,D4 nn (evB vs x).w.toNat (evB vs x).v (evB vs y).v⟩) (rfl) Ae (rfl) rfl (rfl) ?_;intro w9 aj am) | ((with_reducible show bodyPost _ _ _ _ _ _);refine Hid.out ?_))
 refine Jh ?_
 refine Av rfl rfl aj.has Ae rfl rfl ⟨?_,(hH.1).grown am (by omega)⟩
 rfl
theorem Ag0 {wb:World} {ls:List Ai} {vs:List Nat} {S:Nat} (a1:∀ x∈ls,1<=x.w/\x.w<=64) (au:Nc ls vs) (ai:Io wb ls vs S) {wd v sig hi lo nn:Int} {c x y:E} (aq:(evB vs c).ok) (av:(evB vs x).ok) (aw:(evB vs y).ok) (ag:c.w=1) (ak:x.w=y.w) (s0 s:Value) (w:World) (hx:Ext wb w) (am:Es w s0 [c,x,y])
  (al:Bts w s (([c,x,y]:List E).map (evB vs))) :
  Calls Tryz.prog 164 #[.agg (E.cells (⟨6,wd,v,sig,hi,lo,nn,[c,x,y]⟩) s0).toArray,s,.pointer (some ⟨S,0,none⟩)] w fun r w'=>r=.returned (.agg (Bt.cells ⟨x.w,if evM vs c=1 then evM vs x else evM vs y⟩).toArray)/\Ext w w':=by
 have ah:(E.cells (⟨6,wd,v,sig,hi,lo,nn,[c,x,y]⟩) s0).all (·.oneCell')=true:=by simp [am.one,Bc]
 obtain ⟨D,L,F,sv,pv,cv,qS,qD,qL,a2,qF⟩:=ai
 have a0:=Jh (fun W (h:Ext w W)=>qS.ext (hx.trans h))
 obtain ⟨ab,bb,ob,ax,rfl,ay,az,ao,ap⟩:=al.open
 have ac:=Jh (fun W (h:Ext w W)=>(ap.mono fun x _ b o (hh:Has w b o x.cells)=>Has.ext hh h:Rows 2 (Nv W) _ bb ob))
 have x1:=Ab w (.cells (E.cells (⟨6,wd,v,sig,hi,lo,nn,[c,x,y]⟩) s0).toArray 40)
 have x2:=Ab (w.alloc (.cells (E.cells (⟨6,wd,v,sig,hi,lo,nn,[c,x,y]⟩) s0).toArray 40)) (.cells #[.int .i64 0,.int .u64 0] 151)
 have hE:=(Blk.new w (E.cells (⟨6,wd,v,sig,hi,lo,nn,[c,x,y]⟩) s0).toArray 40).ext x2
 have hR:=Blk.new (w.alloc (.cells (E.cells (⟨6,wd,v,sig,hi,lo,nn,[c,x,y]⟩) s0).toArray 40)) #[.int .i64 0,.int .u64 0] 151
 have hX:=x1.trans x2
 simp only [World.size_alloc] at hR
 clear x1 x2
 have j:=fun W=>Zg (evB vs c) (evB vs x) (evB vs y) aq av aw ag ak W
 obtain ⟨u,aa⟩:∃ b:Bt,(⟨x.w,if evM vs c=1 then evM vs x else evM vs y⟩:Bt)=b:=⟨_,rfl⟩
 change ∀ W,Calls Tryz.prog _ _ W (Gk W ⟨x.w,if evM vs c=1 then evM vs x else evM vs y⟩) at j
 rw [aa] at j ⊢
 have HU:=Jh j
 clear j aa ak ag
 obtain rfl:=ao (by simp)
 have H0:=Jh (fun W (h:Ext w W)=>(by have:=Bts.get (ac.out W h) (k:=0) (by simp);simpa using this:Has W bb (ob) (evB vs c).cells))
 have H1:=Jh (fun W (h:Ext w W)=>(by have:=Bts.get (ac.out W h) (k:=1) (by simp);simpa using this:Has W bb (ob+2) (evB vs x).cells))
 have H2:=Jh (fun W (h:Ext w W)=>(by have:=Bts.get (ac.out W h) (k:=2) (by simp);simpa using this:Has W bb (ob+4) (evB vs y).cells))
 go_enter Tryz.func164,Tryz.ntmps164
 go_upto_region 1 with fail
 generalize (w.alloc _).alloc _=w0 at *
 have HE:=Jh hE
 have HR:=Jh hR
 have HX:=Jh hX
 have g0:=hE.has 0 _ rfl
 clear hE hR hX
 go_wp2_with fail
 refine wp_region_held_drew (S:=fun W=>Ext w W/\Blk W w.heap.size (E.cells (⟨6,wd,v,sig,hi,lo,nn,[c,x,y]⟩) s0).toArray 40) (by kernel_rfl) ⟨HX.out.drew,HE.out.drew⟩ (fun hH=>?_)
 try simp only [J]
 (refine Ji 0 _ rfl hH ?_;try simp only [J])
 (refine Jk 1 (.pointer (some ⟨bb,ob,none⟩)) rfl hH ?_;try simp only [J])
 (refine Jt 2 (.agg (evB vs c).cells.toArray) rfl (Ar rfl 151 _ rfl rfl (fun W hW=>H0.out W hW.1) Ae rfl) hH ?_;try simp only [J])
 (refine Ji 3 _ rfl hH ?_;try simp only [J])
 (refine Jk 4 (.pointer (some ⟨bb,ob+2,none⟩)) rfl hH ?_;try simp only [J])
 (refine Jt 5 (.agg (evB vs x).cells.toArray) rfl (Ar rfl 151 _ rfl rfl (fun W hW=>H1.out W hW.1) Ae rfl) hH ?_;try simp only [J])
 (refine Ji 6 _ rfl hH ?_;try simp only [J])
 (refine Jk 7 (.pointer (some ⟨bb,ob+4,none⟩)) rfl hH ?_;try simp only [J])
 (refine Jt 8 (.agg (evB vs y).cells.toArray) rfl (Ar rfl 151 _ rfl rfl (fun W hW=>H2.out W hW.1) Ae rfl) hH ?_;try simp only [J])
 (refine Jr 9 rfl fun K hK=>?_)
 go_simp
 refine (HU.out _).mono ?_
 rintro r w3 ⟨rfl,ae⟩
 refine hK.out _ _ ⟨hH.1.trans ae,hH.2.ext ae⟩ (fun hH=>?_)
 clear hK K
 try simp only [J]
 (refine Ji 10 (.tuple #[.agg (Bt.cells u).toArray,.int .i64 0]) rfl hH ?_;try simp only [J])
 (refine Jk 11 (.agg (Bt.cells u).toArray) rfl hH ?_;try simp only [J])
 (refine Jk 12 (.int .i64 0) rfl hH ?_;try simp only [J])
 (refine Jr 13 rfl fun K hK=>?_)
 refine Az rfl 151 _ _ rfl (HR.out.drew.ext ae) rfl (cs:=Bt.cells u) rfl Ae rfl rfl rfl ?_
 intro w4 af aj
 refine hK.out _ _ ⟨hH.1.grown aj (by omega),hH.2.grown aj (by omega)⟩ (fun hH=>?_)
 clear hK K
 refine Jz ?_
 go_wp2_with (first | ((with_reducible show Jl 151);refine Aa rfl 151 _ rfl rfl (af.has) Ae rfl ?_) | ((with_reducible show Js 151);refine Ac rfl 151 _ _ rfl (af) rfl (cs:=Bt.cells u) (rfl) Ae (rfl) rfl (rfl) ?_;intro w9 an ar) | ((with_reducible show bodyPost _ _ _ _ _ _);refine Hid.out ?_))
 refine Jh ?_
 refine Av rfl rfl an.has Ae rfl rfl ⟨?_,(hH.1).grown ar (by omega)⟩
 rfl
theorem Ahr {wb:World} {ls:List Ai} {vs:List Nat} {S:Nat} (ay:∀ x∈ls,1<=x.w/\x.w<=64) (ao:Nc ls vs) (ae:Io wb ls vs S) {wd v sig hi lo nn:Int} {l:List E} (an:∀ x∈l.map (evB vs),x.ok) (am:l.map (evB vs)≠[]) (hw:catW (l.map (evB vs))<=64) (s0 s:Value) (w:World) (hx:Ext wb w) (ag:Es w s0 l)
  (aa:Bts w s ((l:List E).map (evB vs))) :
  Calls Tryz.prog 164 #[.agg (E.cells (⟨7,wd,v,sig,hi,lo,nn,l⟩) s0).toArray,s,.pointer (some ⟨S,0,none⟩)] w fun r w'=>r=.returned (.agg (Bt.cells ⟨catW (l.map (evB vs)),catM (catP (l.map (evB vs))) 0⟩).toArray)/\Ext w w':=by
 have au:(E.cells (⟨7,wd,v,sig,hi,lo,nn,l⟩) s0).all (·.oneCell')=true:=by simp [ag.one,Bc]
 obtain ⟨D,L,F,sv,pv,cv,qS,qD,qL,az,qF⟩:=ae
 have aw:=Jh (fun W (h:Ext w W)=>qS.ext (hx.trans h))
 obtain ⟨ab,bb,ob,ap,rfl,aq,ar,ax,aj⟩:=aa.open
 have av:=Jh (fun W (h:Ext w W)=>(aj.mono fun x _ b o (hh:Has w b o x.cells)=>Has.ext hh h:Rows 2 (Nv W) _ bb ob))
 have x1:=Ab w (.cells (E.cells (⟨7,wd,v,sig,hi,lo,nn,l⟩) s0).toArray 40)
 have x2:=Ab (w.alloc (.cells (E.cells (⟨7,wd,v,sig,hi,lo,nn,l⟩) s0).toArray 40)) (.cells #[.int .i64 0,.int .u64 0] 151)
 have hE:=(Blk.new w (E.cells (⟨7,wd,v,sig,hi,lo,nn,l⟩) s0).toArray 40).ext x2
 have hR:=Blk.new (w.alloc (.cells (E.cells (⟨7,wd,v,sig,hi,lo,nn,l⟩) s0).toArray 40)) #[.int .i64 0,.int .u64 0] 151
 have hX:=x1.trans x2
 simp only [World.size_alloc] at hR
 clear x1 x2
 have HU:=Jh (fun W (h:Ext w W)=>Abi (l.map (evB vs)) an am hw _ W (aa.ext h))
 obtain ⟨u,j⟩:∃ b:Bt,(⟨catW (l.map (evB vs)),catM (catP (l.map (evB vs))) 0⟩:Bt)=b:=⟨_,rfl⟩
 rw [j] at HU ⊢
 clear j
 simp only [List.length_map] at HU ⊢
 go_enter Tryz.func164,Tryz.ntmps164
 go_upto_region 1 with fail
 generalize (w.alloc _).alloc _=w0 at *
 have HE:=Jh hE
 have HR:=Jh hR
 have HX:=Jh hX
 have g0:=hE.has 0 _ rfl
 clear hE hR hX
 go_wp2_with (first | (go_at_call 169;refine (HU.out _ HX.out).mono ?_;rintro r w3 ⟨rfl,af⟩) | ((with_reducible show Js 151);refine Ac rfl 151 _ _ rfl (HR.out.ext af) rfl (cs:=u.cells) (rfl) Ae (rfl) rfl (rfl) ?_;intro w4 ac ak) | ((with_reducible show Jl 151);refine Aa rfl 151 _ rfl rfl (ac.has) Ae rfl ?_) | ((with_reducible show Js 151);refine Ac rfl 151 _ _ rfl (ac) rfl (cs:=u.cells) (rfl) Ae (rfl) rfl (rfl) ?_;intro w9 ai al) | ((with_reducible show bodyPost _ _ _ _ _ _);refine Hid.out ?_))
 refine Jh ?_
 refine Av rfl rfl ai.has Ae rfl rfl ⟨rfl,((HX.out.trans af).grown ak (by omega)).grown al (by omega)⟩
theorem Ahs {wb:World} {ls:List Ai} {vs:List Nat} {S:Nat} (ax:∀ x∈ls,1<=x.w/\x.w<=64) (am:Nc ls vs) (aa:Io wb ls vs S) {wd v sig hi lo nn:Int} {x:E} (ap:(evB vs x).ok) (h0:31<=nn) (h1:nn<=33) (an:1<=wd) (ao:wd<=64) (hz:nn≠33->x.w<=wd) (hc:nn=33->wd<=x.w) (s0 s:Value) (w:World) (hx:Ext wb w) (ag:Es w s0 [x])
  (af:Bts w s (([x]:List E).map (evB vs))) :
  Calls Tryz.prog 164 #[.agg (E.cells (⟨8,wd,v,sig,hi,lo,nn,[x]⟩) s0).toArray,s,.pointer (some ⟨S,0,none⟩)] w fun r w'=>r=.returned (.agg (Bt.cells ⟨wd,Ir nn wd.toNat x.w.toNat (evM vs x)⟩).toArray)/\Ext w w':=by
 have av:(E.cells (⟨8,wd,v,sig,hi,lo,nn,[x]⟩) s0).all (·.oneCell')=true:=by simp [ag.one,Bc]
 obtain ⟨D,L,F,sv,pv,cv,qS,qD,qL,ay,qF⟩:=aa
 have aw:=Jh (fun W (h:Ext w W)=>qS.ext (hx.trans h))
 obtain ⟨ab,bb,ob,aq,rfl,ar,au,aj,ak⟩:=af.open
 have ae:=Jh (fun W (h:Ext w W)=>(ak.mono fun x _ b o (hh:Has w b o x.cells)=>Has.ext hh h:Rows 2 (Nv W) _ bb ob))
 have x1:=Ab w (.cells (E.cells (⟨8,wd,v,sig,hi,lo,nn,[x]⟩) s0).toArray 40)
 have x2:=Ab (w.alloc (.cells (E.cells (⟨8,wd,v,sig,hi,lo,nn,[x]⟩) s0).toArray 40)) (.cells #[.int .i64 0,.int .u64 0] 151)
 have hE:=(Blk.new w (E.cells (⟨8,wd,v,sig,hi,lo,nn,[x]⟩) s0).toArray 40).ext x2
 have hR:=Blk.new (w.alloc (.cells (E.cells (⟨8,wd,v,sig,hi,lo,nn,[x]⟩) s0).toArray 40)) #[.int .i64 0,.int .u64 0] 151
 have hX:=x1.trans x2
 simp only [World.size_alloc] at hR
 clear x1 x2
 have HU:=Jh (fun W=>Abj nn wd h0 h1 an ao (evB vs x) ap hz hc W)
 obtain rfl:=aj (by simp)
 have H0:=Jh (fun W (h:Ext w W)=>(by have:=Bts.get (ae.out W h) (k:=0) (by simp);simpa using this:Has W bb (ob) (evB vs x).cells))
 go_enter Tryz.func164,Tryz.ntmps164
 go_upto_region 1 with fail
 generalize (w.alloc _).alloc _=w0 at *
 have HE:=Jh hE
 have HR:=Jh hR
 have HX:=Jh hX
 have g0:=hE.has 0 _ rfl
 clear hE hR hX
 go_wp2_with fail
 refine wp_region_held_drew (S:=fun W=>Ext w W/\Blk W w.heap.size (E.cells (⟨8,wd,v,sig,hi,lo,nn,[x]⟩) s0).toArray 40) (by kernel_rfl) ⟨HX.out.drew,HE.out.drew⟩ (fun hH=>?_)
 try simp only [J]
 (refine Ji 0 _ rfl hH ?_;try simp only [J])
 (refine Jt 1 (.int .i64 nn) rfl (yif_load1 rfl (by intro W hW;have y:=hW.2.has 6 _ rfl;clear hW;go_simp)) hH ?_;try simp only [J])
 (refine Ji 2 _ rfl hH ?_;try simp only [J])
 (refine Jt 3 (.int .i64 wd) rfl (yif_load1 rfl (by intro W hW;have y:=hW.2.has 1 _ rfl;clear hW;go_simp)) hH ?_;try simp only [J])
 (refine Ji 4 _ rfl hH ?_;try simp only [J])
 (refine Jk 5 (.pointer (some ⟨bb,ob,none⟩)) rfl hH ?_;try simp only [J])
 (refine Jt 6 (.agg (evB vs x).cells.toArray) rfl (Ar rfl 151 _ rfl rfl (fun W hW=>H0.out W hW.1) Ae rfl) hH ?_;try simp only [J])
 (refine Jr 7 rfl fun K hK=>?_)
 go_simp
 refine (HU.out _).mono ?_
 rintro r w3 ⟨rfl,j⟩
 refine hK.out _ _ ⟨hH.1.trans j,hH.2.ext j⟩ (fun hH=>?_)
 clear hK K
 try simp only [J]
 (refine Ji 8 (.tuple #[.agg (Bt.cells ⟨wd,Ir nn wd.toNat (evB vs x).w.toNat (evB vs x).v⟩).toArray,.int .i64 0]) rfl hH ?_;try simp only [J])
 (refine Jk 9 (.agg (Bt.cells ⟨wd,Ir nn wd.toNat (evB vs x).w.toNat (evB vs x).v⟩).toArray) rfl hH ?_;try simp only [J])
 (refine Jk 10 (.int .i64 0) rfl hH ?_;try simp only [J])
 (refine Jr 11 rfl fun K hK=>?_)
 refine Az rfl 151 _ _ rfl (HR.out.drew.ext j) rfl (cs:=Bt.cells ⟨wd,Ir nn wd.toNat (evB vs x).w.toNat (evB vs x).v⟩) rfl Ae rfl rfl rfl ?_
 intro w4 u ac
 refine hK.out _ _ ⟨hH.1.grown ac (by omega),hH.2.grown ac (by omega)⟩ (fun hH=>?_)
 clear hK K
 refine Jz ?_
 go_wp2_with (first | ((with_reducible show Jl 151);refine Aa rfl 151 _ rfl rfl (u.has) Ae rfl ?_) | ((with_reducible show Js 151);refine Ac rfl 151 _ _ rfl (u) rfl (cs:=Bt.cells ⟨wd,Ir nn wd.toNat (evB vs x).w.toNat (evB vs x).v⟩) (rfl) Ae (rfl) rfl (rfl) ?_;intro w9 ai al) | ((with_reducible show bodyPost _ _ _ _ _ _);refine Hid.out ?_))
 refine Jh ?_
 refine Av rfl rfl ai.has Ae rfl rfl ⟨?_,(hH.1).grown al (by omega)⟩
 rfl
end Go.Proofs.YtbliplladmamoaaGreat
