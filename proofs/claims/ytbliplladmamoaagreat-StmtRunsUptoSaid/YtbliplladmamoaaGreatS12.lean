/- Laws and walks that a claim of this seat leans on: Count2, Fits, SizeDM. -/
import Derived.Test.YtbliplladmamoaaGreatSCount
import Derived.Deep.DeepCutAuto
import Derived.Deep.CutBlock
import Derived.Test.YtbliplladmamoaaGreatS01
import Derived.Test.YtbliplladmamoaaGreatSStmtS
import Derived.Test.YtbliplladmamoaaGreatS09
import Derived.Test.YtbliplladmamoaaGreatS11
import Derived.Test.YtbliplladmamoaaGreatS03
import Derived.Test.YtbliplladmamoaaGreatS00
set_option maxRecDepth 100000
set_option maxHeartbeats 8000000
set_option linter.all false
namespace Go.Proofs.YtbliplladmamoaaGreat
open Go.RowKit
theorem Oo (a b:Nat) (w:World) (h1:a<=4194304) (h2:b<=4194304) :
  Calls Tryz.prog 123 #[.agg #[.int .i64 a,.int .i64 b]] w fun r w'=>r=.returned (.agg #[.int .i64 ((a+1:Nat):Int),.int .i64 ((b+1:Nat):Int)])/\Ext w w':=by
 have HX:=Jh (((Ab w (.cells #[.int .i64 a,.int .i64 b] 127)).alloc (.cells [Value.int .i64 ((a:Int)+1),.int .i64 ((b:Int)+1)].toArray 127)))
 have HB:=Jh (Has.alloc (w.alloc (.cells #[.int .i64 a,.int .i64 b] 127)) [Value.int .i64 ((a:Int)+1),.int .i64 ((b:Int)+1)] 127)
 go_enter Tryz.func123,Tryz.ntmps123
 go_wp2_with (first | ((with_reducible show Js 127);refine Ad rfl 127 _ _ rfl rfl (by first | rfl | simp) rfl Fw (rfl) rfl (rfl) ?_))
 refine Av rfl rfl (by have:=HB.out;rw [World.size_alloc] at this;exact this) Fw rfl rfl ⟨?_,HX.out⟩
 simp
abbrev R6 (a b:Nat):List Value:=[.int .i64 (a:Int),.int .i64 (b:Int)]
def Md (x:E):Prop:=∀ (cs:List Value) (w:World),VE w cs x->nodes x<=1048576 ->
 Calls Tryz.prog 85 #[.agg cs.toArray] w fun r w'=>r=.returned (.agg (R6 (nodes x) (Cu x)).toArray)/\Ext w w'
theorem X9 (e:E) (ih:∀ x∈e.l,Md x):Md e:=by
 intro cs w hV hb
 have IH:=Jh ih
 clear ih
 obtain ⟨s,rfl,hs⟩:=hV
 have HN:=Jh (C7 e)
 have HD:=Jh (N8 e)
 have ak:=G6 e
 rw [N8] at ak
 rw [C7] at hb ak
 obtain ⟨a,b,o,cap,aq,au,aw,ha,hr⟩:=hs.open
 obtain ⟨op,wd,v,sig,hi,lo,n,l⟩:=e
 simp only at aq au IH ha hr hb HN HD ak
 subst aq
 have HR:=Jh hr
 have HA:=Jh ha
 clear hr ha hs
 have HX:=((Ab w (.cells (E.cells ⟨op,wd,v,sig,hi,lo,n,l⟩ (.slice a l.length cap)).toArray 40)).alloc (.cells #[.int .i64 0,.int .i64 0] 127)).alloc (.cells #[.int .i64 0,.int .i64 0] 127)
 have af:=((Has.alloc w (E.cells ⟨op,wd,v,sig,hi,lo,n,l⟩ (.slice a l.length cap)) 40).ext (Ab _ (.cells #[.int .i64 0,.int .i64 0] 127))).ext (Ab _ (.cells #[.int .i64 0,.int .i64 0] 127))
 have ag:=(Blk.new (w.alloc (.cells (E.cells ⟨op,wd,v,sig,hi,lo,n,l⟩ (.slice a l.length cap)).toArray 40)) #[.int .i64 0,.int .i64 0] 127).alloc (.cells #[.int .i64 0,.int .i64 0] 127)
 have ai:=Blk.new ((w.alloc (.cells (E.cells ⟨op,wd,v,sig,hi,lo,n,l⟩ (.slice a l.length cap)).toArray 40)).alloc (.cells #[.int .i64 0,.int .i64 0] 127)) #[.int .i64 0,.int .i64 0] 127
 simp only [World.size_alloc] at ag ai
 go_enter Tryz.func85,Tryz.ntmps85
 go_upto_region 2 with (fail)
 generalize ((w.alloc _).alloc _).alloc _=w0 at *
 have g7:=af 7 _ rfl
 go_wp2_with fail
 clear g7
 have ap:=Ce Cu l
 have am:=Jh ap
 clear ap
 go_loopw [5,9] (fun _ i wr=>∃ k:Nat,k<=l.length/\i=.int .i64 k/\Has wr w.heap.size 0 (E.cells ⟨op,wd,v,sig,hi,lo,n,l⟩ (.slice a l.length cap))/\Blk wr (w.heap.size+1) #[.int .i64 0,.int .i64 0] 127
   /\ Blk wr (w.heap.size+1+1) (R6 (Ap nodes (l.take k)) (A6 Cu (l.take k))).toArray 127/\Ext w wr) (fun _ i _=>l.length-(intOf i).toNat)
 case atStart=>exact ⟨0,Nat.zero_le _,rfl,af,ag,ai,HX⟩
 case round =>
  obtain ⟨k,hk,rfl,q0,q1,q2,hB⟩:=hrel
  have Q0:=Jh q0
  have Q1:=Jh q1
  have Q2:=Jh q2
  clear q0 q1 q2 af ag ai
  by_cases ac:k<l.length
  ·obtain ⟨cs,av,hn,an⟩:=VE.get (HR.out.mono fun x _ b o h=>EAt.ext' hB h) ac
   obtain rfl:=HA.out (by omega)
   have ae:l[k]∈l:=List.getElem_mem ac
   have ax:=Bf nodes l _ ae
   have ao:=Bz nodes l (k+1)
   have ab:=am.out (k+1)
   have ht:=Ct nodes l k ac
   have hu:=Df Cu l k ac
   rw [ht] at ao
   rw [hu] at ab
   have HT:=Jh ht
   have HU:=Jh hu
   clear ht hu
   have u:=Jh (Ab wr (.cells cs.toArray 40))
   have ar:=Jh (Has.alloc wr cs 40)
   have HC:=Jh (IH.out _ ae cs _ (an.ext u.out) (by omega))
   generalize l[k]=ek at *
   go_wp2_with (first | ((with_reducible show Jl 40);refine Aa rfl 40 _ rfl rfl (av) Ah hn ?_) | ((with_reducible show Jl 40);refine Aa rfl 40 _ rfl rfl (ar.out) Ah hn ?_) | ((with_reducible show Js 40);refine Ad rfl 40 _ _ rfl rfl (by first | rfl | simp) rfl Ah (hn) rfl (an.one) ?_) | (go_at_call 85;refine HC.out.mono ?_;rintro r w1 ⟨rfl,j⟩) | (go_at_call 83;refine (I3 _ _ _ _ _ _ ((Q2.out.ext u.out).ext j) (by omega) (by omega) (by omega) (by omega)).mono ?_;rintro r w2 ⟨rfl,aj,aa⟩))
   go_roundw
   case rel =>
    refine ⟨k+1,by omega,by go_num,((Q0.out.ext u.out).ext j).grown aa (by omega),((Q1.out.ext u.out).ext j).grown aa (by omega),?_,((hB.trans u.out).trans j).grown aa (by omega)⟩
    rw [HT.out,HU.out];exact aj
   case measure=>simp [intOf];omega
  ·obtain rfl:k=l.length:=by omega
   have al:=Q2.out
   rw [List.take_length] at al
   have ab:=am.out l.length
   rw [List.take_length] at ab
   have K2:=Jh al.has
   clear al
   go_wp2_with (first | ((with_reducible show Jl 127);refine Aa rfl 127 _ rfl rfl (K2.out) Fw rfl ?_) | (go_at_call 123;refine (Oo _ _ _ (by omega) (by omega)).mono ?_;rintro r w1 ⟨rfl,j⟩) | (((with_reducible show Js 127);refine Ac rfl 127 _ _ rfl (Q1.out.ext j) rfl rfl Fw rfl rfl rfl ?_;intro w2 aj aa)))
   refine Av rfl rfl aj.has Fw rfl rfl ⟨?_,((hB.trans j).grown aa (by omega))⟩
   rw [HN.out,HD.out,Nat.add_comm 1];simp
theorem Kp (e:E):Md e:=E.ind (P:=Md) (fun e ih=>X9 e ih) e
def Ke (x:T):Prop:=∀ (cs:List Value) (w:World),VT w cs x->Aq x<=1048576 ->
 Calls Tryz.prog 84 #[.agg cs.toArray] w fun r w'=>r=.returned (.agg (R6 (Aq x) (Cc x)).toArray)/\Ext w w'
theorem Ya (e:T) (ih:∀ x∈e.l,Ke x):Ke e:=by
 intro cs w hV hb
 have IH:=Jh ih
 clear ih
 obtain ⟨s,s',rfl,hs,a3⟩:=hV
 have HN:=Jh (Ca e)
 have HD:=Jh (I6 e)
 have aw:=K9 e
 rw [I6] at aw
 rw [Ca] at hb aw
 obtain ⟨a,b,o,cap,a4,a7,ba,ha,hr⟩:=hs.open
 obtain ⟨a',b',o',aa,ao,a2,a9,av,ay⟩:=a3.open
 obtain ⟨op,sig,hi,lo,es,l⟩:=e
 simp only at a4 a7 ao a2 IH ha hr av ay hb HN HD aw
 subst a4
 subst ao
 have HR:=Jh hr
 have HA:=Jh ha
 have a6:=Jh ay
 have a5:=Jh av
 clear hr ha hs ay av a3
 have HX:=((Ab w (.cells (T.cells ⟨op,sig,hi,lo,es,l⟩ (.slice a es.length cap) (.slice a' l.length aa)).toArray 44)).alloc (.cells #[.int .i64 0,.int .i64 0] 127)).alloc (.cells #[.int .i64 0,.int .i64 0] 127)
 have ap:=((Has.alloc w (T.cells ⟨op,sig,hi,lo,es,l⟩ (.slice a es.length cap) (.slice a' l.length aa)) 44).ext (Ab _ (.cells #[.int .i64 0,.int .i64 0] 127))).ext (Ab _ (.cells #[.int .i64 0,.int .i64 0] 127))
 have aq:=(Blk.new (w.alloc (.cells (T.cells ⟨op,sig,hi,lo,es,l⟩ (.slice a es.length cap) (.slice a' l.length aa)).toArray 44)) #[.int .i64 0,.int .i64 0] 127).alloc (.cells #[.int .i64 0,.int .i64 0] 127)
 have ar:=Blk.new ((w.alloc (.cells (T.cells ⟨op,sig,hi,lo,es,l⟩ (.slice a es.length cap) (.slice a' l.length aa)).toArray 44)).alloc (.cells #[.int .i64 0,.int .i64 0] 127)) #[.int .i64 0,.int .i64 0] 127
 simp only [World.size_alloc] at aq ar
 go_enter Tryz.func84,Tryz.ntmps84
 go_upto_region 2 with (fail)
 generalize ((w.alloc _).alloc _).alloc _=w0 at *
 have g7:=ap 4 _ rfl
 go_wp2_with fail
 clear g7
 have am:=Ce Cu es
 have az:=Jh am
 clear am
 have am:=Ce Cc l
 have an:=Jh am
 clear am
 go_loopw [5,11] (fun _ i wr=>∃ k:Nat,k<=es.length/\i=.int .i64 k/\Has wr w.heap.size 0 (T.cells ⟨op,sig,hi,lo,es,l⟩ (.slice a es.length cap) (.slice a' l.length aa))/\Blk wr (w.heap.size+1) #[.int .i64 0,.int .i64 0] 127
   /\ Blk wr (w.heap.size+1+1) (R6 (Ap nodes (es.take k)) (A6 Cu (es.take k))).toArray 127/\Ext w wr) (fun _ i _=>es.length-(intOf i).toNat)
 case atStart=>exact ⟨0,Nat.zero_le _,rfl,ap,aq,ar,HX⟩
 case round =>
  obtain ⟨k,hk,rfl,q0,q1,q2,hB⟩:=hrel
  have Q0:=Jh q0
  have Q1:=Jh q1
  have Q2:=Jh q2
  clear q0 q1 q2 ap aq ar
  by_cases ac:k<es.length
  ·obtain ⟨cs,ax,hn,aj⟩:=VE.get (HR.out.mono fun x _ b o h=>EAt.ext' hB h) ac
   obtain rfl:=HA.out (by omega)
   have ag:es[k]∈es:=List.getElem_mem ac
   have a8:=Bf nodes es _ ag
   have ak:=Bz nodes es (k+1)
   have al:=az.out (k+1)
   have ht:=Ct nodes es k ac
   have hu:=Df Cu es k ac
   rw [ht] at ak
   rw [hu] at al
   have HT:=Jh ht
   have HU:=Jh hu
   clear ht hu
   have u:=Jh (Ab wr (.cells cs.toArray 40))
   have au:=Jh (Has.alloc wr cs 40)
   have HC:=Jh (Kp _ cs _ (aj.ext u.out) (by omega))
   generalize es[k]=ek at *
   go_wp2_with (first | ((with_reducible show Jl 40);refine Aa rfl 40 _ rfl rfl (ax) Ah hn ?_) | ((with_reducible show Jl 40);refine Aa rfl 40 _ rfl rfl (au.out) Ah hn ?_) | ((with_reducible show Js 40);refine Ad rfl 40 _ _ rfl rfl (by first | rfl | simp) rfl Ah (hn) rfl (aj.one) ?_) | (go_at_call 85;refine HC.out.mono ?_;rintro r w1 ⟨rfl,j⟩) | (go_at_call 83;refine (I3 _ _ _ _ _ _ ((Q2.out.ext u.out).ext j) (by omega) (by omega) (by omega) (by omega)).mono ?_;rintro r w2 ⟨rfl,ai,ab⟩))
   go_roundw
   case rel =>
    refine ⟨k+1,by omega,by go_num,((Q0.out.ext u.out).ext j).grown ab (by omega),((Q1.out.ext u.out).ext j).grown ab (by omega),?_,((hB.trans u.out).trans j).grown ab (by omega)⟩
    rw [HT.out,HU.out];exact ai
   case measure=>simp [intOf];omega
  ·obtain rfl:k=es.length:=by omega
   have af:=Q2.out
   rw [List.take_length] at af
   have al:=az.out es.length
   rw [List.take_length] at al
   have g7:=Q0.out 5 _ rfl
   go_wp2_with fail
   clear g7 HX
   have ah:=Jh Q0.out
   have a0:=Jh Q1.out
   have a1:=Jh af
   clear Q0 Q1 Q2 af
   generalize wr=w9 at *
   go_loopw [7,22] (fun _ i wr=>∃ k:Nat,k<=l.length/\i=.int .i64 k/\Has wr w.heap.size 0 (T.cells ⟨op,sig,hi,lo,es,l⟩ (.slice a es.length cap) (.slice a' l.length aa))/\Blk wr (w.heap.size+1) #[.int .i64 0,.int .i64 0] 127
     /\ Blk wr (w.heap.size+1+1) (R6 (Ap nodes es+Ap Aq (l.take k)) (max (A6 Cu es) (A6 Cc (l.take k)))).toArray 127/\Ext w wr) (fun _ i _=>l.length-(intOf i).toNat)
   case atStart=>exact ⟨0,Nat.zero_le _,rfl,ah.out,a0.out,by simpa [Ap,A6] using a1.out,hB⟩
   case round =>
    obtain ⟨k,hk,rfl,q0,q1,q2,hB⟩:=hrel
    have Q0:=Jh q0
    have Q1:=Jh q1
    have Q2:=Jh q2
    clear q0 q1 q2 ah a0 a1
    by_cases ac:k<l.length
    ·obtain ⟨cs,ax,hn,aj⟩:=VT.get (a6.out.mono fun x _ b o h=>TAt.ext' hB h) ac
     obtain rfl:=a5.out (by omega)
     have ag:l[k]∈l:=List.getElem_mem ac
     have a8:=Bf Aq l _ ag
     have ak:=Bz Aq l (k+1)
     have ae:=an.out (k+1)
     have ht:=Ct Aq l k ac
     have hu:=Df Cc l k ac
     rw [ht] at ak
     rw [hu] at ae
     have HT:=Jh ht
     have HU:=Jh hu
     clear ht hu
     have u:=Jh (Ab wr (.cells cs.toArray 44))
     have au:=Jh (Has.alloc wr cs 44)
     have HC:=Jh (IH.out _ ag cs _ (aj.ext u.out) (by omega))
     generalize l[k]=ek at *
     go_wp2_with (first | ((with_reducible show Jl 44);refine Aa rfl 44 _ rfl rfl (ax) Aw hn ?_) | ((with_reducible show Jl 44);refine Aa rfl 44 _ rfl rfl (au.out) Aw hn ?_) | ((with_reducible show Js 44);refine Ad rfl 44 _ _ rfl rfl (by first | rfl | simp) rfl Aw (hn) rfl (aj.one) ?_) | (go_at_call 84;refine HC.out.mono ?_;rintro r w1 ⟨rfl,j⟩) | (go_at_call 83;refine (I3 _ _ _ _ _ _ ((Q2.out.ext u.out).ext j) (by omega) (by omega) (by omega) (by omega)).mono ?_;rintro r w2 ⟨rfl,ai,ab⟩))
     go_roundw
     case rel =>
      refine ⟨k+1,by omega,by go_num,((Q0.out.ext u.out).ext j).grown ab (by omega),((Q1.out.ext u.out).ext j).grown ab (by omega),?_,((hB.trans u.out).trans j).grown ab (by omega)⟩
      rw [HT.out,HU.out,<-Nat.add_assoc,<-Nat.max_assoc];exact ai
     case measure=>simp [intOf];omega
    ·obtain rfl:k=l.length:=by omega
     have af:=Q2.out
     rw [List.take_length] at af
     have ae:=an.out l.length
     rw [List.take_length] at ae
     have K2:=Jh af.has
     clear af
     go_wp2_with (first | ((with_reducible show Jl 127);refine Aa rfl 127 _ rfl rfl (K2.out) Fw rfl ?_) | (go_at_call 123;refine (Oo _ _ _ (by omega) (by omega)).mono ?_;rintro r w1 ⟨rfl,j⟩) | (((with_reducible show Js 127);refine Ac rfl 127 _ _ rfl (Q1.out.ext j) rfl rfl Fw rfl rfl rfl ?_;intro w2 ai ab)))
     refine Av rfl rfl ai.has Fw rfl rfl ⟨?_,((hB.trans j).grown ab (by omega))⟩
     rw [HN.out,HD.out];simp;omega
theorem U9 (t:T):Ke t:=T.ind (P:=Ke) (fun t ih=>Ya t ih) t
theorem Po (a b:Nat) (w:World) :
  Calls Tryz.prog 86 #[.agg (R6 a b).toArray] w fun r w'=>r=.returned (.bool (decide (a<=65536)&&decide (b<=64)))/\Ext w w':=by
 have HX:=Jh (Ab w (.cells (R6 a b).toArray 127))
 go_enter Tryz.func86,Tryz.ntmps86
 go_wp2_with fail
 all_goals go_ret
 all_goals exact ⟨Af (Bool.eq_iff_iff.2 (by simp;omega)),HX.out⟩
def Id (l:List Ai):Nat:=Ap (fun s=>(max 0 (min s.w 4097)).toNat) l
theorem Adh (l:List Ai):Id l<=4097*l.length:=by
 unfold Id
 induction l with
 | nil=>simp [Ap]
 | cons x l ih=>simp only [Ap,List.length_cons];omega
def Lb (d:Bb):Bool:=decide (d.signals.length<=512)&&decide (d.procs.length<=1024)&&decide (Id d.signals<=4096)&&(decide (C3 d<=65536)&&decide (Ig d<=64))
theorem Z3 (d:Bb) (v:Value) (w:World) (h:Ck w v d) (hb:C3 d<=1048576) (hl:d.signals.length<=1048576) (b0:∀ x∈d.signals,x.wf) :
  Calls Tryz.prog 53 #[v] w fun r w'=>r=.returned (.bool (Lb d))/\Ext w w':=by
 have bl:=Oc d
 have HM:=Jh (show Lb d=_ from by unfold Lb;rfl)
 have a9:=Jh (show C3 d=_ from by unfold C3;rfl)
 have a8:=Jh (show Ig d=_ from by unfold Ig;rfl)
 have bi:=a9.out
 have bg:=a8.out
 rw [bi] at hb bl
 rw [bg] at bl
 clear bi bg
 have cg:=Jh b0
 clear b0
 obtain ⟨sv,pv,cv,rfl,hS,hP,hC⟩:=h
 obtain ⟨xs,bs,os,af,e1,c0,c4,bz,bh⟩:=hS.open
 obtain ⟨ap,bp,op,ae,e2,cx,cy,bt,bu⟩:=hP.open
 obtain ⟨ac,bc,oc,ab,e3,cz,ch,bv,bw⟩:=hC.open
 subst e1;subst e2;subst e3
 have cc:=Jh bh
 have b8:=Jh bu
 have ca:=Jh bw
 have cb:=Jh bz
 have b7:=Jh bt
 have b9:=Jh bv
 clear hS hP hC bh bu bw bz bt bv
 obtain ⟨ls,lp,lc⟩:=d
 simp only at *
 have am:=Adh ls
 have hX:=Ab w (.cells [.slice xs ls.length af,.slice ap lp.length ae,.slice ac lc.length ab].toArray 26)
 have bd:=Has.alloc w [.slice xs ls.length af,.slice ap lp.length ae,.slice ac lc.length ab] 26
 have bj:w.heap.size<(w.alloc (.cells [.slice xs ls.length af,.slice ap lp.length ae,.slice ac lc.length ab].toArray 26)).heap.size:=by simp
 go_enter Tryz.func53,Tryz.ntmps53
 go_upto_region 2 with fail
 generalize w.alloc _=w0 at *
 have HX:=Jh hX
 have ay:=Jh bd
 clear hX bd
 have g0:=ay.out 0 _ rfl
 go_wp2_with fail
 clear g0
 go_loopw [3,5,16] (fun n _ i wr=>∃ k:Nat,k<=ls.length/\i=.int .i64 k/\n=.int .i64 ((Id (ls.take k):Nat):Int)/\Ext w0 wr) (fun _ _ i _=>ls.length-(intOf i).toNat)
 case atStart=>exact ⟨0,Nat.zero_le _,rfl,by simp [Id,Ap],Below.refl _ _⟩
 case round =>
  obtain ⟨k,hk,rfl,rfl,hB⟩:=hrel
  by_cases aa:k<ls.length
  ·have he:=Cq.get (cc.out.mono fun x _ b o h=>C6.ext' (HX.out.trans hB) h) aa
   obtain rfl:=cb.out (by omega)
   have ht:=Ct (fun s:Ai=>(max 0 (min s.w 4097)).toNat) ls k aa
   have aj:=Bz (fun s:Ai=>(max 0 (min s.w 4097)).toNat) ls (k+1)
   have HW:=Jh (cg.out _ (List.getElem_mem aa))
   generalize ls[k]=x at *
   have HT:=Jh (show Id (ls.take (k+1))=Id (ls.take k)+(max 0 (min x.w 4097)).toNat from ht)
   have ag:Id (ls.take k)+(max 0 (min x.w 4097)).toNat<=4097*ls.length:=by rw [<-HT.out];exact Nat.le_trans aj am
   clear ht aj
   have HE:=Jh he
   clear he
   have u:=Jh (Ab wr (.cells x.cells.toArray 37))
   have ai:=Jh (Has.alloc wr x.cells 37)
   have g1:=ai.out 1 _ rfl
   go_wp2_with (first | ((with_reducible show Jl 37);refine Aa rfl 37 _ rfl rfl (HE.out) Br rfl ?_) | ((with_reducible show Js 37);refine Ad rfl 37 _ _ rfl rfl (by first | rfl | simp) rfl Br (rfl) rfl (by rfl) ?_))
   go_roundw
   case rel=>exact ⟨k+1,by omega,by go_num,by rw [HT.out];congr 1;(repeat' split)<;>omega,hB.trans u.out⟩
   case measure=>simp [intOf];omega
  ·obtain rfl:k=ls.length:=by omega
   have cp:Id (ls.take ls.length)<=4097*ls.length:=by rw [List.take_length];exact am
   have ce:=Jh (List.take_length (l:=ls))
   rw [ce.out] at cp ⊢
   have co:=hB
   have hK:=ay.out.ext hB
   go_upto_region 8 with fail
   have be:=Blk.new wr #[.int .i64 0,.int .i64 0] 127
   have bk:=(HX.out.trans hB).alloc (.cells #[.int .i64 0,.int .i64 0] 127)
   have bf:=hK.ext (Ab wr (.cells #[.int .i64 0,.int .i64 0] 127))
   have cw:w.heap.size<wr.heap.size:=Nat.lt_of_lt_of_le bj hB.size
   generalize wr.heap.size=B at *
   generalize wr.alloc _=w1 at *
   clear co hK hB bj
   have ci:=Jh bk
   have a6:=Jh bf
   have b5:=Jh be
   clear bk bf be HX ay
   have g1:=a6.out 1 _ rfl
   go_wp2_with fail
   clear g1
   have br:=Ce (fun p:C0=>A6 Cc p.l) lp
   have cm:=Jh br
   have av:=Ce (fun c:Chk=>Cu c.e) lc
   have ba:=Jh av
   clear br av
   go_loopw [8,10,30] (fun _ _ i wr=>∃ k:Nat,k<=lp.length/\i=.int .i64 k/\Has wr w.heap.size 0 [.slice xs ls.length af,.slice ap lp.length ae,.slice ac lc.length ab]
     /\ Blk wr B (R6 (Ap (fun p=>Ap Aq p.l) (lp.take k)) (A6 (fun p=>A6 Cc p.l) (lp.take k))).toArray 127/\Ext w wr) (fun _ _ i _=>lp.length-(intOf i).toNat)
   case atStart=>exact ⟨0,Nat.zero_le _,rfl,a6.out,b5.out,ci.out⟩
   case round =>
    obtain ⟨k,hk,rfl,q0,q1,hB⟩:=hrel
    have Q0:=Jh q0
    have Q1:=Jh q1
    clear q0 q1
    by_cases aa:k<lp.length
    ·obtain ⟨s1,an,al⟩:=Hg.get b8.out aa
     obtain rfl:=b7.out (by omega)
     have aj:=Bz (fun p:C0=>Ap Aq p.l) lp (k+1)
     have ag:=cm.out (k+1)
     have ht:=Ct (fun p:C0=>Ap Aq p.l) lp k aa
     have hu:=Df (fun p:C0=>A6 Cc p.l) lp k aa
     rw [ht] at aj
     rw [hu] at ag
     have HT:=Jh ht
     have HU:=Jh hu
     clear ht hu
     generalize lp[k]=pk at *
     try simp only at aj ag
     obtain ⟨ax,bx,ox,au,cr,ak,c5,b2,b3⟩:=al.open
     subst cr
     have aq:=Jh (an.ext hB)
     have cj:=Jh b2
     have cl:=Jh b3
     clear an al b2 b3
     have u:=Jh (Ab wr (.cells (pk.cells (.slice ax pk.l.length au)).toArray 48))
     have ai:=Jh (Has.alloc wr (pk.cells (.slice ax pk.l.length au)) 48)
     have g1:=ai.out 1 _ rfl
     go_wp2_with (first | ((with_reducible show Jl 48);refine Aa rfl 48 _ rfl rfl (aq.out) Cz rfl ?_) | ((with_reducible show Js 48);refine Ad rfl 48 _ _ rfl rfl (by first | rfl | simp) rfl Cz (rfl) rfl (by rfl) ?_))
     clear g1
     have aw:=Ce Cc pk.l
     have bb:=Jh aw
     clear aw
     have R0:=Jh (Q0.out.ext u.out)
     have R1:=Jh (Q1.out.ext u.out)
     have b4:=Jh (hB.trans u.out)
     clear Q0 Q1 ai aq
     have b1:=u.out
     generalize wr.alloc _=w2 at *
     clear b1 u
     have cn:=b4.out
     go_loopw [10,37] (fun _ i wr=>∃ j:Nat,j<=pk.l.length/\i=.int .i64 j/\Has wr w.heap.size 0 [.slice xs ls.length af,.slice (some ⟨bp,op,none⟩) lp.length ae,.slice ac lc.length ab]
       /\ Blk wr B (R6 (Ap (fun p=>Ap Aq p.l) (lp.take k)+Ap Aq (pk.l.take j)) (max (A6 (fun p=>A6 Cc p.l) (lp.take k)) (A6 Cc (pk.l.take j)))).toArray 127/\Ext w wr) (fun _ i _=>pk.l.length-(intOf i).toNat)
     case atStart=>exact ⟨0,Nat.zero_le _,rfl,R0.out,by simpa [Ap,A6] using R1.out,cn⟩
     case round =>
      obtain ⟨j,hj,rfl,q0,q1,hB⟩:=hrel
      have Q0:=Jh q0
      have Q1:=Jh q1
      clear q0 q1 R0 R1
      by_cases ar:j<pk.l.length
      ·obtain rfl:=cj.out (by omega)
       obtain ⟨cs,cq,hn,bm⟩:=VT.get (cl.out.mono fun x _ b o h=>TAt.ext' hB h) ar
       have cu:pk.l[j]∈pk.l:=List.getElem_mem ar
       have bo:=Bz Aq pk.l (j+1)
       have bq:=bb.out (j+1)
       have a4:=Ct Aq pk.l j ar
       have a5:=Df Cc pk.l j ar
       rw [a4] at bo
       rw [a5] at bq
       have cd:=Jh a4
       have cf:=Jh a5
       clear a4 a5
       have u:=Jh (Ab wr (.cells cs.toArray 44))
       have ai:=Jh (Has.alloc wr cs 44)
       have HC:=Jh (U9 _ cs _ (bm.ext u.out) (by omega))
       generalize pk.l[j]=tk at *
       go_wp2_with (first | ((with_reducible show Jl 44);refine Aa rfl 44 _ rfl rfl (cq) Aw hn ?_) | ((with_reducible show Jl 44);refine Aa rfl 44 _ rfl rfl (ai.out) Aw hn ?_) | ((with_reducible show Js 44);refine Ad rfl 44 _ _ rfl rfl (by first | rfl | simp) rfl Aw (hn) rfl (bm.one) ?_) | (go_at_call 84;refine HC.out.mono ?_;rintro r w1 ⟨rfl,ak⟩) | (go_at_call 83;refine (I3 _ _ _ _ _ _ ((Q1.out.ext u.out).ext ak) (by omega) (by omega) (by omega) (by omega)).mono ?_;rintro r w2 ⟨rfl,az,ao⟩))
       go_roundw
       case rel =>
        refine ⟨j+1,by omega,by go_num,((Q0.out.ext u.out).ext ak).grown ao (by omega),?_,((hB.trans u.out).trans ak).grown ao (by omega)⟩
        rw [cd.out,cf.out,<-Nat.add_assoc,<-Nat.max_assoc];exact az
       case measure=>simp [intOf];omega
      ·obtain rfl:j=pk.l.length:=by omega
       have q1:=Q1.out
       rw [List.take_length] at q1
       have Q2:=Jh q1
       clear q1
       go_wp2_with fail
       go_roundw
       case rel=>exact ⟨k+1,by omega,by go_num,Q0.out,by rw [HT.out,HU.out];exact Q2.out,hB⟩
       case measure=>simp [intOf];omega
    ·obtain rfl:k=lp.length:=by omega
     have q1:=Q1.out
     rw [List.take_length] at q1
     have Q2:=Jh q1
     clear q1 Q1
     have g2:=Q0.out 2 _ rfl
     go_wp2_with fail
     clear g2
     have K0:=Jh Q0.out
     have K1:=Jh Q2.out
     clear Q0 Q2
     generalize wr=w3 at *
     go_loopw [12,49] (fun _ i wr=>∃ k:Nat,k<=lc.length/\i=.int .i64 k/\Has wr w.heap.size 0 [.slice xs ls.length af,.slice ap lp.length ae,.slice ac lc.length ab]
       /\ Blk wr B (R6 (Ap (fun p=>Ap Aq p.l) lp+Ap (fun c=>nodes c.e) (lc.take k)) (max (A6 (fun p=>A6 Cc p.l) lp) (A6 (fun c=>Cu c.e) (lc.take k)))).toArray 127/\Ext w wr) (fun _ i _=>lc.length-(intOf i).toNat)
     case atStart=>exact ⟨0,Nat.zero_le _,rfl,K0.out,by simpa [Ap,A6] using K1.out,hB⟩
     case round =>
      obtain ⟨k,hk,rfl,q0,q1,hB⟩:=hrel
      have Q0:=Jh q0
      have Q1:=Jh q1
      clear q0 q1 K0 K1
      by_cases aa:k<lc.length
      ·obtain ⟨s1,an,al⟩:=Nx.get (ca.out.mono fun x _ b o h=>Dr.ext h hB) aa
       obtain rfl:=b9.out (by omega)
       have aj:=Bz (fun c:Chk=>nodes c.e) lc (k+1)
       have ag:=ba.out (k+1)
       have ht:=Ct (fun c:Chk=>nodes c.e) lc k aa
       have hu:=Df (fun c:Chk=>Cu c.e) lc k aa
       rw [ht] at aj
       rw [hu] at ag
       have HT:=Jh ht
       have HU:=Jh hu
       clear ht hu
       generalize lc[k]=ck at *
       try simp only at aj ag
       have aq:=Jh an
       have HO:=Jh al.one
       have u:=Jh (Ab wr (.cells (ck.cells s1).toArray 96))
       have ai:=Jh (Has.alloc wr (ck.cells s1) 96).tail
       have HC:=Jh (Kp _ _ _ ⟨s1,rfl,al.ext u.out⟩ (by omega))
       clear an al
       go_wp2_with (first | ((with_reducible show Jl 96);refine Aa rfl 96 _ rfl rfl (aq.out) Co rfl ?_) | ((with_reducible show Jl 40);refine Aa rfl 40 _ rfl rfl (ai.out) Ah rfl ?_) | ((with_reducible show Js 96);refine Ad rfl 96 _ _ rfl rfl (by first | rfl | simp) rfl Co (rfl) rfl (by simp [HO.out,Bc,Ft]) ?_) | (go_at_call 85;refine HC.out.mono ?_;rintro r w1 ⟨rfl,ak⟩) | (go_at_call 83;refine (I3 _ _ _ _ _ _ ((Q1.out.ext u.out).ext ak) (by omega) (by omega) (by omega) (by omega)).mono ?_;rintro r w2 ⟨rfl,az,ao⟩))
       go_roundw
       case rel =>
        refine ⟨k+1,by omega,by go_num,((Q0.out.ext u.out).ext ak).grown ao (by omega),?_,((hB.trans u.out).trans ak).grown ao (by omega)⟩
        rw [HT.out,HU.out,<-Nat.add_assoc,<-Nat.max_assoc];exact az
       case measure=>simp [intOf];omega
      ·obtain rfl:k=lc.length:=by omega
       have q1:=Q1.out
       rw [List.take_length,<-a9.out,<-a8.out] at q1
       have K1:=Jh q1.has
       clear q1 Q1
       have g0:=Q0.out 0 _ rfl
       have g1:=Q0.out 1 _ rfl
       obtain ⟨p4,a3⟩:∃ p,(decide (C3 ⟨ls,lp,lc⟩<=65536)&&decide (Ig ⟨ls,lp,lc⟩<=64))=p:=⟨_,rfl⟩
       have a2:=fun W=>Po (C3 ⟨ls,lp,lc⟩) (Ig ⟨ls,lp,lc⟩) W
       rw [a3] at a2
       have b6:=Jh a2
       have hm:=HM.out
       rw [a3] at hm
       have a7:=Jh hm
       clear hm a2 a3 HM
       obtain ⟨c1,ah⟩:∃ p,decide (ls.length<=512)=p:=⟨_,rfl⟩
       obtain ⟨c2,a0⟩:∃ p,decide (lp.length<=1024)=p:=⟨_,rfl⟩
       obtain ⟨c3,a1⟩:∃ p,decide (Id ls<=4096)=p:=⟨_,rfl⟩
       have d1:decide ((ls.length:Int)<=512)=c1:=by rw [<-ah,decide_eq_decide];omega
       have d2:decide ((lp.length:Int)<=1024)=c2:=by rw [<-a0,decide_eq_decide];omega
       have d3:decide ((Id ls:Int)<=4096)=c3:=by rw [<-a1,decide_eq_decide];omega
       have hm:=a7.out
       rw [ah,a0,a1] at hm
       have HM:=Jh hm
       clear hm ah a0 a1 a7
       cases c1<;>cases c2<;>cases c3
       all_goals (go_wp2_with (first | ((with_reducible show Jl 127);refine Aa rfl 127 _ rfl rfl (K1.out) Fw rfl ?_) | (go_at_call 86;refine (b6.out _).mono ?_;rintro r w4 ⟨rfl,ct⟩)))
       all_goals go_ret
       all_goals (refine ⟨Af (by rw [HM.out];simp),?_⟩)
       all_goals first | exact hB.trans ct | exact hB
def Fj (ls:List Ai) (err:Int) (l:List C0):List C0 × Int:=Cw (fun s (p:C0)=>((⟨p.clocked,(Cm ls p.clocked 0 s p.l).1⟩:C0),(Cm ls p.clocked 0 s p.l).2)) err l
def Fc (err:Int) (l:List Chk):List Chk × Int:=Cw (fun s (c:Chk)=>((⟨c.name,(szE s c.e (-1)).1⟩:Chk),(szE s c.e (-1)).2)) err l
theorem Ui (ls:List Ai) (j:Int) (l:List C0) (k:Nat) (h:k<l.length) :
  Fj ls j (l.take (k+1))=((Fj ls j (l.take k)).1++[⟨l[k].clocked,(Cm ls l[k].clocked 0 (Fj ls j (l.take k)).2 l[k].l).1⟩],(Cm ls l[k].clocked 0 (Fj ls j (l.take k)).2 l[k].l).2):=Ki _ _ _ _ h
theorem Ug (j:Int) (l:List Chk) (k:Nat) (h:k<l.length) :
  Fc j (l.take (k+1))=((Fc j (l.take k)).1++[⟨l[k].name,(szE (Fc j (l.take k)).2 l[k].e (-1)).1⟩],(szE (Fc j (l.take k)).2 l[k].e (-1)).2):=Ki _ _ _ _ h
theorem P3 (ls:List Ai) (j:Int) (l:List C0):(Fj ls j l).1.length=l.length:=Hk _ _ _
theorem P2 (j:Int) (l:List Chk):(Fc j l).1.length=l.length:=Hk _ _ _
def Dp (d:Bb):Except Int Bb :=
 if Lb d=false then .error 2 else if C4 d=false then .error 1 else if (d.signals.any fun s=>!holds s.w s.init)=true then .error 92
 else if (Fc (Fj d.signals 0 d.procs).2 d.checks).2≠0 then .error (Fc (Fj d.signals 0 d.procs).2 d.checks).2
 else .ok ⟨d.signals,(Fj d.signals 0 d.procs).1,(Fc (Fj d.signals 0 d.procs).2 d.checks).1⟩
abbrev Fk:List Value:=[.slice Option.none 0 0,.slice Option.none 0 0,.slice Option.none 0 0]
def Sz (w:World) (o:Except Int Bb) (r:Ending) (w':World):Prop :=
 (∃ g,o=.error g/\g≠0/\r=.returned (.tuple #[.agg Fk.toArray,.int .i64 g])/\Ext w w') \/
 (∃ y a b c,o=.ok y/\r=.returned (.tuple #[.agg #[a,b,c],.int .i64 0])/\Ck w' (.agg #[a,b,c]) y/\Ext w w')
theorem Vy (j:List (List UInt8)) (l:List Ai) (h:Cp j l=true):∀ x∈l,x.w<=64:=by
 induction l generalizing j with
 | nil=>intro x hx;cases hx
 | cons y l ih =>
  rw [Cp,Bool.and_eq_true] at h
  intro x hx
  cases hx with
  | head =>
   have:=h.1
   unfold Py at this
   simp only [Bool.and_eq_true,decide_eq_true_eq] at this
   omega
  | tail _ hx=>exact ih _ h.2 x hx
theorem Rv (d:Bb) (h:C4 d=true):(∀ p∈d.procs,∀ t∈p.l,Nb d.signals t)/\∀ c∈d.checks,F1 c.e:=by
 unfold C4 at h
 simp only [Bool.and_eq_true,Bool.not_eq_true',List.any_eq_false,Bool.not_eq_eq_eq_not,Bool.not_true] at h
 obtain ⟨⟨h1,h2⟩,h3⟩:=h
 have hw:=Vy _ _ h1
 refine ⟨fun p hp t ht=>(L7 d.signals hw t).1 ?_,fun c hc=>C8 d.signals hw c.e ?_⟩
 ·have:=h2 p hp
  simp only [List.any_eq_true,not_exists,not_and] at this
  simpa using this t ht
 ·simpa using h3 c hc
end Go.Proofs.YtbliplladmamoaaGreat
