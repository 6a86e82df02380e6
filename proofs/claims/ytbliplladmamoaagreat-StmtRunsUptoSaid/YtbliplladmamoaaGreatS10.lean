/- Laws and walks that a claim of this seat leans on: ShapeT, ShapeT2, ShapeT3. -/
import Derived.Test.YtbliplladmamoaaGreatS08
import Derived.Test.YtbliplladmamoaaGreatSShape2
import Derived.Test.YtbliplladmamoaaGreatS00
set_option maxRecDepth 100000
set_option maxHeartbeats 8000000
set_option linter.all false
namespace Go.Proofs.YtbliplladmamoaaGreat
open Go.RowKit
theorem Sk (sl:Value) (N:Nat) (cs:List Value) (hn:cs.length=8) (w:World) (hN:Has w N 0 [sl]) (b:Bool)
  (HC:∀ w',Ext w w'->Calls Tryz.prog 92 #[sl,.agg cs.toArray] w' fun r u=>r=.returned (.bool b)/\Ext w' u) :
  Calls Tryz.prog 124 #[.agg cs.toArray,.pointer (some ⟨N,0,none⟩)] w fun r w'=>r=.returned (.bool (!b))/\Ext w w':=by
 have HX:=Jh (Ab w (.cells cs.toArray 40))
 have hb:=Has.alloc w cs 40
 have hc:=(hN.ext HX.out) 0 _ rfl
 have HQ:=Jh (HC _ HX.out)
 clear HC
 go_enter Tryz.func124,Tryz.ntmps124
 go_wp2_with (first | ((with_reducible show Jl 40);refine Aa rfl 40 _ rfl rfl (hb) Ah hn ?_) | (go_at_call 92;refine HQ.out.mono ?_;rintro r w1 ⟨rfl,j⟩))
 all_goals go_ret
 all_goals exact ⟨by first | rfl | simp,HX.out.trans j⟩
theorem Sb:Bj Tryz.prog 124:=A9 Tryz.func124 (by kernel_rfl) rfl
theorem Sm (sl:Value) (N:Nat) (cs:List Value) (hn:cs.length=6) (w:World) (hN:Has w N 0 [sl]) (b:Bool)
  (HC:∀ w',Ext w w'->Calls Tryz.prog 88 #[sl,.agg cs.toArray] w' fun r u=>r=.returned (.bool b)/\Ext w' u) :
  Calls Tryz.prog 125 #[.agg cs.toArray,.pointer (some ⟨N,0,none⟩)] w fun r w'=>r=.returned (.bool (!b))/\Ext w w':=by
 have HX:=Jh (Ab w (.cells cs.toArray 44))
 have hb:=Has.alloc w cs 44
 have hc:=(hN.ext HX.out) 0 _ rfl
 have HQ:=Jh (HC _ HX.out)
 clear HC
 go_enter Tryz.func125,Tryz.ntmps125
 go_wp2_with (first | ((with_reducible show Jl 44);refine Aa rfl 44 _ rfl rfl (hb) Aw hn ?_) | (go_at_call 88;refine HQ.out.mono ?_;rintro r w1 ⟨rfl,j⟩))
 all_goals go_ret
 all_goals exact ⟨by first | rfl | simp,HX.out.trans j⟩
theorem Sc:Bj Tryz.prog 125:=A9 Tryz.func125 (by kernel_rfl) rfl
theorem Xu (sl:Value) (N:Nat) (cs:List Value) (hn:cs.length=6) (w:World) (hN:Has w N 0 [sl]) (b:Bool)
  (HC:∀ w',Ext w w'->Calls Tryz.prog 88 #[sl,.agg cs.toArray] w' fun r u=>r=.returned (.bool b)/\Ext w' u) :
  Calls Tryz.prog 159 #[.agg cs.toArray,.pointer (some ⟨N,0,none⟩)] w fun r w'=>r=.returned (.bool (!b))/\Ext w w':=by
 have HX:=Jh (Ab w (.cells cs.toArray 44))
 have hb:=Has.alloc w cs 44
 have hc:=(hN.ext HX.out) 0 _ rfl
 have HQ:=Jh (HC _ HX.out)
 clear HC
 go_enter Tryz.func159,Tryz.ntmps159
 go_wp2_with (first | ((with_reducible show Jl 44);refine Aa rfl 44 _ rfl rfl (hb) Aw hn ?_) | (go_at_call 88;refine HQ.out.mono ?_;rintro r w1 ⟨rfl,j⟩))
 all_goals go_ret
 all_goals exact ⟨by first | rfl | simp,HX.out.trans j⟩
theorem Ym:Bj Tryz.prog 159:=A9 Tryz.func159 (by kernel_rfl) rfl
theorem Sn (sl:Value) (N:Nat) (cs:List Value) (hn:cs.length=6) (w:World) (hN:Has w N 0 [sl]) (b:Bool)
  (HC:∀ w',Ext w w'->Calls Tryz.prog 88 #[sl,.agg cs.toArray] w' fun r u=>r=.returned (.bool b)/\Ext w' u) :
  Calls Tryz.prog 87 #[.agg cs.toArray,.pointer (some ⟨N,0,none⟩)] w fun r w'=>r=.returned (.bool (!b))/\Ext w w':=by
 have HX:=Jh (Ab w (.cells cs.toArray 44))
 have hb:=Has.alloc w cs 44
 have hc:=(hN.ext HX.out) 0 _ rfl
 have HQ:=Jh (HC _ HX.out)
 clear HC
 go_enter Tryz.func87,Tryz.ntmps87
 go_wp2_with (first | ((with_reducible show Jl 44);refine Aa rfl 44 _ rfl rfl (hb) Aw hn ?_) | (go_at_call 88;refine HQ.out.mono ?_;rintro r w1 ⟨rfl,j⟩))
 all_goals go_ret
 all_goals exact ⟨by first | rfl | simp,HX.out.trans j⟩
theorem Sd:Bj Tryz.prog 87:=A9 Tryz.func87 (by kernel_rfl) rfl
theorem Xt (sl:Value) (N:Nat) (x:E) (s:Value) (w:World) (hN:Has w N 0 [sl]) (b:Bool)
  (HC:∀ w',Ext w w'->Calls Tryz.prog 92 #[sl,.agg (x.cells s).toArray] w' fun r u=>r=.returned (.bool b)/\Ext w' u) :
  Calls Tryz.prog 158 #[.agg (x.cells s).toArray,.pointer (some ⟨N,0,none⟩)] w fun r w'=>r=.returned (.bool (!(decide (x.op=1)&&b)))/\Ext w w':=by
 have HX:=Jh (Ab w (.cells (x.cells s).toArray 40))
 have hb:=Has.alloc w (x.cells s) 40
 have hc:=(hN.ext HX.out) 0 _ rfl
 have g0:=hb 0 _ rfl
 have HB:=Jh hb
 clear hb
 have HQ:=Jh (HC _ HX.out)
 clear HC
 by_cases h1:x.op=1
 ·have H1:=Jh h1
  have g1:(x.op != 1)=false:=by rw [bne_eq_false_iff_eq];exact h1
  clear h1
  go_enter Tryz.func158,Tryz.ntmps158
  go_wp2_with (first | ((with_reducible show Jl 40);refine Aa rfl 40 _ rfl rfl (HB.out) Ah rfl ?_) | (go_at_call 92;refine HQ.out.mono ?_;rintro r w1 ⟨rfl,j⟩))
  all_goals go_ret
  all_goals exact ⟨by first | (rw [H1.out];rfl) | (rw [H1.out];simp),HX.out.trans j⟩
 ·have H1:=Jh h1
  have g1:(x.op != 1)=true:=by rw [bne_iff_ne];exact h1
  clear h1
  go_enter Tryz.func158,Tryz.ntmps158
  go_wp2_with (first | ((with_reducible show Jl 40);refine Aa rfl 40 _ rfl rfl (HB.out) Ah rfl ?_) | (go_at_call 92;refine HQ.out.mono ?_;rintro r w1 ⟨rfl,j⟩))
  all_goals go_ret
  all_goals exact ⟨by first | (simp [H1.out];done) | rfl,HX.out⟩
theorem Yl:Bj Tryz.prog 158:=A9 Tryz.func158 (by kernel_rfl) rfl
def F6 (ls:List Ai) (x:T):Prop:=∀ (sl:Value) (cs:List Value) (w:World),Cq w sl ls->VT w cs x->x.wf ->
 Calls Tryz.prog 88 #[sl,.agg cs.toArray] w fun r w'=>r=.returned (.bool (An ls x))/\Ext w w'
theorem Xq {α:Type} (p q:α->Bool) (l:List α):(l.any fun x=>!(p x&&q x)) = !(l.all fun x=>p x&&q x):=by
 induction l with
 | nil=>rfl
 | cons x l ih=>rw [List.any_cons,List.all_cons,ih,Bool.not_and (p x&&q x)]
theorem Zo (ls:List Ai) (l:List T) (ih:∀ x∈l,∀ y∈x.l,F6 ls y) (a4:∀ x∈l,x.wf) (sl s:Value) (w:World) (hS:Cq w sl ls) (h:Ts w s l) :
  Calls Tryz.prog 126 #[sl,s] w fun r w'=>r=.returned (.bool (An.arms ls l&&decide (0<l.length)))/\Ext w w':=by
 have IH:=Jh ih
 have a7:=Jh a4
 have HS:=Jh hS
 clear ih a4 hS
 obtain ⟨a,b,o,cap,hs,bl,bm,ha,hr⟩:=h.open
 subst hs
 have bf:l.length<=9223372036854775807:=by omega
 have HR:=Jh hr
 have HA:=Jh ha
 clear h hr ha
 have bg:=Jh HS.out.one
 have HX:=Ab w (.cells #[sl] 22)
 have HB:=Has.alloc w [sl] 22
 obtain ⟨a',b',o',bd,ba,-,-,-,-⟩:=HS.out.open
 subst ba
 go_enter Tryz.func126,Tryz.ntmps126
 go_wp2_with fail
 generalize w.alloc _=w0 at *
 have K0:=Jh HB
 clear HB
 go_loopw [5,6,7,8,11] (fun _ _ _ _ i wr=>∃ k:Nat,k<=l.length/\i=.int .i64 k/\An.arms ls l=An.arms ls (l.drop k)/\Ext w0 wr) (fun _ _ _ _ i _=>l.length-(intOf i).toNat)
 case atStart=>exact ⟨0,Nat.zero_le _,rfl,rfl,Below.refl _ _⟩
 case round =>
  obtain ⟨k,hk,rfl,a3,hB⟩:=hrel
  have aj:=Jh a3
  clear a3
  by_cases az:k<l.length
  ·obtain ⟨s1,s2,a2,aw,ax⟩:=Ts.get (HR.out.mono fun x _ b o h=>TAt.ext' (HX.trans hB) h) az
   obtain rfl:=HA.out (by omega)
   have ar:l[k]∈l:=List.getElem_mem az
   have HD:=Jh (An.arms_drop ls l k az)
   have HM:=Jh (An.armT_eq ls l[k])
   have a8:=Jh (IH.out _ ar)
   have a1:=Jh ((T.wf_iff _).1 (a7.out _ ar))
   generalize l[k]=t at *
   obtain ⟨ae,be,oe,ak,bb,-,-,-,-⟩:=aw.open
   obtain ⟨av,bt,ot,al,bc,-,-,-,-⟩:=ax.open
   subst bb
   subst bc
   have H2:=Jh aw
   have H3:=Jh ax
   clear aw ax
   have u:=Jh (Ab wr (.cells (t.cells (.slice ae t.e.length ak) (.slice av t.l.length al)).toArray 44))
   have ac:=Jh (Has.alloc wr (t.cells (.slice ae t.e.length ak) (.slice av t.l.length al)) 44)
   have ay:=Jh a2
   clear a2
   have bi:=Jh (hB.trans u.out)
   obtain ⟨p1,ah⟩:∃ p,(t.e.all fun x=>decide (x.op=1)&&A7 ls x)=p:=⟨_,rfl⟩
   obtain ⟨p2,a0⟩:∃ p,t.l.all (An ls)=p:=⟨_,rfl⟩
   obtain ⟨d1,ap⟩:∃ p,decide (t.e.length=0)=p:=⟨_,rfl⟩
   obtain ⟨d2,aq⟩:∃ p,decide (k+1=l.length)=p:=⟨_,rfl⟩
   have hm:=HM.out
   have hd:=HD.out
   rw [ah,a0] at hm
   rw [ap,aq,hm] at hd
   have an:=Jh hd
   have c1:((t.e.length:Int)==0)=d1:=by rw [<-ap,Bool.eq_iff_iff];simp
   have c2:((k:Int)+1==(l.length:Int))=d2:=by rw [<-aq,Bool.eq_iff_iff];simp;omega
   have a5:=Jh ah
   have a6:=Jh a0
   have bj:=Jh ap
   have bk:=Jh aq
   clear hm hd ah a0 ap aq HM HD
   have ag:∀ W,Hid (Ext wr W->Calls Tryz.prog 72 #[.slice ae t.e.length ak,.func (.func 158) #[] #[.pointer (some ⟨w.heap.size,0,Option.none⟩)]] W
     fun r w'=>r=.returned (.bool (!p1))/\Ext W w'):=by
    intro W
    rw [<-a5.out,<-Xq]
    refine Jh fun hx=>?_
    refine Gl 158 #[.pointer (some ⟨w.heap.size,0,Option.none⟩)] (fun x=>!(decide (x.op=1)&&A7 ls x)) t.e _ W (H2.out.ext hx) Yl ?_
    intro W' am j hj cs ao
    obtain ⟨s,rfl,a9⟩:=ao
    refine Xt _ w.heap.size t.e[j] s W' (((K0.out.ext hB).ext hx).ext am) (A7 ls t.e[j]) fun au af=>?_
    exact Ii ls t.e[j] (a1.out.2.2.2.2.1 _ (List.getElem_mem hj)) _ _ au (HS.out.ext ((((HX.trans hB).trans hx).trans am).trans af)) ⟨s,rfl,a9.ext af⟩
   have ab:∀ W,Hid (Ext wr W->Calls Tryz.prog 90 #[.slice av t.l.length al,.func (.func 159 ) #[] #[.pointer (some ⟨w.heap.size,0,Option.none⟩)]] W
     fun r w'=>r=.returned (.bool (!p2))/\Ext W w'):=by
    intro W
    rw [<-a6.out,U4,Bool.not_not]
    refine Jh fun hx=>?_
    refine Ht 159 #[.pointer (some ⟨w.heap.size,0,Option.none⟩)] (fun x=>!An ls x) t.l _ W (H3.out.ext hx) Ym ?_
    intro W' am j hj cs ao
    have h6:cs.length=6:=by obtain ⟨s,s',rfl,-⟩:=ao;rfl
    refine Xu _ w.heap.size cs h6 W' (((K0.out.ext hB).ext hx).ext am) (An ls t.l[j]) fun au af=>?_
    exact a8.out _ (List.getElem_mem hj) _ _ au (HS.out.ext ((((HX.trans hB).trans hx).trans am).trans af)) (ao.ext af) (a1.out.2.2.2.2.2 _ (List.getElem_mem hj))
   have g0:=ac.out 0 _ rfl
   have g1:=ac.out 1 _ rfl
   have g2:=ac.out 2 _ rfl
   have g3:=ac.out 3 _ rfl
   have g4:=ac.out 4 _ rfl
   cases p1
   ·go_wp2_with (first | ((with_reducible show Jl 44);refine Aa rfl 44 _ rfl rfl (ay.out) Aw rfl ?_) | ((with_reducible show Js 44);refine Ad rfl 44 _ _ rfl rfl (by first | rfl | simp) rfl Aw (rfl) rfl (by rfl) ?_) | (go_at_call 72;refine ((ag _).out u.out).mono ?_;rintro r w4 ⟨rfl,aa⟩;have g5:=(ac.out.ext aa) 5 _ rfl) | (go_at_call 90;refine ((ab _).out (u.out.trans aa)).mono ?_;rintro r w5 ⟨rfl,ai⟩))
    all_goals go_ret
    all_goals (refine ⟨Af (by rw [aj.out,an.out];simp [*]),?_⟩)
    all_goals first | exact HX.trans (hB.trans ((u.out.trans aa).trans ai)) | exact HX.trans (hB.trans (u.out.trans aa)) | exact HX.trans (hB.trans u.out)
   cases p2
   ·go_wp2_with (first | ((with_reducible show Jl 44);refine Aa rfl 44 _ rfl rfl (ay.out) Aw rfl ?_) | ((with_reducible show Js 44);refine Ad rfl 44 _ _ rfl rfl (by first | rfl | simp) rfl Aw (rfl) rfl (by rfl) ?_) | (go_at_call 72;refine ((ag _).out u.out).mono ?_;rintro r w4 ⟨rfl,aa⟩;have g5:=(ac.out.ext aa) 5 _ rfl) | (go_at_call 90;refine ((ab _).out (u.out.trans aa)).mono ?_;rintro r w5 ⟨rfl,ai⟩))
    all_goals go_ret
    all_goals (refine ⟨Af (by rw [aj.out,an.out];simp [*]),?_⟩)
    all_goals first | exact HX.trans (hB.trans ((u.out.trans aa).trans ai)) | exact HX.trans (hB.trans (u.out.trans aa)) | exact HX.trans (hB.trans u.out)
   ·go_wp2_with (first | ((with_reducible show Jl 44);refine Aa rfl 44 _ rfl rfl (ay.out) Aw rfl ?_) | ((with_reducible show Js 44);refine Ad rfl 44 _ _ rfl rfl (by first | rfl | simp) rfl Aw (rfl) rfl (by rfl) ?_) | (go_at_call 72;refine ((ag _).out u.out).mono ?_;rintro r w4 ⟨rfl,aa⟩;have g5:=(ac.out.ext aa) 5 _ rfl) | (go_at_call 90;refine ((ab _).out (u.out.trans aa)).mono ?_;rintro r w5 ⟨rfl,ai⟩))
    case roundEnd =>
     go_roundw
     case rel=>exact ⟨k+1,by omega,rfl,by rw [aj.out,an.out];simp [*],hB.trans ((u.out.trans aa).trans ai)⟩
     case measure=>simp [intOf];omega
    all_goals go_ret
    all_goals (refine ⟨Af (by rw [aj.out,an.out];simp [*]),?_⟩)
    all_goals first | exact HX.trans (hB.trans ((u.out.trans aa).trans ai)) | exact HX.trans (hB.trans (u.out.trans aa)) | exact HX.trans (hB.trans u.out)
  ·go_wp2_with fail
   go_ret
   obtain rfl:k=l.length:=by omega
   exact ⟨Af (by rw [aj.out,List.drop_length,An.arms];simp),HX.trans hB⟩
theorem Afz {α:Type} (p:α->Bool) (l:List α) (h:l.length=2) (h0:0<l.length) (h1:1<l.length):l.all p=(p l[0]&&p l[1]):=by
 match l,h with
 | [x,y],_=>simp
theorem Y5 (ls:List Ai) (t:T) (ih:∀ x∈t.l,F6 ls x) (bi:∀ x∈t.l,∀ y∈x.l,F6 ls y):F6 ls t:=by
 intro sl cs w hS hV bg
 have IH:=Jh ih
 have bl:=Jh bi
 have HS:=Jh hS
 have am:=Jh ((T.wf_iff _).1 bg)
 have HM:=Jh (Ff ls t)
 clear ih bi hS bg
 obtain ⟨s1,s2,rfl,ay,az⟩:=hV
 obtain ⟨a',b',o',ag,bm,bq,br,-,-⟩:=HS.out.open
 obtain ⟨ae,be,oe,ai,bo,bs,bu,-,-⟩:=ay.open
 obtain ⟨aj,bt,ot,ac,bp,bv,bw,bd,bf⟩:=az.open
 subst bm
 subst bo
 subst bp
 have H2:=Jh ay
 have H3:=Jh az
 have bk:=Jh bd
 have a5:=Jh bf
 clear ay az bd bf
 have HX:=(Ab w (.cells #[.slice a' ls.length ag] 22)).alloc (.cells (t.cells (.slice ae t.e.length ai) (.slice aj t.l.length ac)).toArray 44)
 have a1:=(Has.alloc w [.slice a' ls.length ag] 22).ext (Ab _ (.cells (t.cells (.slice ae t.e.length ai) (.slice aj t.l.length ac)).toArray 44))
 have ao:=Has.alloc (w.alloc (.cells #[.slice a' ls.length ag] 22)) (t.cells (.slice ae t.e.length ai) (.slice aj t.l.length ac)) 44
 simp only [World.size_alloc] at ao
 go_enter Tryz.func88,Tryz.ntmps88
 go_upto_region 3 with fail
 generalize (w.alloc _).alloc _=w0 at *
 have K0:=Jh a1
 have K1:=Jh ao
 clear a1 ao
 obtain ⟨p1,a9⟩:∃ p,(t.e.any fun x=>!A7 ls x)=p:=⟨_,rfl⟩
 obtain ⟨p2,ba⟩:∃ p,t.l.all (An ls)=p:=⟨_,rfl⟩
 have a3:=Jh a9
 have ar:=Jh ba
 clear a9 ba
 have hE:∀ W,Hid (Ext w0 W->Calls Tryz.prog 72 #[.slice ae t.e.length ai,.func (.func 124) #[] #[.pointer (some ⟨w.heap.size,0,Option.none⟩)]] W
   fun r w'=>r=.returned (.bool p1)/\Ext W w'):=by
  intro W
  rw [<-a3.out]
  refine Jh fun hx=>?_
  refine Gl 124 #[.pointer (some ⟨w.heap.size,0,Option.none⟩)] (fun x=>!A7 ls x) t.e _ W (H2.out.ext (HX.trans hx)) Sb ?_
  intro W' al j hj cs ak
  have h8:cs.length=8:=by obtain ⟨s,rfl,-⟩:=ak;rfl
  refine Sk _ w.heap.size cs h8 W' ((K0.out.ext hx).ext al) (A7 ls t.e[j]) fun au af=>?_
  exact Ii ls t.e[j] (am.out.2.2.2.2.1 _ (List.getElem_mem hj)) _ _ au (HS.out.ext (((HX.trans hx).trans al).trans af)) (ak.ext af)
 have hT:∀ W,Hid (Ext w0 W->Calls Tryz.prog 90 #[.slice aj t.l.length ac,.func (.func 125) #[] #[.pointer (some ⟨w.heap.size,0,Option.none⟩)]] W
   fun r w'=>r=.returned (.bool (!p2))/\Ext W w'):=by
  intro W
  rw [<-ar.out,U4,Bool.not_not]
  refine Jh fun hx=>?_
  refine Ht 125 #[.pointer (some ⟨w.heap.size,0,Option.none⟩)] (fun x=>!An ls x) t.l _ W (H3.out.ext (HX.trans hx)) Sc ?_
  intro W' al j hj cs ak
  have h6:cs.length=6:=by obtain ⟨s,s',rfl,-⟩:=ak;rfl
  refine Sm _ w.heap.size cs h6 W' ((K0.out.ext hx).ext al) (An ls t.l[j]) fun au af=>?_
  exact IH.out _ (List.getElem_mem hj) _ _ au (HS.out.ext (((HX.trans hx).trans al).trans af)) (ak.ext af) (am.out.2.2.2.2.2 _ (List.getElem_mem hj))
 have a6:∀ W,Hid (Ext w0 W->Calls Tryz.prog 126 #[.slice a' ls.length ag,.slice aj t.l.length ac] W fun r w'=>r=.returned (.bool (An.arms ls t.l&&decide (0<t.l.length)))/\Ext W w') :=
  fun W=>Jh fun hx=>Zo ls t.l bl.out am.out.2.2.2.2.2 _ _ W (HS.out.ext (HX.trans hx)) (H3.out.ext (HX.trans hx))
 obtain ⟨p3,ah⟩:∃ p,(decide (t.op≠1)&&(decide (t.sig≠0)||decide (t.hi≠0)||decide (t.lo≠0)))=p:=⟨_,rfl⟩
 have hm:=HM.out
 rw [a3.out,ah] at hm
 have a2:=Jh hm
 have a4:=Jh ah
 clear hm ah HM
 have HL:=Jh (rfl:t.l.length=t.l.length)
 go_cut [32] (fun u wr=>u=.bool (p1||p3)/\Ext w0 wr)
 case first =>
  have g4:=K1.out 4 _ rfl
  cases p1
  ·by_cases o1:t.op=1
   ·go_wp2_with (first | (go_at_call 72;refine ((hE _).out (Below.refl _ _)).mono ?_;rintro r w4 ⟨rfl,aa⟩;have q0:=(K1.out.ext aa) 0 _ rfl;have q1:=(K1.out.ext aa) 1 _ rfl;have q2:=(K1.out.ext aa) 2 _ rfl;have q3:=(K1.out.ext aa) 3 _ rfl))
    all_goals go_meet
    all_goals exact ⟨by rw [<-a4.out];simp [*],aa⟩
   ·have b1:(t.op != 1)=true:=by rw [bne_iff_ne];exact o1
    go_wp2_with (first | (go_at_call 72;refine ((hE _).out (Below.refl _ _)).mono ?_;rintro r w4 ⟨rfl,aa⟩;have q0:=(K1.out.ext aa) 0 _ rfl;have q1:=(K1.out.ext aa) 1 _ rfl;have q2:=(K1.out.ext aa) 2 _ rfl;have q3:=(K1.out.ext aa) 3 _ rfl))
    all_goals go_meet
    all_goals exact ⟨congrArg Value.bool (by rw [<-a4.out,Bool.eq_iff_iff];simp [*,bne]),aa⟩
  ·go_wp2_with (first | (go_at_call 72;refine ((hE _).out (Below.refl _ _)).mono ?_;rintro r w4 ⟨rfl,aa⟩))
   all_goals go_meet
   all_goals exact ⟨by simp,aa⟩
 case rest =>
  obtain ⟨rfl,hB⟩:=hcut
  obtain ⟨p4,bc⟩:∃ p,(p1||p3)=p:=⟨_,rfl⟩
  have hm:=a2.out
  rw [bc] at hm ⊢
  have HM:=Jh hm
  clear hm bc a2
  cases p4
  ·have hm:=HM.out
   rw [if_neg (by simp)] at hm
   have ab:=Jh hm
   clear hm HM
   have q0:=(K1.out.ext hB) 0 _ rfl
   have q1:=(K1.out.ext hB) 1 _ rfl
   have q2:=(K1.out.ext hB) 2 _ rfl
   have q3:=(K1.out.ext hB) 3 _ rfl
   have q4:=(K1.out.ext hB) 4 _ rfl
   have q5:=(K1.out.ext hB) 5 _ rfl
   have z0:=(K0.out.ext hB) 0 _ rfl
   obtain ⟨d1,aw⟩:∃ p,decide (t.e.length=1)=p:=⟨_,rfl⟩
   have c1:((t.e.length:Int)==1)=d1:=by rw [<-aw,Bool.eq_iff_iff];simp;omega
   have bx:((t.e.length:Int) != 1) = !d1:=by rw [bne,c1]
   have ap:=Jh aw
   clear aw
   by_cases o3:t.op=3
   ·have hm:=ab.out
    rw [if_pos o3,ap.out] at hm
    have HM:=Jh hm
    clear hm ab
    rw [o3] at q0
    go_wp2_with (first | (go_at_call 126;refine ((a6 _).out hB).mono ?_;rintro r w4 ⟨rfl,aa⟩))
    all_goals go_ret
    all_goals (refine ⟨Af (by rw [HM.out];simp [*]),?_⟩)
    all_goals first | exact (HX.trans hB).trans aa | exact HX.trans hB
   by_cases o1:t.op=1
   ·have hm:=ab.out
    rw [if_neg o3,if_pos o1,ap.out] at hm
    have HM:=Jh hm
    clear hm ab o3
    rw [o1] at q0
    obtain ⟨d2,ax⟩:∃ p,decide (t.l.length=0)=p:=⟨_,rfl⟩
    have c2:((t.l.length:Int)==0)=d2:=by rw [<-ax,Bool.eq_iff_iff];simp
    have bj:=Jh ax
    clear ax
    go_wp2_with (first | (go_at_call 127;refine (P0 ls _ _ _ _ _ (HS.out.ext (HX.trans hB)) am.out.2.1).mono ?_;rintro r w4 ⟨rfl,rfl⟩))
    all_goals go_ret
    all_goals (refine ⟨Af (by rw [HM.out,bj.out];simp [*]),HX.trans hB⟩)
   by_cases o2:t.op=2
   ·have hm:=ab.out
    rw [if_neg o3,if_neg o1,if_pos o2,ap.out,ar.out] at hm
    have HM:=Jh hm
    clear hm ab o3 o1
    rw [o2] at q0
    by_cases l2:t.l.length=2
    ·have av:0<t.l.length:=by omega
     have bb:1<t.l.length:=by omega
     obtain ⟨v1,v2,a7,-,-⟩:=Ts.get (a5.out.mono fun x _ b o h=>TAt.ext' (HX.trans hB) h) av
     obtain ⟨v3,v4,a8,-,-⟩:=Ts.get (a5.out.mono fun x _ b o h=>TAt.ext' (HX.trans hB) h) bb
     obtain rfl:=bk.out av
     have an:=Afz (fun x:T=>decide (x.op=5)) t.l l2 av bb
     have L2:=Jh (decide_eq_true l2)
     have b2:((t.l.length:Int) != 2)=false:=by rw [bne_eq_false_iff_eq];omega
     clear l2
     generalize t.l[0]=z0' at *
     generalize t.l[1]=z1' at *
     have y0:=a7 0 _ rfl
     have y1:=a8 0 _ rfl
     simp only [Nat.zero_mul,Nat.add_zero,Nat.one_mul] at y0 y1
     have a0:=Jh an
     clear an a7 a8
     generalize z0'.op=x0 at *
     generalize z1'.op=x1 at *
     go_wp2_with (first | (go_at_call 90;refine ((hT _).out hB).mono ?_;rintro r w4 ⟨rfl,aa⟩))
     all_goals go_ret
     all_goals (refine ⟨Af (by rw [HM.out,a0.out,L2.out];first | (simp [*];done) | (simp_all;done)),?_⟩)
     all_goals first | exact (HX.trans hB).trans aa | exact HX.trans hB
    ·have L2:=Jh (decide_eq_false l2)
     have b2:((t.l.length:Int) != 2)=true:=by rw [bne_iff_ne];omega
     clear l2
     go_wp2_with fail
     all_goals go_ret
     all_goals exact ⟨Af (by rw [HM.out,L2.out];simp),HX.trans hB⟩
   by_cases o5:t.op=5
   ·have hm:=ab.out
    rw [if_neg o3,if_neg o1,if_neg o2,if_pos o5,ar.out] at hm
    have HM:=Jh hm
    clear hm ab o3 o1 o2
    rw [o5] at q0
    by_cases e0:t.e.length=0
    ·have aq:=Jh (decide_eq_true e0)
     have e1:¬ (0:Int)<(t.e.length:Int):=by omega
     clear e0
     go_wp2_with (first | (go_at_call 90;refine ((hT _).out hB).mono ?_;rintro r w4 ⟨rfl,aa⟩))
     all_goals go_ret
     all_goals (refine ⟨Af (by rw [HM.out,aq.out];simp),?_⟩)
     all_goals first | exact (HX.trans hB).trans aa | exact HX.trans hB
    ·have aq:=Jh (decide_eq_false e0)
     have e1:(0:Int)<(t.e.length:Int):=by omega
     clear e0
     go_wp2_with (first | (go_at_call 90;refine ((hT _).out hB).mono ?_;rintro r w4 ⟨rfl,aa⟩))
     all_goals go_ret
     all_goals (refine ⟨Af (by rw [HM.out,aq.out];simp),?_⟩)
     all_goals first | exact (HX.trans hB).trans aa | exact HX.trans hB
   ·have hm:=ab.out
    rw [if_neg o3,if_neg o1,if_neg o2,if_neg o5] at hm
    have HM:=Jh hm
    clear hm ab
    go_wp2_with fail
    all_goals go_ret
    all_goals exact ⟨Af (by rw [HM.out]),HX.trans hB⟩
  ·go_wp2_with fail
   go_ret
   exact ⟨Af (by rw [HM.out];simp),HX.trans hB⟩
theorem Y4 (ls:List Ai) (t:T):F6 ls t/\∀ x∈t.l,F6 ls x:=by
 induction t using T.ind with
 | h t ih=>exact ⟨Y5 ls t (fun x hx=>(ih x hx).1) (fun x hx=>(ih x hx).2),fun x hx=>(ih x hx).1⟩
theorem Vu (ls:List Ai) (t:T):F6 ls t:=(Y4 ls t).1
end Go.Proofs.YtbliplladmamoaaGreat
