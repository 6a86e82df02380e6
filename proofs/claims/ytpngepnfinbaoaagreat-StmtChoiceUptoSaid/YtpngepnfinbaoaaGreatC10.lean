/- Laws and walks that a claim of this seat leans on: ShapeT, ShapeT2, ShapeT3. -/
import Derived.Test.YtpngepnfinbaoaaGreatC08
import Derived.Test.YtpngepnfinbaoaaGreatCShape2
import Derived.Test.YtpngepnfinbaoaaGreatC00
set_option maxRecDepth 100000
set_option maxHeartbeats 8000000
set_option linter.all false
namespace Go.Proofs.YtpngepnfinbaoaaGreat
open Go.RowKit
theorem shapeT1_calls (sl:Value) (N:Nat) (cs:List Value) (hn:cs.length=8) (w:World) (hN:Has w N 0 [sl]) (b:Bool)
  (HC:∀ w',Ext w w'->Calls Tryz.prog 84 #[sl,.agg cs.toArray] w' fun r w''=>r=.returned (.bool b)/\Ext w' w'') :
  Calls Tryz.prog 110 #[.agg cs.toArray,.pointer (some ⟨N,0,none⟩)] w fun r w'=>r=.returned (.bool (!b))/\Ext w w':=by
 have HX:=Jh (ext_alloc w (.cells cs.toArray 31))
 have hb:=Has.alloc w cs 31
 have hc:=(hN.ext HX.out) 0 _ rfl
 have HQ:=Jh (HC _ HX.out)
 clear HC
 go_enter Tryz.func110,Tryz.ntmps110
 go_wp2_with (first | ((with_reducible show Jl 31);refine Jm 31 (hb) agg_E hn ?_) | (go_at_call 84;refine HQ.out.mono ?_;rintro r w1 ⟨rfl,hx1⟩))
 all_goals go_ret
 all_goals exact ⟨by first | rfl | simp,HX.out.trans hx1⟩
theorem leads_shapeT1:Leads Tryz.prog 110:=leads_of Tryz.func110 (by kernel_rfl) rfl
theorem shapeT2_calls (sl:Value) (N:Nat) (cs:List Value) (hn:cs.length=6) (w:World) (hN:Has w N 0 [sl]) (b:Bool)
  (HC:∀ w',Ext w w'->Calls Tryz.prog 80 #[sl,.agg cs.toArray] w' fun r w''=>r=.returned (.bool b)/\Ext w' w'') :
  Calls Tryz.prog 111 #[.agg cs.toArray,.pointer (some ⟨N,0,none⟩)] w fun r w'=>r=.returned (.bool (!b))/\Ext w w':=by
 have HX:=Jh (ext_alloc w (.cells cs.toArray 39))
 have hb:=Has.alloc w cs 39
 have hc:=(hN.ext HX.out) 0 _ rfl
 have HQ:=Jh (HC _ HX.out)
 clear HC
 go_enter Tryz.func111,Tryz.ntmps111
 go_wp2_with (first | ((with_reducible show Jl 39);refine Jm 39 (hb) agg_T hn ?_) | (go_at_call 80;refine HQ.out.mono ?_;rintro r w1 ⟨rfl,hx1⟩))
 all_goals go_ret
 all_goals exact ⟨by first | rfl | simp,HX.out.trans hx1⟩
theorem leads_shapeT2:Leads Tryz.prog 111:=leads_of Tryz.func111 (by kernel_rfl) rfl
theorem arms2_calls (sl:Value) (N:Nat) (cs:List Value) (hn:cs.length=6) (w:World) (hN:Has w N 0 [sl]) (b:Bool)
  (HC:∀ w',Ext w w'->Calls Tryz.prog 80 #[sl,.agg cs.toArray] w' fun r w''=>r=.returned (.bool b)/\Ext w' w'') :
  Calls Tryz.prog 149 #[.agg cs.toArray,.pointer (some ⟨N,0,none⟩)] w fun r w'=>r=.returned (.bool (!b))/\Ext w w':=by
 have HX:=Jh (ext_alloc w (.cells cs.toArray 39))
 have hb:=Has.alloc w cs 39
 have hc:=(hN.ext HX.out) 0 _ rfl
 have HQ:=Jh (HC _ HX.out)
 clear HC
 go_enter Tryz.func149,Tryz.ntmps149
 go_wp2_with (first | ((with_reducible show Jl 39);refine Jm 39 (hb) agg_T hn ?_) | (go_at_call 80;refine HQ.out.mono ?_;rintro r w1 ⟨rfl,hx1⟩))
 all_goals go_ret
 all_goals exact ⟨by first | rfl | simp,HX.out.trans hx1⟩
theorem leads_arms2:Leads Tryz.prog 149:=leads_of Tryz.func149 (by kernel_rfl) rfl
theorem shaped1_calls (sl:Value) (N:Nat) (cs:List Value) (hn:cs.length=6) (w:World) (hN:Has w N 0 [sl]) (b:Bool)
  (HC:∀ w',Ext w w'->Calls Tryz.prog 80 #[sl,.agg cs.toArray] w' fun r w''=>r=.returned (.bool b)/\Ext w' w'') :
  Calls Tryz.prog 79 #[.agg cs.toArray,.pointer (some ⟨N,0,none⟩)] w fun r w'=>r=.returned (.bool (!b))/\Ext w w':=by
 have HX:=Jh (ext_alloc w (.cells cs.toArray 39))
 have hb:=Has.alloc w cs 39
 have hc:=(hN.ext HX.out) 0 _ rfl
 have HQ:=Jh (HC _ HX.out)
 clear HC
 go_enter Tryz.func79,Tryz.ntmps79
 go_wp2_with (first | ((with_reducible show Jl 39);refine Jm 39 (hb) agg_T hn ?_) | (go_at_call 80;refine HQ.out.mono ?_;rintro r w1 ⟨rfl,hx1⟩))
 all_goals go_ret
 all_goals exact ⟨by first | rfl | simp,HX.out.trans hx1⟩
theorem leads_shaped1:Leads Tryz.prog 79:=leads_of Tryz.func79 (by kernel_rfl) rfl
theorem arms1_calls (sl:Value) (N:Nat) (x:E) (s:Value) (w:World) (hN:Has w N 0 [sl]) (b:Bool)
  (HC:∀ w',Ext w w'->Calls Tryz.prog 84 #[sl,.agg (x.cells s).toArray] w' fun r w''=>r=.returned (.bool b)/\Ext w' w'') :
  Calls Tryz.prog 148 #[.agg (x.cells s).toArray,.pointer (some ⟨N,0,none⟩)] w fun r w'=>r=.returned (.bool (!(decide (x.op=1)&&b)))/\Ext w w':=by
 have HX:=Jh (ext_alloc w (.cells (x.cells s).toArray 31))
 have hb:=Has.alloc w (x.cells s) 31
 have hc:=(hN.ext HX.out) 0 _ rfl
 have g0:=hb 0 _ rfl
 have HB:=Jh hb
 clear hb
 have HQ:=Jh (HC _ HX.out)
 clear HC
 by_cases h1:x.op=1
 ·have H1:=Jh h1
  have g1:(x.op != 1)=false:=by rw [bne_eq_false_iff_eq];exact h1
  clear h1
  go_enter Tryz.func148,Tryz.ntmps148
  go_wp2_with (first | ((with_reducible show Jl 31);refine Jm 31 (HB.out) agg_E rfl ?_) | (go_at_call 84;refine HQ.out.mono ?_;rintro r w1 ⟨rfl,hx1⟩))
  all_goals go_ret
  all_goals exact ⟨by first | (rw [H1.out];rfl) | (rw [H1.out];simp),HX.out.trans hx1⟩
 ·have H1:=Jh h1
  have g1:(x.op != 1)=true:=by rw [bne_iff_ne];exact h1
  clear h1
  go_enter Tryz.func148,Tryz.ntmps148
  go_wp2_with (first | ((with_reducible show Jl 31);refine Jm 31 (HB.out) agg_E rfl ?_) | (go_at_call 84;refine HQ.out.mono ?_;rintro r w1 ⟨rfl,hx1⟩))
  all_goals go_ret
  all_goals exact ⟨by first | (simp [H1.out];done) | rfl,HX.out⟩
theorem leads_arms1:Leads Tryz.prog 148:=leads_of Tryz.func148 (by kernel_rfl) rfl
def ShapeTSaid (ls:List Signal) (x:T):Prop:=∀ (sl:Value) (cs:List Value) (w:World),Sigs w sl ls->VT w cs x->x.wf ->
 Calls Tryz.prog 80 #[sl,.agg cs.toArray] w fun r w'=>r=.returned (.bool (shapeT ls x))/\Ext w w'
theorem any_not_all {α:Type} (p q:α->Bool) (l:List α):(l.any fun x=>!(p x&&q x)) = !(l.all fun x=>p x&&q x):=by
 induction l with
 | nil=>rfl
 | cons x l ih=>rw [List.any_cons,List.all_cons,ih,Bool.not_and (p x&&q x)]
theorem arms_calls (ls:List Signal) (l:List T) (ih:∀ x∈l,∀ y∈x.l,ShapeTSaid ls y) (hwf:∀ x∈l,x.wf) (sl s:Value) (w:World) (hS:Sigs w sl ls) (h:Ts w s l) :
  Calls Tryz.prog 112 #[sl,s] w fun r w'=>r=.returned (.bool (shapeT.arms ls l&&decide (0<l.length)))/\Ext w w':=by
 have IH:=Jh ih
 have HWF:=Jh hwf
 have HS:=Jh hS
 clear ih hwf hS
 obtain ⟨a,b,o,cap,hs,hc1,hc2,ha,hr⟩:=h.open
 subst hs
 have hlen:l.length<=9223372036854775807:=by omega
 have HR:=Jh hr
 have HA:=Jh ha
 clear h hr ha
 have hone:=Jh HS.out.one
 have HX:=ext_alloc w (.cells #[sl] 22)
 have HB:=Has.alloc w [sl] 22
 obtain ⟨a',b',o',cap',hs',-,-,-,-⟩:=HS.out.open
 subst hs'
 go_enter Tryz.func112,Tryz.ntmps112
 go_wp2_with fail
 generalize w.alloc _=w0 at *
 have K0:=Jh HB
 clear HB
 go_loopw [5,6,7,8,11] (fun _ _ _ _ i wr=>∃ k:Nat,k<=l.length/\i=.int .i64 k/\shapeT.arms ls l=shapeT.arms ls (l.drop k)/\Ext w0 wr) (fun _ _ _ _ i _=>l.length-(intOf i).toNat)
 case atStart=>exact ⟨0,Nat.zero_le _,rfl,rfl,Below.refl _ _⟩
 case round =>
  obtain ⟨k,hk,rfl,hno,hB⟩:=hrel
  have HNO:=Jh hno
  clear hno
  by_cases hlt:k<l.length
  ·obtain ⟨s1,s2,he1,he2,he3⟩:=Ts.get (HR.out.mono fun x _ b o h=>TAt.ext' (HX.trans hB) h) hlt
   obtain rfl:=HA.out (by omega)
   have hmem:l[k]∈l:=List.getElem_mem hlt
   have HD:=Jh (shapeT.arms_drop ls l k hlt)
   have HM:=Jh (shapeT.armT_eq ls l[k])
   have IHk:=Jh (IH.out _ hmem)
   have HWk:=Jh ((T.wf_iff _).1 (HWF.out _ hmem))
   generalize l[k]=t at *
   obtain ⟨ae,be,oe,cape,hse,-,-,-,-⟩:=he2.open
   obtain ⟨at',bt,ot,capt,hst,-,-,-,-⟩:=he3.open
   subst hse
   subst hst
   have H2:=Jh he2
   have H3:=Jh he3
   clear he2 he3
   have HXX:=Jh (ext_alloc wr (.cells (t.cells (.slice ae t.e.length cape) (.slice at' t.l.length capt)).toArray 39))
   have HBX:=Jh (Has.alloc wr (t.cells (.slice ae t.e.length cape) (.slice at' t.l.length capt)) 39)
   have he4:=Jh he1
   clear he1
   have HBE:=Jh (hB.trans HXX.out)
   obtain ⟨p1,hp1⟩:∃ p,(t.e.all fun x=>decide (x.op=1)&&shape ls x)=p:=⟨_,rfl⟩
   obtain ⟨p2,hp2⟩:∃ p,t.l.all (shapeT ls)=p:=⟨_,rfl⟩
   obtain ⟨d1,hd1⟩:∃ p,decide (t.e.length=0)=p:=⟨_,rfl⟩
   obtain ⟨d2,hd2⟩:∃ p,decide (k+1=l.length)=p:=⟨_,rfl⟩
   have hm:=HM.out
   have hd:=HD.out
   rw [hp1,hp2] at hm
   rw [hd1,hd2,hm] at hd
   have HDD:=Jh hd
   have c1:((t.e.length:Int)==0)=d1:=by rw [<-hd1,Bool.eq_iff_iff];simp
   have c2:((k:Int)+1==(l.length:Int))=d2:=by rw [<-hd2,Bool.eq_iff_iff];simp;omega
   have HP1:=Jh hp1
   have HP2:=Jh hp2
   have HD1:=Jh hd1
   have HD2:=Jh hd2
   clear hm hd hp1 hp2 hd1 hd2 HM HD
   have hstop:∀ W,Hid (Ext wr W->Calls Tryz.prog 95 #[.slice ae t.e.length cape,.func (.func 148) #[] #[.pointer (some ⟨w.heap.size,0,Option.none⟩)]] W
     fun r w'=>r=.returned (.bool (!p1))/\Ext W w'):=by
    intro W
    rw [<-HP1.out,<-any_not_all]
    refine Jh fun hx=>?_
    refine ContainsFunc_E 148 #[.pointer (some ⟨w.heap.size,0,Option.none⟩)] (fun x=>!(decide (x.op=1)&&shape ls x)) t.e _ W (H2.out.ext hx) leads_arms1 ?_
    intro W' hx' j hj cs hcs
    obtain ⟨s,rfl,hes⟩:=hcs
    refine arms1_calls _ w.heap.size t.e[j] s W' (((K0.out.ext hB).ext hx).ext hx') (shape ls t.e[j]) fun W'' hx''=>?_
    exact shape_calls ls t.e[j] (HWk.out.2.2.2.2.1 _ (List.getElem_mem hj)) _ _ W'' (HS.out.ext ((((HX.trans hB).trans hx).trans hx').trans hx'')) ⟨s,rfl,hes.ext hx''⟩
   have hstopT:∀ W,Hid (Ext wr W->Calls Tryz.prog 82 #[.slice at' t.l.length capt,.func (.func 149 ) #[] #[.pointer (some ⟨w.heap.size,0,Option.none⟩)]] W
     fun r w'=>r=.returned (.bool (!p2))/\Ext W w'):=by
    intro W
    rw [<-HP2.out,any_not,Bool.not_not]
    refine Jh fun hx=>?_
    refine ContainsFunc_T 149 #[.pointer (some ⟨w.heap.size,0,Option.none⟩)] (fun x=>!shapeT ls x) t.l _ W (H3.out.ext hx) leads_arms2 ?_
    intro W' hx' j hj cs hcs
    have h6:cs.length=6:=by obtain ⟨s,s',rfl,-⟩:=hcs;rfl
    refine arms2_calls _ w.heap.size cs h6 W' (((K0.out.ext hB).ext hx).ext hx') (shapeT ls t.l[j]) fun W'' hx''=>?_
    exact IHk.out _ (List.getElem_mem hj) _ _ W'' (HS.out.ext ((((HX.trans hB).trans hx).trans hx').trans hx'')) (hcs.ext hx'') (HWk.out.2.2.2.2.2 _ (List.getElem_mem hj))
   have g0:=HBX.out 0 _ rfl
   have g1:=HBX.out 1 _ rfl
   have g2:=HBX.out 2 _ rfl
   have g3:=HBX.out 3 _ rfl
   have g4:=HBX.out 4 _ rfl
   cases p1
   ·go_wp2_with (first | ((with_reducible show Jl 39);refine Jm 39 (he4.out) agg_T rfl ?_) | ((with_reducible show Js 39);refine wpList_store_new rfl 39 _ _ rfl rfl (by first | rfl | simp) rfl agg_T (rfl) rfl (by rfl) ?_) | (go_at_call 95;refine ((hstop _).out HXX.out).mono ?_;rintro r w4 ⟨rfl,hx4⟩;have g5:=(HBX.out.ext hx4) 5 _ rfl) | (go_at_call 82;refine ((hstopT _).out (HXX.out.trans hx4)).mono ?_;rintro r w5 ⟨rfl,hx5⟩))
    all_goals go_ret
    all_goals (refine ⟨ret_bool (by rw [HNO.out,HDD.out];simp [*]),?_⟩)
    all_goals first | exact HX.trans (hB.trans ((HXX.out.trans hx4).trans hx5)) | exact HX.trans (hB.trans (HXX.out.trans hx4)) | exact HX.trans (hB.trans HXX.out)
   cases p2
   ·go_wp2_with (first | ((with_reducible show Jl 39);refine Jm 39 (he4.out) agg_T rfl ?_) | ((with_reducible show Js 39);refine wpList_store_new rfl 39 _ _ rfl rfl (by first | rfl | simp) rfl agg_T (rfl) rfl (by rfl) ?_) | (go_at_call 95;refine ((hstop _).out HXX.out).mono ?_;rintro r w4 ⟨rfl,hx4⟩;have g5:=(HBX.out.ext hx4) 5 _ rfl) | (go_at_call 82;refine ((hstopT _).out (HXX.out.trans hx4)).mono ?_;rintro r w5 ⟨rfl,hx5⟩))
    all_goals go_ret
    all_goals (refine ⟨ret_bool (by rw [HNO.out,HDD.out];simp [*]),?_⟩)
    all_goals first | exact HX.trans (hB.trans ((HXX.out.trans hx4).trans hx5)) | exact HX.trans (hB.trans (HXX.out.trans hx4)) | exact HX.trans (hB.trans HXX.out)
   ·go_wp2_with (first | ((with_reducible show Jl 39);refine Jm 39 (he4.out) agg_T rfl ?_) | ((with_reducible show Js 39);refine wpList_store_new rfl 39 _ _ rfl rfl (by first | rfl | simp) rfl agg_T (rfl) rfl (by rfl) ?_) | (go_at_call 95;refine ((hstop _).out HXX.out).mono ?_;rintro r w4 ⟨rfl,hx4⟩;have g5:=(HBX.out.ext hx4) 5 _ rfl) | (go_at_call 82;refine ((hstopT _).out (HXX.out.trans hx4)).mono ?_;rintro r w5 ⟨rfl,hx5⟩))
    case roundEnd =>
     go_roundw
     case rel=>exact ⟨k+1,by omega,rfl,by rw [HNO.out,HDD.out];simp [*],hB.trans ((HXX.out.trans hx4).trans hx5)⟩
     case measure=>simp [intOf];omega
    all_goals go_ret
    all_goals (refine ⟨ret_bool (by rw [HNO.out,HDD.out];simp [*]),?_⟩)
    all_goals first | exact HX.trans (hB.trans ((HXX.out.trans hx4).trans hx5)) | exact HX.trans (hB.trans (HXX.out.trans hx4)) | exact HX.trans (hB.trans HXX.out)
  ·go_wp2_with fail
   go_ret
   obtain rfl:k=l.length:=by omega
   exact ⟨ret_bool (by rw [HNO.out,List.drop_length,shapeT.arms];simp),HX.trans hB⟩
theorem all_two {α:Type} (p:α->Bool) (l:List α) (h:l.length=2) (h0:0<l.length) (h1:1<l.length):l.all p=(p l[0]&&p l[1]):=by
 match l,h with
 | [x,y],_=>simp
theorem shapeT_step (ls:List Signal) (t:T) (ih:∀ x∈t.l,ShapeTSaid ls x) (ih2:∀ x∈t.l,∀ y∈x.l,ShapeTSaid ls y):ShapeTSaid ls t:=by
 intro sl cs w hS hV hwf
 have IH:=Jh ih
 have IH2:=Jh ih2
 have HS:=Jh hS
 have HWk:=Jh ((T.wf_iff _).1 hwf)
 have HM:=Jh (shapeT_eq ls t)
 clear ih ih2 hS hwf
 obtain ⟨s1,s2,rfl,he2,he3⟩:=hV
 obtain ⟨a',b',o',cap',hs',hc1',hc2',-,-⟩:=HS.out.open
 obtain ⟨ae,be,oe,cape,hse,hce1,hce2,-,-⟩:=he2.open
 obtain ⟨at',bt,ot,capt,hst,hct1,hct2,hta,htr⟩:=he3.open
 subst hs'
 subst hse
 subst hst
 have H2:=Jh he2
 have H3:=Jh he3
 have HTA:=Jh hta
 have HTR:=Jh htr
 clear he2 he3 hta htr
 have HX:=(ext_alloc w (.cells #[.slice a' ls.length cap'] 22)).alloc (.cells (t.cells (.slice ae t.e.length cape) (.slice at' t.l.length capt)).toArray 39)
 have HB0:=(Has.alloc w [.slice a' ls.length cap'] 22).ext (ext_alloc _ (.cells (t.cells (.slice ae t.e.length cape) (.slice at' t.l.length capt)).toArray 39))
 have HB1:=Has.alloc (w.alloc (.cells #[.slice a' ls.length cap'] 22)) (t.cells (.slice ae t.e.length cape) (.slice at' t.l.length capt)) 39
 simp only [World.size_alloc] at HB1
 go_enter Tryz.func80,Tryz.ntmps80
 go_upto_region 3 with fail
 generalize (w.alloc _).alloc _=w0 at *
 have K0:=Jh HB0
 have K1:=Jh HB1
 clear HB0 HB1
 obtain ⟨p1,hp1⟩:∃ p,(t.e.any fun x=>!shape ls x)=p:=⟨_,rfl⟩
 obtain ⟨p2,hp2⟩:∃ p,t.l.all (shapeT ls)=p:=⟨_,rfl⟩
 have HP1:=Jh hp1
 have HP2:=Jh hp2
 clear hp1 hp2
 have hE:∀ W,Hid (Ext w0 W->Calls Tryz.prog 95 #[.slice ae t.e.length cape,.func (.func 110) #[] #[.pointer (some ⟨w.heap.size,0,Option.none⟩)]] W
   fun r w'=>r=.returned (.bool p1)/\Ext W w'):=by
  intro W
  rw [<-HP1.out]
  refine Jh fun hx=>?_
  refine ContainsFunc_E 110 #[.pointer (some ⟨w.heap.size,0,Option.none⟩)] (fun x=>!shape ls x) t.e _ W (H2.out.ext (HX.trans hx)) leads_shapeT1 ?_
  intro W' hx' j hj cs hcs
  have h8:cs.length=8:=by obtain ⟨s,rfl,-⟩:=hcs;rfl
  refine shapeT1_calls _ w.heap.size cs h8 W' ((K0.out.ext hx).ext hx') (shape ls t.e[j]) fun W'' hx''=>?_
  exact shape_calls ls t.e[j] (HWk.out.2.2.2.2.1 _ (List.getElem_mem hj)) _ _ W'' (HS.out.ext (((HX.trans hx).trans hx').trans hx'')) (hcs.ext hx'')
 have hT:∀ W,Hid (Ext w0 W->Calls Tryz.prog 82 #[.slice at' t.l.length capt,.func (.func 111) #[] #[.pointer (some ⟨w.heap.size,0,Option.none⟩)]] W
   fun r w'=>r=.returned (.bool (!p2))/\Ext W w'):=by
  intro W
  rw [<-HP2.out,any_not,Bool.not_not]
  refine Jh fun hx=>?_
  refine ContainsFunc_T 111 #[.pointer (some ⟨w.heap.size,0,Option.none⟩)] (fun x=>!shapeT ls x) t.l _ W (H3.out.ext (HX.trans hx)) leads_shapeT2 ?_
  intro W' hx' j hj cs hcs
  have h6:cs.length=6:=by obtain ⟨s,s',rfl,-⟩:=hcs;rfl
  refine shapeT2_calls _ w.heap.size cs h6 W' ((K0.out.ext hx).ext hx') (shapeT ls t.l[j]) fun W'' hx''=>?_
  exact IH.out _ (List.getElem_mem hj) _ _ W'' (HS.out.ext (((HX.trans hx).trans hx').trans hx'')) (hcs.ext hx'') (HWk.out.2.2.2.2.2 _ (List.getElem_mem hj))
 have hARM:∀ W,Hid (Ext w0 W->Calls Tryz.prog 112 #[.slice a' ls.length cap',.slice at' t.l.length capt] W fun r w'=>r=.returned (.bool (shapeT.arms ls t.l&&decide (0<t.l.length)))/\Ext W w') :=
  fun W=>Jh fun hx=>arms_calls ls t.l IH2.out HWk.out.2.2.2.2.2 _ _ W (HS.out.ext (HX.trans hx)) (H3.out.ext (HX.trans hx))
 obtain ⟨p3,hp3⟩:∃ p,(decide (t.op≠1)&&(decide (t.sig≠0)||decide (t.hi≠0)||decide (t.lo≠0)))=p:=⟨_,rfl⟩
 have hm:=HM.out
 rw [HP1.out,hp3] at hm
 have HMM:=Jh hm
 have HP3:=Jh hp3
 clear hm hp3 HM
 have HL:=Jh (rfl:t.l.length=t.l.length)
 go_cut [32] (fun u wr=>u=.bool (p1||p3)/\Ext w0 wr)
 case first =>
  have g4:=K1.out 4 _ rfl
  cases p1
  ·by_cases o1:t.op=1
   ·go_wp2_with (first | (go_at_call 95;refine ((hE _).out (Below.refl _ _)).mono ?_;rintro r w4 ⟨rfl,hx4⟩;have q0:=(K1.out.ext hx4) 0 _ rfl;have q1:=(K1.out.ext hx4) 1 _ rfl;have q2:=(K1.out.ext hx4) 2 _ rfl;have q3:=(K1.out.ext hx4) 3 _ rfl))
    all_goals go_meet
    all_goals exact ⟨by rw [<-HP3.out];simp [*],hx4⟩
   ·have b1:(t.op != 1)=true:=by rw [bne_iff_ne];exact o1
    go_wp2_with (first | (go_at_call 95;refine ((hE _).out (Below.refl _ _)).mono ?_;rintro r w4 ⟨rfl,hx4⟩;have q0:=(K1.out.ext hx4) 0 _ rfl;have q1:=(K1.out.ext hx4) 1 _ rfl;have q2:=(K1.out.ext hx4) 2 _ rfl;have q3:=(K1.out.ext hx4) 3 _ rfl))
    all_goals go_meet
    all_goals exact ⟨congrArg Value.bool (by rw [<-HP3.out,Bool.eq_iff_iff];simp [*,bne]),hx4⟩
  ·go_wp2_with (first | (go_at_call 95;refine ((hE _).out (Below.refl _ _)).mono ?_;rintro r w4 ⟨rfl,hx4⟩))
   all_goals go_meet
   all_goals exact ⟨by simp,hx4⟩
 case rest =>
  obtain ⟨rfl,hB⟩:=hcut
  obtain ⟨p4,hp4⟩:∃ p,(p1||p3)=p:=⟨_,rfl⟩
  have hm:=HMM.out
  rw [hp4] at hm ⊢
  have HM:=Jh hm
  clear hm hp4 HMM
  cases p4
  ·have hm:=HM.out
   rw [if_neg (by simp)] at hm
   have HM2:=Jh hm
   clear hm HM
   have q0:=(K1.out.ext hB) 0 _ rfl
   have q1:=(K1.out.ext hB) 1 _ rfl
   have q2:=(K1.out.ext hB) 2 _ rfl
   have q3:=(K1.out.ext hB) 3 _ rfl
   have q4:=(K1.out.ext hB) 4 _ rfl
   have q5:=(K1.out.ext hB) 5 _ rfl
   have z0:=(K0.out.ext hB) 0 _ rfl
   obtain ⟨d1,hd1⟩:∃ p,decide (t.e.length=1)=p:=⟨_,rfl⟩
   have c1:((t.e.length:Int)==1)=d1:=by rw [<-hd1,Bool.eq_iff_iff];simp;omega
   have c1':((t.e.length:Int) != 1) = !d1:=by rw [bne,c1]
   have HD1:=Jh hd1
   clear hd1
   by_cases o3:t.op=3
   ·have hm:=HM2.out
    rw [if_pos o3,HD1.out] at hm
    have HM:=Jh hm
    clear hm HM2
    rw [o3] at q0
    go_wp2_with (first | (go_at_call 112;refine ((hARM _).out hB).mono ?_;rintro r w4 ⟨rfl,hx4⟩))
    all_goals go_ret
    all_goals (refine ⟨ret_bool (by rw [HM.out];simp [*]),?_⟩)
    all_goals first | exact (HX.trans hB).trans hx4 | exact HX.trans hB
   by_cases o1:t.op=1
   ·have hm:=HM2.out
    rw [if_neg o3,if_pos o1,HD1.out] at hm
    have HM:=Jh hm
    clear hm HM2 o3
    rw [o1] at q0
    obtain ⟨d2,hd2⟩:∃ p,decide (t.l.length=0)=p:=⟨_,rfl⟩
    have c2:((t.l.length:Int)==0)=d2:=by rw [<-hd2,Bool.eq_iff_iff];simp
    have HD2:=Jh hd2
    clear hd2
    go_wp2_with (first | (go_at_call 113;refine (slice_calls ls _ _ _ _ _ (HS.out.ext (HX.trans hB)) HWk.out.2.1).mono ?_;rintro r w4 ⟨rfl,rfl⟩))
    all_goals go_ret
    all_goals (refine ⟨ret_bool (by rw [HM.out,HD2.out];simp [*]),HX.trans hB⟩)
   by_cases o2:t.op=2
   ·have hm:=HM2.out
    rw [if_neg o3,if_neg o1,if_pos o2,HD1.out,HP2.out] at hm
    have HM:=Jh hm
    clear hm HM2 o3 o1
    rw [o2] at q0
    by_cases l2:t.l.length=2
    ·have bb0:0<t.l.length:=by omega
     have bb:1<t.l.length:=by omega
     obtain ⟨v1,v2,he0,-,-⟩:=Ts.get (HTR.out.mono fun x _ b o h=>TAt.ext' (HX.trans hB) h) bb0
     obtain ⟨v3,v4,he1,-,-⟩:=Ts.get (HTR.out.mono fun x _ b o h=>TAt.ext' (HX.trans hB) h) bb
     obtain rfl:=HTA.out bb0
     have hall:=all_two (fun x:T=>decide (x.op=5)) t.l l2 bb0 bb
     have L2:=Jh (decide_eq_true l2)
     have b2:((t.l.length:Int) != 2)=false:=by rw [bne_eq_false_iff_eq];omega
     clear l2
     generalize t.l[0]=z0' at *
     generalize t.l[1]=z1' at *
     have y0:=he0 0 _ rfl
     have y1:=he1 0 _ rfl
     simp only [Nat.zero_mul,Nat.add_zero,Nat.one_mul] at y0 y1
     have HALL:=Jh hall
     clear hall he0 he1
     generalize z0'.op=x0 at *
     generalize z1'.op=x1 at *
     go_wp2_with (first | (go_at_call 82;refine ((hT _).out hB).mono ?_;rintro r w4 ⟨rfl,hx4⟩))
     all_goals go_ret
     all_goals (refine ⟨ret_bool (by rw [HM.out,HALL.out,L2.out];first | (simp [*];done) | (simp_all;done)),?_⟩)
     all_goals first | exact (HX.trans hB).trans hx4 | exact HX.trans hB
    ·have L2:=Jh (decide_eq_false l2)
     have b2:((t.l.length:Int) != 2)=true:=by rw [bne_iff_ne];omega
     clear l2
     go_wp2_with fail
     all_goals go_ret
     all_goals exact ⟨ret_bool (by rw [HM.out,L2.out];simp),HX.trans hB⟩
   by_cases o5:t.op=5
   ·have hm:=HM2.out
    rw [if_neg o3,if_neg o1,if_neg o2,if_pos o5,HP2.out] at hm
    have HM:=Jh hm
    clear hm HM2 o3 o1 o2
    rw [o5] at q0
    by_cases e0:t.e.length=0
    ·have HE0:=Jh (decide_eq_true e0)
     have e1:¬ (0:Int)<(t.e.length:Int):=by omega
     clear e0
     go_wp2_with (first | (go_at_call 82;refine ((hT _).out hB).mono ?_;rintro r w4 ⟨rfl,hx4⟩))
     all_goals go_ret
     all_goals (refine ⟨ret_bool (by rw [HM.out,HE0.out];simp),?_⟩)
     all_goals first | exact (HX.trans hB).trans hx4 | exact HX.trans hB
    ·have HE0:=Jh (decide_eq_false e0)
     have e1:(0:Int)<(t.e.length:Int):=by omega
     clear e0
     go_wp2_with (first | (go_at_call 82;refine ((hT _).out hB).mono ?_;rintro r w4 ⟨rfl,hx4⟩))
     all_goals go_ret
     all_goals (refine ⟨ret_bool (by rw [HM.out,HE0.out];simp),?_⟩)
     all_goals first | exact (HX.trans hB).trans hx4 | exact HX.trans hB
   ·have hm:=HM2.out
    rw [if_neg o3,if_neg o1,if_neg o2,if_neg o5] at hm
    have HM:=Jh hm
    clear hm HM2
    go_wp2_with fail
    all_goals go_ret
    all_goals exact ⟨ret_bool (by rw [HM.out]),HX.trans hB⟩
  ·go_wp2_with fail
   go_ret
   exact ⟨ret_bool (by rw [HM.out];simp),HX.trans hB⟩
theorem shapeT_both (ls:List Signal) (t:T):ShapeTSaid ls t/\∀ x∈t.l,ShapeTSaid ls x:=by
 induction t using T.ind with
 | h t ih=>exact ⟨shapeT_step ls t (fun x hx=>(ih x hx).1) (fun x hx=>(ih x hx).2),fun x hx=>(ih x hx).1⟩
theorem shapeT_calls (ls:List Signal) (t:T):ShapeTSaid ls t:=(shapeT_both ls t).1
end Go.Proofs.YtpngepnfinbaoaaGreat
