/- Laws and walks that a claim of this seat leans on: Shape2. -/
import Derived.Test.YtpngepnfinbaoaaGreatC07
import Derived.Deep.DeepCutAuto
import Derived.Deep.CutBlock
import Derived.Test.YtpngepnfinbaoaaGreatC00
set_option maxRecDepth 100000
set_option maxHeartbeats 8000000
set_option linter.all false
namespace Go.Proofs.YtpngepnfinbaoaaGreat
open Go.RowKit
theorem shape1_calls (sl:Value) (N:Nat) (cs:List Value) (hn:cs.length=8) (w:World) (hN:Has w N 0 [sl]) (b:Bool)
  (HC:∀ w',Ext w w'->Calls Tryz.prog 84 #[sl,.agg cs.toArray] w' fun r w''=>r=.returned (.bool b)/\Ext w' w'') :
  Calls Tryz.prog 114 #[.agg cs.toArray,.pointer (some ⟨N,0,none⟩)] w fun r w'=>r=.returned (.bool (!b))/\Ext w w':=by
 have HX:=Jh (ext_alloc w (.cells cs.toArray 31))
 have hb:=Has.alloc w cs 31
 have hc:=(hN.ext HX.out) 0 _ rfl
 have HQ:=Jh (HC _ HX.out)
 clear HC
 go_enter Tryz.func114,Tryz.ntmps114
 go_wp2_with (first | ((with_reducible show Jl 31);refine Jm 31 (hb) agg_E hn ?_) | (go_at_call 84;refine HQ.out.mono ?_;rintro r w1 ⟨rfl,hx1⟩))
 all_goals go_ret
 all_goals exact ⟨by first | rfl | simp,HX.out.trans hx1⟩
theorem leads_shape1:Leads Tryz.prog 114:=leads_of Tryz.func114 (by kernel_rfl) rfl
theorem eqE_zero (v sig hi lo n:Int):eqE ⟨0,0,v,sig,hi,lo,n,[]⟩ ⟨0,0,0,0,0,0,0,[]⟩=(decide (v=0)&&decide (sig=0)&&decide (hi=0)&&decide (lo=0)&&decide (n=0)):=by
 simp [eqE,eqE.rows]
theorem Sl.none {α:Type} {size:Nat} {R:α->Nat->Nat->Prop}:Sl size R (.slice Option.none 0 0) ([]:List α):=Sl.nil size R
def zeros5 (v sig hi lo n:Int):Bool:=decide (v=0)&&decide (sig=0)&&decide (hi=0)&&decide (lo=0)&&decide (n=0)
abbrev leftOf (v sig hi lo n:Int):List Value:=[.int .i64 0,.int .i64 0,.int .u64 v,.int .i64 sig,.int .i64 hi,.int .i64 lo,.int .i64 n,.slice Option.none 0 0]
def Mid (w:World) (N:Nat) (sl:Value) (cs:List Value) (T2:TypeId) (good:Bool) (ok:Value) (wr:World):Prop :=
 ∃ b v sig hi lo n,ok=.bool b/\(b&&zeros5 v sig hi lo n)=good/\Has wr N 0 [sl]/\Has wr (N+1) 0 cs/\Blk wr (N+1+1) (leftOf v sig hi lo n).toArray T2/\Ext w wr
theorem any_not {α:Type} (p:α->Bool) (l:List α):l.all p = !(l.any fun x=>!p x):=by
 induction l with
 | nil=>rfl
 | cons x l ih=>simp [ih]
theorem shape_step (ls:List Signal) (e:E) (ih:∀ x∈e.l,x.wf->∀ (sl:Value) (cs:List Value) (w:World) (_:Sigs w sl ls) (_:VE w cs x),
   Calls Tryz.prog 84 #[sl,.agg cs.toArray] w fun r w'=>r=.returned (.bool (shape ls x))/\Ext w w') (hwf:e.wf)
  (sl:Value) (cs:List Value) (w:World) (hS:Sigs w sl ls) (hV:VE w cs e) :
  Calls Tryz.prog 84 #[sl,.agg cs.toArray] w fun r w'=>r=.returned (.bool (shape ls e))/\Ext w w':=by
 have IH:=Jh ih
 clear ih
 have HE:=Jh (shape_eq ls e)
 obtain ⟨s,rfl,hs⟩:=hV
 obtain ⟨wf1,wf2,wf3,wf4,wf5,wf6,wf7,wf8⟩:=(E.wf_iff e).1 hwf
 have HW3:=Jh wf3
 have HW4:=Jh wf4
 have HW8:=Jh wf8
 clear hwf wf1 wf2 wf3 wf4 wf5 wf6 wf7 wf8
 have HS:=Jh hS
 have HEs:=Jh hs
 obtain ⟨a,b,o,cap,hsl,hc1,hc2,ha,hr⟩:=hs.open
 obtain ⟨a',b',o',cap',hsl',hc1',hc2',ha',hr'⟩:=hS.open
 obtain ⟨op,wd,v,sig,hi,lo,n,l⟩:=e
 simp only at hsl hc1 HE HEs IH HW3 HW4 HW8
 subst hsl
 subst hsl'
 clear hS hs hr hr' ha ha'
 have HX:=((ext_alloc w (.cells #[.slice a' ls.length cap'] 22)).alloc (.cells (E.cells ⟨op,wd,v,sig,hi,lo,n,l⟩ (.slice a l.length cap)).toArray 31)).alloc (.cells (leftOf v sig hi lo n).toArray 31)
 have hB1:=((Has.alloc w [.slice a' ls.length cap'] 22).ext (ext_alloc _ (.cells (E.cells ⟨op,wd,v,sig,hi,lo,n,l⟩ (.slice a l.length cap)).toArray 31))).ext (ext_alloc _ (.cells (leftOf v sig hi lo n).toArray 31))
 have hB2:=(Has.alloc (w.alloc (.cells #[.slice a' ls.length cap'] 22)) (E.cells ⟨op,wd,v,sig,hi,lo,n,l⟩ (.slice a l.length cap)) 31).ext (ext_alloc _ (.cells (leftOf v sig hi lo n).toArray 31))
 have hB3:=Blk.new ((w.alloc (.cells #[.slice a' ls.length cap'] 22)).alloc (.cells (E.cells ⟨op,wd,v,sig,hi,lo,n,l⟩ (.slice a l.length cap)).toArray 31)) (leftOf v sig hi lo n).toArray 31
 simp only [World.size_alloc] at hB2 hB3
 go_enter Tryz.func84,Tryz.ntmps84
 go_upto_region 3 with (first | ((with_reducible show Js 31);refine wpList_store_new rfl 31 _ _ rfl rfl (by first | rfl | simp) rfl agg_E (rfl) rfl (rfl) ?_))
 generalize ((w.alloc _).alloc _).alloc _=w3 at *
 have g0:=hB2 0 _ rfl
 go_upto_block 0 with (fail)
 clear g0
 obtain ⟨len,hlen⟩:∃ len,l.length=len:=⟨_,rfl⟩
 rw [hlen] at hB2 hc1 ⊢
 have Hlen:=Jh hlen
 clear hlen
 have HB1:=Jh hB1
 have HB2:=Jh hB2
 have HB3:=Jh hB3
 clear hB1 hB2 hB3
 go_cut [1,6,7] (fun _ _ ok wr=>Mid w w.heap.size (.slice a' ls.length cap') (E.cells ⟨op,wd,v,sig,hi,lo,n,l⟩ (.slice a len cap)) 31 (shape0 ls op wd v sig hi lo n len) ok wr)
 case first =>
  have g1:=HB2.out 1 _ rfl
  have g2:=HB2.out 2 _ rfl
  have g3:=HB2.out 3 _ rfl
  have g4:=HB2.out 4 _ rfl
  have g5:=HB2.out 5 _ rfl
  have g6:=HB2.out 6 _ rfl
  have g:=HB1.out 0 _ rfl
  have s2:w3.cell? ⟨w.heap.size+1+1,2,Option.none⟩=some (.int .u64 v):=by rw [HB3.out.cell];rfl
  have s3:w3.cell? ⟨w.heap.size+1+1,3,Option.none⟩=some (.int .i64 sig):=by rw [HB3.out.cell];rfl
  have s4:w3.cell? ⟨w.heap.size+1+1,4,Option.none⟩=some (.int .i64 hi):=by rw [HB3.out.cell];rfl
  have s5:w3.cell? ⟨w.heap.size+1+1,5,Option.none⟩=some (.int .i64 lo):=by rw [HB3.out.cell];rfl
  have s6:w3.cell? ⟨w.heap.size+1+1,6,Option.none⟩=some (.int .i64 n):=by rw [HB3.out.cell];rfl
  have f2:=HB3.out.frozen 2
  have f3:=HB3.out.frozen 3
  have f4:=HB3.out.frozen 4
  have f5:=HB3.out.frozen 5
  have f6:=HB3.out.frozen 6
  have hh1:=hc2'
  by_cases o1:op=1
  ·obtain rfl:=o1
   go_wp2_with (first | (go_at_call 43;refine (holds_calls wd v _ HW3.out).mono ?_;rintro r w1 ⟨rfl,rfl⟩))
   all_goals go_meet
   all_goals case rel=>exact ⟨_,_,_,_,_,_,rfl,(by rw [Bool.eq_iff_iff];first | (simp [shape0,zeros5];done) | (simp [shape0,zeros5];omega) | (simp [shape0,zeros5, *];done) | (simp [shape0,zeros5, *];omega)),HB1.out.grown (gb_trans (gb_refl w3 _) (gb_set _ (w.heap.size+1+1) 2 _)) (by omega),HB2.out.grown (gb_trans (gb_refl w3 _) (gb_set _ (w.heap.size+1+1) 2 _)) (by omega),(HB3.out.set 2 (.int .u64 0)),HX.grown (gb_trans (gb_refl w3 _) (gb_set _ (w.heap.size+1+1) 2 _)) (by omega)⟩
  by_cases o2:op=2
  ·obtain rfl:=o2
   have HSg:∀ W,Hid (Ext w W->Sigs W (.slice a' ls.length cap') ls):=fun W=>Jh fun hx=>HS.out.ext hx
   go_wp2_with (first | (go_at_call 113;refine (slice_calls ls _ sig hi lo _ ((HSg _).out (HX.grown (gb_trans (gb_trans (gb_trans (gb_refl w3 _) (gb_set _ (w.heap.size+1+1) 3 _)) (gb_set _ (w.heap.size+1+1) 4 _)) (gb_set _ (w.heap.size+1+1) 5 _)) (by omega))) HW4.out).mono ?_;rintro r w1 ⟨rfl,rfl⟩))
   all_goals go_meet
   all_goals case rel=>exact ⟨_,_,_,_,_,_,rfl,(by rw [Bool.eq_iff_iff];first | (simp [shape0,zeros5];done) | (simp [shape0,zeros5];omega) | (simp [shape0,zeros5, *];done) | (simp [shape0,zeros5, *];omega)),HB1.out.grown (gb_trans (gb_trans (gb_trans (gb_refl w3 _) (gb_set _ (w.heap.size+1+1) 3 _)) (gb_set _ (w.heap.size+1+1) 4 _)) (gb_set _ (w.heap.size+1+1) 5 _)) (by omega),HB2.out.grown (gb_trans (gb_trans (gb_trans (gb_refl w3 _) (gb_set _ (w.heap.size+1+1) 3 _)) (gb_set _ (w.heap.size+1+1) 4 _)) (gb_set _ (w.heap.size+1+1) 5 _)) (by omega),(((HB3.out.set 3 (.int .i64 0)).set 4 (.int .i64 0)).set 5 (.int .i64 0)),HX.grown (gb_trans (gb_trans (gb_trans (gb_refl w3 _) (gb_set _ (w.heap.size+1+1) 3 _)) (gb_set _ (w.heap.size+1+1) 4 _)) (gb_set _ (w.heap.size+1+1) 5 _)) (by omega)⟩
  by_cases o3:op=3
  ·obtain rfl:=o3
   go_wp2_with fail
   all_goals go_meet
   all_goals case rel=>exact ⟨_,_,_,_,_,_,rfl,(by rw [Bool.eq_iff_iff];first | (simp [shape0,zeros5];done) | (simp [shape0,zeros5];omega) | (simp [shape0,zeros5, *];done) | (simp [shape0,zeros5, *];omega)),HB1.out.grown (gb_trans (gb_refl w3 _) (gb_set _ (w.heap.size+1+1) 3 _)) (by omega),HB2.out.grown (gb_trans (gb_refl w3 _) (gb_set _ (w.heap.size+1+1) 3 _)) (by omega),(HB3.out.set 3 (.int .i64 0)),HX.grown (gb_trans (gb_refl w3 _) (gb_set _ (w.heap.size+1+1) 3 _)) (by omega)⟩
  by_cases o4:op=4
  ·obtain rfl:=o4
   go_wp2_with fail
   all_goals go_meet
   all_goals case rel=>exact ⟨_,_,_,_,_,_,rfl,(by rw [Bool.eq_iff_iff];first | (simp [shape0,zeros5];done) | (simp [shape0,zeros5];omega) | (simp [shape0,zeros5, *];done) | (simp [shape0,zeros5, *];omega)),HB1.out.grown (gb_trans (gb_refl w3 _) (gb_set _ (w.heap.size+1+1) 6 _)) (by omega),HB2.out.grown (gb_trans (gb_refl w3 _) (gb_set _ (w.heap.size+1+1) 6 _)) (by omega),(HB3.out.set 6 (.int .i64 0)),HX.grown (gb_trans (gb_refl w3 _) (gb_set _ (w.heap.size+1+1) 6 _)) (by omega)⟩
  by_cases o5:op=5
  ·obtain rfl:=o5
   go_wp2_with fail
   all_goals go_meet
   all_goals case rel=>exact ⟨_,_,_,_,_,_,rfl,(by rw [Bool.eq_iff_iff];first | (simp [shape0,zeros5];done) | (simp [shape0,zeros5];omega) | (simp [shape0,zeros5, *];done) | (simp [shape0,zeros5, *];omega)),HB1.out.grown (gb_trans (gb_refl w3 _) (gb_set _ (w.heap.size+1+1) 6 _)) (by omega),HB2.out.grown (gb_trans (gb_refl w3 _) (gb_set _ (w.heap.size+1+1) 6 _)) (by omega),(HB3.out.set 6 (.int .i64 0)),HX.grown (gb_trans (gb_refl w3 _) (gb_set _ (w.heap.size+1+1) 6 _)) (by omega)⟩
  by_cases o6:op=6
  ·obtain rfl:=o6
   go_wp2_with fail
   all_goals go_meet
   all_goals case rel=>exact ⟨_,_,_,_,_,_,rfl,(by rw [Bool.eq_iff_iff];first | (simp [shape0,zeros5];done) | (simp [shape0,zeros5];omega) | (simp [shape0,zeros5, *];done) | (simp [shape0,zeros5, *];omega)),HB1.out,HB2.out,HB3.out,HX⟩
  by_cases o7:op=7
  ·obtain rfl:=o7
   go_wp2_with fail
   all_goals go_meet
   all_goals case rel=>exact ⟨_,_,_,_,_,_,rfl,(by rw [Bool.eq_iff_iff];first | (simp [shape0,zeros5];done) | (simp [shape0,zeros5];omega) | (simp [shape0,zeros5, *];done) | (simp [shape0,zeros5, *];omega)),HB1.out,HB2.out,HB3.out,HX⟩
  by_cases o8:op=8
  ·obtain rfl:=o8
   go_wp2_with fail
   all_goals go_meet
   all_goals case rel=>exact ⟨_,_,_,_,_,_,rfl,(by rw [Bool.eq_iff_iff];first | (simp [shape0,zeros5];done) | (simp [shape0,zeros5];omega) | (simp [shape0,zeros5, *];done) | (simp [shape0,zeros5, *];omega)),HB1.out.grown (gb_trans (gb_refl w3 _) (gb_set _ (w.heap.size+1+1) 6 _)) (by omega),HB2.out.grown (gb_trans (gb_refl w3 _) (gb_set _ (w.heap.size+1+1) 6 _)) (by omega),(HB3.out.set 6 (.int .i64 0)),HX.grown (gb_trans (gb_refl w3 _) (gb_set _ (w.heap.size+1+1) 6 _)) (by omega)⟩
  go_wp2_with fail
  go_ret
  exact ⟨ret_bool (by rw [HE.out];simp [shape0, *]),HX⟩
 case rest =>
  obtain ⟨bb,v',sig',hi',lo',n',rfl,hg,k1,k2,k3,kx⟩:=hcut
  have HG:=Jh hg
  clear hg
  have K1:=Jh k1
  have K2:=Jh k2
  have K3:=Jh k3.has
  clear k1 k2 k3
  cases bb with
  | false =>
   go_wp2_with fail
   go_ret
   exact ⟨ret_bool (by rw [HE.out,Hlen.out,<-HG.out];rfl),kx⟩
  | true =>
   have HZ:=Jh (SameE_calls ⟨0,0,v',sig',hi',lo',n',[]⟩ ⟨0,0,0,0,0,0,0,[]⟩ _ _ wc ⟨_,rfl,Sl.none⟩ ⟨_,rfl,Sl.none⟩)
   rw [eqE_zero] at HZ
   cases hz:zeros5 v' sig' hi' lo' n' with
   | false =>
    have hz':=hz
    unfold zeros5 at hz'
    rw [hz'] at HZ
    rw [hz] at HG
    clear hz hz'
    go_wp2_with (first | ((with_reducible show Jl 31);refine Jm 31 (K3.out) agg_E rfl ?_) | (go_at_call 51;refine HZ.out.mono ?_;rintro r w1 ⟨rfl,hx1⟩))
    go_ret
    exact ⟨ret_bool (by rw [HE.out,Hlen.out,<-HG.out];rfl),kx.trans hx1⟩
   | true =>
    have hz':=hz
    unfold zeros5 at hz'
    rw [hz'] at HZ
    rw [hz] at HG
    clear hz hz'
    have HL:∀ W,Hid (Ext wc W->Calls Tryz.prog 95 #[.slice a len cap,.func (.func 114) #[] #[.pointer (some ⟨w.heap.size,0,Option.none⟩)]] W
      fun r w'=>r=.returned (.bool (l.any fun p=>!shape ls p))/\Ext W w'):=by
     intro W
     refine Jh fun hx=>?_
     have hEs:=HEs.out.ext (kx.trans hx)
     rw [Hlen.out] at hEs
     refine ContainsFunc_E 114 #[.pointer (some ⟨w.heap.size,0,Option.none⟩)] (fun p=>!shape ls p) l _ W hEs leads_shape1 ?_
     intro wr hxr k hk cs hV
     obtain ⟨s1,rfl,hs1⟩:=hV
     exact shape1_calls (.slice a' ls.length cap') w.heap.size _ rfl wr ((K1.out.ext hx).ext hxr) (shape ls l[k])
      (fun w' hx'=>IH.out l[k] (List.getElem_mem hk) (HW8.out _ (List.getElem_mem hk)) _ _ w' (HS.out.ext (((kx.trans hx).trans hxr).trans hx')) ⟨s1,rfl,hs1.ext hx'⟩)
    go_wp2_with (first | ((with_reducible show Jl 31);refine Jm 31 (K3.out) agg_E rfl ?_) | (go_at_call 51;refine HZ.out.mono ?_;rintro r w1 ⟨rfl,hx1⟩;have h7:=(K2.out.ext hx1) 7 _ rfl) | (go_at_call 95;refine ((HL _).out hx1).mono ?_;rintro r w2 ⟨rfl,hx2⟩))
    all_goals go_ret
    all_goals exact ⟨ret_bool (by rw [HE.out,Hlen.out,<-HG.out,any_not];simp [*]),(kx.trans hx1).trans hx2⟩
theorem shape_calls (ls:List Signal) (e:E) (hwf:e.wf) (sl:Value) (cs:List Value) (w:World) (hS:Sigs w sl ls) (hV:VE w cs e) :
  Calls Tryz.prog 84 #[sl,.agg cs.toArray] w fun r w'=>r=.returned (.bool (shape ls e))/\Ext w w' :=
 E.ind (P:=fun x=>x.wf->∀ (sl:Value) (cs:List Value) (w:World) (_:Sigs w sl ls) (_:VE w cs x),
   Calls Tryz.prog 84 #[sl,.agg cs.toArray] w fun r w'=>r=.returned (.bool (shape ls x))/\Ext w w')
  (fun e ih hwf sl cs w hS hV=>shape_step ls e ih hwf sl cs w hS hV) e hwf sl cs w hS hV
end Go.Proofs.YtpngepnfinbaoaaGreat
