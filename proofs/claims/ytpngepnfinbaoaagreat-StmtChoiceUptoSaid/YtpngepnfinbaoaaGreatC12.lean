/- Laws and walks that a claim of this seat leans on: Count2, Fits, SizeDM. -/
import Derived.Test.YtpngepnfinbaoaaGreatCCount
import Derived.Deep.DeepCutAuto
import Derived.Deep.CutBlock
import Derived.Test.YtpngepnfinbaoaaGreatC01
import Derived.Test.YtpngepnfinbaoaaGreatCStmtS
import Derived.Test.YtpngepnfinbaoaaGreatC09
import Derived.Test.YtpngepnfinbaoaaGreatC11
import Derived.Test.YtpngepnfinbaoaaGreatC03
import Derived.Test.YtpngepnfinbaoaaGreatC00
set_option maxRecDepth 100000
set_option maxHeartbeats 8000000
set_option linter.all false
namespace Go.Proofs.YtpngepnfinbaoaaGreat
open Go.RowKit
theorem within_calls (a b:Nat) (w:World) (h1:a<=4194304) (h2:b<=4194304) :
  Calls Tryz.prog 109 #[.agg #[.int .i64 a,.int .i64 b]] w fun r w'=>r=.returned (.agg #[.int .i64 ((a+1:Nat):Int),.int .i64 ((b+1:Nat):Int)])/\Ext w w':=by
 have HX:=Jh (((ext_alloc w (.cells #[.int .i64 a,.int .i64 b] 130)).alloc (.cells [Value.int .i64 ((a:Int)+1),.int .i64 ((b:Int)+1)].toArray 130)))
 have HB:=Jh (Has.alloc (w.alloc (.cells #[.int .i64 a,.int .i64 b] 130)) [Value.int .i64 ((a:Int)+1),.int .i64 ((b:Int)+1)] 130)
 go_enter Tryz.func109,Tryz.ntmps109
 go_wp2_with (first | ((with_reducible show Js 130);refine wpList_store_new rfl 130 _ _ rfl rfl (by first | rfl | simp) rfl agg_count (rfl) rfl (rfl) ?_))
 refine post_ret_blk rfl rfl (by have:=HB.out;rw [World.size_alloc] at this;exact this) agg_count rfl rfl ⟨?_,HX.out⟩
 simp
abbrev cntV (a b:Nat):List Value:=[.int .i64 (a:Int),.int .i64 (b:Int)]
def CountSaid (x:E):Prop:=∀ (cs:List Value) (w:World),VE w cs x->nodes x<=1048576 ->
 Calls Tryz.prog 77 #[.agg cs.toArray] w fun r w'=>r=.returned (.agg (cntV (nodes x) (deep x)).toArray)/\Ext w w'
theorem countE_step (e:E) (ih:∀ x∈e.l,CountSaid x):CountSaid e:=by
 intro cs w hV hb
 have IH:=Jh ih
 clear ih
 obtain ⟨s,rfl,hs⟩:=hV
 have HN:=Jh (nodes_eq e)
 have HD:=Jh (deep_eq e)
 have hdn:=deep_le_nodes e
 rw [deep_eq] at hdn
 rw [nodes_eq] at hb hdn
 obtain ⟨a,b,o,cap,hsl,hc1,hc2,ha,hr⟩:=hs.open
 obtain ⟨op,wd,v,sig,hi,lo,n,l⟩:=e
 simp only at hsl hc1 IH ha hr hb HN HD hdn
 subst hsl
 have HR:=Jh hr
 have HA:=Jh ha
 clear hr ha hs
 have HX:=((ext_alloc w (.cells (E.cells ⟨op,wd,v,sig,hi,lo,n,l⟩ (.slice a l.length cap)).toArray 31)).alloc (.cells #[.int .i64 0,.int .i64 0] 130)).alloc (.cells #[.int .i64 0,.int .i64 0] 130)
 have HB0:=((Has.alloc w (E.cells ⟨op,wd,v,sig,hi,lo,n,l⟩ (.slice a l.length cap)) 31).ext (ext_alloc _ (.cells #[.int .i64 0,.int .i64 0] 130))).ext (ext_alloc _ (.cells #[.int .i64 0,.int .i64 0] 130))
 have HB1:=(Blk.new (w.alloc (.cells (E.cells ⟨op,wd,v,sig,hi,lo,n,l⟩ (.slice a l.length cap)).toArray 31)) #[.int .i64 0,.int .i64 0] 130).alloc (.cells #[.int .i64 0,.int .i64 0] 130)
 have HB2:=Blk.new ((w.alloc (.cells (E.cells ⟨op,wd,v,sig,hi,lo,n,l⟩ (.slice a l.length cap)).toArray 31)).alloc (.cells #[.int .i64 0,.int .i64 0] 130)) #[.int .i64 0,.int .i64 0] 130
 simp only [World.size_alloc] at HB1 HB2
 go_enter Tryz.func77,Tryz.ntmps77
 go_upto_region 2 with (fail)
 generalize ((w.alloc _).alloc _).alloc _=w0 at *
 have g7:=HB0 7 _ rfl
 go_wp2_with fail
 clear g7
 have hml:=maxBy_take_le deep l
 have HML:=Jh hml
 clear hml
 go_loopw [5,9] (fun _ i wr=>∃ k:Nat,k<=l.length/\i=.int .i64 k/\Has wr w.heap.size 0 (E.cells ⟨op,wd,v,sig,hi,lo,n,l⟩ (.slice a l.length cap))/\Blk wr (w.heap.size+1) #[.int .i64 0,.int .i64 0] 130
   /\ Blk wr (w.heap.size+1+1) (cntV (sumBy nodes (l.take k)) (maxBy deep (l.take k))).toArray 130/\Ext w wr) (fun _ i _=>l.length-(intOf i).toNat)
 case atStart=>exact ⟨0,Nat.zero_le _,rfl,HB0,HB1,HB2,HX⟩
 case round =>
  obtain ⟨k,hk,rfl,q0,q1,q2,hB⟩:=hrel
  have Q0:=Jh q0
  have Q1:=Jh q1
  have Q2:=Jh q2
  clear q0 q1 q2 HB0 HB1 HB2
  by_cases hlt:k<l.length
  ·obtain ⟨cs,he1,hn,he2⟩:=VE.get (HR.out.mono fun x _ b o h=>EAt.ext' hB h) hlt
   obtain rfl:=HA.out (by omega)
   have hmem:l[k]∈l:=List.getElem_mem hlt
   have hle:=le_sumBy nodes l _ hmem
   have hle2:=sumBy_take_le nodes l (k+1)
   have hle3:=HML.out (k+1)
   have ht:=sumBy_take nodes l k hlt
   have hu:=maxBy_take deep l k hlt
   rw [ht] at hle2
   rw [hu] at hle3
   have HT:=Jh ht
   have HU:=Jh hu
   clear ht hu
   have HXX:=Jh (ext_alloc wr (.cells cs.toArray 31))
   have HBX:=Jh (Has.alloc wr cs 31)
   have HC:=Jh (IH.out _ hmem cs _ (he2.ext HXX.out) (by omega))
   generalize l[k]=ek at *
   go_wp2_with (first | ((with_reducible show Jl 31);refine Jm 31 (he1) agg_E hn ?_) | ((with_reducible show Jl 31);refine Jm 31 (HBX.out) agg_E hn ?_) | ((with_reducible show Js 31);refine wpList_store_new rfl 31 _ _ rfl rfl (by first | rfl | simp) rfl agg_E (hn) rfl (he2.one) ?_) | (go_at_call 77;refine HC.out.mono ?_;rintro r w1 ⟨rfl,hx1⟩) | (go_at_call 75;refine (add_calls _ _ _ _ _ _ ((Q2.out.ext HXX.out).ext hx1) (by omega) (by omega) (by omega) (by omega)).mono ?_;rintro r w2 ⟨rfl,hb2,hg2⟩))
   go_roundw
   case rel =>
    refine ⟨k+1,by omega,by go_num,((Q0.out.ext HXX.out).ext hx1).grown hg2 (by omega),((Q1.out.ext HXX.out).ext hx1).grown hg2 (by omega),?_,((hB.trans HXX.out).trans hx1).grown hg2 (by omega)⟩
    rw [HT.out,HU.out];exact hb2
   case measure=>simp [intOf];omega
  ·obtain rfl:k=l.length:=by omega
   have q2':=Q2.out
   rw [List.take_length] at q2'
   have hle3:=HML.out l.length
   rw [List.take_length] at hle3
   have K2:=Jh q2'.has
   clear q2'
   go_wp2_with (first | ((with_reducible show Jl 130);refine Jm 130 (K2.out) agg_count rfl ?_) | (go_at_call 109;refine (within_calls _ _ _ (by omega) (by omega)).mono ?_;rintro r w1 ⟨rfl,hx1⟩) | (((with_reducible show Js 130);refine wpList_store_blk rfl 130 _ _ rfl (Q1.out.ext hx1) rfl rfl agg_count rfl rfl rfl ?_;intro w2 hb2 hg2)))
   refine post_ret_blk rfl rfl hb2.has agg_count rfl rfl ⟨?_,((hB.trans hx1).grown hg2 (by omega))⟩
   rw [HN.out,HD.out,Nat.add_comm 1];simp
theorem countE_calls (e:E):CountSaid e:=E.ind (P:=CountSaid) (fun e ih=>countE_step e ih) e
def CountTSaid (x:T):Prop:=∀ (cs:List Value) (w:World),VT w cs x->nodesT x<=1048576 ->
 Calls Tryz.prog 76 #[.agg cs.toArray] w fun r w'=>r=.returned (.agg (cntV (nodesT x) (deepT x)).toArray)/\Ext w w'
theorem countT_step (e:T) (ih:∀ x∈e.l,CountTSaid x):CountTSaid e:=by
 intro cs w hV hb
 have IH:=Jh ih
 clear ih
 obtain ⟨s,s',rfl,hs,hs'⟩:=hV
 have HN:=Jh (nodesT_eq e)
 have HD:=Jh (deepT_eq e)
 have hdn:=deepT_le_nodesT e
 rw [deepT_eq] at hdn
 rw [nodesT_eq] at hb hdn
 obtain ⟨a,b,o,cap,hsl,hc1,hc2,ha,hr⟩:=hs.open
 obtain ⟨a',b',o',cap',hsl',hc1',hc2',ha',hr'⟩:=hs'.open
 obtain ⟨op,sig,hi,lo,es,l⟩:=e
 simp only at hsl hc1 hsl' hc1' IH ha hr ha' hr' hb HN HD hdn
 subst hsl
 subst hsl'
 have HR:=Jh hr
 have HA:=Jh ha
 have HR':=Jh hr'
 have HA':=Jh ha'
 clear hr ha hs hr' ha' hs'
 have HX:=((ext_alloc w (.cells (T.cells ⟨op,sig,hi,lo,es,l⟩ (.slice a es.length cap) (.slice a' l.length cap')).toArray 39)).alloc (.cells #[.int .i64 0,.int .i64 0] 130)).alloc (.cells #[.int .i64 0,.int .i64 0] 130)
 have HB0:=((Has.alloc w (T.cells ⟨op,sig,hi,lo,es,l⟩ (.slice a es.length cap) (.slice a' l.length cap')) 39).ext (ext_alloc _ (.cells #[.int .i64 0,.int .i64 0] 130))).ext (ext_alloc _ (.cells #[.int .i64 0,.int .i64 0] 130))
 have HB1:=(Blk.new (w.alloc (.cells (T.cells ⟨op,sig,hi,lo,es,l⟩ (.slice a es.length cap) (.slice a' l.length cap')).toArray 39)) #[.int .i64 0,.int .i64 0] 130).alloc (.cells #[.int .i64 0,.int .i64 0] 130)
 have HB2:=Blk.new ((w.alloc (.cells (T.cells ⟨op,sig,hi,lo,es,l⟩ (.slice a es.length cap) (.slice a' l.length cap')).toArray 39)).alloc (.cells #[.int .i64 0,.int .i64 0] 130)) #[.int .i64 0,.int .i64 0] 130
 simp only [World.size_alloc] at HB1 HB2
 go_enter Tryz.func76,Tryz.ntmps76
 go_upto_region 2 with (fail)
 generalize ((w.alloc _).alloc _).alloc _=w0 at *
 have g7:=HB0 4 _ rfl
 go_wp2_with fail
 clear g7
 have hml:=maxBy_take_le deep es
 have HML:=Jh hml
 clear hml
 have hml:=maxBy_take_le deepT l
 have HML':=Jh hml
 clear hml
 go_loopw [5,11] (fun _ i wr=>∃ k:Nat,k<=es.length/\i=.int .i64 k/\Has wr w.heap.size 0 (T.cells ⟨op,sig,hi,lo,es,l⟩ (.slice a es.length cap) (.slice a' l.length cap'))/\Blk wr (w.heap.size+1) #[.int .i64 0,.int .i64 0] 130
   /\ Blk wr (w.heap.size+1+1) (cntV (sumBy nodes (es.take k)) (maxBy deep (es.take k))).toArray 130/\Ext w wr) (fun _ i _=>es.length-(intOf i).toNat)
 case atStart=>exact ⟨0,Nat.zero_le _,rfl,HB0,HB1,HB2,HX⟩
 case round =>
  obtain ⟨k,hk,rfl,q0,q1,q2,hB⟩:=hrel
  have Q0:=Jh q0
  have Q1:=Jh q1
  have Q2:=Jh q2
  clear q0 q1 q2 HB0 HB1 HB2
  by_cases hlt:k<es.length
  ·obtain ⟨cs,he1,hn,he2⟩:=VE.get (HR.out.mono fun x _ b o h=>EAt.ext' hB h) hlt
   obtain rfl:=HA.out (by omega)
   have hmem:es[k]∈es:=List.getElem_mem hlt
   have hle:=le_sumBy nodes es _ hmem
   have hle2:=sumBy_take_le nodes es (k+1)
   have hle3:=HML.out (k+1)
   have ht:=sumBy_take nodes es k hlt
   have hu:=maxBy_take deep es k hlt
   rw [ht] at hle2
   rw [hu] at hle3
   have HT:=Jh ht
   have HU:=Jh hu
   clear ht hu
   have HXX:=Jh (ext_alloc wr (.cells cs.toArray 31))
   have HBX:=Jh (Has.alloc wr cs 31)
   have HC:=Jh (countE_calls _ cs _ (he2.ext HXX.out) (by omega))
   generalize es[k]=ek at *
   go_wp2_with (first | ((with_reducible show Jl 31);refine Jm 31 (he1) agg_E hn ?_) | ((with_reducible show Jl 31);refine Jm 31 (HBX.out) agg_E hn ?_) | ((with_reducible show Js 31);refine wpList_store_new rfl 31 _ _ rfl rfl (by first | rfl | simp) rfl agg_E (hn) rfl (he2.one) ?_) | (go_at_call 77;refine HC.out.mono ?_;rintro r w1 ⟨rfl,hx1⟩) | (go_at_call 75;refine (add_calls _ _ _ _ _ _ ((Q2.out.ext HXX.out).ext hx1) (by omega) (by omega) (by omega) (by omega)).mono ?_;rintro r w2 ⟨rfl,hb2,hg2⟩))
   go_roundw
   case rel =>
    refine ⟨k+1,by omega,by go_num,((Q0.out.ext HXX.out).ext hx1).grown hg2 (by omega),((Q1.out.ext HXX.out).ext hx1).grown hg2 (by omega),?_,((hB.trans HXX.out).trans hx1).grown hg2 (by omega)⟩
    rw [HT.out,HU.out];exact hb2
   case measure=>simp [intOf];omega
  ·obtain rfl:k=es.length:=by omega
   have q2':=Q2.out
   rw [List.take_length] at q2'
   have hle3:=HML.out es.length
   rw [List.take_length] at hle3
   have g7:=Q0.out 5 _ rfl
   go_wp2_with fail
   clear g7 HX
   have Q00:=Jh Q0.out
   have Q11:=Jh Q1.out
   have Q22:=Jh q2'
   clear Q0 Q1 Q2 q2'
   generalize wr=w9 at *
   go_loopw [7,22] (fun _ i wr=>∃ k:Nat,k<=l.length/\i=.int .i64 k/\Has wr w.heap.size 0 (T.cells ⟨op,sig,hi,lo,es,l⟩ (.slice a es.length cap) (.slice a' l.length cap'))/\Blk wr (w.heap.size+1) #[.int .i64 0,.int .i64 0] 130
     /\ Blk wr (w.heap.size+1+1) (cntV (sumBy nodes es+sumBy nodesT (l.take k)) (max (maxBy deep es) (maxBy deepT (l.take k)))).toArray 130/\Ext w wr) (fun _ i _=>l.length-(intOf i).toNat)
   case atStart=>exact ⟨0,Nat.zero_le _,rfl,Q00.out,Q11.out,by simpa [sumBy,maxBy] using Q22.out,hB⟩
   case round =>
    obtain ⟨k,hk,rfl,q0,q1,q2,hB⟩:=hrel
    have Q0:=Jh q0
    have Q1:=Jh q1
    have Q2:=Jh q2
    clear q0 q1 q2 Q00 Q11 Q22
    by_cases hlt:k<l.length
    ·obtain ⟨cs,he1,hn,he2⟩:=VT.get (HR'.out.mono fun x _ b o h=>TAt.ext' hB h) hlt
     obtain rfl:=HA'.out (by omega)
     have hmem:l[k]∈l:=List.getElem_mem hlt
     have hle:=le_sumBy nodesT l _ hmem
     have hle2:=sumBy_take_le nodesT l (k+1)
     have hle3':=HML'.out (k+1)
     have ht:=sumBy_take nodesT l k hlt
     have hu:=maxBy_take deepT l k hlt
     rw [ht] at hle2
     rw [hu] at hle3'
     have HT:=Jh ht
     have HU:=Jh hu
     clear ht hu
     have HXX:=Jh (ext_alloc wr (.cells cs.toArray 39))
     have HBX:=Jh (Has.alloc wr cs 39)
     have HC:=Jh (IH.out _ hmem cs _ (he2.ext HXX.out) (by omega))
     generalize l[k]=ek at *
     go_wp2_with (first | ((with_reducible show Jl 39);refine Jm 39 (he1) agg_T hn ?_) | ((with_reducible show Jl 39);refine Jm 39 (HBX.out) agg_T hn ?_) | ((with_reducible show Js 39);refine wpList_store_new rfl 39 _ _ rfl rfl (by first | rfl | simp) rfl agg_T (hn) rfl (he2.one) ?_) | (go_at_call 76;refine HC.out.mono ?_;rintro r w1 ⟨rfl,hx1⟩) | (go_at_call 75;refine (add_calls _ _ _ _ _ _ ((Q2.out.ext HXX.out).ext hx1) (by omega) (by omega) (by omega) (by omega)).mono ?_;rintro r w2 ⟨rfl,hb2,hg2⟩))
     go_roundw
     case rel =>
      refine ⟨k+1,by omega,by go_num,((Q0.out.ext HXX.out).ext hx1).grown hg2 (by omega),((Q1.out.ext HXX.out).ext hx1).grown hg2 (by omega),?_,((hB.trans HXX.out).trans hx1).grown hg2 (by omega)⟩
      rw [HT.out,HU.out,<-Nat.add_assoc,<-Nat.max_assoc];exact hb2
     case measure=>simp [intOf];omega
    ·obtain rfl:k=l.length:=by omega
     have q2':=Q2.out
     rw [List.take_length] at q2'
     have hle3':=HML'.out l.length
     rw [List.take_length] at hle3'
     have K2:=Jh q2'.has
     clear q2'
     go_wp2_with (first | ((with_reducible show Jl 130);refine Jm 130 (K2.out) agg_count rfl ?_) | (go_at_call 109;refine (within_calls _ _ _ (by omega) (by omega)).mono ?_;rintro r w1 ⟨rfl,hx1⟩) | (((with_reducible show Js 130);refine wpList_store_blk rfl 130 _ _ rfl (Q1.out.ext hx1) rfl rfl agg_count rfl rfl rfl ?_;intro w2 hb2 hg2)))
     refine post_ret_blk rfl rfl hb2.has agg_count rfl rfl ⟨?_,((hB.trans hx1).grown hg2 (by omega))⟩
     rw [HN.out,HD.out];simp;omega
theorem countT_calls (t:T):CountTSaid t:=T.ind (P:=CountTSaid) (fun t ih=>countT_step t ih) t
theorem cfits_calls (a b:Nat) (w:World) :
  Calls Tryz.prog 78 #[.agg (cntV a b).toArray] w fun r w'=>r=.returned (.bool (decide (a<=65536)&&decide (b<=64)))/\Ext w w':=by
 have HX:=Jh (ext_alloc w (.cells (cntV a b).toArray 130))
 go_enter Tryz.func78,Tryz.ntmps78
 go_wp2_with fail
 all_goals go_ret
 all_goals exact ⟨ret_bool (Bool.eq_iff_iff.2 (by simp;omega)),HX.out⟩
def bitsN (l:List Signal):Nat:=sumBy (fun s=>(max 0 (min s.w 4097)).toNat) l
theorem bitsN_le (l:List Signal):bitsN l<=4097*l.length:=by
 unfold bitsN
 induction l with
 | nil=>simp [sumBy]
 | cons x l ih=>simp only [sumBy,List.length_cons];omega
def fitsM (d:Flat):Bool:=decide (d.signals.length<=512)&&decide (d.procs.length<=1024)&&decide (bitsN d.signals<=4096)&&(decide (mNodes d<=65536)&&decide (mDeep d<=64))
theorem fits_calls (d:Flat) (v:Value) (w:World) (h:FlatV w v d) (hb:mNodes d<=1048576) (hl:d.signals.length<=1048576) (hwf:∀ x∈d.signals,x.wf) :
  Calls Tryz.prog 39 #[v] w fun r w'=>r=.returned (.bool (fitsM d))/\Ext w w':=by
 have hdn:=mDeep_le d
 have HM:=Jh (show fitsM d=_ from by unfold fitsM;rfl)
 have HMN:=Jh (show mNodes d=_ from by unfold mNodes;rfl)
 have HMD:=Jh (show mDeep d=_ from by unfold mDeep;rfl)
 have hMN:=HMN.out
 have hMD:=HMD.out
 rw [hMN] at hb hdn
 rw [hMD] at hdn
 clear hMN hMD
 have HWF:=Jh hwf
 clear hwf
 obtain ⟨sv,pv,cv,rfl,hS,hP,hC⟩:=h
 obtain ⟨xs,bs,os,caps,e1,hs1,hs2,hs3,hsr⟩:=hS.open
 obtain ⟨ap,bp,op,capp,e2,hp1,hp2,hp3,hpr⟩:=hP.open
 obtain ⟨ac,bc,oc,capc,e3,hq1,hq2,hq3,hqr⟩:=hC.open
 subst e1;subst e2;subst e3
 have HSR:=Jh hsr
 have HPR:=Jh hpr
 have HQR:=Jh hqr
 have HS3:=Jh hs3
 have HP3:=Jh hp3
 have HQ3:=Jh hq3
 clear hS hP hC hsr hpr hqr hs3 hp3 hq3
 obtain ⟨ls,lp,lc⟩:=d
 simp only at *
 have hbits:=bitsN_le ls
 have hX:=ext_alloc w (.cells [.slice xs ls.length caps,.slice ap lp.length capp,.slice ac lc.length capc].toArray 26)
 have hB0:=Has.alloc w [.slice xs ls.length caps,.slice ap lp.length capp,.slice ac lc.length capc] 26
 have hNd:w.heap.size<(w.alloc (.cells [.slice xs ls.length caps,.slice ap lp.length capp,.slice ac lc.length capc].toArray 26)).heap.size:=by simp
 go_enter Tryz.func39,Tryz.ntmps39
 go_upto_region 2 with fail
 generalize w.alloc _=w0 at *
 have HX:=Jh hX
 have HB0:=Jh hB0
 clear hX hB0
 have g0:=HB0.out 0 _ rfl
 go_wp2_with fail
 clear g0
 go_loopw [3,5,16] (fun n _ i wr=>∃ k:Nat,k<=ls.length/\i=.int .i64 k/\n=.int .i64 ((bitsN (ls.take k):Nat):Int)/\Ext w0 wr) (fun _ _ i _=>ls.length-(intOf i).toNat)
 case atStart=>exact ⟨0,Nat.zero_le _,rfl,by simp [bitsN,sumBy],Below.refl _ _⟩
 case round =>
  obtain ⟨k,hk,rfl,rfl,hB⟩:=hrel
  by_cases hlt:k<ls.length
  ·have he:=Sigs.get (HSR.out.mono fun x _ b o h=>SigAt.ext' (HX.out.trans hB) h) hlt
   obtain rfl:=HS3.out (by omega)
   have ht:=sumBy_take (fun s:Signal=>(max 0 (min s.w 4097)).toNat) ls k hlt
   have hle:=sumBy_take_le (fun s:Signal=>(max 0 (min s.w 4097)).toNat) ls (k+1)
   have HW:=Jh (HWF.out _ (List.getElem_mem hlt))
   generalize ls[k]=x at *
   have HT:=Jh (show bitsN (ls.take (k+1))=bitsN (ls.take k)+(max 0 (min x.w 4097)).toNat from ht)
   have hle2:bitsN (ls.take k)+(max 0 (min x.w 4097)).toNat<=4097*ls.length:=by rw [<-HT.out];exact Nat.le_trans hle hbits
   clear ht hle
   have HE:=Jh he
   clear he
   have HXX:=Jh (ext_alloc wr (.cells x.cells.toArray 50))
   have HBX:=Jh (Has.alloc wr x.cells 50)
   have g1:=HBX.out 1 _ rfl
   go_wp2_with (first | ((with_reducible show Jl 50);refine Jm 50 (HE.out) agg_Signal rfl ?_) | ((with_reducible show Js 50);refine wpList_store_new rfl 50 _ _ rfl rfl (by first | rfl | simp) rfl agg_Signal (rfl) rfl (by rfl) ?_))
   go_roundw
   case rel=>exact ⟨k+1,by omega,by go_num,by rw [HT.out];congr 1;(repeat' split)<;>omega,hB.trans HXX.out⟩
   case measure=>simp [intOf];omega
  ·obtain rfl:k=ls.length:=by omega
   have hbl:bitsN (ls.take ls.length)<=4097*ls.length:=by rw [List.take_length];exact hbits
   have HTL:=Jh (List.take_length (l:=ls))
   rw [HTL.out] at hbl ⊢
   have hBB:=hB
   have hK:=HB0.out.ext hB
   go_upto_region 8 with fail
   have hC0:=Blk.new wr #[.int .i64 0,.int .i64 0] 130
   have hX1:=(HX.out.trans hB).alloc (.cells #[.int .i64 0,.int .i64 0] 130)
   have hK1:=hK.ext (ext_alloc wr (.cells #[.int .i64 0,.int .i64 0] 130))
   have hNB:w.heap.size<wr.heap.size:=Nat.lt_of_lt_of_le hNd hB.size
   generalize wr.heap.size=B at *
   generalize wr.alloc _=w1 at *
   clear hBB hK hB hNd
   have HX1:=Jh hX1
   have HK1:=Jh hK1
   have HC0:=Jh hC0
   clear hX1 hK1 hC0 HX HB0
   have g1:=HK1.out 1 _ rfl
   go_wp2_with fail
   clear g1
   have hml:=maxBy_take_le (fun p:Proc=>maxBy deepT p.l) lp
   have Hml:=Jh hml
   have hml2:=maxBy_take_le (fun c:Chk=>deep c.e) lc
   have Hml2:=Jh hml2
   clear hml hml2
   go_loopw [8,10,30] (fun _ _ i wr=>∃ k:Nat,k<=lp.length/\i=.int .i64 k/\Has wr w.heap.size 0 [.slice xs ls.length caps,.slice ap lp.length capp,.slice ac lc.length capc]
     /\ Blk wr B (cntV (sumBy (fun p=>sumBy nodesT p.l) (lp.take k)) (maxBy (fun p=>maxBy deepT p.l) (lp.take k))).toArray 130/\Ext w wr) (fun _ _ i _=>lp.length-(intOf i).toNat)
   case atStart=>exact ⟨0,Nat.zero_le _,rfl,HK1.out,HC0.out,HX1.out⟩
   case round =>
    obtain ⟨k,hk,rfl,q0,q1,hB⟩:=hrel
    have Q0:=Jh q0
    have Q1:=Jh q1
    clear q0 q1
    by_cases hlt:k<lp.length
    ·obtain ⟨s1,he1,he2⟩:=Procs.get HPR.out hlt
     obtain rfl:=HP3.out (by omega)
     have hle:=sumBy_take_le (fun p:Proc=>sumBy nodesT p.l) lp (k+1)
     have hle2:=Hml.out (k+1)
     have ht:=sumBy_take (fun p:Proc=>sumBy nodesT p.l) lp k hlt
     have hu:=maxBy_take (fun p:Proc=>maxBy deepT p.l) lp k hlt
     rw [ht] at hle
     rw [hu] at hle2
     have HT:=Jh ht
     have HU:=Jh hu
     clear ht hu
     generalize lp[k]=pk at *
     try simp only at hle hle2
     obtain ⟨ax,bx,ox,capx,hsx,hx1,hx2,hx3,hxr⟩:=he2.open
     subst hsx
     have HE1:=Jh (he1.ext hB)
     have HX3:=Jh hx3
     have HXR:=Jh hxr
     clear he1 he2 hx3 hxr
     have HXX:=Jh (ext_alloc wr (.cells (pk.cells (.slice ax pk.l.length capx)).toArray 36))
     have HBX:=Jh (Has.alloc wr (pk.cells (.slice ax pk.l.length capx)) 36)
     have g1:=HBX.out 1 _ rfl
     go_wp2_with (first | ((with_reducible show Jl 36);refine Jm 36 (HE1.out) agg_Proc rfl ?_) | ((with_reducible show Js 36);refine wpList_store_new rfl 36 _ _ rfl rfl (by first | rfl | simp) rfl agg_Proc (rfl) rfl (by rfl) ?_))
     clear g1
     have hml3:=maxBy_take_le deepT pk.l
     have Hml3:=Jh hml3
     clear hml3
     have R0:=Jh (Q0.out.ext HXX.out)
     have R1:=Jh (Q1.out.ext HXX.out)
     have HBr:=Jh (hB.trans HXX.out)
     clear Q0 Q1 HBX HE1
     have hwrX:=HXX.out
     generalize wr.alloc _=w2 at *
     clear hwrX HXX
     have hB2:=HBr.out
     go_loopw [10,37] (fun _ i wr=>∃ j:Nat,j<=pk.l.length/\i=.int .i64 j/\Has wr w.heap.size 0 [.slice xs ls.length caps,.slice (some ⟨bp,op,none⟩) lp.length capp,.slice ac lc.length capc]
       /\ Blk wr B (cntV (sumBy (fun p=>sumBy nodesT p.l) (lp.take k)+sumBy nodesT (pk.l.take j)) (max (maxBy (fun p=>maxBy deepT p.l) (lp.take k)) (maxBy deepT (pk.l.take j)))).toArray 130/\Ext w wr) (fun _ i _=>pk.l.length-(intOf i).toNat)
     case atStart=>exact ⟨0,Nat.zero_le _,rfl,R0.out,by simpa [sumBy,maxBy] using R1.out,hB2⟩
     case round =>
      obtain ⟨j,hj,rfl,q0,q1,hB⟩:=hrel
      have Q0:=Jh q0
      have Q1:=Jh q1
      clear q0 q1 R0 R1
      by_cases hjt:j<pk.l.length
      ·obtain rfl:=HX3.out (by omega)
       obtain ⟨cs,hf1,hn,hf2⟩:=VT.get (HXR.out.mono fun x _ b o h=>TAt.ext' hB h) hjt
       have hmem:pk.l[j]∈pk.l:=List.getElem_mem hjt
       have hle4:=sumBy_take_le nodesT pk.l (j+1)
       have hle5:=Hml3.out (j+1)
       have ht2:=sumBy_take nodesT pk.l j hjt
       have hu2:=maxBy_take deepT pk.l j hjt
       rw [ht2] at hle4
       rw [hu2] at hle5
       have HT2:=Jh ht2
       have HU2:=Jh hu2
       clear ht2 hu2
       have HXX:=Jh (ext_alloc wr (.cells cs.toArray 39))
       have HBX:=Jh (Has.alloc wr cs 39)
       have HC:=Jh (countT_calls _ cs _ (hf2.ext HXX.out) (by omega))
       generalize pk.l[j]=tk at *
       go_wp2_with (first | ((with_reducible show Jl 39);refine Jm 39 (hf1) agg_T hn ?_) | ((with_reducible show Jl 39);refine Jm 39 (HBX.out) agg_T hn ?_) | ((with_reducible show Js 39);refine wpList_store_new rfl 39 _ _ rfl rfl (by first | rfl | simp) rfl agg_T (hn) rfl (hf2.one) ?_) | (go_at_call 76;refine HC.out.mono ?_;rintro r w1 ⟨rfl,hx1⟩) | (go_at_call 75;refine (add_calls _ _ _ _ _ _ ((Q1.out.ext HXX.out).ext hx1) (by omega) (by omega) (by omega) (by omega)).mono ?_;rintro r w2 ⟨rfl,hb2,hg2⟩))
       go_roundw
       case rel =>
        refine ⟨j+1,by omega,by go_num,((Q0.out.ext HXX.out).ext hx1).grown hg2 (by omega),?_,((hB.trans HXX.out).trans hx1).grown hg2 (by omega)⟩
        rw [HT2.out,HU2.out,<-Nat.add_assoc,<-Nat.max_assoc];exact hb2
       case measure=>simp [intOf];omega
      ·obtain rfl:j=pk.l.length:=by omega
       have q1:=Q1.out
       rw [List.take_length] at q1
       have Q2:=Jh q1
       clear q1
       go_wp2_with fail
       go_roundw
       case rel=>exact ⟨k+1,by omega,by go_num,Q0.out,by rw [HT.out,HU.out];exact Q2.out,hB⟩
       case measure=>simp [intOf];omega
    ·obtain rfl:k=lp.length:=by omega
     have q1:=Q1.out
     rw [List.take_length] at q1
     have Q2:=Jh q1
     clear q1 Q1
     have g2:=Q0.out 2 _ rfl
     go_wp2_with fail
     clear g2
     have K0:=Jh Q0.out
     have K1:=Jh Q2.out
     clear Q0 Q2
     generalize wr=w3 at *
     go_loopw [12,49] (fun _ i wr=>∃ k:Nat,k<=lc.length/\i=.int .i64 k/\Has wr w.heap.size 0 [.slice xs ls.length caps,.slice ap lp.length capp,.slice ac lc.length capc]
       /\ Blk wr B (cntV (sumBy (fun p=>sumBy nodesT p.l) lp+sumBy (fun c=>nodes c.e) (lc.take k)) (max (maxBy (fun p=>maxBy deepT p.l) lp) (maxBy (fun c=>deep c.e) (lc.take k)))).toArray 130/\Ext w wr) (fun _ i _=>lc.length-(intOf i).toNat)
     case atStart=>exact ⟨0,Nat.zero_le _,rfl,K0.out,by simpa [sumBy,maxBy] using K1.out,hB⟩
     case round =>
      obtain ⟨k,hk,rfl,q0,q1,hB⟩:=hrel
      have Q0:=Jh q0
      have Q1:=Jh q1
      clear q0 q1 K0 K1
      by_cases hlt:k<lc.length
      ·obtain ⟨s1,he1,he2⟩:=Chks.get (HQR.out.mono fun x _ b o h=>ChkAt.ext h hB) hlt
       obtain rfl:=HQ3.out (by omega)
       have hle:=sumBy_take_le (fun c:Chk=>nodes c.e) lc (k+1)
       have hle2:=Hml2.out (k+1)
       have ht:=sumBy_take (fun c:Chk=>nodes c.e) lc k hlt
       have hu:=maxBy_take (fun c:Chk=>deep c.e) lc k hlt
       rw [ht] at hle
       rw [hu] at hle2
       have HT:=Jh ht
       have HU:=Jh hu
       clear ht hu
       generalize lc[k]=ck at *
       try simp only at hle hle2
       have HE1:=Jh he1
       have HO:=Jh he2.one
       have HXX:=Jh (ext_alloc wr (.cells (ck.cells s1).toArray 99))
       have HBX:=Jh (Has.alloc wr (ck.cells s1) 99).tail
       have HC:=Jh (countE_calls _ _ _ ⟨s1,rfl,he2.ext HXX.out⟩ (by omega))
       clear he1 he2
       go_wp2_with (first | ((with_reducible show Jl 99);refine Jm 99 (HE1.out) agg_Check rfl ?_) | ((with_reducible show Jl 31);refine Jm 31 (HBX.out) agg_E rfl ?_) | ((with_reducible show Js 99);refine wpList_store_new rfl 99 _ _ rfl rfl (by first | rfl | simp) rfl agg_Check (rfl) rfl (by simp [HO.out,one_int,one_string]) ?_) | (go_at_call 77;refine HC.out.mono ?_;rintro r w1 ⟨rfl,hx1⟩) | (go_at_call 75;refine (add_calls _ _ _ _ _ _ ((Q1.out.ext HXX.out).ext hx1) (by omega) (by omega) (by omega) (by omega)).mono ?_;rintro r w2 ⟨rfl,hb2,hg2⟩))
       go_roundw
       case rel =>
        refine ⟨k+1,by omega,by go_num,((Q0.out.ext HXX.out).ext hx1).grown hg2 (by omega),?_,((hB.trans HXX.out).trans hx1).grown hg2 (by omega)⟩
        rw [HT.out,HU.out,<-Nat.add_assoc,<-Nat.max_assoc];exact hb2
       case measure=>simp [intOf];omega
      ·obtain rfl:k=lc.length:=by omega
       have q1:=Q1.out
       rw [List.take_length,<-HMN.out,<-HMD.out] at q1
       have K1:=Jh q1.has
       clear q1 Q1
       have g0:=Q0.out 0 _ rfl
       have g1:=Q0.out 1 _ rfl
       obtain ⟨p4,hp4⟩:∃ p,(decide (mNodes ⟨ls,lp,lc⟩<=65536)&&decide (mDeep ⟨ls,lp,lc⟩<=64))=p:=⟨_,rfl⟩
       have hfc:=fun W=>cfits_calls (mNodes ⟨ls,lp,lc⟩) (mDeep ⟨ls,lp,lc⟩) W
       rw [hp4] at hfc
       have HFC:=Jh hfc
       have hm:=HM.out
       rw [hp4] at hm
       have HM2:=Jh hm
       clear hm hfc hp4 HM
       obtain ⟨c1,hc1⟩:∃ p,decide (ls.length<=512)=p:=⟨_,rfl⟩
       obtain ⟨c2,hc2⟩:∃ p,decide (lp.length<=1024)=p:=⟨_,rfl⟩
       obtain ⟨c3,hc3⟩:∃ p,decide (bitsN ls<=4096)=p:=⟨_,rfl⟩
       have d1:decide ((ls.length:Int)<=512)=c1:=by rw [<-hc1,decide_eq_decide];omega
       have d2:decide ((lp.length:Int)<=1024)=c2:=by rw [<-hc2,decide_eq_decide];omega
       have d3:decide ((bitsN ls:Int)<=4096)=c3:=by rw [<-hc3,decide_eq_decide];omega
       have hm:=HM2.out
       rw [hc1,hc2,hc3] at hm
       have HM:=Jh hm
       clear hm hc1 hc2 hc3 HM2
       cases c1<;>cases c2<;>cases c3
       all_goals (go_wp2_with (first | ((with_reducible show Jl 130);refine Jm 130 (K1.out) agg_count rfl ?_) | (go_at_call 78;refine (HFC.out _).mono ?_;rintro r w4 ⟨rfl,hx4⟩)))
       all_goals go_ret
       all_goals (refine ⟨ret_bool (by rw [HM.out];simp),?_⟩)
       all_goals first | exact hB.trans hx4 | exact hB
def szPs (ls:List Signal) (err:Int) (l:List Proc):List Proc × Int:=accum (fun s (p:Proc)=>((⟨p.clocked,(szTL ls p.clocked 0 s p.l).1⟩:Proc),(szTL ls p.clocked 0 s p.l).2)) err l
def szCs (err:Int) (l:List Chk):List Chk × Int:=accum (fun s (c:Chk)=>((⟨c.name,(szE s c.e (-1)).1⟩:Chk),(szE s c.e (-1)).2)) err l
theorem szPs_take (ls:List Signal) (err:Int) (l:List Proc) (k:Nat) (h:k<l.length) :
  szPs ls err (l.take (k+1))=((szPs ls err (l.take k)).1++[⟨l[k].clocked,(szTL ls l[k].clocked 0 (szPs ls err (l.take k)).2 l[k].l).1⟩],(szTL ls l[k].clocked 0 (szPs ls err (l.take k)).2 l[k].l).2):=accum_take _ _ _ _ h
theorem szCs_take (err:Int) (l:List Chk) (k:Nat) (h:k<l.length) :
  szCs err (l.take (k+1))=((szCs err (l.take k)).1++[⟨l[k].name,(szE (szCs err (l.take k)).2 l[k].e (-1)).1⟩],(szE (szCs err (l.take k)).2 l[k].e (-1)).2):=accum_take _ _ _ _ h
theorem szPs_length (ls:List Signal) (err:Int) (l:List Proc):(szPs ls err l).1.length=l.length:=accum_length _ _ _
theorem szCs_length (err:Int) (l:List Chk):(szCs err l).1.length=l.length:=accum_length _ _ _
def sizeD (d:Flat):Except Int Flat :=
 if fitsM d=false then .error 2 else if shapedM d=false then .error 1 else if (d.signals.any fun s=>!holds s.w s.init)=true then .error 92
 else if (szCs (szPs d.signals 0 d.procs).2 d.checks).2≠0 then .error (szCs (szPs d.signals 0 d.procs).2 d.checks).2
 else .ok ⟨d.signals,(szPs d.signals 0 d.procs).1,(szCs (szPs d.signals 0 d.procs).2 d.checks).1⟩
abbrev zero3:List Value:=[.slice Option.none 0 0,.slice Option.none 0 0,.slice Option.none 0 0]
def SizeDPost (w:World) (o:Except Int Flat) (r:Ending) (w':World):Prop :=
 (∃ g,o=.error g/\g≠0/\r=.returned (.tuple #[.agg zero3.toArray,.int .i64 g])/\Ext w w') \/
 (∃ y a b c,o=.ok y/\r=.returned (.tuple #[.agg #[a,b,c],.int .i64 0])/\FlatV w' (.agg #[a,b,c]) y/\Ext w w')
theorem sigs_w (seen:List (List UInt8)) (l:List Signal) (h:sigsOk seen l=true):∀ x∈l,x.w<=64:=by
 induction l generalizing seen with
 | nil=>intro x hx;cases hx
 | cons y l ih =>
  rw [sigsOk,Bool.and_eq_true] at h
  intro x hx
  cases hx with
  | head =>
   have:=h.1
   unfold sigOk at this
   simp only [Bool.and_eq_true,decide_eq_true_eq] at this
   omega
  | tail _ hx=>exact ih _ h.2 x hx
theorem stOk_of_shaped (d:Flat) (h:shapedM d=true):(∀ p∈d.procs,∀ t∈p.l,StOk d.signals t)/\∀ c∈d.checks,OwnOk c.e:=by
 unfold shapedM at h
 simp only [Bool.and_eq_true,Bool.not_eq_true',List.any_eq_false,Bool.not_eq_eq_eq_not,Bool.not_true] at h
 obtain ⟨⟨h1,h2⟩,h3⟩:=h
 have hw:=sigs_w _ _ h1
 refine ⟨fun p hp t ht=>(stOk_of_shapeT d.signals hw t).1 ?_,fun c hc=>ownOk_of_shape d.signals hw c.e ?_⟩
 ·have:=h2 p hp
  simp only [List.any_eq_true,not_exists,not_and] at this
  simpa using this t ht
 ·simpa using h3 c hc
end Go.Proofs.YtpngepnfinbaoaaGreat
