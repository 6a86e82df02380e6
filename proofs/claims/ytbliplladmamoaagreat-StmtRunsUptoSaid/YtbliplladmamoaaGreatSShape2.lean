/- Laws and walks that a claim of this seat leans on: Shape2. -/
import Derived.Test.YtbliplladmamoaaGreatS07
import Derived.Deep.DeepCutAuto
import Derived.Deep.CutBlock
import Derived.Test.YtbliplladmamoaaGreatS00
set_option maxRecDepth 100000
set_option maxHeartbeats 8000000
set_option linter.all false
namespace Go.Proofs.YtbliplladmamoaaGreat
open Go.RowKit
theorem Vt (sl:Value) (N:Nat) (cs:List Value) (hn:cs.length=8) (w:World) (hN:Has w N 0 [sl]) (b:Bool)
  (HC:∀ w',Ext w w'->Calls Tryz.prog 92 #[sl,.agg cs.toArray] w' fun r u=>r=.returned (.bool b)/\Ext w' u) :
  Calls Tryz.prog 128 #[.agg cs.toArray,.pointer (some ⟨N,0,none⟩)] w fun r w'=>r=.returned (.bool (!b))/\Ext w w':=by
 have HX:=Jh (Ab w (.cells cs.toArray 40))
 have hb:=Has.alloc w cs 40
 have hc:=(hN.ext HX.out) 0 _ rfl
 have HQ:=Jh (HC _ HX.out)
 clear HC
 go_enter Tryz.func128,Tryz.ntmps128
 go_wp2_with (first | ((with_reducible show Jl 40);refine Aa rfl 40 _ rfl rfl (hb) Ah hn ?_) | (go_at_call 92;refine HQ.out.mono ?_;rintro r w1 ⟨rfl,j⟩))
 all_goals go_ret
 all_goals exact ⟨by first | rfl | simp,HX.out.trans j⟩
theorem Vf:Bj Tryz.prog 128:=A9 Tryz.func128 (by kernel_rfl) rfl
theorem Adt (v sig hi lo n:Int):eqE ⟨0,0,v,sig,hi,lo,n,[]⟩ ⟨0,0,0,0,0,0,0,[]⟩=(decide (v=0)&&decide (sig=0)&&decide (hi=0)&&decide (lo=0)&&decide (n=0)):=by
 simp [eqE,eqE.rows]
theorem Sl.none {α:Type} {size:Nat} {R:α->Nat->Nat->Prop}:Sl size R (.slice Option.none 0 0) ([]:List α):=Sl.nil size R
def Ch (v sig hi lo n:Int):Bool:=decide (v=0)&&decide (sig=0)&&decide (hi=0)&&decide (lo=0)&&decide (n=0)
abbrev Rg (v sig hi lo n:Int):List Value:=[.int .i64 0,.int .i64 0,.int .u64 v,.int .i64 sig,.int .i64 hi,.int .i64 lo,.int .i64 n,.slice Option.none 0 0]
def Mid (w:World) (N:Nat) (sl:Value) (cs:List Value) (T2:TypeId) (good:Bool) (ok:Value) (wr:World):Prop :=
 ∃ b v sig hi lo n,ok=.bool b/\(b&&Ch v sig hi lo n)=good/\Has wr N 0 [sl]/\Has wr (N+1) 0 cs/\Blk wr (N+1+1) (Rg v sig hi lo n).toArray T2/\Ext w wr
theorem U4 {α:Type} (p:α->Bool) (l:List α):l.all p = !(l.any fun x=>!p x):=by
 induction l with
 | nil=>rfl
 | cons x l ih=>simp [ih]
theorem Aaq (ls:List Ai) (e:E) (ih:∀ x∈e.l,x.wf->∀ (sl:Value) (cs:List Value) (w:World) (_:Cq w sl ls) (_:VE w cs x),
   Calls Tryz.prog 92 #[sl,.agg cs.toArray] w fun r w'=>r=.returned (.bool (A7 ls x))/\Ext w w') (az:e.wf)
  (sl:Value) (cs:List Value) (w:World) (hS:Cq w sl ls) (hV:VE w cs e) :
  Calls Tryz.prog 92 #[sl,.agg cs.toArray] w fun r w'=>r=.returned (.bool (A7 ls e))/\Ext w w':=by
 have IH:=Jh ih
 clear ih
 have HE:=Jh (Fu ls e)
 obtain ⟨s,rfl,hs⟩:=hV
 obtain ⟨ba,bc,a2,a3,bd,be,bf,a4⟩:=(E.wf_iff e).1 az
 have an:=Jh a2
 have ao:=Jh a3
 have ap:=Jh a4
 clear az ba bc a2 a3 bd be bf a4
 have HS:=Jh hS
 have am:=Jh hs
 obtain ⟨a,b,o,cap,ax,au,bi,ha,hr⟩:=hs.open
 obtain ⟨a',b',o',aa,ay,bg,av,a6,a7⟩:=hS.open
 obtain ⟨op,wd,v,sig,hi,lo,n,l⟩:=e
 simp only at ax au HE am IH an ao ap
 subst ax
 subst ay
 clear hS hs hr a7 ha a6
 have HX:=((Ab w (.cells #[.slice a' ls.length aa] 22)).alloc (.cells (E.cells ⟨op,wd,v,sig,hi,lo,n,l⟩ (.slice a l.length cap)).toArray 40)).alloc (.cells (Rg v sig hi lo n).toArray 40)
 have aq:=((Has.alloc w [.slice a' ls.length aa] 22).ext (Ab _ (.cells (E.cells ⟨op,wd,v,sig,hi,lo,n,l⟩ (.slice a l.length cap)).toArray 40))).ext (Ab _ (.cells (Rg v sig hi lo n).toArray 40))
 have af:=(Has.alloc (w.alloc (.cells #[.slice a' ls.length aa] 22)) (E.cells ⟨op,wd,v,sig,hi,lo,n,l⟩ (.slice a l.length cap)) 40).ext (Ab _ (.cells (Rg v sig hi lo n).toArray 40))
 have al:=Blk.new ((w.alloc (.cells #[.slice a' ls.length aa] 22)).alloc (.cells (E.cells ⟨op,wd,v,sig,hi,lo,n,l⟩ (.slice a l.length cap)).toArray 40)) (Rg v sig hi lo n).toArray 40
 simp only [World.size_alloc] at af al
 go_enter Tryz.func92,Tryz.ntmps92
 go_upto_region 3 with (first | ((with_reducible show Js 40);refine Ad rfl 40 _ _ rfl rfl (by first | rfl | simp) rfl Ah (rfl) rfl (rfl) ?_))
 generalize ((w.alloc _).alloc _).alloc _=w3 at *
 have g0:=af 0 _ rfl
 go_upto_block 0 with (fail)
 clear g0
 obtain ⟨aj,ag⟩:∃ aj,l.length=aj:=⟨_,rfl⟩
 rw [ag] at af au ⊢
 have ae:=Jh ag
 clear ag
 have ab:=Jh aq
 have u:=Jh af
 have j:=Jh al
 clear aq af al
 go_cut [1,6,7] (fun _ _ ok wr=>Mid w w.heap.size (.slice a' ls.length aa) (E.cells ⟨op,wd,v,sig,hi,lo,n,l⟩ (.slice a aj cap)) 40 (Bl ls op wd v sig hi lo n aj) ok wr)
 case first =>
  have g1:=u.out 1 _ rfl
  have g2:=u.out 2 _ rfl
  have g3:=u.out 3 _ rfl
  have g4:=u.out 4 _ rfl
  have g5:=u.out 5 _ rfl
  have g6:=u.out 6 _ rfl
  have g:=ab.out 0 _ rfl
  have s2:w3.cell? ⟨w.heap.size+1+1,2,Option.none⟩=some (.int .u64 v):=by rw [j.out.cell];rfl
  have s3:w3.cell? ⟨w.heap.size+1+1,3,Option.none⟩=some (.int .i64 sig):=by rw [j.out.cell];rfl
  have s4:w3.cell? ⟨w.heap.size+1+1,4,Option.none⟩=some (.int .i64 hi):=by rw [j.out.cell];rfl
  have s5:w3.cell? ⟨w.heap.size+1+1,5,Option.none⟩=some (.int .i64 lo):=by rw [j.out.cell];rfl
  have s6:w3.cell? ⟨w.heap.size+1+1,6,Option.none⟩=some (.int .i64 n):=by rw [j.out.cell];rfl
  have f2:=j.out.frozen 2
  have f3:=j.out.frozen 3
  have f4:=j.out.frozen 4
  have f5:=j.out.frozen 5
  have f6:=j.out.frozen 6
  have bj:=av
  by_cases o1:op=1
  ·obtain rfl:=o1
   go_wp2_with (first | (go_at_call 57;refine (Ie wd v _ an.out).mono ?_;rintro r w1 ⟨rfl,rfl⟩))
   all_goals go_meet
   all_goals case rel=>exact ⟨_,_,_,_,_,_,rfl,(by rw [Bool.eq_iff_iff];first | (simp [Bl,Ch];done) | (simp [Bl,Ch];omega) | (simp [Bl,Ch, *];done) | (simp [Bl,Ch, *];omega)),ab.out.grown (A5 (Cr w3 _) (Ay _ (w.heap.size+1+1) 2 _)) (by omega),u.out.grown (A5 (Cr w3 _) (Ay _ (w.heap.size+1+1) 2 _)) (by omega),(j.out.set 2 (.int .u64 0)),HX.grown (A5 (Cr w3 _) (Ay _ (w.heap.size+1+1) 2 _)) (by omega)⟩
  by_cases o2:op=2
  ·obtain rfl:=o2
   have a5:∀ W,Hid (Ext w W->Cq W (.slice a' ls.length aa) ls):=fun W=>Jh fun hx=>HS.out.ext hx
   go_wp2_with (first | (go_at_call 127;refine (P0 ls _ sig hi lo _ ((a5 _).out (HX.grown (A5 (A5 (A5 (Cr w3 _) (Ay _ (w.heap.size+1+1) 3 _)) (Ay _ (w.heap.size+1+1) 4 _)) (Ay _ (w.heap.size+1+1) 5 _)) (by omega))) ao.out).mono ?_;rintro r w1 ⟨rfl,rfl⟩))
   all_goals go_meet
   all_goals case rel=>exact ⟨_,_,_,_,_,_,rfl,(by rw [Bool.eq_iff_iff];first | (simp [Bl,Ch];done) | (simp [Bl,Ch];omega) | (simp [Bl,Ch, *];done) | (simp [Bl,Ch, *];omega)),ab.out.grown (A5 (A5 (A5 (Cr w3 _) (Ay _ (w.heap.size+1+1) 3 _)) (Ay _ (w.heap.size+1+1) 4 _)) (Ay _ (w.heap.size+1+1) 5 _)) (by omega),u.out.grown (A5 (A5 (A5 (Cr w3 _) (Ay _ (w.heap.size+1+1) 3 _)) (Ay _ (w.heap.size+1+1) 4 _)) (Ay _ (w.heap.size+1+1) 5 _)) (by omega),(((j.out.set 3 (.int .i64 0)).set 4 (.int .i64 0)).set 5 (.int .i64 0)),HX.grown (A5 (A5 (A5 (Cr w3 _) (Ay _ (w.heap.size+1+1) 3 _)) (Ay _ (w.heap.size+1+1) 4 _)) (Ay _ (w.heap.size+1+1) 5 _)) (by omega)⟩
  by_cases o3:op=3
  ·obtain rfl:=o3
   go_wp2_with fail
   all_goals go_meet
   all_goals case rel=>exact ⟨_,_,_,_,_,_,rfl,(by rw [Bool.eq_iff_iff];first | (simp [Bl,Ch];done) | (simp [Bl,Ch];omega) | (simp [Bl,Ch, *];done) | (simp [Bl,Ch, *];omega)),ab.out.grown (A5 (Cr w3 _) (Ay _ (w.heap.size+1+1) 3 _)) (by omega),u.out.grown (A5 (Cr w3 _) (Ay _ (w.heap.size+1+1) 3 _)) (by omega),(j.out.set 3 (.int .i64 0)),HX.grown (A5 (Cr w3 _) (Ay _ (w.heap.size+1+1) 3 _)) (by omega)⟩
  by_cases o4:op=4
  ·obtain rfl:=o4
   go_wp2_with fail
   all_goals go_meet
   all_goals case rel=>exact ⟨_,_,_,_,_,_,rfl,(by rw [Bool.eq_iff_iff];first | (simp [Bl,Ch];done) | (simp [Bl,Ch];omega) | (simp [Bl,Ch, *];done) | (simp [Bl,Ch, *];omega)),ab.out.grown (A5 (Cr w3 _) (Ay _ (w.heap.size+1+1) 6 _)) (by omega),u.out.grown (A5 (Cr w3 _) (Ay _ (w.heap.size+1+1) 6 _)) (by omega),(j.out.set 6 (.int .i64 0)),HX.grown (A5 (Cr w3 _) (Ay _ (w.heap.size+1+1) 6 _)) (by omega)⟩
  by_cases o5:op=5
  ·obtain rfl:=o5
   go_wp2_with fail
   all_goals go_meet
   all_goals case rel=>exact ⟨_,_,_,_,_,_,rfl,(by rw [Bool.eq_iff_iff];first | (simp [Bl,Ch];done) | (simp [Bl,Ch];omega) | (simp [Bl,Ch, *];done) | (simp [Bl,Ch, *];omega)),ab.out.grown (A5 (Cr w3 _) (Ay _ (w.heap.size+1+1) 6 _)) (by omega),u.out.grown (A5 (Cr w3 _) (Ay _ (w.heap.size+1+1) 6 _)) (by omega),(j.out.set 6 (.int .i64 0)),HX.grown (A5 (Cr w3 _) (Ay _ (w.heap.size+1+1) 6 _)) (by omega)⟩
  by_cases o6:op=6
  ·obtain rfl:=o6
   go_wp2_with fail
   all_goals go_meet
   all_goals case rel=>exact ⟨_,_,_,_,_,_,rfl,(by rw [Bool.eq_iff_iff];first | (simp [Bl,Ch];done) | (simp [Bl,Ch];omega) | (simp [Bl,Ch, *];done) | (simp [Bl,Ch, *];omega)),ab.out,u.out,j.out,HX⟩
  by_cases o7:op=7
  ·obtain rfl:=o7
   go_wp2_with fail
   all_goals go_meet
   all_goals case rel=>exact ⟨_,_,_,_,_,_,rfl,(by rw [Bool.eq_iff_iff];first | (simp [Bl,Ch];done) | (simp [Bl,Ch];omega) | (simp [Bl,Ch, *];done) | (simp [Bl,Ch, *];omega)),ab.out,u.out,j.out,HX⟩
  by_cases o8:op=8
  ·obtain rfl:=o8
   go_wp2_with fail
   all_goals go_meet
   all_goals case rel=>exact ⟨_,_,_,_,_,_,rfl,(by rw [Bool.eq_iff_iff];first | (simp [Bl,Ch];done) | (simp [Bl,Ch];omega) | (simp [Bl,Ch, *];done) | (simp [Bl,Ch, *];omega)),ab.out.grown (A5 (Cr w3 _) (Ay _ (w.heap.size+1+1) 6 _)) (by omega),u.out.grown (A5 (Cr w3 _) (Ay _ (w.heap.size+1+1) 6 _)) (by omega),(j.out.set 6 (.int .i64 0)),HX.grown (A5 (Cr w3 _) (Ay _ (w.heap.size+1+1) 6 _)) (by omega)⟩
  go_wp2_with fail
  go_ret
  exact ⟨Af (by rw [HE.out];simp [Bl, *]),HX⟩
 case rest =>
  obtain ⟨bb,v',ak,aw,a1,n',rfl,hg,k1,k2,k3,kx⟩:=hcut
  have HG:=Jh hg
  clear hg
  have K1:=Jh k1
  have K2:=Jh k2
  have K3:=Jh k3.has
  clear k1 k2 k3
  cases bb with
  | false =>
   go_wp2_with fail
   go_ret
   exact ⟨Af (by rw [HE.out,ae.out,<-HG.out];rfl),kx⟩
  | true =>
   have HZ:=Jh (Ia ⟨0,0,v',ak,aw,a1,n',[]⟩ ⟨0,0,0,0,0,0,0,[]⟩ _ _ wc ⟨_,rfl,Sl.none⟩ ⟨_,rfl,Sl.none⟩)
   rw [Adt] at HZ
   cases hz:Ch v' ak aw a1 n' with
   | false =>
    have ac:=hz
    unfold Ch at ac
    rw [ac] at HZ
    rw [hz] at HG
    clear hz ac
    go_wp2_with (first | ((with_reducible show Jl 40);refine Aa rfl 40 _ rfl rfl (K3.out) Ah rfl ?_) | (go_at_call 65;refine HZ.out.mono ?_;rintro r w1 ⟨rfl,ai⟩))
    go_ret
    exact ⟨Af (by rw [HE.out,ae.out,<-HG.out];rfl),kx.trans ai⟩
   | true =>
    have ac:=hz
    unfold Ch at ac
    rw [ac] at HZ
    rw [hz] at HG
    clear hz ac
    have HL:∀ W,Hid (Ext wc W->Calls Tryz.prog 72 #[.slice a aj cap,.func (.func 128) #[] #[.pointer (some ⟨w.heap.size,0,Option.none⟩)]] W
      fun r w'=>r=.returned (.bool (l.any fun p=>!A7 ls p))/\Ext W w'):=by
     intro W
     refine Jh fun hx=>?_
     have ar:=am.out.ext (kx.trans hx)
     rw [ae.out] at ar
     refine Gl 128 #[.pointer (some ⟨w.heap.size,0,Option.none⟩)] (fun p=>!A7 ls p) l _ W ar Vf ?_
     intro wr a0 k hk cs hV
     obtain ⟨s1,rfl,a8⟩:=hV
     exact Vt (.slice a' ls.length aa) w.heap.size _ rfl wr ((K1.out.ext hx).ext a0) (A7 ls l[k])
      (fun w' ah=>IH.out l[k] (List.getElem_mem hk) (ap.out _ (List.getElem_mem hk)) _ _ w' (HS.out.ext (((kx.trans hx).trans a0).trans ah)) ⟨s1,rfl,a8.ext ah⟩)
    go_wp2_with (first | ((with_reducible show Jl 40);refine Aa rfl 40 _ rfl rfl (K3.out) Ah rfl ?_) | (go_at_call 65;refine HZ.out.mono ?_;rintro r w1 ⟨rfl,ai⟩;have h7:=(K2.out.ext ai) 7 _ rfl) | (go_at_call 72;refine ((HL _).out ai).mono ?_;rintro r w2 ⟨rfl,a9⟩))
    all_goals go_ret
    all_goals exact ⟨Af (by rw [HE.out,ae.out,<-HG.out,U4];simp [*]),(kx.trans ai).trans a9⟩
theorem Ii (ls:List Ai) (e:E) (j:e.wf) (sl:Value) (cs:List Value) (w:World) (hS:Cq w sl ls) (hV:VE w cs e) :
  Calls Tryz.prog 92 #[sl,.agg cs.toArray] w fun r w'=>r=.returned (.bool (A7 ls e))/\Ext w w' :=
 E.ind (P:=fun x=>x.wf->∀ (sl:Value) (cs:List Value) (w:World) (_:Cq w sl ls) (_:VE w cs x),
   Calls Tryz.prog 92 #[sl,.agg cs.toArray] w fun r w'=>r=.returned (.bool (A7 ls x))/\Ext w w')
  (fun e ih j sl cs w hS hV=>Aaq ls e ih j sl cs w hS hV) e j sl cs w hS hV
end Go.Proofs.YtbliplladmamoaaGreat
