/- Laws and walks that a claim of this seat leans on: StmtRuns, Lift, LiftE. -/
import Derived.Test.YtbliplladmamoaaGreatS22
import Derived.Test.YtbliplladmamoaaGreatSFew11
import Derived.Test.YtbliplladmamoaaGreatS32
import Derived.Test.YtbliplladmamoaaGreatRows
import Derived.Test.YtbliplladmamoaaGreatS13
import Derived.WalkKit
import Derived.ProofKit
import Derived.OpenShut
import Derived.JoinedCond
import Derived.Test.YtbliplladmamoaaGreatS19
import Derived.Test.YtbliplladmamoaaGreatS00
set_option maxRecDepth 100000
set_option maxHeartbeats 8000000
set_option linter.all false
namespace Go.Proofs.YtbliplladmamoaaGreat
open Go.RowKit
theorem Afa {d:Bb} (j:d.ok) {v:List Nat} {p:Int}:(Iw d v p).1.length<=1048576:=by
 unfold Iw
 by_cases c:Cn d v=true/\0<=p/\p<d.procs.length
 ·have h:=(Agp j (vs:=v) (p:=p) (by unfold Iw;rw [if_pos c])).2.2.2.1
  unfold Iw at h
  have:=j.signals
  omega
 ·rw [if_neg c];decide
theorem Qr (d:Bb) (v:Value) (vs:List Nat) (s:Value) (p:Int) (w:World) (hF:Ck w v d) (j:d.ok) (hs:Us w s vs) (ao:Zc vs) (hp:Fp p) :
  Calls Tryz.prog 3 #[v,s,.int .i64 p] w fun r w'=>r=.returned (.bool true)/\Ext w w':=by
 have aa:=Jh (fun W (h:Ext w W)=>Abk d v W (hF.ext h) j.nodes j.signals j.procs)
 have ab:=Jh (fun W (h:Ext w W)=>Ou d v vs s p W (hF.ext h) j (hs.ext h) ao hp)
 have ac:=Jh (fun W (h:Ext w W)=>Ux d v vs s p W (hF.ext h) j (hs.ext h) hp)
 have HL:=Jh (Afa j (v:=vs) (p:=p))
 obtain ⟨sv,pv,cv,rfl,hS,hP,hC⟩:=hF
 obtain ⟨av,bv,ov,az,rfl,-,-,-,-⟩:=hs.open
 have x1:=Ab w (.cells [sv,pv,cv].toArray 26)
 have hD:=Blk.new w [sv,pv,cv].toArray 26
 clear hS hP hC hs j hp ao
 obtain ⟨n,hn⟩:∃ n,vs.length=n:=⟨_,rfl⟩
 rw [hn] at ab ac ⊢
 clear hn
 go_enter Tryz.func3,Tryz.ntmps3
 go_upto_region 1 with fail
 generalize w.alloc _=w0 at *
 have al:=Jh x1
 have ai:=Jh hD
 clear x1 hD
 go_upto_region 4 with (go_at_call 4;refine (Vg _).mono ?_;rintro r w1 ⟨rfl,ae⟩)
 have HD:=Jh (ai.out.ext ae)
 have HX:=Jh (al.out.trans ae)
 clear ae ai al
 have d1:=HD.out.has
 obtain ⟨fw,ap⟩:∃ fw,Aa8 d=fw:=⟨_,rfl⟩
 rw [ap] at aa
 clear ap
 cases fw
 ·go_wp2_with (first | ((with_reducible show Jl 26);refine Aa rfl 26 _ rfl rfl (d1) Aj rfl ?_) | (go_at_call 5;refine (aa.out w1 HX.out).mono ?_;rintro r w2 ⟨rfl,u⟩))
  go_ret
  exact ⟨rfl,HX.out.trans u⟩
 by_cases hl:(100:Int)<(n:Int)
 ·have b1:decide ((100:Int)<(n:Int))=true:=decide_eq_true hl
  clear hl
  go_wp2_with (first | ((with_reducible show Jl 26);refine Aa rfl 26 _ rfl rfl (d1) Aj rfl ?_) | (go_at_call 5;refine (aa.out w1 HX.out).mono ?_;rintro r w2 ⟨rfl,u⟩))
  go_ret
  exact ⟨rfl,HX.out.trans u⟩
 have b1:decide ((100:Int)<(n:Int))=false:=decide_eq_false hl
 clear hl
 go_upto_region 6 with (first | ((with_reducible show Jl 26);refine Aa rfl 26 _ rfl rfl (d1) Aj rfl ?_) | (go_at_call 5;refine (aa.out w1 HX.out).mono ?_;rintro r w2 ⟨rfl,u⟩))
 have aj:=Jh (HD.out.ext u)
 have am:=Jh (HX.out.trans u)
 clear u d1 HD HX aa b1
 have d2:=aj.out.has
 obtain ⟨M,e,hM⟩:∃ M e,Iw d vs p=(M,e):=⟨_,_,rfl⟩
 rw [hM] at ab ac HL
 clear hM
 have aq:M.length<=1099511627776:=by have:=HL.out;dsimp only at this;omega
 go_upto_region 7 with (first | ((with_reducible show Jl 26);refine Aa rfl 26 _ rfl rfl (d2) Aj rfl ?_) | (go_at_call 6;refine (ab.out w2 am.out).mono ?_;rintro r w3 ⟨u3,rfl,ar,af⟩))
 have ak:=Jh ar.cells
 have an:=Jh (am.out.trans af)
 have aw:=Jh (aj.out.ext af)
 clear ar af d2 ab
 have d3:=aw.out.has
 go_upto_region 8 with (first | ((with_reducible show Jl 26);refine Aa rfl 26 _ rfl rfl (d3) Aj rfl ?_) | (go_at_call 7;refine (ac.out w3 an.out).mono ?_;rintro r w4 ⟨u4,rfl,au,ag⟩))
 have HW:=Jh (Mw M M u3 u4 w4 (ak.out.ext ag) au aq)
 have ax:=Jh (an.out.trans ag)
 clear au ag d3 ac ak
 go_wp2_with (go_at_call 8;refine HW.out.mono ?_;rintro r w5 ⟨rfl,ay⟩)
 go_ret
 exact ⟨by simp,ax.out.trans ay⟩
/-! ### from what is read to a design -/
section
variable {H:Type} {enc:TypeId × Value->H} {w:World}
theorem Adi (d:DataW H):1<=Rows.uptoBulk d:=by
 cases d with
 | lit l=>cases l<;>simp [Rows.uptoBulk]
 | nil=>simp [Rows.uptoBulk]
 | ptr d=>simp [Rows.uptoBulk]
 | slice elems spare=>simp [Rows.uptoBulk]
 | agg parts=>simp [Rows.uptoBulk]
 | iface t d=>simp [Rows.uptoBulk]
 | map entries=>simp [Rows.uptoBulk]
 | held h=>simp [Rows.uptoBulk]
theorem N9 {a:Addr} {n:Nat} {cs:List Value} (h:w.cells? 0 a n=some cs) (hn:0<n):∃ b o,a=⟨b,o,none⟩/\cs.length=n/\Has w b o cs:=by
 obtain ⟨-,hl,hc⟩:=World.cells?_some h
 obtain ⟨b,o,ab⟩:=a
 obtain ⟨v,hv⟩:∃ v,cs[0]? = some v:=⟨_,List.getElem?_eq_getElem (by omega)⟩
 have h0:=hc 0 hn
 rw [hv] at h0
 have aa:ab=none:=by simpa [Addr.add] using World.cell?_spot h0
 subst aa
 refine ⟨b,o,rfl,hl,fun j u hj=>?_⟩
 have ac:=(List.getElem?_eq_some_iff.1 hj).1
 rw [<-hj,<-hc j (by omega),Go.WideShapes.add_plain]
theorem Ab8 {α:Type} {size n:Nat} {e:TypeId} {At:α->Nat->Nat->Prop} {ok:α->Prop} {ms:α->Nat} {b:Nat}
  (hE:∀ cs x o,Has w b o cs->DataW.trod enc Tryz.prog w 0 (fun _=>true) true n e cs=some x->∃ y,At y b o/\ok y/\ms y<=Rows.uptoBulk x.1) (j:List (DataW H × List MemPlace)) :
  ∀ o,(∀ i (hi:i<j.length),∃ cs,Has w b (o+i*size) cs/\DataW.trod enc Tryz.prog w 0 (fun _=>true) true n e cs=some j[i])->∃ l:List α,l.length=j.length/\Rows size At l b o/\(∀ y∈l,ok y)/\Ap ms l<=Rows.uptoBulkAll (j.map (·.1)):=by
 induction j with
 | nil=>intro o _;exact ⟨[],rfl,trivial,by simp,by simp [Ap]⟩
 | cons x j ih =>
  intro o h
  obtain ⟨cs,h1,h2⟩:=h 0 (by simp)
  simp only [Nat.zero_mul,Nat.add_zero,Jb] at h1 h2
  obtain ⟨y,q1,q2,q3⟩:=hE cs x o h1 h2
  obtain ⟨l,r1,r2,r3,r4⟩:=ih (o+size) fun i hi=>by
   obtain ⟨u,h3,h4⟩:=h (i+1) (by simpa using hi)
   refine ⟨u,?_,by simpa using h4⟩
   rw [show o+size+i*size=o+(i+1)*size by rw [Nat.add_mul];omega]
   exact h3
  refine ⟨y::l,by simp [r1],⟨q1,r2⟩,?_,?_⟩
  ·intro z hz
   rcases List.mem_cons.1 hz with e | hz
   ·rw [e];exact q2
   ·exact r3 z hz
  ·simp only [Ap,List.map_cons,Rows.uptoBulkAll];omega
theorem Fq {α:Type} {size:Nat} {t e:TypeId} (ht:Tryz.prog.underlying t=some (.slice e)) (hc:Tryz.prog.cellsOf e=size) (hs:0<size) {At:α->Nat->Nat->Prop} {ok:α->Prop} {ms:α->Nat} {m:Nat} {cs:List Value} {x:DataW H × List MemPlace} (h:DataW.trod enc Tryz.prog w 0 (fun _=>true) true m t cs=some x)
  (hE:∀ n,n<m->∀ cs x b o,Has w b o cs->DataW.trod enc Tryz.prog w 0 (fun _=>true) true n e cs=some x->∃ y,At y b o/\ok y/\ms y<=Rows.uptoBulk x.1) :
  ∃ s l,cs=[s]/\Sl size At s l/\(∀ y∈l,ok y)/\Ap ms l+1<=Rows.uptoBulk x.1/\l.length+1<=Rows.uptoBulk x.1:=by
 rcases DataW.trod_slice ht h with ⟨rfl,rfl⟩ | ⟨a,ac,cap,j,rest,n,rfl,rfl,rfl,-,ag,aa,ae,u,-⟩
 ·exact ⟨_,[],rfl,Sl.nil _ _,by simp,by simp [Ap,Rows.uptoBulk],by simp [Rows.uptoBulk]⟩
 ·rw [hc] at u
  by_cases h0:0<ac
  ·obtain ⟨b,o,ha⟩:∃ b o,a=⟨b,o,none⟩:=by
    have:=u 0 h0
    rw [List.getElem?_eq_getElem (by omega)] at this
    obtain ⟨cs,q1,-⟩:=Option.bind_eq_some_iff.1 this
    obtain ⟨b,o,q2,-⟩:=N9 q1 hs
    refine ⟨b,o,?_⟩
    rw [Nat.zero_mul] at q2
    obtain ⟨ab,ao,af⟩:=a
    unfold Addr.add at q2
    split at q2<;>simp_all
   subst ha
   obtain ⟨l,r1,r2,r3,r4⟩:=Ab8 (size:=size) (fun cs x o=>hE n (by omega) cs x b o) j o fun i hi=>by
    have:=u i (by omega)
    rw [List.getElem?_eq_getElem hi] at this
    obtain ⟨cs,q1,q2⟩:=Option.bind_eq_some_iff.1 this
    rw [Go.WideShapes.add_plain] at q1
    obtain ⟨b',o',q3,-,q4⟩:=N9 q1 hs
    injection q3 with e1 e2
    subst e1;subst e2
    exact ⟨cs,q4,q2⟩
   refine ⟨_,l,rfl,⟨b,o,⟨_,cap,by rw [r1,ae],by omega,by simpa using aa,fun _=>rfl⟩,r2⟩,r3,?_,?_⟩
   ·simp only [Rows.uptoBulk];omega
   ·simp only [Rows.uptoBulk]
    have:∀ l:List (DataW H),l.length<=Rows.uptoBulkAll l:=by
     intro l
     induction l with
     | nil=>simp [Rows.uptoBulkAll]
     | cons x r ih=>have:=Adi x;simp only [Rows.uptoBulkAll,List.length_cons];omega
    have h2:=this (j.map (·.1))
    simp only [List.length_map] at h2
    omega
  ·obtain rfl:ac=0:=by omega
   exact ⟨_,[],rfl,⟨0,0,⟨_,cap,rfl,Nat.zero_le _,by simpa using aa,fun h=>by simp at h⟩,trivial⟩,by simp,by simp [Ap,Rows.uptoBulk],by simp [Rows.uptoBulk]⟩
theorem Dx {m:Nat} {cs:List Value} {x:DataW H × List MemPlace} (h:DataW.trod enc Tryz.prog w 0 (fun _=>true) true m 3 cs=some x):∃ n,cs=[.int .i64 n]/\Fp n:=by
 obtain ⟨n,rfl,-,hw⟩:=DataW.trod_int Tryz.underlying3 h
 exact ⟨n,rfl,bounds_i64 hw⟩
theorem Rh {m:Nat} {cs:List Value} {x:DataW H × List MemPlace} (h:DataW.trod enc Tryz.prog w 0 (fun _=>true) true m 35 cs=some x):∃ n,cs=[.int .u64 n]/\St n:=by
 obtain ⟨n,rfl,-,hw⟩:=DataW.trod_int Tryz.underlying35 h
 exact ⟨n,rfl,bounds_u64 hw⟩
theorem Yo {m:Nat} {cs:List Value} {x:DataW H × List MemPlace} (h:DataW.trod enc Tryz.prog w 0 (fun _=>true) true m 9 cs=some x):∃ n,cs=[.string n]/\n.size<=9223372036854775807:=by
 obtain ⟨n,rfl,-,hw⟩:=DataW.trod_string Tryz.underlying9 h
 exact ⟨n,rfl,by simpa [maxLen] using hw⟩
theorem O0:Tryz.prog.cellsOf 3=1:=by kernel_rfl
theorem O3:Tryz.prog.cellsOf 35=1:=by kernel_rfl
theorem S7:Tryz.prog.cellsOf 9=1:=by kernel_rfl
theorem Zs:Tryz.prog.cellsOf 4=1:=by kernel_rfl
theorem Qe:Tryz.prog.cellsOf 40=8:=by kernel_rfl
theorem U8:Tryz.prog.cellsOf 44=6:=by kernel_rfl
theorem S6:Tryz.prog.cellsOf 37=4:=by kernel_rfl
theorem Qy:Tryz.prog.cellsOf 48=2:=by kernel_rfl
theorem S5:Tryz.prog.cellsOf 96=9:=by kernel_rfl
theorem Zr:Tryz.prog.cellsOf 26=3:=by kernel_rfl
theorem X5:Tryz.prog.cellsOf 38=1:=by kernel_rfl
theorem X7:Tryz.prog.cellsOf 42=1:=by kernel_rfl
theorem Zu:Tryz.prog.cellsOf 22=1:=by kernel_rfl
theorem X6:Tryz.prog.cellsOf 23=1:=by kernel_rfl
theorem Zt:Tryz.prog.cellsOf 24=1:=by kernel_rfl
theorem Ael (m:Nat):∀ cs x,DataW.trod enc Tryz.prog w 0 (fun _=>true) true m 40 cs=some x->∃ (e:E) (s:Value),cs=e.cells s/\Es w s e.l/\e.wf/\nodes e<=Rows.uptoBulk x.1:=by
 induction m using Nat.strongRecOn with
 | ind m ih =>
  intro cs x h
  obtain ⟨xs,n,rfl,rfl,hl,aa,hf⟩:=DataW.trod_struct Tryz.underlying40 h
  rw [Qe] at hl
  obtain ⟨c0,c1,c2,c3,c4,c5,c6,c7,rfl⟩:∃ c0 c1 c2 c3 c4 c5 c6 c7,cs=[c0,c1,c2,c3,c4,c5,c6,c7]:=by
   match cs,hl with
   | [c0,c1,c2,c3,c4,c5,c6,c7],_=>exact ⟨_,_,_,_,_,_,_,_,rfl⟩
  obtain ⟨x0,x1,x2,x3,x4,x5,x6,x7,rfl⟩:∃ x0 x1 x2 x3 x4 x5 x6 x7,xs=[x0,x1,x2,x3,x4,x5,x6,x7]:=by
   match xs,aa with
   | [x0,x1,x2,x3,x4,x5,x6,x7],_=>exact ⟨_,_,_,_,_,_,_,_,rfl⟩
  have f0:=hf 0 _ rfl
  have f1:=hf 1 _ rfl
  have f2:=hf 2 _ rfl
  have f3:=hf 3 _ rfl
  have f4:=hf 4 _ rfl
  have f5:=hf 5 _ rfl
  have f6:=hf 6 _ rfl
  have f7:=hf 7 _ rfl
  simp only [O0,O3,X5,List.drop_zero,List.drop_succ_cons,List.take_succ_cons,List.take_zero,List.getElem?_cons_zero,List.getElem?_cons_succ] at f0 f1 f2 f3 f4 f5 f6 f7
  obtain ⟨n0,e0,w0⟩:=Dx f0
  obtain ⟨n1,e1,w1⟩:=Dx f1
  obtain ⟨n2,e2,w2⟩:=Rh f2
  obtain ⟨n3,e3,w3⟩:=Dx f3
  obtain ⟨n4,e4,w4⟩:=Dx f4
  obtain ⟨n5,e5,w5⟩:=Dx f5
  obtain ⟨n6,e6,w6⟩:=Dx f6
  obtain ⟨s,l,e7,u,j,ab,-⟩:=Fq (At:=EAt w) (ok:=E.wf) (ms:=nodes) Tryz.underlying38 Qe (by decide) f7 (fun k hk cs x b o hh hx=>by
   obtain ⟨e,s,rfl,q1,q2,q3⟩:=ih k (by omega) cs x hx
   exact ⟨e,Kf.2 ⟨s,hh,q1⟩,q2,q3⟩)
  injection e0 with e0;injection e1 with e1;injection e2 with e2;injection e3 with e3;injection e4 with e4;injection e5 with e5;injection e6 with e6;injection e7 with e7
  subst e0;subst e1;subst e2;subst e3;subst e4;subst e5;subst e6;subst e7
  refine ⟨⟨n0,n1,n2,n3,n4,n5,n6,l⟩,_,rfl,u,(E.wf_iff _).2 ⟨w0,w1,w2,w3,w4,w5,w6,j⟩,?_⟩
  rw [C7]
  simp only [Rows.uptoBulk,Rows.uptoBulkAll,List.map_cons,List.map_nil]
  omega
theorem Ahh (m:Nat):∀ cs x,DataW.trod enc Tryz.prog w 0 (fun _=>true) true m 44 cs=some x->∃ (t:T) (s s':Value),cs=t.cells s s'/\Es w s t.e/\Ts w s' t.l/\t.wf/\Aq t<=Rows.uptoBulk x.1:=by
 induction m using Nat.strongRecOn with
 | ind m ih =>
  intro cs x h
  obtain ⟨xs,n,rfl,rfl,hl,af,hf⟩:=DataW.trod_struct Tryz.underlying44 h
  rw [U8] at hl
  obtain ⟨c0,c1,c2,c3,c4,c5,rfl⟩:∃ c0 c1 c2 c3 c4 c5,cs=[c0,c1,c2,c3,c4,c5]:=by
   match cs,hl with
   | [c0,c1,c2,c3,c4,c5],_=>exact ⟨_,_,_,_,_,_,rfl⟩
  obtain ⟨x0,x1,x2,x3,x4,x5,rfl⟩:∃ x0 x1 x2 x3 x4 x5,xs=[x0,x1,x2,x3,x4,x5]:=by
   match xs,af with
   | [x0,x1,x2,x3,x4,x5],_=>exact ⟨_,_,_,_,_,_,rfl⟩
  have f0:=hf 0 _ rfl
  have f1:=hf 1 _ rfl
  have f2:=hf 2 _ rfl
  have f3:=hf 3 _ rfl
  have f4:=hf 4 _ rfl
  have f5:=hf 5 _ rfl
  simp only [O0,X5,X7,List.drop_zero,List.drop_succ_cons,List.take_succ_cons,List.take_zero,List.getElem?_cons_zero,List.getElem?_cons_succ] at f0 f1 f2 f3 f4 f5
  obtain ⟨n0,e0,w0⟩:=Dx f0
  obtain ⟨n1,e1,w1⟩:=Dx f1
  obtain ⟨n2,e2,w2⟩:=Dx f2
  obtain ⟨n3,e3,w3⟩:=Dx f3
  obtain ⟨s4,l4,e4,aa,j,ac,-⟩:=Fq (At:=EAt w) (ok:=E.wf) (ms:=nodes) Tryz.underlying38 Qe (by decide) f4 (fun k hk cs x b o hh hx=>by
   obtain ⟨e,s,rfl,q1,q2,q3⟩:=Ael k cs x hx
   exact ⟨e,Kf.2 ⟨s,hh,q1⟩,q2,q3⟩)
  obtain ⟨s5,l5,e5,ab,u,ae,-⟩:=Fq (At:=TAt w) (ok:=T.wf) (ms:=Aq) Tryz.underlying42 U8 (by decide) f5 (fun k hk cs x b o hh hx=>by
   obtain ⟨t,s,s',rfl,q1,q2,q3,q4⟩:=ih k (by omega) cs x hx
   exact ⟨t,Mf.2 ⟨s,s',hh,q1,q2⟩,q3,q4⟩)
  injection e0 with e0;injection e1 with e1;injection e2 with e2;injection e3 with e3;injection e4 with e4;injection e5 with e5
  subst e0;subst e1;subst e2;subst e3;subst e4;subst e5
  refine ⟨⟨n0,n1,n2,n3,l4,l5⟩,_,_,rfl,aa,ab,(T.wf_iff _).2 ⟨w0,w1,w2,w3,j,u⟩,?_⟩
  rw [Ca]
  simp only [Rows.uptoBulk,Rows.uptoBulkAll,List.map_cons,List.map_nil]
  omega
theorem Aem (m:Nat):∀ cs x,DataW.trod enc Tryz.prog w 0 (fun _=>true) true m 37 cs=some x->∃ y:Ai,cs=y.cells/\y.wf:=by
 intro cs x h
 obtain ⟨xs,n,rfl,rfl,hl,j,hf⟩:=DataW.trod_struct Tryz.underlying37 h
 rw [S6] at hl
 obtain ⟨c0,c1,c2,c3,rfl⟩:∃ c0 c1 c2 c3,cs=[c0,c1,c2,c3]:=by
  match cs,hl with
  | [c0,c1,c2,c3],_=>exact ⟨_,_,_,_,rfl⟩
 obtain ⟨x0,x1,x2,x3,rfl⟩:∃ x0 x1 x2 x3,xs=[x0,x1,x2,x3]:=by
  match xs,j with
  | [x0,x1,x2,x3],_=>exact ⟨_,_,_,_,rfl⟩
 have f0:=hf 0 _ rfl
 have f1:=hf 1 _ rfl
 have f2:=hf 2 _ rfl
 have f3:=hf 3 _ rfl
 simp only [O0,O3,S7,List.drop_zero,List.drop_succ_cons,List.take_succ_cons,List.take_zero,List.getElem?_cons_zero,List.getElem?_cons_succ] at f0 f1 f2 f3
 obtain ⟨n0,e0,w0⟩:=Yo f0
 obtain ⟨n1,e1,w1⟩:=Dx f1
 obtain ⟨n2,e2,w2⟩:=Dx f2
 obtain ⟨n3,e3,w3⟩:=Rh f3
 injection e0 with e0;injection e1 with e1;injection e2 with e2;injection e3 with e3
 subst e0;subst e1;subst e2;subst e3
 exact ⟨⟨n0,n1,n2,n3⟩,rfl,w1,w2,w3,w0⟩
theorem Ab6 (m:Nat):∀ cs x,DataW.trod enc Tryz.prog w 0 (fun _=>true) true m 48 cs=some x->∃ (y:C0) (s:Value),cs=y.cells s/\Ts w s y.l/\(∀ t∈y.l,t.wf)/\Ap Aq y.l<=Rows.uptoBulk x.1:=by
 intro cs x h
 obtain ⟨xs,n,rfl,rfl,hl,ab,hf⟩:=DataW.trod_struct Tryz.underlying48 h
 rw [Qy] at hl
 obtain ⟨c0,c1,rfl⟩:∃ c0 c1,cs=[c0,c1]:=by
  match cs,hl with
  | [c0,c1],_=>exact ⟨_,_,rfl⟩
 obtain ⟨x0,x1,rfl⟩:∃ x0 x1,xs=[x0,x1]:=by
  match xs,ab with
  | [x0,x1],_=>exact ⟨_,_,rfl⟩
 have f0:=hf 0 _ rfl
 have f1:=hf 1 _ rfl
 simp only [Zs,X7,List.drop_zero,List.drop_succ_cons,List.take_succ_cons,List.take_zero,List.getElem?_cons_zero,List.getElem?_cons_succ] at f0 f1
 obtain ⟨b0,e0,-⟩:=DataW.trod_bool Tryz.underlying4 f0
 obtain ⟨s1,l1,e1,u,j,aa,-⟩:=Fq (At:=TAt w) (ok:=T.wf) (ms:=Aq) Tryz.underlying42 U8 (by decide) f1 (fun k hk cs x b o hh hx=>by
  obtain ⟨t,s,s',rfl,q1,q2,q3,q4⟩:=Ahh k cs x hx
  exact ⟨t,Mf.2 ⟨s,s',hh,q1,q2⟩,q3,q4⟩)
 injection e0 with e0;injection e1 with e1
 subst e0;subst e1
 refine ⟨⟨b0,l1⟩,_,rfl,u,j,?_⟩
 simp only [Rows.uptoBulk,Rows.uptoBulkAll,List.map_cons,List.map_nil]
 omega
theorem Aek (m:Nat):∀ cs x,DataW.trod enc Tryz.prog w 0 (fun _=>true) true m 96 cs=some x->∃ (y:Chk) (s:Value),cs=y.cells s/\Es w s y.e.l/\y.e.wf/\nodes y.e<=Rows.uptoBulk x.1:=by
 intro cs x h
 obtain ⟨xs,n,rfl,rfl,hl,j,hf⟩:=DataW.trod_struct Tryz.underlying96 h
 rw [S5] at hl
 obtain ⟨c0,r,rfl⟩:∃ c0 r,cs=c0::r:=by
  match cs,hl with
  | c0::r,_=>exact ⟨_,_,rfl⟩
 obtain ⟨x0,x1,rfl⟩:∃ x0 x1,xs=[x0,x1]:=by
  match xs,j with
  | [x0,x1],_=>exact ⟨_,_,rfl⟩
 have f0:=hf 0 _ rfl
 have f1:DataW.trod enc Tryz.prog w 0 (fun _=>true) true n 40 ((List.drop 1 (c0::r)).take (Tryz.prog.cellsOf 40))=some x1:=hf 1 _ rfl
 simp only [S7,List.drop_zero,List.take_succ_cons,List.take_zero,List.getElem?_cons_zero] at f0
 rw [Qe,List.drop_succ_cons,List.drop_zero,List.take_of_length_le (by simp only [List.length_cons] at hl;omega)] at f1
 obtain ⟨n0,e0,w0⟩:=Yo f0
 obtain ⟨e,s,rfl,q1,q2,q3⟩:=Ael _ _ _ f1
 injection e0 with e0
 subst e0
 refine ⟨⟨n0,e⟩,s,rfl,q1,q2,?_⟩
 simp only [Rows.uptoBulk,Rows.uptoBulkAll,List.map_cons,List.map_nil]
 omega
theorem Ab5 (m:Nat):∀ cs x,DataW.trod enc Tryz.prog w 0 (fun _=>true) true m 26 cs=some x->Rows.uptoBulk x.1<=1048576->∃ d:Bb,Ck w (.agg cs.toArray) d/\d.ok:=by
 intro cs x h hk
 obtain ⟨xs,n,rfl,rfl,hl,ai,hf⟩:=DataW.trod_struct Tryz.underlying26 h
 rw [Zr] at hl
 obtain ⟨c0,c1,c2,rfl⟩:∃ c0 c1 c2,cs=[c0,c1,c2]:=by
  match cs,hl with
  | [c0,c1,c2],_=>exact ⟨_,_,_,rfl⟩
 obtain ⟨x0,x1,x2,rfl⟩:∃ x0 x1 x2,xs=[x0,x1,x2]:=by
  match xs,ai with
  | [x0,x1,x2],_=>exact ⟨_,_,_,rfl⟩
 have f0:=hf 0 _ rfl
 have f1:=hf 1 _ rfl
 have f2:=hf 2 _ rfl
 simp only [Zu,X6,Zt,List.drop_zero,List.drop_succ_cons,List.take_succ_cons,List.take_zero,List.getElem?_cons_zero,List.getElem?_cons_succ] at f0 f1 f2
 obtain ⟨s0,l0,e0,ab,j,-,aj⟩:=Fq (At:=C6 w) (ok:=Ai.wf) (ms:=fun _=>0) Tryz.underlying22 S6 (by decide) f0 (fun k hk cs x b o hh hx=>by
  obtain ⟨y,rfl,q1⟩:=Aem k cs x hx
  exact ⟨y,hh,q1,Nat.zero_le _⟩)
 obtain ⟨s1,l1,e1,ac,u,af,ak⟩:=Fq (At:=Cy w) (ok:=fun y:C0=>∀ t∈y.l,t.wf) (ms:=fun y=>Ap Aq y.l) Tryz.underlying23 Qy (by decide) f1 (fun k hk cs x b o hh hx=>by
  obtain ⟨y,s,rfl,q1,q2,q3⟩:=Ab6 k cs x hx
  exact ⟨y,⟨s,hh,q1⟩,q2,q3⟩)
 obtain ⟨s2,l2,e2,ae,aa,ag,al⟩:=Fq (At:=Dr w) (ok:=fun y:Chk=>y.e.wf) (ms:=fun y=>nodes y.e) Tryz.underlying24 S5 (by decide) f2 (fun k hk cs x b o hh hx=>by
  obtain ⟨y,s,rfl,q1,q2,q3⟩:=Aek k cs x hx
  exact ⟨y,⟨s,hh,q1⟩,q2,q3⟩)
 injection e0 with e0;injection e1 with e1;injection e2 with e2
 subst e0;subst e1;subst e2
 simp only [Rows.uptoBulk,Rows.uptoBulkAll,List.map_cons,List.map_nil] at hk
 refine ⟨⟨l0,l1,l2⟩,⟨_,_,_,rfl,ab,ac,ae⟩,⟨⟨j,u,aa⟩,?_,?_,?_,?_⟩⟩
 ·rw [O6];omega
 all_goals (simp only;omega)
end
section
variable {H:Type} {enc:TypeId × Value->H} {w:World}
theorem Ab7 (m:Nat):∀ cs x,DataW.trod enc Tryz.prog w 0 (fun _=>true) true m 27 cs=some x->∃ (s:Value) (vs:List Nat),cs=[s]/\Us w s vs/\Zc vs/\vs.length+1<=Rows.uptoBulk x.1:=by
 intro cs x h
 obtain ⟨s,l,e,hs,aa,-,u⟩:=Fq (At:=UAt w) (ok:=fun n:Nat=>n<18446744073709551616) (ms:=fun _=>0) Tryz.underlying27 O3 (by decide) h (fun k hk cs x b o hh hx=>by
  obtain ⟨n,rfl,h1,h2⟩:=Rh hx
  obtain ⟨j,rfl⟩:=Int.eq_ofNat_of_zero_le h1
  exact ⟨j,hh,by omega,Nat.zero_le _⟩)
 exact ⟨s,l,e,hs,aa,u⟩
end
end Go.Proofs.YtbliplladmamoaaGreat
