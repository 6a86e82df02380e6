/- Laws and walks that a claim of this seat leans on: Lift, LiftE, LiftN. -/
import Derived.Test.YtpngepnfinbaoaaGreatRows
import Derived.Test.YtpngepnfinbaoaaGreatC13
import Derived.WalkKit
import Derived.ProofKit
import Derived.OpenShut
import Derived.JoinedCond
import Derived.Test.YtpngepnfinbaoaaGreatC19
import Derived.Test.YtpngepnfinbaoaaGreatC00
set_option maxRecDepth 100000
set_option maxHeartbeats 8000000
set_option linter.all false
namespace Go.Proofs.YtpngepnfinbaoaaGreat
open Go.RowKit
/-! ### from what is read to a design -/
section
variable {H:Type} {enc:TypeId × Value->H} {w:World}
theorem bulk_one (d:DataW H):1<=Rows.uptoBulk d:=by
 cases d with
 | lit l=>cases l<;>simp [Rows.uptoBulk]
 | nil=>simp [Rows.uptoBulk]
 | ptr d=>simp [Rows.uptoBulk]
 | slice elems spare=>simp [Rows.uptoBulk]
 | agg parts=>simp [Rows.uptoBulk]
 | iface t d=>simp [Rows.uptoBulk]
 | map entries=>simp [Rows.uptoBulk]
 | held h=>simp [Rows.uptoBulk]
theorem has_of_cells {a:Addr} {n:Nat} {cs:List Value} (h:w.cells? 0 a n=some cs) (hn:0<n):∃ b o,a=⟨b,o,none⟩/\cs.length=n/\Has w b o cs:=by
 obtain ⟨-,hl,hc⟩:=World.cells?_some h
 obtain ⟨b,o,spot⟩:=a
 obtain ⟨v,hv⟩:∃ v,cs[0]? = some v:=⟨_,List.getElem?_eq_getElem (by omega)⟩
 have h0:=hc 0 hn
 rw [hv] at h0
 have hspot:spot=none:=by simpa [Addr.add] using World.cell?_spot h0
 subst hspot
 refine ⟨b,o,rfl,hl,fun j u hj=>?_⟩
 have hlt:=(List.getElem?_eq_some_iff.1 hj).1
 rw [<-hj,<-hc j (by omega),Go.WideShapes.add_plain]
theorem lift_rows {α:Type} {size n:Nat} {e:TypeId} {At:α->Nat->Nat->Prop} {ok:α->Prop} {ms:α->Nat} {b:Nat}
  (hE:∀ cs x o,Has w b o cs->DataW.trod enc Tryz.prog w 0 (fun _=>true) true n e cs=some x->∃ y,At y b o/\ok y/\ms y<=Rows.uptoBulk x.1) (elems:List (DataW H × List MemPlace)) :
  ∀ o,(∀ i (hi:i<elems.length),∃ cs,Has w b (o+i*size) cs/\DataW.trod enc Tryz.prog w 0 (fun _=>true) true n e cs=some elems[i])->∃ l:List α,l.length=elems.length/\Rows size At l b o/\(∀ y∈l,ok y)/\sumBy ms l<=Rows.uptoBulkAll (elems.map (·.1)):=by
 induction elems with
 | nil=>intro o _;exact ⟨[],rfl,trivial,by simp,by simp [sumBy]⟩
 | cons x elems ih =>
  intro o h
  obtain ⟨cs,h1,h2⟩:=h 0 (by simp)
  simp only [Nat.zero_mul,Nat.add_zero,Jb] at h1 h2
  obtain ⟨y,q1,q2,q3⟩:=hE cs x o h1 h2
  obtain ⟨l,r1,r2,r3,r4⟩:=ih (o+size) fun i hi=>by
   obtain ⟨cs',h3,h4⟩:=h (i+1) (by simpa using hi)
   refine ⟨cs',?_,by simpa using h4⟩
   rw [show o+size+i*size=o+(i+1)*size by rw [Nat.add_mul];omega]
   exact h3
  refine ⟨y::l,by simp [r1],⟨q1,r2⟩,?_,?_⟩
  ·intro z hz
   rcases List.mem_cons.1 hz with e | hz
   ·rw [e];exact q2
   ·exact r3 z hz
  ·simp only [sumBy,List.map_cons,Rows.uptoBulkAll];omega
theorem lift_slice {α:Type} {size:Nat} {t e:TypeId} (ht:Tryz.prog.underlying t=some (.slice e)) (hc:Tryz.prog.cellsOf e=size) (hs:0<size) {At:α->Nat->Nat->Prop} {ok:α->Prop} {ms:α->Nat} {m:Nat} {cs:List Value} {x:DataW H × List MemPlace} (h:DataW.trod enc Tryz.prog w 0 (fun _=>true) true m t cs=some x)
  (hE:∀ n,n<m->∀ cs x b o,Has w b o cs->DataW.trod enc Tryz.prog w 0 (fun _=>true) true n e cs=some x->∃ y,At y b o/\ok y/\ms y<=Rows.uptoBulk x.1) :
  ∃ s l,cs=[s]/\Sl size At s l/\(∀ y∈l,ok y)/\sumBy ms l+1<=Rows.uptoBulk x.1/\l.length+1<=Rows.uptoBulk x.1:=by
 rcases DataW.trod_slice ht h with ⟨rfl,rfl⟩ | ⟨a,len,cap,elems,rest,n,rfl,rfl,rfl,-,hlc,hcm,hel,hes,-⟩
 ·exact ⟨_,[],rfl,Sl.nil _ _,by simp,by simp [sumBy,Rows.uptoBulk],by simp [Rows.uptoBulk]⟩
 ·rw [hc] at hes
  by_cases h0:0<len
  ·obtain ⟨b,o,ha⟩:∃ b o,a=⟨b,o,none⟩:=by
    have:=hes 0 h0
    rw [List.getElem?_eq_getElem (by omega)] at this
    obtain ⟨cs,q1,-⟩:=Option.bind_eq_some_iff.1 this
    obtain ⟨b,o,q2,-⟩:=has_of_cells q1 hs
    refine ⟨b,o,?_⟩
    rw [Nat.zero_mul] at q2
    obtain ⟨ab,ao,as'⟩:=a
    unfold Addr.add at q2
    split at q2<;>simp_all
   subst ha
   obtain ⟨l,r1,r2,r3,r4⟩:=lift_rows (size:=size) (fun cs x o=>hE n (by omega) cs x b o) elems o fun i hi=>by
    have:=hes i (by omega)
    rw [List.getElem?_eq_getElem hi] at this
    obtain ⟨cs,q1,q2⟩:=Option.bind_eq_some_iff.1 this
    rw [Go.WideShapes.add_plain] at q1
    obtain ⟨b',o',q3,-,q4⟩:=has_of_cells q1 hs
    injection q3 with e1 e2
    subst e1;subst e2
    exact ⟨cs,q4,q2⟩
   refine ⟨_,l,rfl,⟨b,o,⟨_,cap,by rw [r1,hel],by omega,by simpa using hcm,fun _=>rfl⟩,r2⟩,r3,?_,?_⟩
   ·simp only [Rows.uptoBulk];omega
   ·simp only [Rows.uptoBulk]
    have:∀ l:List (DataW H),l.length<=Rows.uptoBulkAll l:=by
     intro l
     induction l with
     | nil=>simp [Rows.uptoBulkAll]
     | cons x r ih=>have:=bulk_one x;simp only [Rows.uptoBulkAll,List.length_cons];omega
    have h2:=this (elems.map (·.1))
    simp only [List.length_map] at h2
    omega
  ·obtain rfl:len=0:=by omega
   exact ⟨_,[],rfl,⟨0,0,⟨_,cap,rfl,Nat.zero_le _,by simpa using hcm,fun h=>by simp at h⟩,trivial⟩,by simp,by simp [sumBy,Rows.uptoBulk],by simp [Rows.uptoBulk]⟩
theorem lift_int {m:Nat} {cs:List Value} {x:DataW H × List MemPlace} (h:DataW.trod enc Tryz.prog w 0 (fun _=>true) true m 3 cs=some x):∃ n,cs=[.int .i64 n]/\i64r n:=by
 obtain ⟨n,rfl,-,hw⟩:=DataW.trod_int Tryz.underlying3 h
 exact ⟨n,rfl,bounds_i64 hw⟩
theorem lift_u64 {m:Nat} {cs:List Value} {x:DataW H × List MemPlace} (h:DataW.trod enc Tryz.prog w 0 (fun _=>true) true m 28 cs=some x):∃ n,cs=[.int .u64 n]/\u64r n:=by
 obtain ⟨n,rfl,-,hw⟩:=DataW.trod_int Tryz.underlying28 h
 exact ⟨n,rfl,bounds_u64 hw⟩
theorem lift_str {m:Nat} {cs:List Value} {x:DataW H × List MemPlace} (h:DataW.trod enc Tryz.prog w 0 (fun _=>true) true m 9 cs=some x):∃ n,cs=[.string n]/\n.size<=9223372036854775807:=by
 obtain ⟨n,rfl,-,hw⟩:=DataW.trod_string Tryz.underlying9 h
 exact ⟨n,rfl,by simpa [maxLen] using hw⟩
theorem cells_int:Tryz.prog.cellsOf 3=1:=by kernel_rfl
theorem cells_u64:Tryz.prog.cellsOf 28=1:=by kernel_rfl
theorem cells_str:Tryz.prog.cellsOf 9=1:=by kernel_rfl
theorem cells_bool:Tryz.prog.cellsOf 4=1:=by kernel_rfl
theorem cells_E:Tryz.prog.cellsOf 31=8:=by kernel_rfl
theorem cells_T:Tryz.prog.cellsOf 39=6:=by kernel_rfl
theorem cells_Sig:Tryz.prog.cellsOf 50=4:=by kernel_rfl
theorem cells_Proc:Tryz.prog.cellsOf 36=2:=by kernel_rfl
theorem cells_Chk:Tryz.prog.cellsOf 99=9:=by kernel_rfl
theorem cells_Flat:Tryz.prog.cellsOf 26=3:=by kernel_rfl
theorem cells_sE:Tryz.prog.cellsOf 29=1:=by kernel_rfl
theorem cells_sT:Tryz.prog.cellsOf 34=1:=by kernel_rfl
theorem cells_sSig:Tryz.prog.cellsOf 22=1:=by kernel_rfl
theorem cells_sProc:Tryz.prog.cellsOf 23=1:=by kernel_rfl
theorem cells_sChk:Tryz.prog.cellsOf 24=1:=by kernel_rfl
theorem lift_E (m:Nat):∀ cs x,DataW.trod enc Tryz.prog w 0 (fun _=>true) true m 31 cs=some x->∃ (e:E) (s:Value),cs=e.cells s/\Es w s e.l/\e.wf/\nodes e<=Rows.uptoBulk x.1:=by
 induction m using Nat.strongRecOn with
 | ind m ih =>
  intro cs x h
  obtain ⟨xs,n,rfl,rfl,hl,hxl,hf⟩:=DataW.trod_struct Tryz.underlying31 h
  rw [cells_E] at hl
  obtain ⟨c0,c1,c2,c3,c4,c5,c6,c7,rfl⟩:∃ c0 c1 c2 c3 c4 c5 c6 c7,cs=[c0,c1,c2,c3,c4,c5,c6,c7]:=by
   match cs,hl with
   | [c0,c1,c2,c3,c4,c5,c6,c7],_=>exact ⟨_,_,_,_,_,_,_,_,rfl⟩
  obtain ⟨x0,x1,x2,x3,x4,x5,x6,x7,rfl⟩:∃ x0 x1 x2 x3 x4 x5 x6 x7,xs=[x0,x1,x2,x3,x4,x5,x6,x7]:=by
   match xs,hxl with
   | [x0,x1,x2,x3,x4,x5,x6,x7],_=>exact ⟨_,_,_,_,_,_,_,_,rfl⟩
  have f0:=hf 0 _ rfl
  have f1:=hf 1 _ rfl
  have f2:=hf 2 _ rfl
  have f3:=hf 3 _ rfl
  have f4:=hf 4 _ rfl
  have f5:=hf 5 _ rfl
  have f6:=hf 6 _ rfl
  have f7:=hf 7 _ rfl
  simp only [cells_int,cells_u64,cells_sE,List.drop_zero,List.drop_succ_cons,List.take_succ_cons,List.take_zero,List.getElem?_cons_zero,List.getElem?_cons_succ] at f0 f1 f2 f3 f4 f5 f6 f7
  obtain ⟨n0,e0,w0⟩:=lift_int f0
  obtain ⟨n1,e1,w1⟩:=lift_int f1
  obtain ⟨n2,e2,w2⟩:=lift_u64 f2
  obtain ⟨n3,e3,w3⟩:=lift_int f3
  obtain ⟨n4,e4,w4⟩:=lift_int f4
  obtain ⟨n5,e5,w5⟩:=lift_int f5
  obtain ⟨n6,e6,w6⟩:=lift_int f6
  obtain ⟨s,l,e7,hsl,hok,hsum,-⟩:=lift_slice (At:=EAt w) (ok:=E.wf) (ms:=nodes) Tryz.underlying29 cells_E (by decide) f7 (fun k hk cs x b o hh hx=>by
   obtain ⟨e,s,rfl,q1,q2,q3⟩:=ih k (by omega) cs x hx
   exact ⟨e,EAt_iff.2 ⟨s,hh,q1⟩,q2,q3⟩)
  injection e0 with e0;injection e1 with e1;injection e2 with e2;injection e3 with e3;injection e4 with e4;injection e5 with e5;injection e6 with e6;injection e7 with e7
  subst e0;subst e1;subst e2;subst e3;subst e4;subst e5;subst e6;subst e7
  refine ⟨⟨n0,n1,n2,n3,n4,n5,n6,l⟩,_,rfl,hsl,(E.wf_iff _).2 ⟨w0,w1,w2,w3,w4,w5,w6,hok⟩,?_⟩
  rw [nodes_eq]
  simp only [Rows.uptoBulk,Rows.uptoBulkAll,List.map_cons,List.map_nil]
  omega
theorem lift_T (m:Nat):∀ cs x,DataW.trod enc Tryz.prog w 0 (fun _=>true) true m 39 cs=some x->∃ (t:T) (s s':Value),cs=t.cells s s'/\Es w s t.e/\Ts w s' t.l/\t.wf/\nodesT t<=Rows.uptoBulk x.1:=by
 induction m using Nat.strongRecOn with
 | ind m ih =>
  intro cs x h
  obtain ⟨xs,n,rfl,rfl,hl,hxl,hf⟩:=DataW.trod_struct Tryz.underlying39 h
  rw [cells_T] at hl
  obtain ⟨c0,c1,c2,c3,c4,c5,rfl⟩:∃ c0 c1 c2 c3 c4 c5,cs=[c0,c1,c2,c3,c4,c5]:=by
   match cs,hl with
   | [c0,c1,c2,c3,c4,c5],_=>exact ⟨_,_,_,_,_,_,rfl⟩
  obtain ⟨x0,x1,x2,x3,x4,x5,rfl⟩:∃ x0 x1 x2 x3 x4 x5,xs=[x0,x1,x2,x3,x4,x5]:=by
   match xs,hxl with
   | [x0,x1,x2,x3,x4,x5],_=>exact ⟨_,_,_,_,_,_,rfl⟩
  have f0:=hf 0 _ rfl
  have f1:=hf 1 _ rfl
  have f2:=hf 2 _ rfl
  have f3:=hf 3 _ rfl
  have f4:=hf 4 _ rfl
  have f5:=hf 5 _ rfl
  simp only [cells_int,cells_sE,cells_sT,List.drop_zero,List.drop_succ_cons,List.take_succ_cons,List.take_zero,List.getElem?_cons_zero,List.getElem?_cons_succ] at f0 f1 f2 f3 f4 f5
  obtain ⟨n0,e0,w0⟩:=lift_int f0
  obtain ⟨n1,e1,w1⟩:=lift_int f1
  obtain ⟨n2,e2,w2⟩:=lift_int f2
  obtain ⟨n3,e3,w3⟩:=lift_int f3
  obtain ⟨s4,l4,e4,hs4,hok4,hsum4,-⟩:=lift_slice (At:=EAt w) (ok:=E.wf) (ms:=nodes) Tryz.underlying29 cells_E (by decide) f4 (fun k hk cs x b o hh hx=>by
   obtain ⟨e,s,rfl,q1,q2,q3⟩:=lift_E k cs x hx
   exact ⟨e,EAt_iff.2 ⟨s,hh,q1⟩,q2,q3⟩)
  obtain ⟨s5,l5,e5,hs5,hok5,hsum5,-⟩:=lift_slice (At:=TAt w) (ok:=T.wf) (ms:=nodesT) Tryz.underlying34 cells_T (by decide) f5 (fun k hk cs x b o hh hx=>by
   obtain ⟨t,s,s',rfl,q1,q2,q3,q4⟩:=ih k (by omega) cs x hx
   exact ⟨t,TAt_iff.2 ⟨s,s',hh,q1,q2⟩,q3,q4⟩)
  injection e0 with e0;injection e1 with e1;injection e2 with e2;injection e3 with e3;injection e4 with e4;injection e5 with e5
  subst e0;subst e1;subst e2;subst e3;subst e4;subst e5
  refine ⟨⟨n0,n1,n2,n3,l4,l5⟩,_,_,rfl,hs4,hs5,(T.wf_iff _).2 ⟨w0,w1,w2,w3,hok4,hok5⟩,?_⟩
  rw [nodesT_eq]
  simp only [Rows.uptoBulk,Rows.uptoBulkAll,List.map_cons,List.map_nil]
  omega
theorem lift_Sig (m:Nat):∀ cs x,DataW.trod enc Tryz.prog w 0 (fun _=>true) true m 50 cs=some x->∃ y:Signal,cs=y.cells/\y.wf:=by
 intro cs x h
 obtain ⟨xs,n,rfl,rfl,hl,hxl,hf⟩:=DataW.trod_struct Tryz.underlying50 h
 rw [cells_Sig] at hl
 obtain ⟨c0,c1,c2,c3,rfl⟩:∃ c0 c1 c2 c3,cs=[c0,c1,c2,c3]:=by
  match cs,hl with
  | [c0,c1,c2,c3],_=>exact ⟨_,_,_,_,rfl⟩
 obtain ⟨x0,x1,x2,x3,rfl⟩:∃ x0 x1 x2 x3,xs=[x0,x1,x2,x3]:=by
  match xs,hxl with
  | [x0,x1,x2,x3],_=>exact ⟨_,_,_,_,rfl⟩
 have f0:=hf 0 _ rfl
 have f1:=hf 1 _ rfl
 have f2:=hf 2 _ rfl
 have f3:=hf 3 _ rfl
 simp only [cells_int,cells_u64,cells_str,List.drop_zero,List.drop_succ_cons,List.take_succ_cons,List.take_zero,List.getElem?_cons_zero,List.getElem?_cons_succ] at f0 f1 f2 f3
 obtain ⟨n0,e0,w0⟩:=lift_str f0
 obtain ⟨n1,e1,w1⟩:=lift_int f1
 obtain ⟨n2,e2,w2⟩:=lift_int f2
 obtain ⟨n3,e3,w3⟩:=lift_u64 f3
 injection e0 with e0;injection e1 with e1;injection e2 with e2;injection e3 with e3
 subst e0;subst e1;subst e2;subst e3
 exact ⟨⟨n0,n1,n2,n3⟩,rfl,w1,w2,w3,w0⟩
theorem lift_Proc (m:Nat):∀ cs x,DataW.trod enc Tryz.prog w 0 (fun _=>true) true m 36 cs=some x->∃ (y:Proc) (s:Value),cs=y.cells s/\Ts w s y.l/\(∀ t∈y.l,t.wf)/\sumBy nodesT y.l<=Rows.uptoBulk x.1:=by
 intro cs x h
 obtain ⟨xs,n,rfl,rfl,hl,hxl,hf⟩:=DataW.trod_struct Tryz.underlying36 h
 rw [cells_Proc] at hl
 obtain ⟨c0,c1,rfl⟩:∃ c0 c1,cs=[c0,c1]:=by
  match cs,hl with
  | [c0,c1],_=>exact ⟨_,_,rfl⟩
 obtain ⟨x0,x1,rfl⟩:∃ x0 x1,xs=[x0,x1]:=by
  match xs,hxl with
  | [x0,x1],_=>exact ⟨_,_,rfl⟩
 have f0:=hf 0 _ rfl
 have f1:=hf 1 _ rfl
 simp only [cells_bool,cells_sT,List.drop_zero,List.drop_succ_cons,List.take_succ_cons,List.take_zero,List.getElem?_cons_zero,List.getElem?_cons_succ] at f0 f1
 obtain ⟨b0,e0,-⟩:=DataW.trod_bool Tryz.underlying4 f0
 obtain ⟨s1,l1,e1,hs1,hok1,hsum1,-⟩:=lift_slice (At:=TAt w) (ok:=T.wf) (ms:=nodesT) Tryz.underlying34 cells_T (by decide) f1 (fun k hk cs x b o hh hx=>by
  obtain ⟨t,s,s',rfl,q1,q2,q3,q4⟩:=lift_T k cs x hx
  exact ⟨t,TAt_iff.2 ⟨s,s',hh,q1,q2⟩,q3,q4⟩)
 injection e0 with e0;injection e1 with e1
 subst e0;subst e1
 refine ⟨⟨b0,l1⟩,_,rfl,hs1,hok1,?_⟩
 simp only [Rows.uptoBulk,Rows.uptoBulkAll,List.map_cons,List.map_nil]
 omega
theorem lift_Chk (m:Nat):∀ cs x,DataW.trod enc Tryz.prog w 0 (fun _=>true) true m 99 cs=some x->∃ (y:Chk) (s:Value),cs=y.cells s/\Es w s y.e.l/\y.e.wf/\nodes y.e<=Rows.uptoBulk x.1:=by
 intro cs x h
 obtain ⟨xs,n,rfl,rfl,hl,hxl,hf⟩:=DataW.trod_struct Tryz.underlying99 h
 rw [cells_Chk] at hl
 obtain ⟨c0,r,rfl⟩:∃ c0 r,cs=c0::r:=by
  match cs,hl with
  | c0::r,_=>exact ⟨_,_,rfl⟩
 obtain ⟨x0,x1,rfl⟩:∃ x0 x1,xs=[x0,x1]:=by
  match xs,hxl with
  | [x0,x1],_=>exact ⟨_,_,rfl⟩
 have f0:=hf 0 _ rfl
 have f1:DataW.trod enc Tryz.prog w 0 (fun _=>true) true n 31 ((List.drop 1 (c0::r)).take (Tryz.prog.cellsOf 31))=some x1:=hf 1 _ rfl
 simp only [cells_str,List.drop_zero,List.take_succ_cons,List.take_zero,List.getElem?_cons_zero] at f0
 rw [cells_E,List.drop_succ_cons,List.drop_zero,List.take_of_length_le (by simp only [List.length_cons] at hl;omega)] at f1
 obtain ⟨n0,e0,w0⟩:=lift_str f0
 obtain ⟨e,s,rfl,q1,q2,q3⟩:=lift_E _ _ _ f1
 injection e0 with e0
 subst e0
 refine ⟨⟨n0,e⟩,s,rfl,q1,q2,?_⟩
 simp only [Rows.uptoBulk,Rows.uptoBulkAll,List.map_cons,List.map_nil]
 omega
theorem lift_Flat (m:Nat):∀ cs x,DataW.trod enc Tryz.prog w 0 (fun _=>true) true m 26 cs=some x->Rows.uptoBulk x.1<=1048576->∃ d:Flat,FlatV w (.agg cs.toArray) d/\d.ok:=by
 intro cs x h hk
 obtain ⟨xs,n,rfl,rfl,hl,hxl,hf⟩:=DataW.trod_struct Tryz.underlying26 h
 rw [cells_Flat] at hl
 obtain ⟨c0,c1,c2,rfl⟩:∃ c0 c1 c2,cs=[c0,c1,c2]:=by
  match cs,hl with
  | [c0,c1,c2],_=>exact ⟨_,_,_,rfl⟩
 obtain ⟨x0,x1,x2,rfl⟩:∃ x0 x1 x2,xs=[x0,x1,x2]:=by
  match xs,hxl with
  | [x0,x1,x2],_=>exact ⟨_,_,_,rfl⟩
 have f0:=hf 0 _ rfl
 have f1:=hf 1 _ rfl
 have f2:=hf 2 _ rfl
 simp only [cells_sSig,cells_sProc,cells_sChk,List.drop_zero,List.drop_succ_cons,List.take_succ_cons,List.take_zero,List.getElem?_cons_zero,List.getElem?_cons_succ] at f0 f1 f2
 obtain ⟨s0,l0,e0,hs0,hok0,-,hln0⟩:=lift_slice (At:=SigAt w) (ok:=Signal.wf) (ms:=fun _=>0) Tryz.underlying22 cells_Sig (by decide) f0 (fun k hk cs x b o hh hx=>by
  obtain ⟨y,rfl,q1⟩:=lift_Sig k cs x hx
  exact ⟨y,hh,q1,Nat.zero_le _⟩)
 obtain ⟨s1,l1,e1,hs1,hok1,hsum1,hln1⟩:=lift_slice (At:=ProcAt w) (ok:=fun y:Proc=>∀ t∈y.l,t.wf) (ms:=fun y=>sumBy nodesT y.l) Tryz.underlying23 cells_Proc (by decide) f1 (fun k hk cs x b o hh hx=>by
  obtain ⟨y,s,rfl,q1,q2,q3⟩:=lift_Proc k cs x hx
  exact ⟨y,⟨s,hh,q1⟩,q2,q3⟩)
 obtain ⟨s2,l2,e2,hs2,hok2,hsum2,hln2⟩:=lift_slice (At:=ChkAt w) (ok:=fun y:Chk=>y.e.wf) (ms:=fun y=>nodes y.e) Tryz.underlying24 cells_Chk (by decide) f2 (fun k hk cs x b o hh hx=>by
  obtain ⟨y,s,rfl,q1,q2,q3⟩:=lift_Chk k cs x hx
  exact ⟨y,⟨s,hh,q1⟩,q2,q3⟩)
 injection e0 with e0;injection e1 with e1;injection e2 with e2
 subst e0;subst e1;subst e2
 simp only [Rows.uptoBulk,Rows.uptoBulkAll,List.map_cons,List.map_nil] at hk
 refine ⟨⟨l0,l1,l2⟩,⟨_,_,_,rfl,hs0,hs1,hs2⟩,⟨⟨hok0,hok1,hok2⟩,?_,?_,?_,?_⟩⟩
 ·rw [mNodes_eq];omega
 all_goals (simp only;omega)
end
section
variable {H:Type} {enc:TypeId × Value->H} {w:World}
theorem lift_U64s (m:Nat):∀ cs x,DataW.trod enc Tryz.prog w 0 (fun _=>true) true m 27 cs=some x->∃ (s:Value) (vs:List Nat),cs=[s]/\Us w s vs/\us64 vs/\vs.length+1<=Rows.uptoBulk x.1:=by
 intro cs x h
 obtain ⟨s,l,e,hs,hok,-,hln⟩:=lift_slice (At:=UAt w) (ok:=fun n:Nat=>n<18446744073709551616) (ms:=fun _=>0) Tryz.underlying27 cells_u64 (by decide) h (fun k hk cs x b o hh hx=>by
  obtain ⟨n,rfl,h1,h2⟩:=lift_u64 hx
  obtain ⟨j,rfl⟩:=Int.eq_ofNat_of_zero_le h1
  exact ⟨j,hh,by omega,Nat.zero_le _⟩)
 exact ⟨s,l,e,hs,hok,hln⟩
end
section
variable {H:Type} {enc:TypeId × Value->H} {w:World}
theorem sumBy_two {α:Type} (f:α->Nat) (l:List α):sumBy (fun x=>2*f x) l=2*sumBy f l:=by
 induction l with
 | nil=>rfl
 | cons x l ih =>
  show 2*f x+sumBy (fun x=>2*f x) l=2*(f x+sumBy f l)
  rw [ih];omega
theorem lift_E2 (m:Nat):∀ cs x,DataW.trod enc Tryz.prog w 0 (fun _=>true) true m 31 cs=some x->∃ (e:E) (s:Value),cs=e.cells s/\Es w s e.l/\e.wf/\2*nodes e<=Rows.uptoBulk x.1:=by
 induction m using Nat.strongRecOn with
 | ind m ih =>
  intro cs x h
  obtain ⟨xs,n,rfl,rfl,hl,hxl,hf⟩:=DataW.trod_struct Tryz.underlying31 h
  rw [cells_E] at hl
  obtain ⟨c0,c1,c2,c3,c4,c5,c6,c7,rfl⟩:∃ c0 c1 c2 c3 c4 c5 c6 c7,cs=[c0,c1,c2,c3,c4,c5,c6,c7]:=by
   match cs,hl with
   | [c0,c1,c2,c3,c4,c5,c6,c7],_=>exact ⟨_,_,_,_,_,_,_,_,rfl⟩
  obtain ⟨x0,x1,x2,x3,x4,x5,x6,x7,rfl⟩:∃ x0 x1 x2 x3 x4 x5 x6 x7,xs=[x0,x1,x2,x3,x4,x5,x6,x7]:=by
   match xs,hxl with
   | [x0,x1,x2,x3,x4,x5,x6,x7],_=>exact ⟨_,_,_,_,_,_,_,_,rfl⟩
  have f0:=hf 0 _ rfl
  have f1:=hf 1 _ rfl
  have f2:=hf 2 _ rfl
  have f3:=hf 3 _ rfl
  have f4:=hf 4 _ rfl
  have f5:=hf 5 _ rfl
  have f6:=hf 6 _ rfl
  have f7:=hf 7 _ rfl
  simp only [cells_int,cells_u64,cells_sE,List.drop_zero,List.drop_succ_cons,List.take_succ_cons,List.take_zero,List.getElem?_cons_zero,List.getElem?_cons_succ] at f0 f1 f2 f3 f4 f5 f6 f7
  obtain ⟨n0,e0,w0⟩:=lift_int f0
  obtain ⟨n1,e1,w1⟩:=lift_int f1
  obtain ⟨n2,e2,w2⟩:=lift_u64 f2
  obtain ⟨n3,e3,w3⟩:=lift_int f3
  obtain ⟨n4,e4,w4⟩:=lift_int f4
  obtain ⟨n5,e5,w5⟩:=lift_int f5
  obtain ⟨n6,e6,w6⟩:=lift_int f6
  obtain ⟨s,l,e7,hsl,hok,hsum,-⟩:=lift_slice (At:=EAt w) (ok:=E.wf) (ms:=fun e=>2*nodes e) Tryz.underlying29 cells_E (by decide) f7 (fun k hk cs x b o hh hx=>by
   obtain ⟨e,s,rfl,q1,q2,q3⟩:=ih k (by omega) cs x hx
   exact ⟨e,EAt_iff.2 ⟨s,hh,q1⟩,q2,q3⟩)
  injection e0 with e0;injection e1 with e1;injection e2 with e2;injection e3 with e3;injection e4 with e4;injection e5 with e5;injection e6 with e6;injection e7 with e7
  subst e0;subst e1;subst e2;subst e3;subst e4;subst e5;subst e6;subst e7
  refine ⟨⟨n0,n1,n2,n3,n4,n5,n6,l⟩,_,rfl,hsl,(E.wf_iff _).2 ⟨w0,w1,w2,w3,w4,w5,w6,hok⟩,?_⟩
  rw [sumBy_two] at hsum
  have b0:=bulk_one x0.1
  have b1:=bulk_one x1.1
  have b2:=bulk_one x2.1
  have b3:=bulk_one x3.1
  have b4:=bulk_one x4.1
  rw [nodes_eq]
  simp only [Rows.uptoBulk,Rows.uptoBulkAll,List.map_cons,List.map_nil]
  omega
end
end Go.Proofs.YtpngepnfinbaoaaGreat
