/- Laws and walks that a claim of this seat leans on: Lit, WordC, Catch, Cyc1, Cyc2. -/
import Derived.Test.YtoaamjgfhppppaaGreatT26
import Derived.Test.YtoaamjgfhppppaaGreatT17
import Derived.Test.YtoaamjgfhppppaaGreatT23
import Derived.Test.YtoaamjgfhppppaaGreatT01
import Derived.Recover
import Derived.Test.YtoaamjgfhppppaaGreatT25
import Derived.Test.YtoaamjgfhppppaaGreatT24
import Derived.Test.YtoaamjgfhppppaaGreatTLint
import Derived.Test.YtoaamjgfhppppaaGreatT00
set_option maxRecDepth 100000
set_option maxHeartbeats 8000000
set_option linter.all false
namespace Go.Proofs.YtoaamjgfhppppaaGreat
open Go.RowKit
def AllL {α:Type} (C:Value->List α->Prop):List Value->List (List α)->Prop
 | u::us,x::xs=>C u x/\AllL C us xs
 | [],[]=>True
 | _,_=>False
theorem slLc {α:Type} {C:Value->List α->Prop} {w:World} {B n c:Nat} {us:List Value} {ll:List (List α)} (h:Has w B 0 us) (hnc:n<=c) (hn:c<=maxLen) (hu:us.length=n) (hc:AllL C us ll) :
  Sl 1 (fun (x:List α) b o=>∃ u,Has w b o [u]/\C u x) (.slice (some ⟨B,0,none⟩) n c) ll:=by
 have key:∀ (us:List Value) (ll:List (List α)) (o:Nat),Has w B o us->AllL C us ll->us.length=ll.length/\Rows 1 (fun (x:List α) b o=>∃ u,Has w b o [u]/\C u x) ll B o:=by
  intro us
  induction us with
  | nil =>
   intro ll o _ hc
   cases ll with
   | nil=>exact ⟨rfl,trivial⟩
   | cons x ll=>exact hc.elim
  | cons u us ih =>
   intro ll o h hc
   cases ll with
   | nil=>exact hc.elim
   | cons x ll =>
    obtain ⟨h1,h2⟩:=ih ll (o+1) (fun j v hj=>by have:=h (j+1) v hj;rwa [show o+(j+1)=o+1+j by omega] at this) hc.2
    refine ⟨by simp [h1],⟨u,fun j v hj=>?_,hc.1⟩,h2⟩
    cases j with
    | zero=>exact h 0 v hj
    | succ j=>simp at hj
 obtain ⟨h1,h2⟩:=key us ll 0 h hc
 exact ⟨B,0,⟨_,c,by rw [<-h1,hu],by rw [<-h1,hu];exact hnc,hn,fun _=>rfl⟩,h2⟩
theorem slL {α:Type} {C:Value->List α->Prop} {w:World} {B n:Nat} {us:List Value} {ll:List (List α)} (h:Has w B 0 us) (hn:n<=maxLen) (hu:us.length=n) (hc:AllL C us ll) :
  Sl 1 (fun (x:List α) b o=>∃ u,Has w b o [u]/\C u x) (.slice (some ⟨B,0,none⟩) n n) ll:=slLc h (Nat.le_refl _) hn hu hc
theorem UsL.ext {w w':World} {v:Value} {l:List (List Nat)} (h:UsL w v l) (hx:Ext w w'):UsL w' v l:=h.mono fun _ _ _ _ ⟨u,h1,h2⟩=>⟨u,Has.ext h1 hx,h2.ext hx⟩
theorem BsL.ext {w w':World} {v:Value} {l:List (List Bool)} (h:BsL w v l) (hx:Ext w w'):BsL w' v l:=h.mono fun _ _ _ _ ⟨u,h1,h2⟩=>⟨u,Has.ext h1 hx,h2.ext hx⟩
theorem AllL.mono {α:Type} {C C':Value->List α->Prop} (hm:∀ u x,C u x->C' u x):∀ {us:List Value} {ll:List (List α)},AllL C us ll->AllL C' us ll
 | [],[],_=>trivial
 | _::_,_::_,h=>⟨hm _ _ h.1,AllL.mono hm h.2⟩
 | [],_::_,h=>h.elim
 | _::_,[],h=>h.elim
theorem flatV1 (us:List Value):(us.map fun u=>[u]).flatten=us:=by induction us with | nil=>rfl | cons u us ih=>simp [ih]
theorem bsU {ops:Array Oper} {rest:List Oper} {o:Oper} {a:Act} {w:World} {Q:Exit->Act->World->Prop} (hw:Region.wanted o (yielded ops a.tmps)=true) (n:Nat) (ps:Array (Nat × Operand))
  (ho:o.op=.buildSlice 27 n ps) (l:List Nat) (hx:ps.toList.map (fun p=>(p.1,a.eval p.2))=((l.map W64).zipIdx 0).map fun x=>(x.2,x.1)) (hl:l.length=n) (h0:0<n) (hn:n*1<=16777216)
  (h:∀ W B,Ext w W->Us W (.slice (some ⟨B,0,none⟩) n n) l->wpList Tryz.prog ops Q rest (a.put o.dst (.slice (some ⟨B,0,none⟩) n n)) W):wpList Tryz.prog ops Q (o::rest) a w:=by
 refine wpList_bsN hw _ n ps ho appWord hx (by rw [List.length_map,hl]) (css:=l.map fun x=>[W64 x]) (by rw [List.map_map,List.map_map];rfl) (by intro cs h;obtain ⟨x,-,rfl⟩:=List.mem_map.1 h;rfl) h0 hn (h _ _ (ext_alloc _ _) ?_)
 exact ⟨w.heap.size,0,⟨_,n,by rw [hl],by rw [hl];exact Nat.le_refl _,Nat.le_trans (by omega) (by decide:16777216<=maxLen),fun _=>rfl⟩,rows_flat (f:=fun x:Nat=>[Value.int .u64 (x:Int)]) (fun _=>rfl) l 0 (Blk.new w _ _).has⟩
theorem bsB {ops:Array Oper} {rest:List Oper} {o:Oper} {a:Act} {w:World} {Q:Exit->Act->World->Prop} (hw:Region.wanted o (yielded ops a.tmps)=true) (n:Nat) (ps:Array (Nat × Operand))
  (ho:o.op=.buildSlice 64 n ps) (l:List Bool) (hx:ps.toList.map (fun p=>(p.1,a.eval p.2))=((l.map Value.bool).zipIdx 0).map fun x=>(x.2,x.1)) (hl:l.length=n) (h0:0<n) (hn:n*1<=16777216)
  (h:∀ W B,Ext w W->Bools W (.slice (some ⟨B,0,none⟩) n n) l->wpList Tryz.prog ops Q rest (a.put o.dst (.slice (some ⟨B,0,none⟩) n n)) W):wpList Tryz.prog ops Q (o::rest) a w:=by
 refine wpList_bsN hw _ n ps ho appBool hx (by rw [List.length_map,hl]) (css:=l.map fun x=>[Value.bool x]) (by rw [List.map_map,List.map_map];rfl) (by intro cs h;obtain ⟨x,-,rfl⟩:=List.mem_map.1 h;rfl) h0 hn (h _ _ (ext_alloc _ _) ?_)
 exact ⟨w.heap.size,0,⟨_,n,by rw [hl],by rw [hl];exact Nat.le_refl _,Nat.le_trans (by omega) (by decide:16777216<=maxLen),fun _=>rfl⟩,rows_flat (f:=fun x:Bool=>[Value.bool x]) (fun _=>rfl) l 0 (Blk.new w _ _).has⟩
theorem bsL {ops:Array Oper} {rest:List Oper} {o:Oper} {a:Act} {w:World} {Q:Exit->Act->World->Prop} (hw:Region.wanted o (yielded ops a.tmps)=true) (n:Nat) (ps:Array (Nat × Operand))
  (ho:o.op=.buildSlice 55 n ps) (us:List Value) (hx:ps.toList.map (fun p=>(p.1,a.eval p.2))=((us).zipIdx 0).map fun x=>(x.2,x.1)) (hl:us.length=n) (h0:0<n) (hn:n*1<=16777216)
  {ll:List (List Nat)} (hc:AllL (Us w) us ll) (hone:us.map (·.cells)=us.map fun u=>#[u]) (h:∀ W B,Ext w W->UsL W (.slice (some ⟨B,0,none⟩) n n) ll->wpList Tryz.prog ops Q rest (a.put o.dst (.slice (some ⟨B,0,none⟩) n n)) W):wpList Tryz.prog ops Q (o::rest) a w:=by
 refine wpList_bsN hw _ n ps ho appWords hx hl (css:=us.map fun u=>[u]) (by rw [hone,List.map_map];rfl) (by simp) h0 hn (h _ _ (ext_alloc _ _) ?_)
 exact slL (us:=us) (by rw [flatV1];exact (Blk.new w us.toArray 27).has) (Nat.le_trans (by omega) (by decide:16777216<=maxLen)) hl (AllL.mono (fun u x hu=>hu.ext (ext_alloc _ _)) hc)
theorem bsK {ops:Array Oper} {rest:List Oper} {o:Oper} {a:Act} {w:World} {Q:Exit->Act->World->Prop} (hw:Region.wanted o (yielded ops a.tmps)=true) (n:Nat) (ps:Array (Nat × Operand))
  (ho:o.op=.buildSlice 57 n ps) (us:List Value) (hx:ps.toList.map (fun p=>(p.1,a.eval p.2))=((us).zipIdx 0).map fun x=>(x.2,x.1)) (hl:us.length=n) (h0:0<n) (hn:n*1<=16777216)
  {ll:List (List Bool)} (hc:AllL (Bools w) us ll) (hone:us.map (·.cells)=us.map fun u=>#[u]) (h:∀ W B,Ext w W->BsL W (.slice (some ⟨B,0,none⟩) n n) ll->wpList Tryz.prog ops Q rest (a.put o.dst (.slice (some ⟨B,0,none⟩) n n)) W):wpList Tryz.prog ops Q (o::rest) a w:=by
 refine wpList_bsN hw _ n ps ho appBoolss hx hl (css:=us.map fun u=>[u]) (by rw [hone,List.map_map];rfl) (by simp) h0 hn (h _ _ (ext_alloc _ _) ?_)
 exact slL (us:=us) (by rw [flatV1];exact (Blk.new w us.toArray 64).has) (Nat.le_trans (by omega) (by decide:16777216<=maxLen)) hl (AllL.mono (fun u x hu=>hu.ext (ext_alloc _ _)) hc)
theorem WordRow.cellf {N g cap n:Nat} {l:List Nat} {w:World} (h:WordRow N (.slice (some ⟨g,0,none⟩) n cap) l w) {j:Nat} (hj:j<l.length):w.cell? ⟨g,j,none⟩=some (W64 l[j])/\w.frozen? ⟨g,j,none⟩=false:=by
 obtain ⟨g',cap',e,-,hc⟩:=h.open1 (by omega)
 injection e with e
 injection e with e
 injection e with e
 subst e
 obtain ⟨-,cur,hcur⟩:=h.at rfl
 exact ⟨hc j _ (List.getElem?_eq_getElem hj),Blk.frozen (cs:=cur) (T:=39) hcur j⟩
abbrev panicE (e:Int):PanicEntry:={ v:=.iface 31 (.int .i64 e),recovered:=false }
abbrev panicOf (e:Int):Ending:=.panicked [panicE e]
theorem on_ok (w:World):Calls Tryz.prog 73 #[.int .i64 0] w fun r w'=>r=.returned (.tuple #[])/\Ext w w':=by
 go_enter Tryz.func73,Tryz.ntmps73
 go_wp2_with fail
 all_goals go_end0
 exact ⟨rfl,Below.refl _ _⟩
theorem on_fail (e:Int) (he:e≠0) (w:World):Calls Tryz.prog 73 #[.int .i64 e] w fun r w'=>r=panicOf e/\Ext w w':=by
 have b:(e != 0)=true:=by rw [bne_iff_ne];exact he
 go_enter Tryz.func73,Tryz.ntmps73
 go_wp2_with fail
 exact ⟨rfl,rfl,Below.refl _ _⟩
theorem assert_nil (w:World):(Instr.typeAssert .nilIface 20 31 true).run Tryz.prog w=.ok (.tuple #[.int .i64 0,.bool false]) w:=by
 kernel_rfl
theorem assert_hit (x:Int) (w:World):(Instr.typeAssert (.iface 31 (.int .i64 x)) 20 31 true).run Tryz.prog w=.ok (.tuple #[.int .i64 x,.bool true]) w:=by
 kernel_rfl
theorem wpS_region' {P:Program} {Q:Exit->Act->List Frame->World->Prop} {a:Act} {cs:List Frame} {w:World} {id:Nat} {ops:Array Oper} (l:List Nat) (hl:List.range ops.size=l) (h:wpOpsS P ops Q l a cs w):(Code.region id ops false).wpS P Q a cs w:=by
 subst hl;exact wpS_region h
theorem wpOpsS_nil {P:Program} {Q:Exit->Act->List Frame->World->Prop} {a:Act} {cs:List Frame} {w:World} {ops:Array Oper} (h:Q .normal a cs w):wpOpsS P ops Q [] a cs w:=h
theorem wpOpsS_ok {P:Program} {Q:Exit->Act->List Frame->World->Prop} {a:Act} {cs:List Frame} {w w':World} {ops:Array Oper} {i:Nat} {rest:List Nat} {o:Oper} (v:Value) (ho:ops[i]? = some o) (hw:Region.wanted o (yielded ops a.tmps)=true)
  (hr:(execOp a.eval o).run P w=.ok (.value v) w') (h:wpOpsS P ops Q rest (a.put o.dst v) cs w'):wpOpsS P ops Q (i::rest) a cs w:=by
 unfold wpOpsS
 simp only [ho,hw,hr,if_true]
 exact h
theorem wpOpsS_rec {P:Program} {Q:Exit->Act->List Frame->World->Prop} {a:Act} {cs:List Frame} {w:World} {ops:Array Oper} {i:Nat} {rest:List Nat} {o:Oper} (ho:ops[i]? = some o) (hw:Region.wanted o (yielded ops a.tmps)=true)
  (hr:(execOp a.eval o).run P w=.ok .recover w) (h:match recoverD cs with | some (v,cs')=>wpOpsS P ops Q rest (a.put o.dst v) cs' w | none=>wpOpsS P ops Q rest (a.put o.dst .nilIface) cs w):wpOpsS P ops Q (i::rest) a cs w:=by
 unfold wpOpsS
 simp only [ho,hw,hr,if_true]
 exact h
theorem catch_idle (p q:Addr) (w:World) :
  CallsD Tryz.prog 72 #[.pointer (some p),.pointer (some q)] .returning w fun e u' w'=>e=.returned (.tuple #[])/\u'=.returning/\w'=w:=by
 refine callsD_of_wpS Tryz.func72 rfl fun c₀ cs hu=>?_
 simp only [Tryz.ntmps72,List.size_toArray,List.length_cons,List.length_nil,Nat.reduceAdd,Nat.reduceSub,Array.replicate_succ,Array.replicate_zero,List.push_toArray,List.append_toArray,List.nil_append,List.cons_append]
 apply wpS_seq
 refine wpS_region' [0,1,2,3,4,5,6] (by kernel_rfl) ?_
 have hr:recoverD (c₀::cs)=none:=by simp [recoverD,hu]
 refine wpOpsS_rec (o:=⟨some 5,.call ⟨.builtin .recover,#[],#[]⟩,_,_,_,_⟩) rfl rfl rfl ?_
 rw [hr]
 simp only [Act.put,Jd,Jc,Jb,Ja,Je,Jf]
 refine wpOpsS_ok (o:=⟨some 6,.typeAssert (.tmp 5) 20 31 true,_,_,_,_⟩) (.tuple #[.int .i64 0,.bool false]) rfl rfl (by show ((Instr.typeAssert (.nilIface) 20 31 true) >>= fun v=>pure (Next.value v)).run _ w=_;rw [Sem.run_bind,assert_nil w];rfl) ?_
 simp only [Act.put,Jd,Jc,Jb,Ja,Je,Jf]
 refine wpOpsS_ok (o:=⟨some 4,.move (.tmp 6),_,_,_,_⟩) (.tuple #[.int .i64 0,.bool false]) rfl rfl (rfl) ?_
 simp only [Act.put,Jd,Jc,Jb,Ja,Je,Jf]
 refine wpOpsS_ok (o:=⟨some 7,.extract (.tmp 4) 0,_,_,_,_⟩) (.int .i64 0) rfl rfl (rfl) ?_
 simp only [Act.put,Jd,Jc,Jb,Ja,Je,Jf]
 refine wpOpsS_ok (o:=⟨some 8,.extract (.tmp 4) 1,_,_,_,_⟩) (.bool false) rfl rfl (rfl) ?_
 simp only [Act.put,Jd,Jc,Jb,Ja,Je,Jf]
 refine wpOpsS_ok (o:=⟨some 2,.assign (.tmp 7),_,_,_,_⟩) (.int .i64 0) rfl rfl (rfl) ?_
 simp only [Act.put,Jd,Jc,Jb,Ja,Je,Jf]
 refine wpOpsS_ok (o:=⟨some 3,.assign (.tmp 8),_,_,_,_⟩) (.bool false) rfl rfl (rfl) ?_
 simp only [Act.put,Jd,Jc,Jb,Ja,Je,Jf]
 refine wpOpsS_nil ?_
 show Code.wpS _ _ _ _ _ _
 apply wpS_seq
 refine wpS_region' [0] (by kernel_rfl) ?_
 refine wpOpsS_ok (o:=⟨some 9,.move (.tmp 3),_,_,_,_⟩) (.bool false) rfl rfl (rfl) ?_
 simp only [Act.put,Jd,Jc,Jb,Ja,Je,Jf]
 refine wpOpsS_nil ?_
 show Code.wpS _ _ _ _ _ _
 refine wpS_cond (t:=false) rfl ?_
 simp only [Bool.false_eq_true,if_false]
 refine wpS_of_wp (wp_skip ?_)
 exact ⟨rfl,.returning,by rw [<-hu],.tuple #[],by simp [results,Tryz.results72,go_sem],rfl,rfl,rfl⟩
theorem catch_panic (x e:Int) (Bp Be:Nat) (v0:Value) (w:World) (hp:Blk w Bp #[v0] 84) (he:Blk w Be #[.int .i64 e] 31) (hne:Bp≠Be) (older:List PanicEntry) :
  CallsD Tryz.prog 72 #[.pointer (some ⟨Bp,0,none⟩),.pointer (some ⟨Be,0,none⟩)] (.panicking (panicE x::older)) w fun r u' w' =>
   r=.returned (.tuple #[])/\u'=.panicking ({ panicE x with recovered:=true }::older) /\
   w'=((w.alloc (.cells #[.slice none 0 0,.slice none 0 0,.slice none 0 0,.slice none 0 0,.slice none 0 0] 89)).setCell ⟨Bp,0,none⟩ (.pointer (some ⟨w.heap.size,0,none⟩))).setCell ⟨Be,0,none⟩ (.int .i64 x):=by
 refine callsD_of_wpS Tryz.func72 rfl fun c₀ cs hu=>?_
 simp only [Tryz.ntmps72,List.size_toArray,List.length_cons,List.length_nil,Nat.reduceAdd,Nat.reduceSub,Array.replicate_succ,Array.replicate_zero,List.push_toArray,List.append_toArray,List.nil_append,List.cons_append]
 apply wpS_seq
 refine wpS_region' [0,1,2,3,4,5,6] (by kernel_rfl) ?_
 have hr:recoverD (c₀::cs)=some (.iface 31 (.int .i64 x),{ c₀ with mode:=.panicking ({ panicE x with recovered:=true }::older) }::cs):=by simp [recoverD,hu]
 refine wpOpsS_rec (o:=⟨some 5,.call ⟨.builtin .recover,#[],#[]⟩,_,_,_,_⟩) rfl rfl rfl ?_
 rw [hr]
 simp only [Act.put,Jd,Jc,Jb,Ja,Je,Jf]
 refine wpOpsS_ok (o:=⟨some 6,.typeAssert (.tmp 5) 20 31 true,_,_,_,_⟩) (.tuple #[.int .i64 x,.bool true]) rfl rfl (by show ((Instr.typeAssert (.iface 31 (.int .i64 x)) 20 31 true) >>= fun v=>pure (Next.value v)).run _ w=_;rw [Sem.run_bind,assert_hit x w];rfl) ?_
 simp only [Act.put,Jd,Jc,Jb,Ja,Je,Jf]
 refine wpOpsS_ok (o:=⟨some 4,.move (.tmp 6),_,_,_,_⟩) (.tuple #[.int .i64 x,.bool true]) rfl rfl (rfl) ?_
 simp only [Act.put,Jd,Jc,Jb,Ja,Je,Jf]
 refine wpOpsS_ok (o:=⟨some 7,.extract (.tmp 4) 0,_,_,_,_⟩) (.int .i64 x) rfl rfl (rfl) ?_
 simp only [Act.put,Jd,Jc,Jb,Ja,Je,Jf]
 refine wpOpsS_ok (o:=⟨some 8,.extract (.tmp 4) 1,_,_,_,_⟩) (.bool true) rfl rfl (rfl) ?_
 simp only [Act.put,Jd,Jc,Jb,Ja,Je,Jf]
 refine wpOpsS_ok (o:=⟨some 2,.assign (.tmp 7),_,_,_,_⟩) (.int .i64 x) rfl rfl (rfl) ?_
 simp only [Act.put,Jd,Jc,Jb,Ja,Je,Jf]
 refine wpOpsS_ok (o:=⟨some 3,.assign (.tmp 8),_,_,_,_⟩) (.bool true) rfl rfl (rfl) ?_
 simp only [Act.put,Jd,Jc,Jb,Ja,Je,Jf]
 refine wpOpsS_nil ?_
 show Code.wpS _ _ _ _ _ _
 apply wpS_seq
 refine wpS_region' [0] (by kernel_rfl) ?_
 refine wpOpsS_ok (o:=⟨some 9,.move (.tmp 3),_,_,_,_⟩) (.bool true) rfl rfl (rfl) ?_
 simp only [Act.put,Jd,Jc,Jb,Ja,Je,Jf]
 refine wpOpsS_nil ?_
 show Code.wpS _ _ _ _ _ _
 refine wpS_cond (t:=true) rfl ?_
 simp only [if_true]
 refine wpS_of_wp ?_
 have ha:=ext_alloc w (.cells #[.slice none 0 0,.slice none 0 0,.slice none 0 0,.slice none 0 0,.slice none 0 0] 89)
 have hp1:=hp.ext ha
 have he1:=he.ext ha
 have yp:=hp1.cell 0
 have fp:=hp1.frozen 0
 have he2:=he1.grown (gb_set _ Bp 0 (.pointer (some ⟨w.heap.size,0,none⟩))) hne.symm
 have yq:=he2.cell 0
 have fq:=he2.frozen 0
 simp only [List.getElem?_toArray,List.getElem?_cons_zero] at yp yq
 clear hp he hp1 he1 he2 ha
 go_wp2_with fail
 exact ⟨rfl,.panicking ({ panicE x with recovered:=true }::older),rfl,.tuple #[],by simp [results,Tryz.results72,go_sem],rfl,rfl,rfl⟩
/-! ### asked -/
theorem asked_calls (l:List Nat) (s:Value) (w:World) (h:Us w s l):Calls Tryz.prog 47 #[s] w fun r w'=>∃ ad n c,r=.returned (.slice (some ad) n c)/\Us w' (.slice (some ad) n c) l/\Ext w w':=by
 obtain ⟨a,b,o,cap,rfl,hc1,hc2,ha,hr⟩:=h.open
 have hnil:=fun W=>Lib.run_eql_slice_nil (P:=Tryz.prog) W 27 39 a l.length cap 0 0 Tryz.underlying27
 have HU:=Jh h
 cases a with
 | none =>
  have h0:l.length=0:=by
   by_cases hh:0<l.length
   ·have:=ha hh;cases this
   ·omega
  have H0:=Jh h0
  clear h0 ha hr h HU
  go_enter Tryz.func47,Tryz.ntmps47
  go_wp2_with ((with_reducible show Jw (Op.buildSlice _ _ _));refine wpList_bs0 rfl _ rfl appWord ?_)
  go_ret
  obtain rfl:l=[]:=List.eq_nil_of_length_eq_zero H0.out
  exact ⟨_,_,_,rfl,(WordRow.bs0 w (Nat.le_refl _)).cells,ext_alloc w _⟩
 | some ad =>
  clear ha hr h
  go_enter Tryz.func47,Tryz.ntmps47
  go_wp2_with fail
  go_ret
  exact ⟨_,_,_,rfl,HU.out,Below.refl _ _⟩
/-! ### what a player holds -/
structure Cy (d:Flat) (sv pv cv:Value) (wb:World):Prop where
 ok:d.ok
 lk:(lookM d).1=0
 flat:FlatV wb (.agg #[sv,pv,cv]) d
structure CyW (d:Flat) (sv pv cv nv ov:Value) (P:Nat) (wb:World) (v:List Nat) (w:World):Prop where
 ext:Ext wb w
 le:wb.heap.size<=P
 val:Val2 d.signals v
 row:WordRow wb.heap.size nv v w
 blk:Blk w P [sv,pv,cv,nv,ov].toArray 89
 ord:ov=.slice none 0 0\/IntRow wb.heap.size ov (lookM d).2.2 w
section
variable {d:Flat} {sv pv cv nv ov:Value} {P:Nat} {wb w w':World} {v:List Nat}
theorem CyW.ext' (h:CyW d sv pv cv nv ov P wb v w) (hx:Ext w w'):CyW d sv pv cv nv ov P wb v w' :=
 ⟨h.ext.trans hx,h.le,h.val,h.row.ext hx,h.blk.ext hx,h.ord.imp id fun q=>q.ext hx⟩
theorem CyW.set {g n cap:Nat} (h:CyW d sv pv cv (.slice (some ⟨g,0,none⟩) n cap) ov P wb v w) {k:Nat} (hk:k<v.length) {x:Nat} (hv:Val2 d.signals (v.set k x)) :
  CyW d sv pv cv (.slice (some ⟨g,0,none⟩) n cap) ov P wb (v.set k x) (w.setCell ⟨g,k,none⟩ (W64 x)):=by
 have hg:=gb_set w g k (W64 x)
 obtain ⟨hN,cur,hcur⟩:=h.row.at (k:=g) rfl
 have hne:=h.row.ne h.blk (by decide) (k:=g) rfl
 exact ⟨h.ext.grown hg hN,h.le,hv,h.row.set k hk x,h.blk.grown hg (fun e=>hne e.symm),h.ord.imp id fun q=>q.grown hg fun j hj e=>q.ne (B:=g) hcur (by decide) hj (by injection e)⟩
theorem Val2.set {ls:List Signal} {v:List Nat} (h:Val2 ls v) {k x:Nat} (hk:k<ls.length) (hx:x<2^(sigW ls (k:Int)).toNat):Val2 ls (v.set k x) :=
 Val2.mk (by rw [List.length_set];exact h.1) fun j hj=>by
  rw [List.getD_eq_getElem?_getD,List.getElem?_set]
  by_cases e:k=j
  ·subst e;rw [if_pos rfl,if_pos (by rw [h.1];exact hk)];exact hx
  ·rw [if_neg e,<-List.getD_eq_getElem?_getD];exact h.get hj
theorem CyW.head (h:CyW d sv pv cv nv ov P wb v w) (hl:0<v.length):∃ g cap,nv=.slice (some ⟨g,0,none⟩) v.length cap:=by
 obtain ⟨g,cap,e,-⟩:=h.row.open1 hl;exact ⟨g,cap,e⟩
end
theorem bitLen_iff (x w:Nat) (h:x<2^64):Lib.bitLen x<=w↔x<2^w:=by
 by_cases h0:x=0
 ·subst h0
  simp [Lib.bitLen,Lib.bitLenAux_zero,Nat.two_pow_pos]
 ·obtain ⟨h1,h2,h3⟩:=Lib.bitLenAux_bounds 64 x h h0
  change 1<=Lib.bitLen x at h1
  change 2^(Lib.bitLen x-1)<=x at h2
  change x<2^Lib.bitLen x at h3
  refine ⟨fun hw=>Nat.lt_of_lt_of_le h3 (Nat.pow_le_pow_right (by decide) hw),fun hx=>Classical.byContradiction fun hw=>?_⟩
  have:2^w<=2^(Lib.bitLen x-1):=Nat.pow_le_pow_right (by decide) (by omega)
  omega
theorem init_fits {d:Flat} (hok:d.ok) (hc:checkM d=0):∀ s∈d.signals,s.init.toNat<2^s.w.toNat:=by
 intro s hs
 have hu:=(hok.wf.signals s hs).2.2.1
 have:(d.signals.any fun s=>!holds s.w s.init)=false:=by
  rw [Bool.eq_false_iff]
  intro h
  unfold checkM at hc
  split at hc
  ·rename_i g hg
   subst hc
   unfold sizeD at hg
   simp only [h,if_true] at hg
   repeat' split at hg
   all_goals (injection hg with hg;omega)
  ·rename_i y hy
   unfold sizeD at hy
   simp only [h,if_true] at hy
   repeat' split at hy
   all_goals cases hy
 have h2:=List.any_eq_false.1 this s hs
 simp [holds] at h2
 unfold u64r at hu
 exact (bitLen_iff _ _ (by omega)).1 (by omega)
theorem reset_val {d:Flat} (hok:d.ok) (hc:checkM d=0):Val2 d.signals (resetM d) :=
 Val2.mk (by simp [resetM]) fun k hk=>by
  have h:(resetM d).getD k 0=reset1 d.signals[k]:=by unfold resetM;rw [List.getD_eq_getElem?_getD,List.getElem?_map,List.getElem?_eq_getElem hk];rfl
  rw [h,show sigW d.signals (k:Int)=d.signals[k].w by simp [sigW,List.getElem?_eq_getElem hk]]
  unfold reset1
  split
  ·exact init_fits hok hc _ (List.getElem_mem hk)
  ·exact Nat.two_pow_pos _
/-! ### reset -/
theorem reset_calls {d:Flat} {sv pv cv nv ov:Value} {P:Nat} {wb w:World} {v:List Nat} (H:Cy d sv pv cv wb) (h:CyW d sv pv cv nv ov P wb v w) :
  Calls Tryz.prog 61 #[.pointer (some ⟨P,0,none⟩)] w fun r w'=>r=.returned (.tuple #[])/\CyW d sv pv cv nv ov P wb (resetM d) w'/\w.grownBy w' nv.ownBlock:=by
 have hck:=(look_in H.ok H.lk).1
 have HRV:=Jh (reset_val H.ok hck)
 obtain ⟨sv',pv',cv',e,hS,-,-⟩:=H.flat
 injection e with e
 simp only [Array.mk.injEq,List.cons.injEq,and_true] at e
 obtain ⟨rfl,rfl,rfl⟩:=e
 have HWF:=Jh H.ok.wf.signals
 obtain ⟨ss,sb,so,sc,rfl,hp1,hp2,hsa,hsr⟩:=hS.open
 have HSA:=Jh hsa
 have HSR:=Jh hsr
 have hsl:=H.ok.signals
 have hvl:v.length=d.signals.length:=h.val.1
 obtain ⟨a,cap,rfl,-⟩:=h.row.open
 rw [hvl] at h ⊢
 have HW:=Jh h
 have HVL:=Jh hvl
 have h0:=h.blk.has 0 _ rfl
 clear hS hsa hsr H
 rw [Nat.zero_add] at h0
 go_enter Tryz.func61,Tryz.ntmps61
 go_wp2_with fail
 clear h0
 go_loopw [2,3,10] (fun _ _ i wr=>∃ (k:Nat) (cur:List Nat),k<=d.signals.length/\i=.int .i64 k/\CyW d (.slice ss d.signals.length sc) pv cv (.slice a d.signals.length cap) ov P wb cur wr/\(∀ j,j<k->cur[j]? = (resetM d)[j]?)/\w.grownBy wr (Value.slice a d.signals.length cap).ownBlock) (fun _ _ i _=>d.signals.length-(intOf i).toNat)
 case atStart=>exact ⟨0,v,Nat.zero_le _,rfl,HW.out,fun j hj=>absurd hj (by omega),gbR_refl _ _⟩
 case round =>
  obtain ⟨k,cur,hk,rfl,hcw,hag,hgr⟩:=hrel
  have HGR:=Jh hgr
  clear hgr
  have HC:=Jh hcw
  have HAG:=Jh hag
  clear hcw hag
  by_cases hlt:k<d.signals.length
  ·obtain rfl:=HSA.out (by omega)
   have hkv:k<cur.length:=by rw [HC.out.val.1];exact hlt
   obtain ⟨g,cap',hnv⟩:=HC.out.head (by omega)
   injection hnv with hnv zq1 zq2
   clear zq1 zq2
   subst hnv
   have he:=Sigs.get (HSR.out.mono fun x _ b o hh=>Has.ext hh HC.out.ext) hlt
   have hx2:=ext_alloc wr (.cells d.signals[k].cells.toArray 41)
   have hbx:=Blk.new wr d.signals[k].cells.toArray 41
   obtain ⟨i0,hi0⟩:=Int.eq_ofNat_of_zero_le (HWF.out _ (List.getElem_mem hlt)).2.2.1.1
   have hget:(resetM d)[k]? = some (reset1 d.signals[k]):=by unfold resetM;rw [List.getElem?_map,List.getElem?_eq_getElem hlt];rfl
   have hfit:=HRV.out.get hlt
   rw [List.getD_eq_getElem?_getD,hget,Option.getD_some] at hfit
   generalize d.signals[k]=x at *
   have hr1:reset1 x=if x.kind=4 then i0 else 0:=by unfold reset1;rw [hi0,Int.toNat_natCast]
   have hcs:x.cells=[.string x.name,.int .i64 x.w,.int .i64 x.kind,W64 i0]:=by unfold Signal.cells;rw [hi0]
   have HCS:=Jh hcs
   clear hcs
   have HNEXT:=Jh (show ∀ u,CyW d (.slice (some ⟨sb,so,none⟩) d.signals.length sc) pv cv (.slice (some ⟨g,0,none⟩) d.signals.length cap) ov P wb (cur.set k (reset1 x)) u->w.grownBy u (some g)->∃ (k':Nat) (cur':List Nat),k'<=d.signals.length/\(Value.int .i64 ((k:Int)+1))=.int .i64 k'/\CyW d (.slice (some ⟨sb,so,none⟩) d.signals.length sc) pv cv (.slice (some ⟨g,0,none⟩) d.signals.length cap) ov P wb cur' u/\(∀ j,j<k'->cur'[j]? = (resetM d)[j]?)/\w.grownBy u (some g) from fun u hu hgu =>
    ⟨k+1,_,hlt,rfl,hu,fun j hj=>by
     by_cases e:j=k
     ·subst e;rw [List.getElem?_set_self hkv,hget]
     ·rw [List.getElem?_set_ne (fun h=>e h.symm)];exact HAG.out j (by omega),hgu⟩)
   have hc0:=HC.out.ext' hx2
   have hv1:=HC.out.val.set (k:=k) (x:=0) hlt (Nat.two_pow_pos _)
   have hc1:=hc0.set hkv hv1
   have hv2:=hv1.set (k:=k) (x:=reset1 x) hlt hfit
   have hgw:g<wr.heap.size:=by
    obtain ⟨-,c,hc⟩:=HC.out.row.at (k:=g) rfl
    exact (Array.getElem?_eq_some_iff.1 hc).1
   have hb1:=hbx.grown (gb_set (wr.alloc (.cells x.cells.toArray 41)) g k (W64 0)) (by omega)
   obtain ⟨yc,yf⟩:=hc0.row.cellf hkv
   have yp:=hc0.blk.has 3 _ rfl
   rw [Nat.zero_add] at yp
   obtain ⟨B,hB⟩:∃ B,wr.heap.size=B:=⟨_,rfl⟩
   have hne:B≠g:=by omega
   have hgg:=gbR_trans HGR.out (gbR_trans (gbR_ext hx2 (some g)) (gb_set (wr.alloc (.cells x.cells.toArray 41)) g k (W64 0)))
   rw [hB] at hb1
   clear hget hfit hi0 hbx hv1 hgw
   generalize cur[k]=y0 at *
   go_upto_region 3 with (first | ((with_reducible show Jl 41);refine Jm 41 (he) agg_Signal rfl ?_) | ((with_reducible show Js 41);refine wpList_store_new rfl 41 _ _ rfl rfl (by first | rfl | simp) rfl agg_Signal (rfl) rfl (rfl) ?_))
   clear hB
   generalize wr.alloc _=w2 at *
   have HG1:=Jh hgg
   clear hgg
   have HC1:=Jh hc1
   have HB1:=Jh hb1
   clear hc1 hb1 hc0 he hx2
   go_upto_region 4 with fail
   generalize w2.setCell _ _=w3 at *
   clear yc yf yp
   have yk:=HB1.out.has 2 _ (by rw [HCS.out];rfl)
   rw [Nat.zero_add] at yk
   by_cases hkd:x.kind=4
   ·rw [if_pos hkd] at hr1
    rw [hr1] at hv2 HNEXT
    rw [hkd] at yk
    have hc2:CyW d (.slice (some ⟨sb,so,none⟩) d.signals.length sc) pv cv (.slice (some ⟨g,0,none⟩) d.signals.length cap) ov P wb (cur.set k i0) (w3.drew.setCell ⟨g,k,none⟩ (W64 i0)):=by
     have:=(HC1.out.ext' (Below.drew (Below.refl _ _))).set (k:=k) (x:=i0) (by rw [List.length_set];exact hkv) hv2
     rwa [List.set_set] at this
    have HC2:=Jh hc2
    have HG2:=Jh (gbR_trans HG1.out (gbR_trans (gbR_ext (Below.drew (Below.refl _ w3)) (some g)) (gb_set w3.drew g k (W64 i0))))
    obtain ⟨yc,yf⟩:=(HC1.out.ext' (Below.drew (Below.refl _ _))).row.cellf (j:=k) (by rw [List.length_set];exact hkv)
    have HYC:=Jh yc
    have HYF:=Jh yf
    clear hc2 hv2 hr1 hkd yc yf
    rw [HCS.out] at HB1
    go_upto_region 5 with fail
    refine wp_region_held_drew (S:=fun W=>Blk W B [.string x.name,.int .i64 x.w,.int .i64 x.kind,W64 i0].toArray 41/\Blk W P [.slice (some ⟨sb,so,none⟩) d.signals.length sc,pv,cv,.slice (some ⟨g,0,none⟩) d.signals.length cap,ov].toArray 89) (by kernel_rfl) ⟨HB1.out.drew,HC1.out.blk.drew⟩ (fun hH=>?_)
    try simp only [J]
    (refine Jt 0 (.pointer (some ⟨P,0,none⟩)) rfl (yif_load1 rfl fun _ _=>rfl) hH ?_;try simp only [J])
    (refine Jt 1 (.pointer (some ⟨P,0,none⟩)) rfl (yif_load1 rfl (by intro W hW;clear hW;go_simp)) hH ?_;try simp only [J])
    (refine Jt 2 (.pointer (some ⟨P,3,none⟩)) rfl (yif_load1 rfl (by intro W hW;clear hW;go_simp)) hH ?_;try simp only [J])
    (refine Jt 3 (.slice (some ⟨g,0,none⟩) d.signals.length cap) rfl (yif_load1 rfl (by intro W hW;have z:=hW.2.has 3 _ rfl;clear hW;go_simp)) hH ?_;try simp only [J])
    (refine Jt 4 (.int .i64 (k:Int)) rfl (yif_load1 rfl fun _ _=>rfl) hH ?_;try simp only [J])
    (refine Jt 5 (.pointer (some ⟨B,3,none⟩)) rfl (yif_load1 rfl (by intro W hW;clear hW;go_simp)) hH ?_;try simp only [J])
    (refine Jt 6 (W64 i0) rfl (yif_load1 rfl (by intro W hW;have z:=hW.1.has 3 _ rfl;clear hW;go_simp)) hH ?_;try simp only [J])
    (refine Jt 7 (.pointer (some ⟨g,k,none⟩)) rfl (yif_load1 rfl (by intro W hW;clear hW;go_simp;try (intro h;omega))) hH ?_;try simp only [J])
    have yc:=HYC.out
    have yf:=HYF.out
    (refine Jr 8 rfl fun K hK=>?_)
    go_simp
    refine hK.out _ _ ⟨hH.1.grown (gb_set _ g k _) hne,HC2.out.blk⟩ (fun hH=>?_)
    clear hK K yc yf
    refine Jz ?_
    clear hH
    go_wp2_with fail
    go_roundw
    case rel=>exact HNEXT.out _ HC2.out HG2.out
    case measure=>simp [intOf];omega
   ·rw [if_neg hkd] at hr1
    rw [hr1] at HNEXT
    have b4:(x.kind==4)=false:=by rw [beq_eq_false_iff_ne];exact hkd
    clear hkd hv2 hr1
    go_wp2_with fail
    go_roundw
    case rel=>exact HNEXT.out _ HC1.out HG1.out
    case measure=>simp [intOf];omega
  ·obtain rfl:k=d.signals.length:=by omega
   go_wp2_with fail
   all_goals go_end0
   refine ⟨rfl,?_⟩
   have:cur=resetM d:=List.ext_getElem? fun j=>by
    by_cases hj:j<d.signals.length
    ·exact HAG.out j hj
    ·rw [List.getElem?_eq_none (by rw [HC.out.val.1];omega),List.getElem?_eq_none (by rw [HRV.out.1];omega)]
   rw [<-this]
   exact ⟨HC.out,HGR.out⟩
section
variable {d:Flat} {sv pv cv nv ov:Value} {P:Nat} {wb w w':World} {v:List Nat}
theorem CyW.setV {nv':Value} {v':List Nat} (h:CyW d sv pv cv nv ov P wb v w) (hr:WordRow wb.heap.size nv' v' w) (hv:Val2 d.signals v'):CyW d sv pv cv nv' ov P wb v' (w.setCell ⟨P,3,none⟩ nv'):=by
 have hg:=gb_set w P 3 nv'
 exact ⟨h.ext.grown hg h.le,h.le,hv,hr.grown hg (fun j hj e=>hr.ne h.blk (by decide) hj (by injection e)),by simpa using h.blk.set 3 nv',h.ord.imp id fun q=>q.grown hg fun j hj e=>q.ne h.blk (by decide) hj (by injection e)⟩
theorem CyW.setO {ov':Value} (h:CyW d sv pv cv nv ov P wb v w) (hr:IntRow wb.heap.size ov' (lookM d).2.2 w):CyW d sv pv cv nv ov' P wb v (w.setCell ⟨P,4,none⟩ ov'):=by
 have hg:=gb_set w P 4 ov'
 exact ⟨h.ext.grown hg h.le,h.le,h.val,h.row.grown hg (fun j hj e=>h.row.ne h.blk (by decide) hj (by injection e)),by simpa using h.blk.set 4 ov',.inr (hr.grown hg fun j hj e=>hr.ne h.blk (by decide) hj (by injection e))⟩
theorem CyW.flat (H:Cy d sv pv cv wb) (h:CyW d sv pv cv nv ov P wb v w):FlatV w (.agg [sv,pv,cv].toArray) d:=H.flat.ext h.ext
theorem CyW.has3 (h:CyW d sv pv cv nv ov P wb v w):Has w P 0 [sv,pv,cv]:=fun j u hj=>h.blk.has j u (by
 match j,hj with
 | 0,h=>exact h
 | 1,h=>exact h
 | 2,h=>exact h)
end
theorem settle_calls {d:Flat} {sv pv cv nv ov:Value} {P:Nat} {wb w:World} {v:List Nat} (H:Cy d sv pv cv wb) (h:CyW d sv pv cv nv ov P wb v w) :
  Calls Tryz.prog 48 #[.pointer (some ⟨P,0,none⟩)] w fun r w'=>r=.returned (.tuple #[])/\∃ nv' ov',CyW d sv pv cv nv' ov' P wb (settleM d v) w'/\w.grownBy w' (some P):=by
 have HH:=Jh H
 have HW:=Jh h
 obtain ⟨hck,hin⟩:=look_in H.ok H.lk
 have HCK:=Jh hck
 have HIN:=Jh hin
 have HLK:=Jh H.lk
 have hpl:=H.ok.procs
 have HSET:=Jh (show settleM d v=runAll d (lookM d).2.2 v from rfl)
 obtain ⟨S,hS⟩:∃ S,settleM d v=S:=⟨_,rfl⟩
 obtain ⟨O,hO⟩:∃ O,(lookM d).2.2=O:=⟨_,rfl⟩
 have HO:=Jh hO
 rw [hS,hO] at HSET
 rw [hO] at HIN
 rw [hS]
 have y4:=h.blk.has 4 _ rfl
 rw [Nat.zero_add] at y4
 have ho:=h.ord
 clear H h hck hin hS hO
 obtain ⟨ao,no,co,rfl⟩:∃ a n c,ov=.slice a n c:=by
  rcases ho with rfl | q
  ·exact ⟨none,0,0,rfl⟩
  ·obtain ⟨a,c,rfl,-⟩:=q.open;exact ⟨a,_,c,rfl⟩
 have HORD:=Jh ho
 clear ho
 have hnil:=fun W=>Lib.run_eql_slice_nil (P:=Tryz.prog) W 30 3 ao no co 0 0 Tryz.underlying30
 go_enter Tryz.func48,Tryz.ntmps48
 go_upto_if 12 with fail
 go_cut [2,3] from 12 to 26 (fun _ _ wx=>∃ a c,CyW d sv pv cv nv (.slice a O.length c) P wb v wx/\IntRow wb.heap.size (.slice a O.length c) O wx/\w.grownBy wx (some P))
 case first =>
  cases ao with
  | none =>
   have HFL:=Jh (fun W (hx:Ext w W)=>Order_calls d _ W ((HW.out.ext' hx).flat HH.out) HH.out.ok)
   rw [HLK.out,HO.out] at HFL
   have h03:=HW.out.has3
   go_upto_region 3 with (first | ((with_reducible show Jl 26);refine Jm 26 h03 agg_Flat rfl ?_) | (go_at_call 12;refine (HFL.out w (Below.refl _ _)).mono ?_;rintro r w1 ⟨u1,rfl,hr1,hx1⟩) | (go_at_call 73;refine (on_ok w1).mono ?_;rintro r w2 ⟨rfl,hx2⟩))
   have hW2:=HW.out.ext' (hx1.trans hx2)
   have hr2:=(hr1.ext hx2).less HW.out.ext.size
   obtain ⟨a,c,rfl,-⟩:=hr1.open
   have yc:=hW2.blk.has 4 _ rfl
   rw [Nat.zero_add] at yc
   have yf:=hW2.blk.frozen 4
   have HW3:=Jh (hW2.setO (by rw [HO.out];exact hr2))
   have HR3:=Jh (hr2.grown (gb_set w2 P 4 (.slice a O.length c)) fun j hj e=>hr2.ne hW2.blk (by decide) hj (by injection e))
   have HG3:=Jh (gb_trans (gb_ext (hx1.trans hx2) P) (gb_set w2 P 4 (.slice a O.length c)))
   clear hr1 hx1 hx2 hW2 hr2 h03 y4
   go_wp2_with fail
   go_meet
   exact ⟨a,c,HW3.out,HR3.out,HG3.out⟩
  | some ad =>
   go_wp2_with fail
   go_meet
   rcases HORD.out with e | q
   ·cases e
   ·obtain ⟨a,c,e,-⟩:=q.open
    injection e with e1 e2 e3
    subst e1 e3
    rw [HO.out] at e2 q
    rw [e2] at q
    exact ⟨_,_,by have:=HW.out;rwa [e2] at this,q,gb_refl _ _⟩
 case rest =>
 rename_i v2 v3 wc
 obtain ⟨a,c,hW,hR,hG⟩:=hcut
 have HG0:=Jh hG
 clear hG
 have HWC:=Jh hW
 have y4:=hW.blk.has 4 _ rfl
 rw [Nat.zero_add] at y4
 obtain ⟨n,hn⟩:∃ n,O.length=n:=⟨_,rfl⟩
 have HN:=Jh hn
 have HR0:=Jh hR
 have hn63:n<=9223372036854775807:=by
  obtain ⟨_,_,_,_,-,hb1,hb2,-⟩:=hR.cells.open
  omega
 rw [hn] at HWC y4 HR0
 clear hW hR hn HW HORD
 go_wp2_with fail
 clear y4
 go_loopw [32] (fun i wr=>∃ (k:Nat) (cur:List Nat) (nv':Value),k<=n/\i=.int .i64 k/\CyW d sv pv cv nv' (.slice a n c) P wb cur wr/\IntRow wb.heap.size (.slice a n c) O wr/\runAll d (O.drop k) cur=S/\w.grownBy wr (some P)) (fun i _=>n-(intOf i).toNat)
 case atStart=>exact ⟨0,v,nv,Nat.zero_le _,rfl,HWC.out,HR0.out,by rw [List.drop_zero];exact HSET.out.symm,HG0.out⟩
 case round =>
  obtain ⟨k,cur,nv',hk,rfl,hcw,hrow,hrun,hgr⟩:=hrel
  have HGR:=Jh hgr
  clear hgr
  have HC:=Jh hcw
  have HROW:=Jh hrow
  by_cases hlt:k<n
  ·have hltO:k<O.length:=by rw [HN.out];exact hlt
   obtain ⟨go,co',e,-,hcell⟩:=hrow.open1 (by omega)
   injection e with e zq1 zq2
   clear zq1 zq2
   subst e
   have yk:=hcell k _ (List.getElem?_eq_getElem hltO)
   rw [List.drop_eq_getElem_cons hltO] at hrun
   have hin:=HIN.out _ (List.getElem_mem hltO)
   obtain ⟨an,nn,cn,rfl⟩:∃ a n c,nv'=.slice a n c:=by
    obtain ⟨a,c,e,-⟩:=hcw.row.open;exact ⟨a,_,c,e⟩
   have hi64:i64r O[k]:=by
    have h1:=hin.1.1
    have h2:=hin.1.2
    unfold i64r
    omega
   have hv64:=val2_us64 (fun x hx=>(checkM_w HCK.out x hx).2) hcw.val
   have HRN:=Jh (fun W (hx:Ext wr W)=>Run_calls d _ cur _ O[k] W ((HC.out.ext' hx).flat HH.out) HH.out.ok (HC.out.row.cells.ext hx) hv64 hi64)
   rw [runM_of HCK.out hcw.val hin.1.1 hin.1.2] at HRN
   have HNV:=Jh (run_kept HH.out.ok HCK.out hin.1.1 hin.1.2 hcw.val).1
   have HRUN:=Jh (show runAll d (O.drop (k+1)) (runL d O[k] cur)=S from hrun)
   generalize runL d O[k] cur=nx at *
   generalize O[k]=x at *
   clear hcw hrow hrun hin hi64 hv64 hcell hltO
   go_upto_region 7 with fail
   clear yk
   refine Jg wr fun hH=>?_
   try simp only [J]
   (refine Jt 0 (.pointer (some ⟨P,0,none⟩)) rfl (yif_load1 rfl fun _ _=>rfl) hH ?_;try simp only [J])
   (refine Jt 1 (.pointer (some ⟨P,0,none⟩)) rfl (yif_load1 rfl (by intro W hW;clear hW;go_simp)) hH ?_;try simp only [J])
   (refine Jt 2 (.pointer (some ⟨P,0,none⟩)) rfl (yif_load1 rfl (by intro W hW;clear hW;go_simp)) hH ?_;try simp only [J])
   (refine Jt 3 (.agg [sv,pv,cv].toArray) rfl (yif_load rfl 26 _ rfl rfl (fun W hW=>(HC.out.ext' hW).has3) agg_Flat rfl) hH ?_;try simp only [J])
   (refine Jt 4 (.pointer (some ⟨P,0,none⟩)) rfl (yif_load1 rfl fun _ _=>rfl) hH ?_;try simp only [J])
   (refine Jt 5 (.pointer (some ⟨P,0,none⟩)) rfl (yif_load1 rfl (by intro W hW;clear hW;go_simp)) hH ?_;try simp only [J])
   (refine Jt 6 (.pointer (some ⟨P,3,none⟩)) rfl (yif_load1 rfl (by intro W hW;clear hW;go_simp)) hH ?_;try simp only [J])
   (refine Jt 7 (.slice an nn cn) rfl (yif_load1 rfl (by intro W hW;have z:=(HC.out.ext' hW).blk.has 3 _ rfl;clear hW;go_simp)) hH ?_;try simp only [J])
   (refine Jt 8 (.int .i64 x) rfl (yif_load1 rfl fun _ _=>rfl) hH ?_;try simp only [J])
   (refine Jr 9 rfl fun K hK=>?_)
   go_simp
   refine (HRN.out _ hH).mono ?_
   rintro r w3 ⟨u3,rfl,hr3,hx3⟩
   obtain ⟨ua,uc,rfl,-⟩:=hr3.open
   have HU3:=Jh (hr3.less (Nat.le_trans HC.out.ext.size hH.size))
   refine hK.out _ _ (hH.trans hx3) (fun hH=>?_)
   clear hK K hx3 hr3
   try simp only [J]
   (refine Jt 10 (.tuple #[.slice ua nx.length uc,.int .i64 0]) rfl (yif_load1 rfl fun _ _=>rfl) hH ?_;try simp only [J])
   (refine Jt 11 (.slice ua nx.length uc) rfl (yif_load1 rfl (by intro W hW;clear hW;go_simp)) hH ?_;try simp only [J])
   (refine Jt 12 (.int .i64 0) rfl (yif_load1 rfl (by intro W hW;clear hW;go_simp)) hH ?_;try simp only [J])
   (refine Jt 13 (.slice ua nx.length uc) rfl (yif_load1 rfl fun _ _=>rfl) hH ?_;try simp only [J])
   (refine Jt 14 (.int .i64 0) rfl (yif_load1 rfl fun _ _=>rfl) hH ?_;try simp only [J])
   refine Jz ?_
   have HG4:=Jh (gb_trans HGR.out (gb_ext hH P))
   have HC3:=Jh (HC.out.ext' hH)
   have HO3:=Jh (HROW.out.ext hH)
   clear hH HC HROW
   go_upto_region 9 with (go_at_call 73;refine (on_ok w3).mono ?_;rintro r w4 ⟨rfl,hx4⟩)
   have hC4:=HC3.out.ext' hx4
   have yc:=hC4.blk.has 3 _ rfl
   rw [Nat.zero_add] at yc
   have yf:=hC4.blk.frozen 3
   have HC5:=Jh (hC4.setV (HU3.out.ext hx4) HNV.out)
   have hO4:=HO3.out.ext hx4
   have HO5:=Jh (hO4.grown (gb_set w4 P 3 (.slice ua nx.length uc)) fun j hj e=>hO4.ne hC4.blk (by decide) hj (by injection e))
   have HG5:=Jh (gb_trans (gb_trans HG4.out (gb_ext hx4 P)) (gb_set w4 P 3 (.slice ua nx.length uc)))
   clear hC4 hO4 hx4
   go_wp2_with fail
   go_roundw
   case rel=>exact ⟨k+1,nx,_,hlt,by go_num,HC5.out,HO5.out,HRUN.out,HG5.out⟩
   case measure=>simp [intOf];omega
  ·obtain rfl:k=n:=by omega
   have e:cur=S:=by have:=hrun;rwa [<-HN.out,List.drop_length] at this
   have HE:=Jh e
   clear e
   go_wp2_with fail
   all_goals go_end0
   exact ⟨rfl,nv',_,by rw [<-HE.out];exact HC.out,HGR.out⟩
end Go.Proofs.YtoaamjgfhppppaaGreat
