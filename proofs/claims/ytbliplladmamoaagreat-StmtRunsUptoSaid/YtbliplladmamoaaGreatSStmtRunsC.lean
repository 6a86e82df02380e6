/- What a process makes of values is just what the document says, of any design. Conditions: those of the given row alone. -/
import Derived.Test.YtbliplladmamoaaGreatS33
import Derived.Test.YtbliplladmamoaaGreatS00
set_option maxRecDepth 100000
set_option maxHeartbeats 8000000
set_option linter.all false
namespace Go.Proofs.YtbliplladmamoaaGreat.stmtRuns
open Go.ChangeShapes Go.WideShapes Go.ChangeAt Go.RowKit
set_option linter.unusedVariables false
theorem own':ownKnob Tryz.prog.godebug=none:=by kernel_rfl
theorem laid':laidOutB Tryz.prog=true:=by kernel_rfl
theorem contract (H:Type) (enc:TypeId × Value->H) (W:World) (base:Nat) (args:Array Value) (ds gs:List (DataW H)) (before:List MemPlace)
  (hval:∀ (j:Nat) t v,Tryz.f3.params[j]? = some t->args[j]? = some v->Value.okWide Tryz.prog W .any base t v)
  (hW:DataW.Whole enc Tryz.prog Tryz.f3.params.toList Rows.stmtRunsSpec.vars false W args.toList ds gs before) (hk:Rows.uptoSmall H (ds++gs)=true) :
  Calls Tryz.prog 3 args W fun e W'=>∃ v,e=.returned v/\Rows.stmtRunsSpec.post enc Tryz.prog Tryz.f3 false true false false W args v W':=by
 have hW':=hW
 obtain ⟨p,q,hA0,hV,rfl,hfz,hnd⟩:=hW
 have hA:DataW.TrodAll enc Tryz.prog W 0 (fun _=>true) true Tryz.f3.params.toList args.toList ds p:=hA0
 rw [Tryz.params3] at hA hval
 obtain ⟨v0,vs0,d0,ds0,p0,q0,hargs0,rfl,rfl,h0,r0⟩:=trodAll_cons hA
 obtain ⟨v1,vs1,d1,ds1,p1,q1,hargs1,rfl,rfl,h1,r1⟩:=trodAll_cons r0
 obtain ⟨v2,vs2,d2,ds2,p2,q2,hargs2,rfl,rfl,h2,r2⟩:=trodAll_cons r1
 obtain ⟨hn1,rfl,rfl⟩:=trodAll_nil r2
 obtain rfl:args = #[v0,v1,v2]:=by cases args;simp_all
 obtain ⟨rfl,rfl⟩:=trodVars_none hV
 obtain ⟨c0,rfl,hcs0⟩:=okWide_struct Tryz.underlying26 (hval 0 _ v0 rfl rfl)
 obtain ⟨ua1,un1,uc1,rfl⟩:=okWide_slice Tryz.underlying27 (hval 1 _ v1 rfl rfl)
 obtain ⟨i2,rfl⟩:=okWide_int Tryz.underlying3 (hval 2 _ v2 rfl rfl)
 have h0k:=h0
 obtain ⟨fuel0,hf0⟩:=h0
 have hbulk0:Rows.uptoBulk d0<=1048576:=by
  have:=of_decide_eq_true hk
  simp only [List.append_nil,Rows.uptoBulkAll] at this
  omega
 have h1k:=h1
 obtain ⟨fuel1,hf1⟩:=h1
 have hbulk1:Rows.uptoBulk d1<=1048576:=by
  have:=of_decide_eq_true hk
  simp only [List.append_nil,Rows.uptoBulkAll] at this
  omega
 have h2k:=h2
 obtain ⟨fuel2,hf2⟩:=h2
 have hbulk2:Rows.uptoBulk d2<=1048576:=by
  have:=of_decide_eq_true hk
  simp only [List.append_nil,Rows.uptoBulkAll] at this
  omega
 obtain ⟨e0,hd0,hok0⟩:=Ab5 fuel0 _ _ hf0 hbulk0
 have hD0:Ck W (.agg c0) e0:=by simpa [Value.cells] using hd0
 obtain ⟨s1,e1,hc1,hu1,h641,hln1⟩:=Ab7 fuel1 _ _ hf1
 obtain rfl:.slice ua1 un1 uc1=s1:=by simpa [Value.cells] using hc1
 have hln1':e1.length+1<=1048576:=Nat.le_trans hln1 hbulk1
 obtain ⟨e2,hc2,hr2⟩:=Dx hf2
 obtain rfl:i2=e2:=by simpa [Value.cells] using hc2
 clear hA0
 simp only [List.append_nil] at hW'
 refine (Qr e0 _ e1 _ i2 W hD0 hok0 hu1 h641 hr2).mono fun e W' ⟨he,hx⟩=>?_
 subst he
 have hlt0:∀ x∈p0,x.block<W.heap.size:=fun x hx=>by simpa using hW'.lt x (by simp [hx])
 have hlt1:∀ x∈p1,x.block<W.heap.size:=fun x hx=>by simpa using hW'.lt x (by simp [hx])
 have hlt2:∀ x∈p2,x.block<W.heap.size:=fun x hx=>by simpa using hW'.lt x (by simp [hx])
 exact ⟨_,rfl,_,_,_,[],p0++(p1++(p2++[])),[],hW',trodAll_cons_mk (shut_bool Tryz.underlying4 _) trodAll_mk0,trodAll_cons_mk (Below.trod laid' (by kernel_rfl) (of_decide_eq_true (by kernel_rfl)) h0k hx hlt0) (trodAll_cons_mk (Below.trod laid' (by kernel_rfl) (of_decide_eq_true (by kernel_rfl)) h1k hx hlt1) (trodAll_cons_mk (Below.trod laid' (by kernel_rfl) (of_decide_eq_true (by kernel_rfl)) h2k hx hlt2) trodAll_mk0)),rfl,hx.frame _,fun h=>by cases h⟩
theorem lifted (os:Os) (started:os.Started) (H:Type) (enc:TypeId × Value->H) (F:Stop.Interp) :
  ReturnsInHanded {} Tryz.checked os 3 .any ((Rows.OpenSpec.upto Rows.stmtRunsSpec).pre6 enc Tryz.prog Tryz.f3 Rows.stmtRunsUptoRow.domain false) (((Rows.OpenSpec.upto Rows.stmtRunsSpec).at F).post enc Tryz.prog Tryz.f3 false true false false):=by
 refine returnsInHanded_of_cond (C:=Tryz.checked) (s:=Rows.OpenSpec.upto Rows.stmtRunsSpec) (k:=Rows.uptoSmall) rfl own' started (by kernel_rfl) Tryz.func3
  (OpenSpec.witness (enc:=enc) (C:=Tryz.checked) (s:=Rows.OpenSpec.upto Rows.stmtRunsSpec) (k:=Rows.uptoSmall) rfl false ⟨#[],#[.agg #[.slice none 0 0,.slice none 0 0,.slice none 0 0],.slice none 0 0,.int .i64 0],[]⟩ 8 (by kernel_rfl) (by kernel_rfl) (by kernel_rfl)
   (x:=([.agg [.nil,.nil,.nil],.nil,.lit (.int .i64 0)],[],[])) (by kernel_rfl) rfl (by kernel_rfl)) ?_
 intro W base args ds gs before hval hW _ hk _
 exact contract H enc W base args ds gs before hval hW hk
theorem closed:joinedFacts Tryz.pinned.checked.prog 3 Tryz.f3 (Rows.OpenSpec.upto Rows.stmtRunsSpec).bare Rows.stmtRunsUptoRow=true:=by
 unfold joinedFacts
 repeat' (with_reducible refine Bool.and_eq_true_iff.2 ⟨?_,?_⟩)
 all_goals (as_aux_lemma=>kernel_rfl)
theorem over:Rows.stmtRunsUptoRow.holds Tryz.pinned (Rows.OpenSpec.upto Rows.stmtRunsSpec) :=
 OpenClaim.holds_of_cond 3 Tryz.f3 rfl rfl rfl rfl rfl rfl rfl ⟨rfl,rfl,rfl,rfl,rfl⟩ rfl rfl rfl rfl rfl (by kernel_rfl) Tryz.func3 closed
  (of_decide_eq_true (by kernel_rfl)) (by unfold Func.isWrapper;first | (rw [if_pos (by decide +kernel)];kernel_rfl) | (rw [if_neg (by decide +kernel)];exact ⟨rfl,rfl⟩))
  (fun os started H enc _ F=>lifted os started H enc F)
theorem proved:Rows.StmtRunsUptoSaid :=
 over
end Go.Proofs.YtbliplladmamoaaGreat.stmtRuns
