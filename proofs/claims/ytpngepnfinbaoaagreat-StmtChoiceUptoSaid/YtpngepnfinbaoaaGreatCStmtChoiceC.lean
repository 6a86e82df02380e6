/- StmtChoice: of two processes in a choice the one is done that is told. Conditions: those of the given row alone. -/
import Derived.Test.YtpngepnfinbaoaaGreatCStmtChoice
import Derived.Test.YtpngepnfinbaoaaGreatC25
import Derived.Test.YtpngepnfinbaoaaGreatC00
set_option maxRecDepth 100000
set_option maxHeartbeats 8000000
set_option linter.all false
namespace Go.Proofs.YtpngepnfinbaoaaGreat.stmtChoice
open Go.ChangeShapes Go.WideShapes Go.ChangeAt Go.RowKit
set_option linter.unusedVariables false
theorem own':ownKnob Tryz.prog.godebug=none:=by kernel_rfl
theorem laid':laidOutB Tryz.prog=true:=by kernel_rfl
theorem contract (H:Type) (enc:TypeId × Value->H) (W:World) (base:Nat) (args:Array Value) (ds gs:List (DataW H)) (before:List MemPlace)
  (hval:∀ (j:Nat) t v,Tryz.f3.params[j]? = some t->args[j]? = some v->Value.okWide Tryz.prog W .any base t v)
  (hW:DataW.Whole enc Tryz.prog Tryz.f3.params.toList Rows.stmtChoiceSpec.vars false W args.toList ds gs before) (hk:Rows.uptoSmall H (ds++gs)=true) :
  Calls Tryz.prog 3 args W fun e W'=>∃ v,e=.returned v/\Rows.stmtChoiceSpec.post enc Tryz.prog Tryz.f3 false true false false W args v W':=by
 have hW':=hW
 obtain ⟨p,q,hA0,hV,rfl,hfz,hnd⟩:=hW
 have hA:DataW.TrodAll enc Tryz.prog W 0 (fun _=>true) true Tryz.f3.params.toList args.toList ds p:=hA0
 rw [Tryz.params3] at hA hval
 obtain ⟨v0,vs0,d0,ds0,p0,q0,hargs0,rfl,rfl,h0,r0⟩:=trodAll_cons hA
 obtain ⟨v1,vs1,d1,ds1,p1,q1,hargs1,rfl,rfl,h1,r1⟩:=trodAll_cons r0
 obtain ⟨v2,vs2,d2,ds2,p2,q2,hargs2,rfl,rfl,h2,r2⟩:=trodAll_cons r1
 obtain ⟨v3,vs3,d3,ds3,p3,q3,hargs3,rfl,rfl,h3,r3⟩:=trodAll_cons r2
 obtain ⟨v4,vs4,d4,ds4,p4,q4,hargs4,rfl,rfl,h4,r4⟩:=trodAll_cons r3
 obtain ⟨hn1,rfl,rfl⟩:=trodAll_nil r4
 obtain rfl:args = #[v0,v1,v2,v3,v4]:=by cases args;simp_all
 obtain ⟨rfl,rfl⟩:=trodVars_none hV
 obtain ⟨c0,rfl,hcs0⟩:=okWide_struct Tryz.underlying26 (hval 0 _ v0 rfl rfl)
 obtain ⟨ua1,un1,uc1,rfl⟩:=okWide_slice Tryz.underlying27 (hval 1 _ v1 rfl rfl)
 obtain ⟨i2,rfl⟩:=okWide_int Tryz.underlying3 (hval 2 _ v2 rfl rfl)
 obtain ⟨i3,rfl⟩:=okWide_int Tryz.underlying3 (hval 3 _ v3 rfl rfl)
 obtain ⟨c4,rfl,hcs4⟩:=okWide_struct Tryz.underlying31 (hval 4 _ v4 rfl rfl)
 have h0k:=h0
 obtain ⟨fuel0,hf0⟩:=h0
 have hbulk0:Rows.uptoBulk d0<=1048576:=by
  have:=of_decide_eq_true hk
  simp only [List.append_nil,Rows.uptoBulkAll] at this
  omega
 have h1k:=h1
 obtain ⟨fuel1,hf1⟩:=h1
 have hbulk1:Rows.uptoBulk d1<=1048576:=by
  have:=of_decide_eq_true hk
  simp only [List.append_nil,Rows.uptoBulkAll] at this
  omega
 have h2k:=h2
 obtain ⟨fuel2,hf2⟩:=h2
 have hbulk2:Rows.uptoBulk d2<=1048576:=by
  have:=of_decide_eq_true hk
  simp only [List.append_nil,Rows.uptoBulkAll] at this
  omega
 have h3k:=h3
 obtain ⟨fuel3,hf3⟩:=h3
 have hbulk3:Rows.uptoBulk d3<=1048576:=by
  have:=of_decide_eq_true hk
  simp only [List.append_nil,Rows.uptoBulkAll] at this
  omega
 have h4k:=h4
 obtain ⟨fuel4,hf4⟩:=h4
 have hbulk4:Rows.uptoBulk d4<=1048576:=by
  have:=of_decide_eq_true hk
  simp only [List.append_nil,Rows.uptoBulkAll] at this
  omega
 obtain ⟨e0,hd0,hok0⟩:=lift_Flat fuel0 _ _ hf0 hbulk0
 have hD0:FlatV W (.agg c0) e0:=by simpa [Value.cells] using hd0
 obtain ⟨s1,e1,hc1,hu1,h641,hln1⟩:=lift_U64s fuel1 _ _ hf1
 obtain rfl:.slice ua1 un1 uc1=s1:=by simpa [Value.cells] using hc1
 have hln1':e1.length+1<=1048576:=Nat.le_trans hln1 hbulk1
 obtain ⟨e2,hc2,hr2⟩:=lift_int hf2
 obtain rfl:i2=e2:=by simpa [Value.cells] using hc2
 obtain ⟨e3,hc3,hr3⟩:=lift_int hf3
 obtain rfl:i3=e3:=by simpa [Value.cells] using hc3
 obtain ⟨e4,s4,hc4,hs4,hwf4,hn4⟩:=lift_E2 fuel4 _ _ hf4
 have hc4':c4=(e4.cells s4).toArray:=by rw [<-hc4];simp [Value.cells]
 subst hc4'
 have hn4':2*nodes e4<=1048576:=Nat.le_trans hn4 hbulk4
 clear hA0
 simp only [List.append_nil] at hW'
 refine (StmtChoice_calls e0 _ e1 _ i2 i3 e4 _ W hD0 hok0 hu1 h641 hln1' hr2 hr3 ⟨s4,rfl,hs4⟩ hwf4 hn4').mono fun e W' ⟨he,hx⟩=>?_
 subst he
 have hlt0:∀ x∈p0,x.block<W.heap.size:=fun x hx=>by simpa using hW'.lt x (by simp [hx])
 have hlt1:∀ x∈p1,x.block<W.heap.size:=fun x hx=>by simpa using hW'.lt x (by simp [hx])
 have hlt2:∀ x∈p2,x.block<W.heap.size:=fun x hx=>by simpa using hW'.lt x (by simp [hx])
 have hlt3:∀ x∈p3,x.block<W.heap.size:=fun x hx=>by simpa using hW'.lt x (by simp [hx])
 have hlt4:∀ x∈p4,x.block<W.heap.size:=fun x hx=>by simpa using hW'.lt x (by simp [hx])
 exact ⟨_,rfl,_,_,_,[],p0++(p1++(p2++(p3++(p4++[])))),[],hW',trodAll_cons_mk (shut_bool Tryz.underlying4 _) trodAll_mk0,trodAll_cons_mk (Below.trod laid' (by kernel_rfl) (of_decide_eq_true (by kernel_rfl)) h0k hx hlt0) (trodAll_cons_mk (Below.trod laid' (by kernel_rfl) (of_decide_eq_true (by kernel_rfl)) h1k hx hlt1) (trodAll_cons_mk (Below.trod laid' (by kernel_rfl) (of_decide_eq_true (by kernel_rfl)) h2k hx hlt2) (trodAll_cons_mk (Below.trod laid' (by kernel_rfl) (of_decide_eq_true (by kernel_rfl)) h3k hx hlt3) (trodAll_cons_mk (Below.trod laid' (by kernel_rfl) (of_decide_eq_true (by kernel_rfl)) h4k hx hlt4) trodAll_mk0)))),rfl,hx.frame _,fun h=>by cases h⟩
theorem lifted (os:Os) (started:os.Started) (H:Type) (enc:TypeId × Value->H) (F:Stop.Interp) :
  ReturnsInHanded {} Tryz.checked os 3 .any ((Rows.OpenSpec.upto Rows.stmtChoiceSpec).pre6 enc Tryz.prog Tryz.f3 Rows.stmtChoiceUptoRow.domain false) (((Rows.OpenSpec.upto Rows.stmtChoiceSpec).at F).post enc Tryz.prog Tryz.f3 false true false false):=by
 refine returnsInHanded_of_cond (C:=Tryz.checked) (s:=Rows.OpenSpec.upto Rows.stmtChoiceSpec) (k:=Rows.uptoSmall) rfl own' started (by kernel_rfl) Tryz.func3
  (OpenSpec.witness (enc:=enc) (C:=Tryz.checked) (s:=Rows.OpenSpec.upto Rows.stmtChoiceSpec) (k:=Rows.uptoSmall) rfl false ⟨#[],#[.agg #[.slice none 0 0,.slice none 0 0,.slice none 0 0],.slice none 0 0,.int .i64 0,.int .i64 0,.agg #[.int .i64 0,.int .i64 0,.int .u64 0,.int .i64 0,.int .i64 0,.int .i64 0,.int .i64 0,.slice none 0 0]],[]⟩ 8 (by kernel_rfl) (by kernel_rfl) (by kernel_rfl)
   (x:=([.agg [.nil,.nil,.nil],.nil,.lit (.int .i64 0),.lit (.int .i64 0),.agg [.lit (.int .i64 0),.lit (.int .i64 0),.lit (.int .u64 0),.lit (.int .i64 0),.lit (.int .i64 0),.lit (.int .i64 0),.lit (.int .i64 0),.nil]],[],[])) (by kernel_rfl) rfl (by kernel_rfl)) ?_
 intro W base args ds gs before hval hW _ hk _
 exact contract H enc W base args ds gs before hval hW hk
theorem closed:joinedFacts Tryz.pinned.checked.prog 3 Tryz.f3 (Rows.OpenSpec.upto Rows.stmtChoiceSpec).bare Rows.stmtChoiceUptoRow=true:=by
 unfold joinedFacts
 repeat' (with_reducible refine Bool.and_eq_true_iff.2 ⟨?_,?_⟩)
 all_goals (as_aux_lemma=>kernel_rfl)
theorem over:Rows.stmtChoiceUptoRow.holds Tryz.pinned (Rows.OpenSpec.upto Rows.stmtChoiceSpec) :=
 OpenClaim.holds_of_cond 3 Tryz.f3 rfl rfl rfl rfl rfl rfl rfl ⟨rfl,rfl,rfl,rfl,rfl⟩ rfl rfl rfl rfl rfl (by kernel_rfl) Tryz.func3 closed
  (of_decide_eq_true (by kernel_rfl)) (by unfold Func.isWrapper;first | (rw [if_pos (by decide +kernel)];kernel_rfl) | (rw [if_neg (by decide +kernel)];exact ⟨rfl,rfl⟩))
  (fun os started H enc _ F=>lifted os started H enc F)
theorem proved:Rows.StmtChoiceUptoSaid :=
 over
end Go.Proofs.YtpngepnfinbaoaaGreat.stmtChoice
