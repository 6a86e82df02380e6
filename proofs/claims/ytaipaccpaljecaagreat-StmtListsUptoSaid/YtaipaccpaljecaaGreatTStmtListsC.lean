/- THE LAW StmtLists IS TRUE OF THE PROGRAM, FOR EVERY DESIGN AND NUMBER OF BULK AT MOST 1048576 IN ALL: bits rise, and there are such; what is always written is written; clocked processes write registers, others wires and outputs. Conditions: those of the given row alone. -/
import Derived.Test.YtaipaccpaljecaaGreatT31
import Derived.Test.YtaipaccpaljecaaGreatT26
import Derived.Test.YtaipaccpaljecaaGreatT00
set_option linter.all false
namespace Go.Proofs.YtaipaccpaljecaaGreat.stmtLists
open Go.ChangeShapes Go.WideShapes Go.ChangeAt Go.RowKit
set_option linter.unusedVariables false
theorem own':ownKnob Tryz.prog.godebug=none:=by kernel_rfl
theorem laid':laidOutB Tryz.prog=true:=by kernel_rfl
set_option maxRecDepth 100000 in
theorem contract (H:Type) (enc:TypeId × Value→H) (W:World) (base:Nat) (args:Array Value) (ds gs:List (DataW H)) (before:List MemPlace)
  (hval:∀ (j:Nat) t v,Tryz.f7.params[j]? = some t→args[j]? = some v→Value.okWide Tryz.prog W .any base t v)
  (hW:DataW.Whole enc Tryz.prog Tryz.f7.params.toList Rows.stmtListsSpec.vars false W args.toList ds gs before) (hk:Rows.uptoSmall H (ds ++ gs)=true) :
  Calls Tryz.prog 7 args W fun e W'=>∃ v,e=.returned v∧Rows.stmtListsSpec.post enc Tryz.prog Tryz.f7 false true false false W args v W':=by
 have hW':=hW
 obtain ⟨p,q,hA0,hV,rfl,hfz,hnd⟩:=hW
 have hA:DataW.TrodAll enc Tryz.prog W 0 (fun _=>true) true Tryz.f7.params.toList args.toList ds p:=hA0
 rw [Tryz.params7] at hA hval
 obtain ⟨v0,vs0,d0,ds0,p0,q0,hargs0,rfl,rfl,h0,r0⟩:=trodAll_cons hA
 obtain ⟨v1,vs1,d1,ds1,p1,q1,hargs1,rfl,rfl,h1,r1⟩:=trodAll_cons r0
 obtain ⟨hn1,rfl,rfl⟩:=trodAll_nil r1
 obtain rfl:args = #[v0,v1]:=by cases args;simp_all
 obtain ⟨rfl,rfl⟩:=trodVars_none hV
 obtain ⟨c0,rfl,hcs0⟩:=okWide_struct Tryz.underlying26 (hval 0 _ v0 rfl rfl)
 obtain ⟨i1,rfl⟩:=okWide_int Tryz.underlying3 (hval 1 _ v1 rfl rfl)
 have h0k:=h0
 obtain ⟨fuel0,hf0⟩:=h0
 have hbulk0:Rows.uptoBulk d0 ≤ 1048576:=by
  have:=of_decide_eq_true hk
  simp only [List.append_nil,Rows.uptoBulkAll] at this
  omega
 have h1k:=h1
 obtain ⟨fuel1,hf1⟩:=h1
 have hbulk1:Rows.uptoBulk d1 ≤ 1048576:=by
  have:=of_decide_eq_true hk
  simp only [List.append_nil,Rows.uptoBulkAll] at this
  omega
 obtain ⟨e0,hd0,hok0⟩:=lift_Flat fuel0 _ _ hf0 hbulk0
 have hD0:FlatV W (.agg c0) e0:=by simpa [Value.cells] using hd0
 obtain ⟨e1,hc1,hr1⟩:=lift_int hf1
 obtain rfl:i1=e1:=by simpa [Value.cells] using hc1
 clear hA0
 simp only [List.append_nil] at hW'
 refine (StmtLists_calls e0 _ i1 W hD0 hok0 hr1).mono fun e W' ⟨he,hx⟩=>?_
 subst he
 have hlt0:∀ x ∈ p0,x.block < W.heap.size:=fun x hx=>by simpa using hW'.lt x (by simp [hx])
 have hlt1:∀ x ∈ p1,x.block < W.heap.size:=fun x hx=>by simpa using hW'.lt x (by simp [hx])
 exact ⟨_,rfl,_,_,_,[],p0 ++ (p1 ++ []),[],hW',trodAll_cons_mk (shut_bool Tryz.underlying4 _) trodAll_mk0,trodAll_cons_mk (Below.trod laid' (by kernel_rfl) (of_decide_eq_true (by kernel_rfl)) h0k hx hlt0) (trodAll_cons_mk (Below.trod laid' (by kernel_rfl) (of_decide_eq_true (by kernel_rfl)) h1k hx hlt1) trodAll_mk0),rfl,hx.frame _,fun h=>by cases h⟩
set_option maxRecDepth 100000 in
theorem lifted (os:Os) (started:os.Started) (H:Type) (enc:TypeId × Value→H) (F:Stop.Interp) :
  ReturnsInHanded {} Tryz.checked os 7 .any ((Rows.OpenSpec.upto Rows.stmtListsSpec).pre6 enc Tryz.prog Tryz.f7 Rows.stmtListsUptoRow.domain false) (((Rows.OpenSpec.upto Rows.stmtListsSpec).at F).post enc Tryz.prog Tryz.f7 false true false false):=by
 refine returnsInHanded_of_cond (C:=Tryz.checked) (s:=Rows.OpenSpec.upto Rows.stmtListsSpec) (k:=Rows.uptoSmall) rfl own' started (by kernel_rfl) Tryz.func7
  (OpenSpec.witness (enc:=enc) (C:=Tryz.checked) (s:=Rows.OpenSpec.upto Rows.stmtListsSpec) (k:=Rows.uptoSmall) rfl false ⟨#[],#[.agg #[.slice none 0 0,.slice none 0 0,.slice none 0 0],.int .i64 0],[]⟩ 8 (by kernel_rfl) (by kernel_rfl) (by kernel_rfl)
   (x:=([.agg [.nil,.nil,.nil],.lit (.int .i64 0)],[],[])) (by kernel_rfl) rfl (by kernel_rfl)) ?_
 intro W base args ds gs before hval hW _ hk _
 exact contract H enc W base args ds gs before hval hW hk
set_option maxRecDepth 100000 in
set_option maxHeartbeats 4000000 in
theorem closed:joinedFacts Tryz.pinned.checked.prog 7 Tryz.f7 (Rows.OpenSpec.upto Rows.stmtListsSpec).bare Rows.stmtListsUptoRow=true:=by
 unfold joinedFacts
 repeat' (with_reducible refine Bool.and_eq_true_iff.2 ⟨?_,?_⟩)
 all_goals (as_aux_lemma=>kernel_rfl)
theorem over:Rows.stmtListsUptoRow.holds Tryz.pinned (Rows.OpenSpec.upto Rows.stmtListsSpec) :=
 OpenClaim.holds_of_cond 7 Tryz.f7 rfl rfl rfl rfl rfl rfl rfl ⟨rfl,rfl,rfl,rfl,rfl⟩ rfl rfl rfl rfl rfl (by kernel_rfl) Tryz.func7 closed
  (of_decide_eq_true (by kernel_rfl)) (by unfold Func.isWrapper;first | (rw [if_pos (by decide +kernel)];kernel_rfl) | (rw [if_neg (by decide +kernel)];exact ⟨rfl,rfl⟩))
  (fun os started H enc _ F=>lifted os started H enc F)
theorem proved:Rows.StmtListsUptoSaid :=
 over
end Go.Proofs.YtaipaccpaljecaaGreat.stmtLists
