/- CycleSteps. Conditions: those of the given row. -/
import Derived.Test.YtoaamjgfhppppaaGreatY35
import Derived.Test.YtoaamjgfhppppaaGreatY00
set_option maxRecDepth 100000
set_option maxHeartbeats 8000000
set_option linter.all false
namespace Go.Proofs.YtoaamjgfhppppaaGreat.cycleSteps
open Go.ChangeShapes Go.WideShapes Go.ChangeAt Go.RowKit
set_option linter.unusedVariables false
theorem own':ownKnob Tryz.prog.godebug=none:=by kernel_rfl
theorem laid':laidOutB Tryz.prog=true:=by kernel_rfl
theorem contract (H:Type) (enc:TypeId × Value->H) (W:World) (base:Nat) (args:Array Value) (ds gs:List (DataW H)) (before:List MemPlace)
  (hval:∀ (j:Nat) t v,Tryz.f9.params[j]? = some t->args[j]? = some v->Value.okWide Tryz.prog W .any base t v)
  (hW:DataW.Whole enc Tryz.prog Tryz.f9.params.toList Rows.cycleStepsSpec.vars false W args.toList ds gs before) (hk:Rows.uptoSmall H (ds++gs)=true) :
  Calls Tryz.prog 9 args W fun e W'=>∃ v,e=.returned v/\Rows.cycleStepsSpec.post enc Tryz.prog Tryz.f9 false true false false W args v W':=by
 have a:=hW
 obtain ⟨p,q,f,hV,rfl,hf,hg⟩:=hW
 have hA:DataW.TrodAll enc Tryz.prog W 0 (fun _=>true) true Tryz.f9.params.toList args.toList ds p:=f
 rw [Tryz.params9] at hA hval
 obtain ⟨v0,vs0,d0,ds0,p0,q0,n,rfl,rfl,h0,r0⟩:=trodAll_cons hA
 obtain ⟨v1,vs1,d1,ds1,p1,q1,ha,rfl,rfl,h1,r1⟩:=trodAll_cons r0
 obtain ⟨hd,rfl,rfl⟩:=trodAll_nil r1
 obtain rfl:args = #[v0,v1]:=by cases args;simp_all
 obtain ⟨rfl,rfl⟩:=trodVars_none hV
 obtain ⟨c0,rfl,hc⟩:=okWide_struct Tryz.underlying26 (hval 0 _ v0 rfl rfl)
 obtain ⟨ua1,un1,uc1,rfl⟩:=okWide_slice Tryz.underlying55 (hval 1 _ v1 rfl rfl)
 have s:=h0
 obtain ⟨fuel0,hb⟩:=h0
 have c:Rows.uptoBulk d0<=1048576:=by
  have:=of_decide_eq_true hk
  simp only [List.append_nil,Rows.uptoBulkAll] at this
  omega
 have w:=h1
 obtain ⟨fuel1,z⟩:=h1
 have b:Rows.uptoBulk d1<=1048576:=by
  have:=of_decide_eq_true hk
  simp only [List.append_nil,Rows.uptoBulkAll] at this
  omega
 obtain ⟨e0,u,k⟩:=lift_Flat fuel0 _ _ hb c
 have o:FlatV W (.agg c0) e0:=by simpa [Value.cells] using u
 obtain ⟨s1,e1,y,r,m,l⟩:=lift_U64ss fuel1 _ _ z
 obtain rfl:.slice ua1 un1 uc1=s1:=by simpa [Value.cells] using y
 have d:e1.length+1<=1048576:=Nat.le_trans l b
 clear f
 simp only [List.append_nil] at a
 refine (CycleSteps_calls e0 _ e1 _ W o k r m d).mono fun e W' ⟨he,hx⟩=>?_
 subst he
 have g:∀ x∈p0,x.block<W.heap.size:=fun x hx=>by simpa using a.lt x (by simp [hx])
 have i:∀ x∈p1,x.block<W.heap.size:=fun x hx=>by simpa using a.lt x (by simp [hx])
 exact ⟨_,rfl,_,_,_,[],p0++(p1++[]),[],a,trodAll_cons_mk (shut_bool Tryz.underlying4 _) trodAll_mk0,trodAll_cons_mk (Below.trod laid' (by kernel_rfl) (of_decide_eq_true (by kernel_rfl)) s hx g) (trodAll_cons_mk (Below.trod laid' (by kernel_rfl) (of_decide_eq_true (by kernel_rfl)) w hx i) trodAll_mk0),rfl,hx.frame _,fun h=>by cases h⟩
theorem lifted (os:Os) (started:os.Started) (H:Type) (enc:TypeId × Value->H) (F:Stop.Interp) :
  ReturnsInHanded {} Tryz.checked os 9 .any ((Rows.OpenSpec.upto Rows.cycleStepsSpec).pre6 enc Tryz.prog Tryz.f9 Rows.cycleStepsUptoRow.domain false) (((Rows.OpenSpec.upto Rows.cycleStepsSpec).at F).post enc Tryz.prog Tryz.f9 false true false false):=by
 refine returnsInHanded_of_cond (C:=Tryz.checked) (s:=Rows.OpenSpec.upto Rows.cycleStepsSpec) (k:=Rows.uptoSmall) rfl own' started (by kernel_rfl) Tryz.func9
  (OpenSpec.witness (enc:=enc) (C:=Tryz.checked) (s:=Rows.OpenSpec.upto Rows.cycleStepsSpec) (k:=Rows.uptoSmall) rfl false ⟨#[],#[.agg #[.slice none 0 0,.slice none 0 0,.slice none 0 0],.slice none 0 0],[]⟩ 8 (by kernel_rfl) (by kernel_rfl) (by kernel_rfl)
   (x:=([.agg [.nil,.nil,.nil],.nil],[],[])) (by kernel_rfl) rfl (by kernel_rfl)) ?_
 intro W base args ds gs before a hW _ hk _
 exact contract H enc W base args ds gs before a hW hk
theorem closed:joinedFacts Tryz.pinned.checked.prog 9 Tryz.f9 (Rows.OpenSpec.upto Rows.cycleStepsSpec).bare Rows.cycleStepsUptoRow=true:=by
 unfold joinedFacts
 repeat' (with_reducible refine Bool.and_eq_true_iff.2 ⟨?_,?_⟩)
 all_goals (as_aux_lemma=>kernel_rfl)
theorem over:Rows.cycleStepsUptoRow.holds Tryz.pinned (Rows.OpenSpec.upto Rows.cycleStepsSpec) :=
 OpenClaim.holds_of_cond 9 Tryz.f9 rfl rfl rfl rfl rfl rfl rfl ⟨rfl,rfl,rfl,rfl,rfl⟩ rfl rfl rfl rfl rfl (by kernel_rfl) Tryz.func9 closed
  (of_decide_eq_true (by kernel_rfl)) (by unfold Func.isWrapper;first | (rw [if_pos (by decide +kernel)];kernel_rfl) | (rw [if_neg (by decide +kernel)];exact ⟨rfl,rfl⟩))
  (fun os started H enc _ F=>lifted os started H enc F)
theorem proved:Rows.CycleStepsUptoSaid :=
 over
end Go.Proofs.YtoaamjgfhppppaaGreat.cycleSteps
