/- THE LAW LintOrder IS TRUE OF THE PROGRAM, FOR EVERY DESIGN OF BULK AT MOST 1048576: in which order processes of wires are done, and how deep each is, is what the document says. Conditions: those of the given row alone. -/
import Derived.Test.YthpemngachlehaaGreatY29
import Derived.Test.YthpemngachlehaaGreatY00
set_option linter.all false
namespace Go.Proofs.YthpemngachlehaaGreat.lintOrder
open Go.ChangeShapes Go.WideShapes Go.ChangeAt Go.RowKit
set_option linter.unusedVariables false
theorem own':ownKnob Tryz.prog.godebug=none:=by kernel_rfl
theorem laid':laidOutB Tryz.prog=true:=by kernel_rfl
set_option maxRecDepth 100000 in
theorem contract (H:Type) (enc:TypeId × Value→H) (W:World) (base:Nat) (args:Array Value) (ds gs:List (DataW H)) (before:List MemPlace)
  (hval:∀ (j:Nat) t v,Tryz.f4.params[j]? = some t→args[j]? = some v→Value.okWide Tryz.prog W .any base t v)
  (hW:DataW.Whole enc Tryz.prog Tryz.f4.params.toList Rows.lintOrderSpec.vars false W args.toList ds gs before) (hk:Rows.uptoSmall H (ds ++ gs)=true) :
  Calls Tryz.prog 4 args W fun e W'=>∃ v,e=.returned v∧Rows.lintOrderSpec.post enc Tryz.prog Tryz.f4 false true false false W args v W':=by
 have hW':=hW
 obtain ⟨p,q,hA0,hV,rfl,hfz,hnd⟩:=hW
 have hA:DataW.TrodAll enc Tryz.prog W 0 (fun _=>true) true Tryz.f4.params.toList args.toList ds p:=hA0
 rw [Tryz.params4] at hA hval
 obtain ⟨v0,vs0,d0,ds0,p0,q0,hargs,rfl,rfl,h0,r0⟩:=trodAll_cons hA
 obtain ⟨rfl,rfl,rfl⟩:=trodAll_nil r0
 obtain rfl:args = #[v0]:=by cases args;simp_all
 obtain ⟨rfl,rfl⟩:=trodVars_none hV
 obtain ⟨cs,rfl,hcs⟩:=okWide_struct Tryz.underlying26 (hval 0 _ v0 rfl rfl)
 have h0k:=h0
 obtain ⟨fuel,hf⟩:=h0
 have hbulk:Rows.uptoBulk d0 ≤ 1048576:=by
  have:=of_decide_eq_true hk
  simp only [List.append_nil,Rows.uptoBulkAll] at this
  omega
 obtain ⟨d,hd,hok⟩:=lift_Flat fuel _ _ hf hbulk
 have hd':FlatV W (.agg cs) d:=by simpa [Value.cells] using hd
 clear hA0
 simp only [List.append_nil] at hW'
 refine (LintOrder_calls d _ W hd' hok).mono fun e W' ⟨he,hx⟩=>?_
 subst he
 have hlt:∀ x ∈ p0,x.block < W.heap.size:=fun x hx=>by simpa using hW'.lt x (by simpa using hx)
 exact ⟨_,rfl,_,_,_,[],p0 ++ [],[],hW',trodAll_cons_mk (shut_bool Tryz.underlying4 _) trodAll_mk0,trodAll_cons_mk (Below.trod laid' (by kernel_rfl) (of_decide_eq_true (by kernel_rfl)) h0k hx hlt) trodAll_mk0,rfl,hx.frame _,fun h=>by cases h⟩
set_option maxRecDepth 100000 in
theorem lifted (os:Os) (started:os.Started) (H:Type) (enc:TypeId × Value→H) (F:Stop.Interp) :
  ReturnsInHanded {} Tryz.checked os 4 .any ((Rows.OpenSpec.upto Rows.lintOrderSpec).pre6 enc Tryz.prog Tryz.f4 Rows.lintOrderUptoRow.domain false) (((Rows.OpenSpec.upto Rows.lintOrderSpec).at F).post enc Tryz.prog Tryz.f4 false true false false):=by
 refine returnsInHanded_of_cond (C:=Tryz.checked) (s:=Rows.OpenSpec.upto Rows.lintOrderSpec) (k:=Rows.uptoSmall) rfl own' started (by kernel_rfl) Tryz.func4
  (OpenSpec.witness (enc:=enc) (C:=Tryz.checked) (s:=Rows.OpenSpec.upto Rows.lintOrderSpec) (k:=Rows.uptoSmall) rfl false ⟨#[],#[.agg #[.slice none 0 0,.slice none 0 0,.slice none 0 0]],[]⟩ 8 (by kernel_rfl) (by kernel_rfl) (by kernel_rfl)
   (x:=([.agg [.nil,.nil,.nil]],[],[])) (by kernel_rfl) rfl (by kernel_rfl)) ?_
 intro W base args ds gs before hval hW _ hk _
 exact contract H enc W base args ds gs before hval hW hk
theorem over:Rows.lintOrderUptoRow.holds Tryz.pinned (Rows.OpenSpec.upto Rows.lintOrderSpec) :=
 OpenClaim.holds_of_cond 4 Tryz.f4 rfl rfl rfl rfl rfl rfl rfl ⟨rfl,rfl,rfl,rfl,rfl⟩ rfl rfl rfl rfl rfl (by kernel_rfl) Tryz.func4 (by kernel_rfl)
  (of_decide_eq_true (by kernel_rfl)) (by unfold Func.isWrapper;first | (rw [if_pos (by decide +kernel)];kernel_rfl) | (rw [if_neg (by decide +kernel)];exact ⟨rfl,rfl⟩))
  (fun os started H enc _ F=>lifted os started H enc F)
theorem proved:Rows.LintOrderUptoSaid :=
 over
end Go.Proofs.YthpemngachlehaaGreat.lintOrder
