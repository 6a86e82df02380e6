/-
  NARROWER THAN 'FOR EVERY INPUT', by the rows' own cells (each row's printed sentence says how): LintDriven: loops · StmtRuns: loops · StmtTells: loops · StmtHangs: loops · StmtLists: loops · StmtValues: loops · StmtStill: loops · StmtBehind: loops · StmtChoice: loops · StmtApart: loops · LintRest: loops · LintAny: loops.
  DERIVED. THE GIVEN ROWS OF THIS SEAT. 12 by the template 'for every input the law returns true; each argument reads behind the call as it read before'; 0 by the template 'total and deterministic' (their statements: YtaipaccpaljecaaGreatTotals.lean).
  GIVEN WITH THE SEED: the statements are not yours to turn. If you find one false, say at which input.
  Laid BY PROGRAM, IN A SANDBOX (cutbox-rows.mjs): the forced cells as the released guide's own fill.sh prints them over the translation db8b43afc8404c03… (all of the seat's roots in one cut). By AI agents, Wed Nov 11 2026. No macro, syntax, notation, axiom, sorry.
-/
import Derived.Test.YtaipaccpaljecaaGreatChecked
import GoSem.Claim
import GoSem.ClaimJoined
import GoSem.ClaimMapViews
import Derived.JoinedTies
import Derived.KernelRfl
namespace Go.Proofs.YtaipaccpaljecaaGreat
/- THE CELL 'sum', in the pinned program and in every row, IS THE sha256 OF THE DUMP (.gsa) THAT YtaipaccpaljecaaGreatProg.lean LOADS. Nothing in Lean hashes anything: it is a label: what it is worth is what the hold of that sum in a sandbox is worth. -/
noncomputable def Tryz.pinned : Pinned := { name := "ytaipaccpaljecaagreat", sum := "db8b43afc8404c03ad041b111a82c546f6b273030bd4493b28d02841923aca7d", checked := Tryz.checked }
namespace Rows
def none {H : Type} : Left H := { results := [], args := [] }

/-- 'filigreelaw12.LintDriven': WHATEVER THE INPUT: true; the input reads as it did. -/
def lintDrivenSpec : ChangeSpec := { name := "lintDriven", fn := fun _ => fun
  | [d] => { results := [.lit (.bool true)], args := [d] }
  | _ => none }
def lintDrivenRow : OpenClaim := { program := "ytaipaccpaljecaagreat", sum := "db8b43afc8404c03ad041b111a82c546f6b273030bd4493b28d02841923aca7d", func := "filigree/filigreelaw12.LintDriven", spec := "lintDriven", unfollowed := true, recurses := true, loops := true, apart := false }
def LintDrivenSaid : Prop := lintDrivenRow.holds Tryz.pinned (OpenSpec.ofChange lintDrivenSpec)

/-- ITS FALSE NEIGHBOUR: 'it returns false'. Refute it at one input. -/
def lintDrivenWrong : ChangeSpec := { name := "lintDriven", fn := fun _ => fun
  | [d] => { results := [.lit (.bool false)], args := [d] }
  | _ => none }
def LintDrivenWrongFalsely : Prop := lintDrivenRow.holds Tryz.pinned (OpenSpec.ofChange lintDrivenWrong)

/-- 'filigreelaw11.StmtRuns': WHATEVER THE INPUT: true; the input reads as it did. -/
def stmtRunsSpec : ChangeSpec := { name := "stmtRuns", fn := fun _ => fun
  | [d1, d2, d3] => { results := [.lit (.bool true)], args := [d1, d2, d3] }
  | _ => none }
def stmtRunsRow : OpenClaim := { program := "ytaipaccpaljecaagreat", sum := "db8b43afc8404c03ad041b111a82c546f6b273030bd4493b28d02841923aca7d", func := "filigree/filigreelaw11.StmtRuns", spec := "stmtRuns", unfollowed := true, recurses := true, loops := true, apart := false }
def StmtRunsSaid : Prop := stmtRunsRow.holds Tryz.pinned (OpenSpec.ofChange stmtRunsSpec)

/-- ITS FALSE NEIGHBOUR: 'it returns false'. Refute it at one input. -/
def stmtRunsWrong : ChangeSpec := { name := "stmtRuns", fn := fun _ => fun
  | [d1, d2, d3] => { results := [.lit (.bool false)], args := [d1, d2, d3] }
  | _ => none }
def StmtRunsWrongFalsely : Prop := stmtRunsRow.holds Tryz.pinned (OpenSpec.ofChange stmtRunsWrong)

/-- 'filigreelaw11.StmtTells': WHATEVER THE INPUT: true; the input reads as it did. -/
def stmtTellsSpec : ChangeSpec := { name := "stmtTells", fn := fun _ => fun
  | [d1, d2] => { results := [.lit (.bool true)], args := [d1, d2] }
  | _ => none }
def stmtTellsRow : OpenClaim := { program := "ytaipaccpaljecaagreat", sum := "db8b43afc8404c03ad041b111a82c546f6b273030bd4493b28d02841923aca7d", func := "filigree/filigreelaw11.StmtTells", spec := "stmtTells", unfollowed := true, recurses := true, loops := true, apart := false }
def StmtTellsSaid : Prop := stmtTellsRow.holds Tryz.pinned (OpenSpec.ofChange stmtTellsSpec)

/-- ITS FALSE NEIGHBOUR: 'it returns false'. Refute it at one input. -/
def stmtTellsWrong : ChangeSpec := { name := "stmtTells", fn := fun _ => fun
  | [d1, d2] => { results := [.lit (.bool false)], args := [d1, d2] }
  | _ => none }
def StmtTellsWrongFalsely : Prop := stmtTellsRow.holds Tryz.pinned (OpenSpec.ofChange stmtTellsWrong)

/-- 'filigreelaw11.StmtHangs': WHATEVER THE INPUT: true; the input reads as it did. -/
def stmtHangsSpec : ChangeSpec := { name := "stmtHangs", fn := fun _ => fun
  | [d1, d2, d3, d4] => { results := [.lit (.bool true)], args := [d1, d2, d3, d4] }
  | _ => none }
def stmtHangsRow : OpenClaim := { program := "ytaipaccpaljecaagreat", sum := "db8b43afc8404c03ad041b111a82c546f6b273030bd4493b28d02841923aca7d", func := "filigree/filigreelaw11.StmtHangs", spec := "stmtHangs", unfollowed := true, recurses := true, loops := true, apart := false }
def StmtHangsSaid : Prop := stmtHangsRow.holds Tryz.pinned (OpenSpec.ofChange stmtHangsSpec)

/-- ITS FALSE NEIGHBOUR: 'it returns false'. Refute it at one input. -/
def stmtHangsWrong : ChangeSpec := { name := "stmtHangs", fn := fun _ => fun
  | [d1, d2, d3, d4] => { results := [.lit (.bool false)], args := [d1, d2, d3, d4] }
  | _ => none }
def StmtHangsWrongFalsely : Prop := stmtHangsRow.holds Tryz.pinned (OpenSpec.ofChange stmtHangsWrong)

/-- 'filigreelaw11.StmtLists': WHATEVER THE INPUT: true; the input reads as it did. -/
def stmtListsSpec : ChangeSpec := { name := "stmtLists", fn := fun _ => fun
  | [d1, d2] => { results := [.lit (.bool true)], args := [d1, d2] }
  | _ => none }
def stmtListsRow : OpenClaim := { program := "ytaipaccpaljecaagreat", sum := "db8b43afc8404c03ad041b111a82c546f6b273030bd4493b28d02841923aca7d", func := "filigree/filigreelaw11.StmtLists", spec := "stmtLists", unfollowed := true, recurses := true, loops := true, apart := false }
def StmtListsSaid : Prop := stmtListsRow.holds Tryz.pinned (OpenSpec.ofChange stmtListsSpec)

/-- ITS FALSE NEIGHBOUR: 'it returns false'. Refute it at one input. -/
def stmtListsWrong : ChangeSpec := { name := "stmtLists", fn := fun _ => fun
  | [d1, d2] => { results := [.lit (.bool false)], args := [d1, d2] }
  | _ => none }
def StmtListsWrongFalsely : Prop := stmtListsRow.holds Tryz.pinned (OpenSpec.ofChange stmtListsWrong)

/-- 'filigreelaw11.StmtValues': WHATEVER THE INPUT: true; the input reads as it did. -/
def stmtValuesSpec : ChangeSpec := { name := "stmtValues", fn := fun _ => fun
  | [d1, d2, d3] => { results := [.lit (.bool true)], args := [d1, d2, d3] }
  | _ => none }
def stmtValuesRow : OpenClaim := { program := "ytaipaccpaljecaagreat", sum := "db8b43afc8404c03ad041b111a82c546f6b273030bd4493b28d02841923aca7d", func := "filigree/filigreelaw11.StmtValues", spec := "stmtValues", unfollowed := true, recurses := true, loops := true, apart := false }
def StmtValuesSaid : Prop := stmtValuesRow.holds Tryz.pinned (OpenSpec.ofChange stmtValuesSpec)

/-- ITS FALSE NEIGHBOUR: 'it returns false'. Refute it at one input. -/
def stmtValuesWrong : ChangeSpec := { name := "stmtValues", fn := fun _ => fun
  | [d1, d2, d3] => { results := [.lit (.bool false)], args := [d1, d2, d3] }
  | _ => none }
def StmtValuesWrongFalsely : Prop := stmtValuesRow.holds Tryz.pinned (OpenSpec.ofChange stmtValuesWrong)

/-- 'filigreelaw11.StmtStill': WHATEVER THE INPUT: true; the input reads as it did. -/
def stmtStillSpec : ChangeSpec := { name := "stmtStill", fn := fun _ => fun
  | [d1, d2, d3] => { results := [.lit (.bool true)], args := [d1, d2, d3] }
  | _ => none }
def stmtStillRow : OpenClaim := { program := "ytaipaccpaljecaagreat", sum := "db8b43afc8404c03ad041b111a82c546f6b273030bd4493b28d02841923aca7d", func := "filigree/filigreelaw11.StmtStill", spec := "stmtStill", unfollowed := true, recurses := true, loops := true, apart := false }
def StmtStillSaid : Prop := stmtStillRow.holds Tryz.pinned (OpenSpec.ofChange stmtStillSpec)

/-- ITS FALSE NEIGHBOUR: 'it returns false'. Refute it at one input. -/
def stmtStillWrong : ChangeSpec := { name := "stmtStill", fn := fun _ => fun
  | [d1, d2, d3] => { results := [.lit (.bool false)], args := [d1, d2, d3] }
  | _ => none }
def StmtStillWrongFalsely : Prop := stmtStillRow.holds Tryz.pinned (OpenSpec.ofChange stmtStillWrong)

/-- 'filigreelaw11.StmtBehind': WHATEVER THE INPUT: true; the input reads as it did. -/
def stmtBehindSpec : ChangeSpec := { name := "stmtBehind", fn := fun _ => fun
  | [d1, d2, d3, d4] => { results := [.lit (.bool true)], args := [d1, d2, d3, d4] }
  | _ => none }
def stmtBehindRow : OpenClaim := { program := "ytaipaccpaljecaagreat", sum := "db8b43afc8404c03ad041b111a82c546f6b273030bd4493b28d02841923aca7d", func := "filigree/filigreelaw11.StmtBehind", spec := "stmtBehind", unfollowed := true, recurses := true, loops := true, apart := false }
def StmtBehindSaid : Prop := stmtBehindRow.holds Tryz.pinned (OpenSpec.ofChange stmtBehindSpec)

/-- ITS FALSE NEIGHBOUR: 'it returns false'. Refute it at one input. -/
def stmtBehindWrong : ChangeSpec := { name := "stmtBehind", fn := fun _ => fun
  | [d1, d2, d3, d4] => { results := [.lit (.bool false)], args := [d1, d2, d3, d4] }
  | _ => none }
def StmtBehindWrongFalsely : Prop := stmtBehindRow.holds Tryz.pinned (OpenSpec.ofChange stmtBehindWrong)

/-- 'filigreelaw11.StmtChoice': WHATEVER THE INPUT: true; the input reads as it did. -/
def stmtChoiceSpec : ChangeSpec := { name := "stmtChoice", fn := fun _ => fun
  | [d1, d2, d3, d4, d5] => { results := [.lit (.bool true)], args := [d1, d2, d3, d4, d5] }
  | _ => none }
def stmtChoiceRow : OpenClaim := { program := "ytaipaccpaljecaagreat", sum := "db8b43afc8404c03ad041b111a82c546f6b273030bd4493b28d02841923aca7d", func := "filigree/filigreelaw11.StmtChoice", spec := "stmtChoice", unfollowed := true, recurses := true, loops := true, apart := false }
def StmtChoiceSaid : Prop := stmtChoiceRow.holds Tryz.pinned (OpenSpec.ofChange stmtChoiceSpec)

/-- ITS FALSE NEIGHBOUR: 'it returns false'. Refute it at one input. -/
def stmtChoiceWrong : ChangeSpec := { name := "stmtChoice", fn := fun _ => fun
  | [d1, d2, d3, d4, d5] => { results := [.lit (.bool false)], args := [d1, d2, d3, d4, d5] }
  | _ => none }
def StmtChoiceWrongFalsely : Prop := stmtChoiceRow.holds Tryz.pinned (OpenSpec.ofChange stmtChoiceWrong)

/-- 'filigreelaw11.StmtApart': WHATEVER THE INPUT: true; the input reads as it did. -/
def stmtApartSpec : ChangeSpec := { name := "stmtApart", fn := fun _ => fun
  | [d1, d2, d3, d4] => { results := [.lit (.bool true)], args := [d1, d2, d3, d4] }
  | _ => none }
def stmtApartRow : OpenClaim := { program := "ytaipaccpaljecaagreat", sum := "db8b43afc8404c03ad041b111a82c546f6b273030bd4493b28d02841923aca7d", func := "filigree/filigreelaw11.StmtApart", spec := "stmtApart", unfollowed := true, recurses := true, loops := true, apart := false }
def StmtApartSaid : Prop := stmtApartRow.holds Tryz.pinned (OpenSpec.ofChange stmtApartSpec)

/-- ITS FALSE NEIGHBOUR: 'it returns false'. Refute it at one input. -/
def stmtApartWrong : ChangeSpec := { name := "stmtApart", fn := fun _ => fun
  | [d1, d2, d3, d4] => { results := [.lit (.bool false)], args := [d1, d2, d3, d4] }
  | _ => none }
def StmtApartWrongFalsely : Prop := stmtApartRow.holds Tryz.pinned (OpenSpec.ofChange stmtApartWrong)

/-- 'filigreelaw12.LintRest': WHATEVER THE INPUT: true; the input reads as it did. -/
def lintRestSpec : ChangeSpec := { name := "lintRest", fn := fun _ => fun
  | [d1, d2] => { results := [.lit (.bool true)], args := [d1, d2] }
  | _ => none }
def lintRestRow : OpenClaim := { program := "ytaipaccpaljecaagreat", sum := "db8b43afc8404c03ad041b111a82c546f6b273030bd4493b28d02841923aca7d", func := "filigree/filigreelaw12.LintRest", spec := "lintRest", unfollowed := true, recurses := true, loops := true, apart := false }
def LintRestSaid : Prop := lintRestRow.holds Tryz.pinned (OpenSpec.ofChange lintRestSpec)

/-- ITS FALSE NEIGHBOUR: 'it returns false'. Refute it at one input. -/
def lintRestWrong : ChangeSpec := { name := "lintRest", fn := fun _ => fun
  | [d1, d2] => { results := [.lit (.bool false)], args := [d1, d2] }
  | _ => none }
def LintRestWrongFalsely : Prop := lintRestRow.holds Tryz.pinned (OpenSpec.ofChange lintRestWrong)

/-- 'filigreelaw12.LintAny': WHATEVER THE INPUT: true; the input reads as it did. -/
def lintAnySpec : ChangeSpec := { name := "lintAny", fn := fun _ => fun
  | [d1, d2, d3] => { results := [.lit (.bool true)], args := [d1, d2, d3] }
  | _ => none }
def lintAnyRow : OpenClaim := { program := "ytaipaccpaljecaagreat", sum := "db8b43afc8404c03ad041b111a82c546f6b273030bd4493b28d02841923aca7d", func := "filigree/filigreelaw12.LintAny", spec := "lintAny", unfollowed := true, recurses := true, loops := true, apart := false }
def LintAnySaid : Prop := lintAnyRow.holds Tryz.pinned (OpenSpec.ofChange lintAnySpec)

/-- ITS FALSE NEIGHBOUR: 'it returns false'. Refute it at one input. -/
def lintAnyWrong : ChangeSpec := { name := "lintAny", fn := fun _ => fun
  | [d1, d2, d3] => { results := [.lit (.bool false)], args := [d1, d2, d3] }
  | _ => none }
def LintAnyWrongFalsely : Prop := lintAnyRow.holds Tryz.pinned (OpenSpec.ofChange lintAnyWrong)

/- THE SECOND FORM. 'bulk': how many values and letters a reading holds, each counted each time it is reached (what is shared counts as often as it is met; a slice's spare places count too). A statement '..UptoSaid' is the law's where the arguments, and the package variables that the reading takes, are together of bulk at most 1048576: NARROWER than '..Said'. Prove '..Said' where nothing that the law and all that it calls make is longer than what came in: it says more and counts as full. Else prove '..UptoSaid'. A law counts once. -/
mutual
def uptoBulk {H : Type} : DataW H → Nat
  | .lit (.string bytes) => bytes.length + 1
  | .lit _ => 1
  | .nil => 1
  | .ptr d => uptoBulk d + 1
  | .slice elems spare => uptoBulkAll elems + uptoBulkAll spare + 1
  | .agg parts => uptoBulkAll parts + 1
  | .iface _ d => uptoBulk d + 1
  | .map entries => uptoBulkEntries entries + 1
  | .held _ => 1
def uptoBulkAll {H : Type} : List (DataW H) → Nat
  | [] => 0
  | d :: r => uptoBulk d + uptoBulkAll r
def uptoBulkEntries {H : Type} : List (Lit × DataW H) → Nat
  | [] => 0
  | x :: r => uptoBulkEntry x + uptoBulkEntries r
def uptoBulkEntry {H : Type} : Lit × DataW H → Nat
  | (.string bytes, d) => bytes.length + uptoBulk d + 1
  | (_, d) => uptoBulk d + 1
 end
def uptoSmall : (H : Type) → List (DataW H) → Bool := fun _ ds => decide (uptoBulkAll ds ≤ 1048576)
def OpenSpec.upto (s : _root_.Go.ChangeSpec) : _root_.Go.OpenSpec := { _root_.Go.OpenSpec.ofChange s with cond := some uptoSmall }

/-- 'filigreelaw12.LintDriven', WHERE WHAT IT READS IS OF BULK AT MOST 1048576: true; the input reads as it did. -/
def lintDrivenUptoRow : OpenClaim := { program := "ytaipaccpaljecaagreat", sum := "db8b43afc8404c03ad041b111a82c546f6b273030bd4493b28d02841923aca7d", func := "filigree/filigreelaw12.LintDriven", spec := "lintDriven", unfollowed := true, recurses := true, loops := true, apart := false, narrowed := true }
def LintDrivenUptoSaid : Prop := lintDrivenUptoRow.holds Tryz.pinned (OpenSpec.upto lintDrivenSpec)

/-- 'filigreelaw11.StmtRuns', WHERE WHAT IT READS IS OF BULK AT MOST 1048576: true; the input reads as it did. -/
def stmtRunsUptoRow : OpenClaim := { program := "ytaipaccpaljecaagreat", sum := "db8b43afc8404c03ad041b111a82c546f6b273030bd4493b28d02841923aca7d", func := "filigree/filigreelaw11.StmtRuns", spec := "stmtRuns", unfollowed := true, recurses := true, loops := true, apart := false, narrowed := true }
def StmtRunsUptoSaid : Prop := stmtRunsUptoRow.holds Tryz.pinned (OpenSpec.upto stmtRunsSpec)

/-- 'filigreelaw11.StmtTells', WHERE WHAT IT READS IS OF BULK AT MOST 1048576: true; the input reads as it did. -/
def stmtTellsUptoRow : OpenClaim := { program := "ytaipaccpaljecaagreat", sum := "db8b43afc8404c03ad041b111a82c546f6b273030bd4493b28d02841923aca7d", func := "filigree/filigreelaw11.StmtTells", spec := "stmtTells", unfollowed := true, recurses := true, loops := true, apart := false, narrowed := true }
def StmtTellsUptoSaid : Prop := stmtTellsUptoRow.holds Tryz.pinned (OpenSpec.upto stmtTellsSpec)

/-- 'filigreelaw11.StmtHangs', WHERE WHAT IT READS IS OF BULK AT MOST 1048576: true; the input reads as it did. -/
def stmtHangsUptoRow : OpenClaim := { program := "ytaipaccpaljecaagreat", sum := "db8b43afc8404c03ad041b111a82c546f6b273030bd4493b28d02841923aca7d", func := "filigree/filigreelaw11.StmtHangs", spec := "stmtHangs", unfollowed := true, recurses := true, loops := true, apart := false, narrowed := true }
def StmtHangsUptoSaid : Prop := stmtHangsUptoRow.holds Tryz.pinned (OpenSpec.upto stmtHangsSpec)

/-- 'filigreelaw11.StmtLists', WHERE WHAT IT READS IS OF BULK AT MOST 1048576: true; the input reads as it did. -/
def stmtListsUptoRow : OpenClaim := { program := "ytaipaccpaljecaagreat", sum := "db8b43afc8404c03ad041b111a82c546f6b273030bd4493b28d02841923aca7d", func := "filigree/filigreelaw11.StmtLists", spec := "stmtLists", unfollowed := true, recurses := true, loops := true, apart := false, narrowed := true }
def StmtListsUptoSaid : Prop := stmtListsUptoRow.holds Tryz.pinned (OpenSpec.upto stmtListsSpec)

/-- 'filigreelaw11.StmtValues', WHERE WHAT IT READS IS OF BULK AT MOST 1048576: true; the input reads as it did. -/
def stmtValuesUptoRow : OpenClaim := { program := "ytaipaccpaljecaagreat", sum := "db8b43afc8404c03ad041b111a82c546f6b273030bd4493b28d02841923aca7d", func := "filigree/filigreelaw11.StmtValues", spec := "stmtValues", unfollowed := true, recurses := true, loops := true, apart := false, narrowed := true }
def StmtValuesUptoSaid : Prop := stmtValuesUptoRow.holds Tryz.pinned (OpenSpec.upto stmtValuesSpec)

/-- 'filigreelaw11.StmtStill', WHERE WHAT IT READS IS OF BULK AT MOST 1048576: true; the input reads as it did. -/
def stmtStillUptoRow : OpenClaim := { program := "ytaipaccpaljecaagreat", sum := "db8b43afc8404c03ad041b111a82c546f6b273030bd4493b28d02841923aca7d", func := "filigree/filigreelaw11.StmtStill", spec := "stmtStill", unfollowed := true, recurses := true, loops := true, apart := false, narrowed := true }
def StmtStillUptoSaid : Prop := stmtStillUptoRow.holds Tryz.pinned (OpenSpec.upto stmtStillSpec)

/-- 'filigreelaw11.StmtBehind', WHERE WHAT IT READS IS OF BULK AT MOST 1048576: true; the input reads as it did. -/
def stmtBehindUptoRow : OpenClaim := { program := "ytaipaccpaljecaagreat", sum := "db8b43afc8404c03ad041b111a82c546f6b273030bd4493b28d02841923aca7d", func := "filigree/filigreelaw11.StmtBehind", spec := "stmtBehind", unfollowed := true, recurses := true, loops := true, apart := false, narrowed := true }
def StmtBehindUptoSaid : Prop := stmtBehindUptoRow.holds Tryz.pinned (OpenSpec.upto stmtBehindSpec)

/-- 'filigreelaw11.StmtChoice', WHERE WHAT IT READS IS OF BULK AT MOST 1048576: true; the input reads as it did. -/
def stmtChoiceUptoRow : OpenClaim := { program := "ytaipaccpaljecaagreat", sum := "db8b43afc8404c03ad041b111a82c546f6b273030bd4493b28d02841923aca7d", func := "filigree/filigreelaw11.StmtChoice", spec := "stmtChoice", unfollowed := true, recurses := true, loops := true, apart := false, narrowed := true }
def StmtChoiceUptoSaid : Prop := stmtChoiceUptoRow.holds Tryz.pinned (OpenSpec.upto stmtChoiceSpec)

/-- 'filigreelaw11.StmtApart', WHERE WHAT IT READS IS OF BULK AT MOST 1048576: true; the input reads as it did. -/
def stmtApartUptoRow : OpenClaim := { program := "ytaipaccpaljecaagreat", sum := "db8b43afc8404c03ad041b111a82c546f6b273030bd4493b28d02841923aca7d", func := "filigree/filigreelaw11.StmtApart", spec := "stmtApart", unfollowed := true, recurses := true, loops := true, apart := false, narrowed := true }
def StmtApartUptoSaid : Prop := stmtApartUptoRow.holds Tryz.pinned (OpenSpec.upto stmtApartSpec)

/-- 'filigreelaw12.LintRest', WHERE WHAT IT READS IS OF BULK AT MOST 1048576: true; the input reads as it did. -/
def lintRestUptoRow : OpenClaim := { program := "ytaipaccpaljecaagreat", sum := "db8b43afc8404c03ad041b111a82c546f6b273030bd4493b28d02841923aca7d", func := "filigree/filigreelaw12.LintRest", spec := "lintRest", unfollowed := true, recurses := true, loops := true, apart := false, narrowed := true }
def LintRestUptoSaid : Prop := lintRestUptoRow.holds Tryz.pinned (OpenSpec.upto lintRestSpec)

/-- 'filigreelaw12.LintAny', WHERE WHAT IT READS IS OF BULK AT MOST 1048576: true; the input reads as it did. -/
def lintAnyUptoRow : OpenClaim := { program := "ytaipaccpaljecaagreat", sum := "db8b43afc8404c03ad041b111a82c546f6b273030bd4493b28d02841923aca7d", func := "filigree/filigreelaw12.LintAny", spec := "lintAny", unfollowed := true, recurses := true, loops := true, apart := false, narrowed := true }
def LintAnyUptoSaid : Prop := lintAnyUptoRow.holds Tryz.pinned (OpenSpec.upto lintAnySpec)

end Rows
end Go.Proofs.YtaipaccpaljecaaGreat
