/-
  NARROWER THAN 'FOR EVERY INPUT', by the rows' own cells (each row's printed sentence says how): LintRest: loops · CycleRests: loops · CycleAny: loops · CycleTicks: loops · CyclePuts: loops · CycleAhead: loops · CycleSteps: loops.
  DERIVED. THE GIVEN ROWS OF THIS SEAT. 7 by the template 'for every input the law returns true; each argument reads behind the call as it read before'; 0 by the template 'total and deterministic' (their statements: YtoaamjgfhppppaaGreatTotals.lean).
  GIVEN WITH THE SEED: the statements are not yours to turn. If you find one false, say at which input.
  Laid BY PROGRAM, IN A SANDBOX (cutbox-rows.mjs): the forced cells as the released guide's own fill.sh prints them over the translation 77ee9ffc0cd94823… (all of the seat's roots in one cut). By AI agents, Wed Nov 11 2026. No macro, syntax, notation, axiom, sorry.
-/
import Derived.Test.YtoaamjgfhppppaaGreatChecked
import GoSem.Claim
import GoSem.ClaimJoined
import GoSem.ClaimMapViews
import Derived.JoinedTies
import Derived.KernelRfl
namespace Go.Proofs.YtoaamjgfhppppaaGreat
/- THE CELL 'sum', in the pinned program and in every row, IS THE sha256 OF THE DUMP (.gsa) THAT YtoaamjgfhppppaaGreatProg.lean LOADS. Nothing in Lean hashes anything: it is a label: what it is worth is what the hold of that sum in a sandbox is worth. -/
noncomputable def Tryz.pinned : Pinned := { name := "ytoaamjgfhppppaagreat", sum := "77ee9ffc0cd94823aff4e2d2b123e17fe320f7c846e55ba3cda1c65d754228f9", checked := Tryz.checked }
namespace Rows
def none {H : Type} : Left H := { results := [], args := [] }

/-- 'filigreelaw12.LintRest': WHATEVER THE INPUT: true; the input reads as it did. -/
def lintRestSpec : ChangeSpec := { name := "lintRest", fn := fun _ => fun
  | [d1, d2] => { results := [.lit (.bool true)], args := [d1, d2] }
  | _ => none }
def lintRestRow : OpenClaim := { program := "ytoaamjgfhppppaagreat", sum := "77ee9ffc0cd94823aff4e2d2b123e17fe320f7c846e55ba3cda1c65d754228f9", func := "filigree/filigreelaw12.LintRest", spec := "lintRest", unfollowed := true, recurses := true, loops := true, apart := false }
def LintRestSaid : Prop := lintRestRow.holds Tryz.pinned (OpenSpec.ofChange lintRestSpec)

/-- ITS FALSE NEIGHBOUR: 'it returns false'. Refute it at one input. -/
def lintRestWrong : ChangeSpec := { name := "lintRest", fn := fun _ => fun
  | [d1, d2] => { results := [.lit (.bool false)], args := [d1, d2] }
  | _ => none }
def LintRestWrongFalsely : Prop := lintRestRow.holds Tryz.pinned (OpenSpec.ofChange lintRestWrong)

/-- 'filigreelaw13.CycleRests': WHATEVER THE INPUT: true; the input reads as it did. -/
def cycleRestsSpec : ChangeSpec := { name := "cycleRests", fn := fun _ => fun
  | [d1, d2, d3] => { results := [.lit (.bool true)], args := [d1, d2, d3] }
  | _ => none }
def cycleRestsRow : OpenClaim := { program := "ytoaamjgfhppppaagreat", sum := "77ee9ffc0cd94823aff4e2d2b123e17fe320f7c846e55ba3cda1c65d754228f9", func := "filigree/filigreelaw13.CycleRests", spec := "cycleRests", unfollowed := true, recurses := true, loops := true, apart := false }
def CycleRestsSaid : Prop := cycleRestsRow.holds Tryz.pinned (OpenSpec.ofChange cycleRestsSpec)

/-- ITS FALSE NEIGHBOUR: 'it returns false'. Refute it at one input. -/
def cycleRestsWrong : ChangeSpec := { name := "cycleRests", fn := fun _ => fun
  | [d1, d2, d3] => { results := [.lit (.bool false)], args := [d1, d2, d3] }
  | _ => none }
def CycleRestsWrongFalsely : Prop := cycleRestsRow.holds Tryz.pinned (OpenSpec.ofChange cycleRestsWrong)

/-- 'filigreelaw13.CycleAny': WHATEVER THE INPUT: true; the input reads as it did. -/
def cycleAnySpec : ChangeSpec := { name := "cycleAny", fn := fun _ => fun
  | [d1, d2, d3] => { results := [.lit (.bool true)], args := [d1, d2, d3] }
  | _ => none }
def cycleAnyRow : OpenClaim := { program := "ytoaamjgfhppppaagreat", sum := "77ee9ffc0cd94823aff4e2d2b123e17fe320f7c846e55ba3cda1c65d754228f9", func := "filigree/filigreelaw13.CycleAny", spec := "cycleAny", unfollowed := true, recurses := true, loops := true, apart := false }
def CycleAnySaid : Prop := cycleAnyRow.holds Tryz.pinned (OpenSpec.ofChange cycleAnySpec)

/-- ITS FALSE NEIGHBOUR: 'it returns false'. Refute it at one input. -/
def cycleAnyWrong : ChangeSpec := { name := "cycleAny", fn := fun _ => fun
  | [d1, d2, d3] => { results := [.lit (.bool false)], args := [d1, d2, d3] }
  | _ => none }
def CycleAnyWrongFalsely : Prop := cycleAnyRow.holds Tryz.pinned (OpenSpec.ofChange cycleAnyWrong)

/-- 'filigreelaw13.CycleTicks': WHATEVER THE INPUT: true; the input reads as it did. -/
def cycleTicksSpec : ChangeSpec := { name := "cycleTicks", fn := fun _ => fun
  | [d1, d2] => { results := [.lit (.bool true)], args := [d1, d2] }
  | _ => none }
def cycleTicksRow : OpenClaim := { program := "ytoaamjgfhppppaagreat", sum := "77ee9ffc0cd94823aff4e2d2b123e17fe320f7c846e55ba3cda1c65d754228f9", func := "filigree/filigreelaw13.CycleTicks", spec := "cycleTicks", unfollowed := true, recurses := true, loops := true, apart := false }
def CycleTicksSaid : Prop := cycleTicksRow.holds Tryz.pinned (OpenSpec.ofChange cycleTicksSpec)

/-- ITS FALSE NEIGHBOUR: 'it returns false'. Refute it at one input. -/
def cycleTicksWrong : ChangeSpec := { name := "cycleTicks", fn := fun _ => fun
  | [d1, d2] => { results := [.lit (.bool false)], args := [d1, d2] }
  | _ => none }
def CycleTicksWrongFalsely : Prop := cycleTicksRow.holds Tryz.pinned (OpenSpec.ofChange cycleTicksWrong)

/-- 'filigreelaw13.CyclePuts': WHATEVER THE INPUT: true; the input reads as it did. -/
def cyclePutsSpec : ChangeSpec := { name := "cyclePuts", fn := fun _ => fun
  | [d1, d2, d3, d4] => { results := [.lit (.bool true)], args := [d1, d2, d3, d4] }
  | _ => none }
def cyclePutsRow : OpenClaim := { program := "ytoaamjgfhppppaagreat", sum := "77ee9ffc0cd94823aff4e2d2b123e17fe320f7c846e55ba3cda1c65d754228f9", func := "filigree/filigreelaw13.CyclePuts", spec := "cyclePuts", unfollowed := true, recurses := true, loops := true, apart := false }
def CyclePutsSaid : Prop := cyclePutsRow.holds Tryz.pinned (OpenSpec.ofChange cyclePutsSpec)

/-- ITS FALSE NEIGHBOUR: 'it returns false'. Refute it at one input. -/
def cyclePutsWrong : ChangeSpec := { name := "cyclePuts", fn := fun _ => fun
  | [d1, d2, d3, d4] => { results := [.lit (.bool false)], args := [d1, d2, d3, d4] }
  | _ => none }
def CyclePutsWrongFalsely : Prop := cyclePutsRow.holds Tryz.pinned (OpenSpec.ofChange cyclePutsWrong)

/-- 'filigreelaw13.CycleAhead': WHATEVER THE INPUT: true; the input reads as it did. -/
def cycleAheadSpec : ChangeSpec := { name := "cycleAhead", fn := fun _ => fun
  | [d1, d2, d3] => { results := [.lit (.bool true)], args := [d1, d2, d3] }
  | _ => none }
def cycleAheadRow : OpenClaim := { program := "ytoaamjgfhppppaagreat", sum := "77ee9ffc0cd94823aff4e2d2b123e17fe320f7c846e55ba3cda1c65d754228f9", func := "filigree/filigreelaw13.CycleAhead", spec := "cycleAhead", unfollowed := true, recurses := true, loops := true, apart := false }
def CycleAheadSaid : Prop := cycleAheadRow.holds Tryz.pinned (OpenSpec.ofChange cycleAheadSpec)

/-- ITS FALSE NEIGHBOUR: 'it returns false'. Refute it at one input. -/
def cycleAheadWrong : ChangeSpec := { name := "cycleAhead", fn := fun _ => fun
  | [d1, d2, d3] => { results := [.lit (.bool false)], args := [d1, d2, d3] }
  | _ => none }
def CycleAheadWrongFalsely : Prop := cycleAheadRow.holds Tryz.pinned (OpenSpec.ofChange cycleAheadWrong)

/-- 'filigreelaw13.CycleSteps': WHATEVER THE INPUT: true; the input reads as it did. -/
def cycleStepsSpec : ChangeSpec := { name := "cycleSteps", fn := fun _ => fun
  | [d1, d2] => { results := [.lit (.bool true)], args := [d1, d2] }
  | _ => none }
def cycleStepsRow : OpenClaim := { program := "ytoaamjgfhppppaagreat", sum := "77ee9ffc0cd94823aff4e2d2b123e17fe320f7c846e55ba3cda1c65d754228f9", func := "filigree/filigreelaw13.CycleSteps", spec := "cycleSteps", unfollowed := true, recurses := true, loops := true, apart := false }
def CycleStepsSaid : Prop := cycleStepsRow.holds Tryz.pinned (OpenSpec.ofChange cycleStepsSpec)

/-- ITS FALSE NEIGHBOUR: 'it returns false'. Refute it at one input. -/
def cycleStepsWrong : ChangeSpec := { name := "cycleSteps", fn := fun _ => fun
  | [d1, d2] => { results := [.lit (.bool false)], args := [d1, d2] }
  | _ => none }
def CycleStepsWrongFalsely : Prop := cycleStepsRow.holds Tryz.pinned (OpenSpec.ofChange cycleStepsWrong)

/- THE SECOND FORM. 'bulk': how many values and letters a reading holds, each counted each time it is reached (what is shared counts as often as it is met; a slice's spare places count too). A statement '..UptoSaid' is the law's where the arguments, and the package variables that the reading takes, are together of bulk at most 1048576: NARROWER than '..Said'. Prove '..Said' where nothing that the law and all that it calls make is longer than what came in: it says more and counts as full. Else prove '..UptoSaid'. A law counts once. -/
mutual
def uptoBulk {H : Type} : DataW H → Nat
  | .lit (.string bytes) => bytes.length + 1
  | .lit _ => 1
  | .nil => 1
  | .ptr d => uptoBulk d + 1
  | .slice elems spare => uptoBulkAll elems + uptoBulkAll spare + 1
  | .agg parts => uptoBulkAll parts + 1
  | .iface _ d => uptoBulk d + 1
  | .map entries => uptoBulkEntries entries + 1
  | .held _ => 1
def uptoBulkAll {H : Type} : List (DataW H) → Nat
  | [] => 0
  | d :: r => uptoBulk d + uptoBulkAll r
def uptoBulkEntries {H : Type} : List (Lit × DataW H) → Nat
  | [] => 0
  | x :: r => uptoBulkEntry x + uptoBulkEntries r
def uptoBulkEntry {H : Type} : Lit × DataW H → Nat
  | (.string bytes, d) => bytes.length + uptoBulk d + 1
  | (_, d) => uptoBulk d + 1
 end
def uptoSmall : (H : Type) → List (DataW H) → Bool := fun _ ds => decide (uptoBulkAll ds ≤ 1048576)
def OpenSpec.upto (s : _root_.Go.ChangeSpec) : _root_.Go.OpenSpec := { _root_.Go.OpenSpec.ofChange s with cond := some uptoSmall }

/-- 'filigreelaw12.LintRest', WHERE WHAT IT READS IS OF BULK AT MOST 1048576: true; the input reads as it did. -/
def lintRestUptoRow : OpenClaim := { program := "ytoaamjgfhppppaagreat", sum := "77ee9ffc0cd94823aff4e2d2b123e17fe320f7c846e55ba3cda1c65d754228f9", func := "filigree/filigreelaw12.LintRest", spec := "lintRest", unfollowed := true, recurses := true, loops := true, apart := false, narrowed := true }
def LintRestUptoSaid : Prop := lintRestUptoRow.holds Tryz.pinned (OpenSpec.upto lintRestSpec)

/-- 'filigreelaw13.CycleRests', WHERE WHAT IT READS IS OF BULK AT MOST 1048576: true; the input reads as it did. -/
def cycleRestsUptoRow : OpenClaim := { program := "ytoaamjgfhppppaagreat", sum := "77ee9ffc0cd94823aff4e2d2b123e17fe320f7c846e55ba3cda1c65d754228f9", func := "filigree/filigreelaw13.CycleRests", spec := "cycleRests", unfollowed := true, recurses := true, loops := true, apart := false, narrowed := true }
def CycleRestsUptoSaid : Prop := cycleRestsUptoRow.holds Tryz.pinned (OpenSpec.upto cycleRestsSpec)

/-- 'filigreelaw13.CycleAny', WHERE WHAT IT READS IS OF BULK AT MOST 1048576: true; the input reads as it did. -/
def cycleAnyUptoRow : OpenClaim := { program := "ytoaamjgfhppppaagreat", sum := "77ee9ffc0cd94823aff4e2d2b123e17fe320f7c846e55ba3cda1c65d754228f9", func := "filigree/filigreelaw13.CycleAny", spec := "cycleAny", unfollowed := true, recurses := true, loops := true, apart := false, narrowed := true }
def CycleAnyUptoSaid : Prop := cycleAnyUptoRow.holds Tryz.pinned (OpenSpec.upto cycleAnySpec)

/-- 'filigreelaw13.CycleTicks', WHERE WHAT IT READS IS OF BULK AT MOST 1048576: true; the input reads as it did. -/
def cycleTicksUptoRow : OpenClaim := { program := "ytoaamjgfhppppaagreat", sum := "77ee9ffc0cd94823aff4e2d2b123e17fe320f7c846e55ba3cda1c65d754228f9", func := "filigree/filigreelaw13.CycleTicks", spec := "cycleTicks", unfollowed := true, recurses := true, loops := true, apart := false, narrowed := true }
def CycleTicksUptoSaid : Prop := cycleTicksUptoRow.holds Tryz.pinned (OpenSpec.upto cycleTicksSpec)

/-- 'filigreelaw13.CyclePuts', WHERE WHAT IT READS IS OF BULK AT MOST 1048576: true; the input reads as it did. -/
def cyclePutsUptoRow : OpenClaim := { program := "ytoaamjgfhppppaagreat", sum := "77ee9ffc0cd94823aff4e2d2b123e17fe320f7c846e55ba3cda1c65d754228f9", func := "filigree/filigreelaw13.CyclePuts", spec := "cyclePuts", unfollowed := true, recurses := true, loops := true, apart := false, narrowed := true }
def CyclePutsUptoSaid : Prop := cyclePutsUptoRow.holds Tryz.pinned (OpenSpec.upto cyclePutsSpec)

/-- 'filigreelaw13.CycleAhead', WHERE WHAT IT READS IS OF BULK AT MOST 1048576: true; the input reads as it did. -/
def cycleAheadUptoRow : OpenClaim := { program := "ytoaamjgfhppppaagreat", sum := "77ee9ffc0cd94823aff4e2d2b123e17fe320f7c846e55ba3cda1c65d754228f9", func := "filigree/filigreelaw13.CycleAhead", spec := "cycleAhead", unfollowed := true, recurses := true, loops := true, apart := false, narrowed := true }
def CycleAheadUptoSaid : Prop := cycleAheadUptoRow.holds Tryz.pinned (OpenSpec.upto cycleAheadSpec)

/-- 'filigreelaw13.CycleSteps', WHERE WHAT IT READS IS OF BULK AT MOST 1048576: true; the input reads as it did. -/
def cycleStepsUptoRow : OpenClaim := { program := "ytoaamjgfhppppaagreat", sum := "77ee9ffc0cd94823aff4e2d2b123e17fe320f7c846e55ba3cda1c65d754228f9", func := "filigree/filigreelaw13.CycleSteps", spec := "cycleSteps", unfollowed := true, recurses := true, loops := true, apart := false, narrowed := true }
def CycleStepsUptoSaid : Prop := cycleStepsUptoRow.holds Tryz.pinned (OpenSpec.upto cycleStepsSpec)

end Rows
end Go.Proofs.YtoaamjgfhppppaaGreat
