/-
  NARROWER THAN 'FOR EVERY INPUT', by the rows' own cells (each row's printed sentence says how): LintCheck: loops · LintOrder: loops · LintBehind: loops · LintDriven: loops · LintTurned: loops · LintSpoilt: loops.
  DERIVED. THE GIVEN ROWS OF THIS SEAT. 6 by the template 'for every input the law returns true; each argument reads behind the call as it read before'; 0 by the template 'total and deterministic' (their statements: YthpemngachlehaaGreatTotals.lean).
  GIVEN WITH THE SEED: the statements are not yours to turn. If you find one false, say at which input.
  Laid BY PROGRAM, IN A SANDBOX (cutbox-rows.mjs): the forced cells as the released guide's own fill.sh prints them over the translation eee418c0800c6a08… (all of the seat's roots in one cut). By AI agents, Wed Nov 11 2026. No macro, syntax, notation, axiom, sorry.
-/
import Derived.Test.YthpemngachlehaaGreatChecked
import GoSem.Claim
import GoSem.ClaimJoined
import GoSem.ClaimMapViews
import Derived.JoinedTies
import Derived.KernelRfl
namespace Go.Proofs.YthpemngachlehaaGreat
/- THE CELL 'sum', in the pinned program and in every row, IS THE sha256 OF THE DUMP (.gsa) THAT YthpemngachlehaaGreatProg.lean LOADS. Nothing in Lean hashes anything: it is a label: what it is worth is what the hold of that sum in a sandbox is worth. -/
noncomputable def Tryz.pinned : Pinned := { name := "ythpemngachlehaagreat", sum := "eee418c0800c6a08b7eb5b5afff167676ec2835dfeddf3c84edbe2577756bf02", checked := Tryz.checked }
namespace Rows
def none {H : Type} : Left H := { results := [], args := [] }

/-- 'filigreelaw12.LintCheck': WHATEVER THE INPUT: true; the input reads as it did. -/
def lintCheckSpec : ChangeSpec := { name := "lintCheck", fn := fun _ => fun
  | [d] => { results := [.lit (.bool true)], args := [d] }
  | _ => none }
def lintCheckRow : OpenClaim := { program := "ythpemngachlehaagreat", sum := "eee418c0800c6a08b7eb5b5afff167676ec2835dfeddf3c84edbe2577756bf02", func := "filigree/filigreelaw12.LintCheck", spec := "lintCheck", unfollowed := true, recurses := true, loops := true, apart := false }
def LintCheckSaid : Prop := lintCheckRow.holds Tryz.pinned (OpenSpec.ofChange lintCheckSpec)

/-- ITS FALSE NEIGHBOUR: 'it returns false'. Refute it at one input. -/
def lintCheckWrong : ChangeSpec := { name := "lintCheck", fn := fun _ => fun
  | [d] => { results := [.lit (.bool false)], args := [d] }
  | _ => none }
def LintCheckWrongFalsely : Prop := lintCheckRow.holds Tryz.pinned (OpenSpec.ofChange lintCheckWrong)

/-- 'filigreelaw12.LintOrder': WHATEVER THE INPUT: true; the input reads as it did. -/
def lintOrderSpec : ChangeSpec := { name := "lintOrder", fn := fun _ => fun
  | [d] => { results := [.lit (.bool true)], args := [d] }
  | _ => none }
def lintOrderRow : OpenClaim := { program := "ythpemngachlehaagreat", sum := "eee418c0800c6a08b7eb5b5afff167676ec2835dfeddf3c84edbe2577756bf02", func := "filigree/filigreelaw12.LintOrder", spec := "lintOrder", unfollowed := true, recurses := true, loops := true, apart := false }
def LintOrderSaid : Prop := lintOrderRow.holds Tryz.pinned (OpenSpec.ofChange lintOrderSpec)

/-- ITS FALSE NEIGHBOUR: 'it returns false'. Refute it at one input. -/
def lintOrderWrong : ChangeSpec := { name := "lintOrder", fn := fun _ => fun
  | [d] => { results := [.lit (.bool false)], args := [d] }
  | _ => none }
def LintOrderWrongFalsely : Prop := lintOrderRow.holds Tryz.pinned (OpenSpec.ofChange lintOrderWrong)

/-- 'filigreelaw12.LintBehind': WHATEVER THE INPUT: true; the input reads as it did. -/
def lintBehindSpec : ChangeSpec := { name := "lintBehind", fn := fun _ => fun
  | [d] => { results := [.lit (.bool true)], args := [d] }
  | _ => none }
def lintBehindRow : OpenClaim := { program := "ythpemngachlehaagreat", sum := "eee418c0800c6a08b7eb5b5afff167676ec2835dfeddf3c84edbe2577756bf02", func := "filigree/filigreelaw12.LintBehind", spec := "lintBehind", unfollowed := true, recurses := true, loops := true, apart := false }
def LintBehindSaid : Prop := lintBehindRow.holds Tryz.pinned (OpenSpec.ofChange lintBehindSpec)

/-- ITS FALSE NEIGHBOUR: 'it returns false'. Refute it at one input. -/
def lintBehindWrong : ChangeSpec := { name := "lintBehind", fn := fun _ => fun
  | [d] => { results := [.lit (.bool false)], args := [d] }
  | _ => none }
def LintBehindWrongFalsely : Prop := lintBehindRow.holds Tryz.pinned (OpenSpec.ofChange lintBehindWrong)

/-- 'filigreelaw12.LintDriven': WHATEVER THE INPUT: true; the input reads as it did. -/
def lintDrivenSpec : ChangeSpec := { name := "lintDriven", fn := fun _ => fun
  | [d] => { results := [.lit (.bool true)], args := [d] }
  | _ => none }
def lintDrivenRow : OpenClaim := { program := "ythpemngachlehaagreat", sum := "eee418c0800c6a08b7eb5b5afff167676ec2835dfeddf3c84edbe2577756bf02", func := "filigree/filigreelaw12.LintDriven", spec := "lintDriven", unfollowed := true, recurses := true, loops := true, apart := false }
def LintDrivenSaid : Prop := lintDrivenRow.holds Tryz.pinned (OpenSpec.ofChange lintDrivenSpec)

/-- ITS FALSE NEIGHBOUR: 'it returns false'. Refute it at one input. -/
def lintDrivenWrong : ChangeSpec := { name := "lintDriven", fn := fun _ => fun
  | [d] => { results := [.lit (.bool false)], args := [d] }
  | _ => none }
def LintDrivenWrongFalsely : Prop := lintDrivenRow.holds Tryz.pinned (OpenSpec.ofChange lintDrivenWrong)

/-- 'filigreelaw12.LintTurned': WHATEVER THE INPUT: true; the input reads as it did. -/
def lintTurnedSpec : ChangeSpec := { name := "lintTurned", fn := fun _ => fun
  | [d] => { results := [.lit (.bool true)], args := [d] }
  | _ => none }
def lintTurnedRow : OpenClaim := { program := "ythpemngachlehaagreat", sum := "eee418c0800c6a08b7eb5b5afff167676ec2835dfeddf3c84edbe2577756bf02", func := "filigree/filigreelaw12.LintTurned", spec := "lintTurned", unfollowed := true, recurses := true, loops := true, apart := false }
def LintTurnedSaid : Prop := lintTurnedRow.holds Tryz.pinned (OpenSpec.ofChange lintTurnedSpec)

/-- ITS FALSE NEIGHBOUR: 'it returns false'. Refute it at one input. -/
def lintTurnedWrong : ChangeSpec := { name := "lintTurned", fn := fun _ => fun
  | [d] => { results := [.lit (.bool false)], args := [d] }
  | _ => none }
def LintTurnedWrongFalsely : Prop := lintTurnedRow.holds Tryz.pinned (OpenSpec.ofChange lintTurnedWrong)

/-- 'filigreelaw12.LintSpoilt': WHATEVER THE INPUT: true; the input reads as it did. -/
def lintSpoiltSpec : ChangeSpec := { name := "lintSpoilt", fn := fun _ => fun
  | [d1, d2] => { results := [.lit (.bool true)], args := [d1, d2] }
  | _ => none }
def lintSpoiltRow : OpenClaim := { program := "ythpemngachlehaagreat", sum := "eee418c0800c6a08b7eb5b5afff167676ec2835dfeddf3c84edbe2577756bf02", func := "filigree/filigreelaw12.LintSpoilt", spec := "lintSpoilt", unfollowed := true, recurses := true, loops := true, apart := false }
def LintSpoiltSaid : Prop := lintSpoiltRow.holds Tryz.pinned (OpenSpec.ofChange lintSpoiltSpec)

/-- ITS FALSE NEIGHBOUR: 'it returns false'. Refute it at one input. -/
def lintSpoiltWrong : ChangeSpec := { name := "lintSpoilt", fn := fun _ => fun
  | [d1, d2] => { results := [.lit (.bool false)], args := [d1, d2] }
  | _ => none }
def LintSpoiltWrongFalsely : Prop := lintSpoiltRow.holds Tryz.pinned (OpenSpec.ofChange lintSpoiltWrong)

/- THE SECOND FORM. 'bulk': how many values and letters a reading holds, each counted each time it is reached (what is shared counts as often as it is met; a slice's spare places count too). A statement '..UptoSaid' is the law's where the arguments, and the package variables that the reading takes, are together of bulk at most 1048576: NARROWER than '..Said'. Prove '..Said' where nothing that the law and all that it calls make is longer than what came in: it says more and counts as full. Else prove '..UptoSaid'. A law counts once. -/
mutual
def uptoBulk {H : Type} : DataW H → Nat
  | .lit (.string bytes) => bytes.length + 1
  | .lit _ => 1
  | .nil => 1
  | .ptr d => uptoBulk d + 1
  | .slice elems spare => uptoBulkAll elems + uptoBulkAll spare + 1
  | .agg parts => uptoBulkAll parts + 1
  | .iface _ d => uptoBulk d + 1
  | .map entries => uptoBulkEntries entries + 1
  | .held _ => 1
def uptoBulkAll {H : Type} : List (DataW H) → Nat
  | [] => 0
  | d :: r => uptoBulk d + uptoBulkAll r
def uptoBulkEntries {H : Type} : List (Lit × DataW H) → Nat
  | [] => 0
  | x :: r => uptoBulkEntry x + uptoBulkEntries r
def uptoBulkEntry {H : Type} : Lit × DataW H → Nat
  | (.string bytes, d) => bytes.length + uptoBulk d + 1
  | (_, d) => uptoBulk d + 1
 end
def uptoSmall : (H : Type) → List (DataW H) → Bool := fun _ ds => decide (uptoBulkAll ds ≤ 1048576)
def OpenSpec.upto (s : _root_.Go.ChangeSpec) : _root_.Go.OpenSpec := { _root_.Go.OpenSpec.ofChange s with cond := some uptoSmall }

/-- 'filigreelaw12.LintCheck', WHERE WHAT IT READS IS OF BULK AT MOST 1048576: true; the input reads as it did. -/
def lintCheckUptoRow : OpenClaim := { program := "ythpemngachlehaagreat", sum := "eee418c0800c6a08b7eb5b5afff167676ec2835dfeddf3c84edbe2577756bf02", func := "filigree/filigreelaw12.LintCheck", spec := "lintCheck", unfollowed := true, recurses := true, loops := true, apart := false, narrowed := true }
def LintCheckUptoSaid : Prop := lintCheckUptoRow.holds Tryz.pinned (OpenSpec.upto lintCheckSpec)

/-- 'filigreelaw12.LintOrder', WHERE WHAT IT READS IS OF BULK AT MOST 1048576: true; the input reads as it did. -/
def lintOrderUptoRow : OpenClaim := { program := "ythpemngachlehaagreat", sum := "eee418c0800c6a08b7eb5b5afff167676ec2835dfeddf3c84edbe2577756bf02", func := "filigree/filigreelaw12.LintOrder", spec := "lintOrder", unfollowed := true, recurses := true, loops := true, apart := false, narrowed := true }
def LintOrderUptoSaid : Prop := lintOrderUptoRow.holds Tryz.pinned (OpenSpec.upto lintOrderSpec)

/-- 'filigreelaw12.LintBehind', WHERE WHAT IT READS IS OF BULK AT MOST 1048576: true; the input reads as it did. -/
def lintBehindUptoRow : OpenClaim := { program := "ythpemngachlehaagreat", sum := "eee418c0800c6a08b7eb5b5afff167676ec2835dfeddf3c84edbe2577756bf02", func := "filigree/filigreelaw12.LintBehind", spec := "lintBehind", unfollowed := true, recurses := true, loops := true, apart := false, narrowed := true }
def LintBehindUptoSaid : Prop := lintBehindUptoRow.holds Tryz.pinned (OpenSpec.upto lintBehindSpec)

/-- 'filigreelaw12.LintDriven', WHERE WHAT IT READS IS OF BULK AT MOST 1048576: true; the input reads as it did. -/
def lintDrivenUptoRow : OpenClaim := { program := "ythpemngachlehaagreat", sum := "eee418c0800c6a08b7eb5b5afff167676ec2835dfeddf3c84edbe2577756bf02", func := "filigree/filigreelaw12.LintDriven", spec := "lintDriven", unfollowed := true, recurses := true, loops := true, apart := false, narrowed := true }
def LintDrivenUptoSaid : Prop := lintDrivenUptoRow.holds Tryz.pinned (OpenSpec.upto lintDrivenSpec)

/-- 'filigreelaw12.LintTurned', WHERE WHAT IT READS IS OF BULK AT MOST 1048576: true; the input reads as it did. -/
def lintTurnedUptoRow : OpenClaim := { program := "ythpemngachlehaagreat", sum := "eee418c0800c6a08b7eb5b5afff167676ec2835dfeddf3c84edbe2577756bf02", func := "filigree/filigreelaw12.LintTurned", spec := "lintTurned", unfollowed := true, recurses := true, loops := true, apart := false, narrowed := true }
def LintTurnedUptoSaid : Prop := lintTurnedUptoRow.holds Tryz.pinned (OpenSpec.upto lintTurnedSpec)

/-- 'filigreelaw12.LintSpoilt', WHERE WHAT IT READS IS OF BULK AT MOST 1048576: true; the input reads as it did. -/
def lintSpoiltUptoRow : OpenClaim := { program := "ythpemngachlehaagreat", sum := "eee418c0800c6a08b7eb5b5afff167676ec2835dfeddf3c84edbe2577756bf02", func := "filigree/filigreelaw12.LintSpoilt", spec := "lintSpoilt", unfollowed := true, recurses := true, loops := true, apart := false, narrowed := true }
def LintSpoiltUptoSaid : Prop := lintSpoiltUptoRow.holds Tryz.pinned (OpenSpec.upto lintSpoiltSpec)

end Rows
end Go.Proofs.YthpemngachlehaaGreat
