/-
  NARROWER THAN 'FOR EVERY INPUT', by the rows' own cells (each row's printed sentence says how): LintDriven: loops · EvalTells: loops · EvalFolds: loops · EvalSame: loops · EvalFits: loops · EvalParts: loops · EvalBits: loops · EvalNeeds: loops.
  DERIVED. THE GIVEN ROWS OF THIS SEAT. 8 by the template 'for every input the law returns true; each argument reads behind the call as it read before'; 0 by the template 'total and deterministic' (their statements: YtemabheegnngdaaGreatTotals.lean).
  GIVEN WITH THE SEED: the statements are not yours to turn. If you find one false, say at which input.
  Laid BY PROGRAM, IN A SANDBOX (cutbox-rows.mjs): the forced cells as the released guide's own fill.sh prints them over the translation 283bd6e78204d370… (all of the seat's roots in one cut). By AI agents, Wed Nov 11 2026. No macro, syntax, notation, axiom, sorry.
-/
import Derived.Test.YtemabheegnngdaaGreatChecked
import GoSem.Claim
import GoSem.ClaimJoined
import GoSem.ClaimMapViews
import Derived.JoinedTies
import Derived.KernelRfl
namespace Go.Proofs.YtemabheegnngdaaGreat
/- THE CELL 'sum', in the pinned program and in every row, IS THE sha256 OF THE DUMP (.gsa) THAT YtemabheegnngdaaGreatProg.lean LOADS. Nothing in Lean hashes anything: it is a label: what it is worth is what the hold of that sum in a sandbox is worth. -/
noncomputable def Tryz.pinned : Pinned := { name := "ytemabheegnngdaagreat", sum := "283bd6e78204d370ef9333c4b8d9009ef43f29704b35be2cfd33b2b602d7418e", checked := Tryz.checked }
namespace Rows
def none {H : Type} : Left H := { results := [], args := [] }

/-- 'filigreelaw12.LintDriven': WHATEVER THE INPUT: true; the input reads as it did. -/
def lintDrivenSpec : ChangeSpec := { name := "lintDriven", fn := fun _ => fun
  | [d] => { results := [.lit (.bool true)], args := [d] }
  | _ => none }
def lintDrivenRow : OpenClaim := { program := "ytemabheegnngdaagreat", sum := "283bd6e78204d370ef9333c4b8d9009ef43f29704b35be2cfd33b2b602d7418e", func := "filigree/filigreelaw12.LintDriven", spec := "lintDriven", unfollowed := true, recurses := true, loops := true, apart := false }
def LintDrivenSaid : Prop := lintDrivenRow.holds Tryz.pinned (OpenSpec.ofChange lintDrivenSpec)

/-- ITS FALSE NEIGHBOUR: 'it returns false'. Refute it at one input. -/
def lintDrivenWrong : ChangeSpec := { name := "lintDriven", fn := fun _ => fun
  | [d] => { results := [.lit (.bool false)], args := [d] }
  | _ => none }
def LintDrivenWrongFalsely : Prop := lintDrivenRow.holds Tryz.pinned (OpenSpec.ofChange lintDrivenWrong)

/-- 'filigreelaw10.EvalTells': WHATEVER THE INPUT: true; the input reads as it did. -/
def evalTellsSpec : ChangeSpec := { name := "evalTells", fn := fun _ => fun
  | [d1, d2, d3] => { results := [.lit (.bool true)], args := [d1, d2, d3] }
  | _ => none }
def evalTellsRow : OpenClaim := { program := "ytemabheegnngdaagreat", sum := "283bd6e78204d370ef9333c4b8d9009ef43f29704b35be2cfd33b2b602d7418e", func := "filigree/filigreelaw10.EvalTells", spec := "evalTells", unfollowed := true, recurses := true, loops := true, apart := false }
def EvalTellsSaid : Prop := evalTellsRow.holds Tryz.pinned (OpenSpec.ofChange evalTellsSpec)

/-- ITS FALSE NEIGHBOUR: 'it returns false'. Refute it at one input. -/
def evalTellsWrong : ChangeSpec := { name := "evalTells", fn := fun _ => fun
  | [d1, d2, d3] => { results := [.lit (.bool false)], args := [d1, d2, d3] }
  | _ => none }
def EvalTellsWrongFalsely : Prop := evalTellsRow.holds Tryz.pinned (OpenSpec.ofChange evalTellsWrong)

/-- 'filigreelaw10.EvalFolds': WHATEVER THE INPUT: true; the input reads as it did. -/
def evalFoldsSpec : ChangeSpec := { name := "evalFolds", fn := fun _ => fun
  | [d1, d2] => { results := [.lit (.bool true)], args := [d1, d2] }
  | _ => none }
def evalFoldsRow : OpenClaim := { program := "ytemabheegnngdaagreat", sum := "283bd6e78204d370ef9333c4b8d9009ef43f29704b35be2cfd33b2b602d7418e", func := "filigree/filigreelaw10.EvalFolds", spec := "evalFolds", unfollowed := true, recurses := true, loops := true, apart := false }
def EvalFoldsSaid : Prop := evalFoldsRow.holds Tryz.pinned (OpenSpec.ofChange evalFoldsSpec)

/-- ITS FALSE NEIGHBOUR: 'it returns false'. Refute it at one input. -/
def evalFoldsWrong : ChangeSpec := { name := "evalFolds", fn := fun _ => fun
  | [d1, d2] => { results := [.lit (.bool false)], args := [d1, d2] }
  | _ => none }
def EvalFoldsWrongFalsely : Prop := evalFoldsRow.holds Tryz.pinned (OpenSpec.ofChange evalFoldsWrong)

/-- 'filigreelaw10.EvalSame': WHATEVER THE INPUT: true; the input reads as it did. -/
def evalSameSpec : ChangeSpec := { name := "evalSame", fn := fun _ => fun
  | [d1, d2, d3] => { results := [.lit (.bool true)], args := [d1, d2, d3] }
  | _ => none }
def evalSameRow : OpenClaim := { program := "ytemabheegnngdaagreat", sum := "283bd6e78204d370ef9333c4b8d9009ef43f29704b35be2cfd33b2b602d7418e", func := "filigree/filigreelaw10.EvalSame", spec := "evalSame", unfollowed := true, recurses := true, loops := true, apart := false }
def EvalSameSaid : Prop := evalSameRow.holds Tryz.pinned (OpenSpec.ofChange evalSameSpec)

/-- ITS FALSE NEIGHBOUR: 'it returns false'. Refute it at one input. -/
def evalSameWrong : ChangeSpec := { name := "evalSame", fn := fun _ => fun
  | [d1, d2, d3] => { results := [.lit (.bool false)], args := [d1, d2, d3] }
  | _ => none }
def EvalSameWrongFalsely : Prop := evalSameRow.holds Tryz.pinned (OpenSpec.ofChange evalSameWrong)

/-- 'filigreelaw10.EvalFits': WHATEVER THE INPUT: true; the input reads as it did. -/
def evalFitsSpec : ChangeSpec := { name := "evalFits", fn := fun _ => fun
  | [d1, d2, d3] => { results := [.lit (.bool true)], args := [d1, d2, d3] }
  | _ => none }
def evalFitsRow : OpenClaim := { program := "ytemabheegnngdaagreat", sum := "283bd6e78204d370ef9333c4b8d9009ef43f29704b35be2cfd33b2b602d7418e", func := "filigree/filigreelaw10.EvalFits", spec := "evalFits", unfollowed := true, recurses := true, loops := true, apart := false }
def EvalFitsSaid : Prop := evalFitsRow.holds Tryz.pinned (OpenSpec.ofChange evalFitsSpec)

/-- ITS FALSE NEIGHBOUR: 'it returns false'. Refute it at one input. -/
def evalFitsWrong : ChangeSpec := { name := "evalFits", fn := fun _ => fun
  | [d1, d2, d3] => { results := [.lit (.bool false)], args := [d1, d2, d3] }
  | _ => none }
def EvalFitsWrongFalsely : Prop := evalFitsRow.holds Tryz.pinned (OpenSpec.ofChange evalFitsWrong)

/-- 'filigreelaw10.EvalParts': WHATEVER THE INPUT: true; the input reads as it did. -/
def evalPartsSpec : ChangeSpec := { name := "evalParts", fn := fun _ => fun
  | [d1, d2, d3, d4, d5] => { results := [.lit (.bool true)], args := [d1, d2, d3, d4, d5] }
  | _ => none }
def evalPartsRow : OpenClaim := { program := "ytemabheegnngdaagreat", sum := "283bd6e78204d370ef9333c4b8d9009ef43f29704b35be2cfd33b2b602d7418e", func := "filigree/filigreelaw10.EvalParts", spec := "evalParts", unfollowed := true, recurses := true, loops := true, apart := false }
def EvalPartsSaid : Prop := evalPartsRow.holds Tryz.pinned (OpenSpec.ofChange evalPartsSpec)

/-- ITS FALSE NEIGHBOUR: 'it returns false'. Refute it at one input. -/
def evalPartsWrong : ChangeSpec := { name := "evalParts", fn := fun _ => fun
  | [d1, d2, d3, d4, d5] => { results := [.lit (.bool false)], args := [d1, d2, d3, d4, d5] }
  | _ => none }
def EvalPartsWrongFalsely : Prop := evalPartsRow.holds Tryz.pinned (OpenSpec.ofChange evalPartsWrong)

/-- 'filigreelaw10.EvalBits': WHATEVER THE INPUT: true; the input reads as it did. -/
def evalBitsSpec : ChangeSpec := { name := "evalBits", fn := fun _ => fun
  | [d1, d2, d3, d4] => { results := [.lit (.bool true)], args := [d1, d2, d3, d4] }
  | _ => none }
def evalBitsRow : OpenClaim := { program := "ytemabheegnngdaagreat", sum := "283bd6e78204d370ef9333c4b8d9009ef43f29704b35be2cfd33b2b602d7418e", func := "filigree/filigreelaw10.EvalBits", spec := "evalBits", unfollowed := true, recurses := true, loops := true, apart := false }
def EvalBitsSaid : Prop := evalBitsRow.holds Tryz.pinned (OpenSpec.ofChange evalBitsSpec)

/-- ITS FALSE NEIGHBOUR: 'it returns false'. Refute it at one input. -/
def evalBitsWrong : ChangeSpec := { name := "evalBits", fn := fun _ => fun
  | [d1, d2, d3, d4] => { results := [.lit (.bool false)], args := [d1, d2, d3, d4] }
  | _ => none }
def EvalBitsWrongFalsely : Prop := evalBitsRow.holds Tryz.pinned (OpenSpec.ofChange evalBitsWrong)

/-- 'filigreelaw10.EvalNeeds': WHATEVER THE INPUT: true; the input reads as it did. -/
def evalNeedsSpec : ChangeSpec := { name := "evalNeeds", fn := fun _ => fun
  | [d1, d2, d3] => { results := [.lit (.bool true)], args := [d1, d2, d3] }
  | _ => none }
def evalNeedsRow : OpenClaim := { program := "ytemabheegnngdaagreat", sum := "283bd6e78204d370ef9333c4b8d9009ef43f29704b35be2cfd33b2b602d7418e", func := "filigree/filigreelaw10.EvalNeeds", spec := "evalNeeds", unfollowed := true, recurses := true, loops := true, apart := false }
def EvalNeedsSaid : Prop := evalNeedsRow.holds Tryz.pinned (OpenSpec.ofChange evalNeedsSpec)

/-- ITS FALSE NEIGHBOUR: 'it returns false'. Refute it at one input. -/
def evalNeedsWrong : ChangeSpec := { name := "evalNeeds", fn := fun _ => fun
  | [d1, d2, d3] => { results := [.lit (.bool false)], args := [d1, d2, d3] }
  | _ => none }
def EvalNeedsWrongFalsely : Prop := evalNeedsRow.holds Tryz.pinned (OpenSpec.ofChange evalNeedsWrong)

/- THE SECOND FORM. 'bulk': how many values and letters a reading holds, each counted each time it is reached (what is shared counts as often as it is met; a slice's spare places count too). A statement '..UptoSaid' is the law's where the arguments, and the package variables that the reading takes, are together of bulk at most 1048576: NARROWER than '..Said'. Prove '..Said' where nothing that the law and all that it calls make is longer than what came in: it says more and counts as full. Else prove '..UptoSaid'. A law counts once. -/
mutual
def uptoBulk {H : Type} : DataW H → Nat
  | .lit (.string bytes) => bytes.length + 1
  | .lit _ => 1
  | .nil => 1
  | .ptr d => uptoBulk d + 1
  | .slice elems spare => uptoBulkAll elems + uptoBulkAll spare + 1
  | .agg parts => uptoBulkAll parts + 1
  | .iface _ d => uptoBulk d + 1
  | .map entries => uptoBulkEntries entries + 1
  | .held _ => 1
def uptoBulkAll {H : Type} : List (DataW H) → Nat
  | [] => 0
  | d :: r => uptoBulk d + uptoBulkAll r
def uptoBulkEntries {H : Type} : List (Lit × DataW H) → Nat
  | [] => 0
  | x :: r => uptoBulkEntry x + uptoBulkEntries r
def uptoBulkEntry {H : Type} : Lit × DataW H → Nat
  | (.string bytes, d) => bytes.length + uptoBulk d + 1
  | (_, d) => uptoBulk d + 1
 end
def uptoSmall : (H : Type) → List (DataW H) → Bool := fun _ ds => decide (uptoBulkAll ds ≤ 1048576)
def OpenSpec.upto (s : _root_.Go.ChangeSpec) : _root_.Go.OpenSpec := { _root_.Go.OpenSpec.ofChange s with cond := some uptoSmall }

/-- 'filigreelaw12.LintDriven', WHERE WHAT IT READS IS OF BULK AT MOST 1048576: true; the input reads as it did. -/
def lintDrivenUptoRow : OpenClaim := { program := "ytemabheegnngdaagreat", sum := "283bd6e78204d370ef9333c4b8d9009ef43f29704b35be2cfd33b2b602d7418e", func := "filigree/filigreelaw12.LintDriven", spec := "lintDriven", unfollowed := true, recurses := true, loops := true, apart := false, narrowed := true }
def LintDrivenUptoSaid : Prop := lintDrivenUptoRow.holds Tryz.pinned (OpenSpec.upto lintDrivenSpec)

/-- 'filigreelaw10.EvalTells', WHERE WHAT IT READS IS OF BULK AT MOST 1048576: true; the input reads as it did. -/
def evalTellsUptoRow : OpenClaim := { program := "ytemabheegnngdaagreat", sum := "283bd6e78204d370ef9333c4b8d9009ef43f29704b35be2cfd33b2b602d7418e", func := "filigree/filigreelaw10.EvalTells", spec := "evalTells", unfollowed := true, recurses := true, loops := true, apart := false, narrowed := true }
def EvalTellsUptoSaid : Prop := evalTellsUptoRow.holds Tryz.pinned (OpenSpec.upto evalTellsSpec)

/-- 'filigreelaw10.EvalFolds', WHERE WHAT IT READS IS OF BULK AT MOST 1048576: true; the input reads as it did. -/
def evalFoldsUptoRow : OpenClaim := { program := "ytemabheegnngdaagreat", sum := "283bd6e78204d370ef9333c4b8d9009ef43f29704b35be2cfd33b2b602d7418e", func := "filigree/filigreelaw10.EvalFolds", spec := "evalFolds", unfollowed := true, recurses := true, loops := true, apart := false, narrowed := true }
def EvalFoldsUptoSaid : Prop := evalFoldsUptoRow.holds Tryz.pinned (OpenSpec.upto evalFoldsSpec)

/-- 'filigreelaw10.EvalSame', WHERE WHAT IT READS IS OF BULK AT MOST 1048576: true; the input reads as it did. -/
def evalSameUptoRow : OpenClaim := { program := "ytemabheegnngdaagreat", sum := "283bd6e78204d370ef9333c4b8d9009ef43f29704b35be2cfd33b2b602d7418e", func := "filigree/filigreelaw10.EvalSame", spec := "evalSame", unfollowed := true, recurses := true, loops := true, apart := false, narrowed := true }
def EvalSameUptoSaid : Prop := evalSameUptoRow.holds Tryz.pinned (OpenSpec.upto evalSameSpec)

/-- 'filigreelaw10.EvalFits', WHERE WHAT IT READS IS OF BULK AT MOST 1048576: true; the input reads as it did. -/
def evalFitsUptoRow : OpenClaim := { program := "ytemabheegnngdaagreat", sum := "283bd6e78204d370ef9333c4b8d9009ef43f29704b35be2cfd33b2b602d7418e", func := "filigree/filigreelaw10.EvalFits", spec := "evalFits", unfollowed := true, recurses := true, loops := true, apart := false, narrowed := true }
def EvalFitsUptoSaid : Prop := evalFitsUptoRow.holds Tryz.pinned (OpenSpec.upto evalFitsSpec)

/-- 'filigreelaw10.EvalParts', WHERE WHAT IT READS IS OF BULK AT MOST 1048576: true; the input reads as it did. -/
def evalPartsUptoRow : OpenClaim := { program := "ytemabheegnngdaagreat", sum := "283bd6e78204d370ef9333c4b8d9009ef43f29704b35be2cfd33b2b602d7418e", func := "filigree/filigreelaw10.EvalParts", spec := "evalParts", unfollowed := true, recurses := true, loops := true, apart := false, narrowed := true }
def EvalPartsUptoSaid : Prop := evalPartsUptoRow.holds Tryz.pinned (OpenSpec.upto evalPartsSpec)

/-- 'filigreelaw10.EvalBits', WHERE WHAT IT READS IS OF BULK AT MOST 1048576: true; the input reads as it did. -/
def evalBitsUptoRow : OpenClaim := { program := "ytemabheegnngdaagreat", sum := "283bd6e78204d370ef9333c4b8d9009ef43f29704b35be2cfd33b2b602d7418e", func := "filigree/filigreelaw10.EvalBits", spec := "evalBits", unfollowed := true, recurses := true, loops := true, apart := false, narrowed := true }
def EvalBitsUptoSaid : Prop := evalBitsUptoRow.holds Tryz.pinned (OpenSpec.upto evalBitsSpec)

/-- 'filigreelaw10.EvalNeeds', WHERE WHAT IT READS IS OF BULK AT MOST 1048576: true; the input reads as it did. -/
def evalNeedsUptoRow : OpenClaim := { program := "ytemabheegnngdaagreat", sum := "283bd6e78204d370ef9333c4b8d9009ef43f29704b35be2cfd33b2b602d7418e", func := "filigree/filigreelaw10.EvalNeeds", spec := "evalNeeds", unfollowed := true, recurses := true, loops := true, apart := false, narrowed := true }
def EvalNeedsUptoSaid : Prop := evalNeedsUptoRow.holds Tryz.pinned (OpenSpec.upto evalNeedsSpec)

end Rows
end Go.Proofs.YtemabheegnngdaaGreat
