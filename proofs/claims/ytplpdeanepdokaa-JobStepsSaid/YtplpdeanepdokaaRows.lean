/-
  No cell of these rows narrows 'for every input' (looked for: loops, veiled, ifaces, maps, wideKeys, modest, calm, conditions, laid).
  DERIVED. THE GIVEN ROWS OF THIS SEAT. 4 by the template 'for every input the law returns true; each argument reads behind the call as it read before'; 0 by the template 'total and deterministic' (their statements: YtplpdeanepdokaaTotals.lean).
  GIVEN WITH THE SEED: the statements are not yours to turn. If you find one false, say at which input.
  Laid BY PROGRAM, IN A SANDBOX (cutbox-rows.mjs): the forced cells as the released guide's own fill.sh prints them over the translation bcad323a68d867cb… (all of the seat's roots in one cut). By AI agents, Wed Nov 11 2026. No macro, syntax, notation, axiom, sorry.
-/
import Derived.Test.YtplpdeanepdokaaChecked
import GoSem.Claim
import GoSem.ClaimJoined
import GoSem.ClaimMapViews
import Derived.JoinedTies
import Derived.KernelRfl
namespace Go.Proofs.Ytplpdeanepdokaa
/- THE CELL 'sum', in the pinned program and in every row, IS THE sha256 OF THE DUMP (.gsa) THAT YtplpdeanepdokaaProg.lean LOADS. Nothing in Lean hashes anything: it is a label: what it is worth is what the hold of that sum in a sandbox is worth. -/
noncomputable def Try.pinned : Pinned := { name := "ytplpdeanepdokaa", sum := "bcad323a68d867cb0c305f093e66a4a5eba0edb6492c8584cceadcae57c900d3", checked := Try.checked }
namespace Rows
def none {H : Type} : Left H := { results := [], args := [] }

/-- 'interlocklaw22.JobEnds': WHATEVER THE INPUT: true; the input reads as it did. -/
def jobEndsSpec : ChangeSpec := { name := "jobEnds", fn := fun _ => fun
  | [d1, d2] => { results := [.lit (.bool true)], args := [d1, d2] }
  | _ => none }
def jobEndsRow : OpenClaim := { program := "ytplpdeanepdokaa", sum := "bcad323a68d867cb0c305f093e66a4a5eba0edb6492c8584cceadcae57c900d3", func := "interlock/interlocklaw22.JobEnds", spec := "jobEnds", unfollowed := true, recurses := true, apart := false }
def JobEndsSaid : Prop := jobEndsRow.holds Try.pinned (OpenSpec.ofChange jobEndsSpec)

/-- ITS FALSE NEIGHBOUR: 'it returns false'. Refute it at one input. -/
def jobEndsWrong : ChangeSpec := { name := "jobEnds", fn := fun _ => fun
  | [d1, d2] => { results := [.lit (.bool false)], args := [d1, d2] }
  | _ => none }
def JobEndsWrongFalsely : Prop := jobEndsRow.holds Try.pinned (OpenSpec.ofChange jobEndsWrong)

/-- 'interlocklaw22.JobTries': WHATEVER THE INPUT: true; the input reads as it did. -/
def jobTriesSpec : ChangeSpec := { name := "jobTries", fn := fun _ => fun
  | [d1, d2] => { results := [.lit (.bool true)], args := [d1, d2] }
  | _ => none }
def jobTriesRow : OpenClaim := { program := "ytplpdeanepdokaa", sum := "bcad323a68d867cb0c305f093e66a4a5eba0edb6492c8584cceadcae57c900d3", func := "interlock/interlocklaw22.JobTries", spec := "jobTries", unfollowed := true, recurses := true, apart := false }
def JobTriesSaid : Prop := jobTriesRow.holds Try.pinned (OpenSpec.ofChange jobTriesSpec)

/-- ITS FALSE NEIGHBOUR: 'it returns false'. Refute it at one input. -/
def jobTriesWrong : ChangeSpec := { name := "jobTries", fn := fun _ => fun
  | [d1, d2] => { results := [.lit (.bool false)], args := [d1, d2] }
  | _ => none }
def JobTriesWrongFalsely : Prop := jobTriesRow.holds Try.pinned (OpenSpec.ofChange jobTriesWrong)

/-- 'interlocklaw22.JobOn': WHATEVER THE INPUT: true; the input reads as it did. -/
def jobOnSpec : ChangeSpec := { name := "jobOn", fn := fun _ => fun
  | [d1, d2, d3] => { results := [.lit (.bool true)], args := [d1, d2, d3] }
  | _ => none }
def jobOnRow : OpenClaim := { program := "ytplpdeanepdokaa", sum := "bcad323a68d867cb0c305f093e66a4a5eba0edb6492c8584cceadcae57c900d3", func := "interlock/interlocklaw22.JobOn", spec := "jobOn", unfollowed := true, recurses := true, apart := false }
def JobOnSaid : Prop := jobOnRow.holds Try.pinned (OpenSpec.ofChange jobOnSpec)

/-- ITS FALSE NEIGHBOUR: 'it returns false'. Refute it at one input. -/
def jobOnWrong : ChangeSpec := { name := "jobOn", fn := fun _ => fun
  | [d1, d2, d3] => { results := [.lit (.bool false)], args := [d1, d2, d3] }
  | _ => none }
def JobOnWrongFalsely : Prop := jobOnRow.holds Try.pinned (OpenSpec.ofChange jobOnWrong)

/-- 'interlocklaw22.JobSteps': WHATEVER THE INPUT: true; the input reads as it did. -/
def jobStepsSpec : ChangeSpec := { name := "jobSteps", fn := fun _ => fun
  | [d1, d2, d3, d4, d5] => { results := [.lit (.bool true)], args := [d1, d2, d3, d4, d5] }
  | _ => none }
def jobStepsRow : OpenClaim := { program := "ytplpdeanepdokaa", sum := "bcad323a68d867cb0c305f093e66a4a5eba0edb6492c8584cceadcae57c900d3", func := "interlock/interlocklaw22.JobSteps", spec := "jobSteps", unfollowed := true, recurses := true, apart := false }
def JobStepsSaid : Prop := jobStepsRow.holds Try.pinned (OpenSpec.ofChange jobStepsSpec)

/-- ITS FALSE NEIGHBOUR: 'it returns false'. Refute it at one input. -/
def jobStepsWrong : ChangeSpec := { name := "jobSteps", fn := fun _ => fun
  | [d1, d2, d3, d4, d5] => { results := [.lit (.bool false)], args := [d1, d2, d3, d4, d5] }
  | _ => none }
def JobStepsWrongFalsely : Prop := jobStepsRow.holds Try.pinned (OpenSpec.ofChange jobStepsWrong)

/- THE SECOND FORM. 'bulk': how many values and letters a reading holds, each counted each time it is reached (what is shared counts as often as it is met; a slice's spare places count too). A statement '..UptoSaid' is the law's where the arguments, and the package variables that the reading takes, are together of bulk at most 1048576: NARROWER than '..Said'. Prove '..Said' where nothing that the law and all that it calls make is longer than what came in: it says more and counts as full. Else prove '..UptoSaid'. A law counts once. -/
mutual
def uptoBulk {H : Type} : DataW H → Nat
  | .lit (.string bytes) => bytes.length + 1
  | .lit _ => 1
  | .nil => 1
  | .ptr d => uptoBulk d + 1
  | .slice elems spare => uptoBulkAll elems + uptoBulkAll spare + 1
  | .agg parts => uptoBulkAll parts + 1
  | .iface _ d => uptoBulk d + 1
  | .map entries => uptoBulkEntries entries + 1
  | .held _ => 1
def uptoBulkAll {H : Type} : List (DataW H) → Nat
  | [] => 0
  | d :: r => uptoBulk d + uptoBulkAll r
def uptoBulkEntries {H : Type} : List (Lit × DataW H) → Nat
  | [] => 0
  | x :: r => uptoBulkEntry x + uptoBulkEntries r
def uptoBulkEntry {H : Type} : Lit × DataW H → Nat
  | (.string bytes, d) => bytes.length + uptoBulk d + 1
  | (_, d) => uptoBulk d + 1
 end
def uptoSmall : (H : Type) → List (DataW H) → Bool := fun _ ds => decide (uptoBulkAll ds ≤ 1048576)
def OpenSpec.upto (s : _root_.Go.ChangeSpec) : _root_.Go.OpenSpec := { _root_.Go.OpenSpec.ofChange s with cond := some uptoSmall }

/-- 'interlocklaw22.JobEnds', WHERE WHAT IT READS IS OF BULK AT MOST 1048576: true; the input reads as it did. -/
def jobEndsUptoRow : OpenClaim := { program := "ytplpdeanepdokaa", sum := "bcad323a68d867cb0c305f093e66a4a5eba0edb6492c8584cceadcae57c900d3", func := "interlock/interlocklaw22.JobEnds", spec := "jobEnds", unfollowed := true, recurses := true, apart := false, narrowed := true }
def JobEndsUptoSaid : Prop := jobEndsUptoRow.holds Try.pinned (OpenSpec.upto jobEndsSpec)

/-- 'interlocklaw22.JobTries', WHERE WHAT IT READS IS OF BULK AT MOST 1048576: true; the input reads as it did. -/
def jobTriesUptoRow : OpenClaim := { program := "ytplpdeanepdokaa", sum := "bcad323a68d867cb0c305f093e66a4a5eba0edb6492c8584cceadcae57c900d3", func := "interlock/interlocklaw22.JobTries", spec := "jobTries", unfollowed := true, recurses := true, apart := false, narrowed := true }
def JobTriesUptoSaid : Prop := jobTriesUptoRow.holds Try.pinned (OpenSpec.upto jobTriesSpec)

/-- 'interlocklaw22.JobOn', WHERE WHAT IT READS IS OF BULK AT MOST 1048576: true; the input reads as it did. -/
def jobOnUptoRow : OpenClaim := { program := "ytplpdeanepdokaa", sum := "bcad323a68d867cb0c305f093e66a4a5eba0edb6492c8584cceadcae57c900d3", func := "interlock/interlocklaw22.JobOn", spec := "jobOn", unfollowed := true, recurses := true, apart := false, narrowed := true }
def JobOnUptoSaid : Prop := jobOnUptoRow.holds Try.pinned (OpenSpec.upto jobOnSpec)

/-- 'interlocklaw22.JobSteps', WHERE WHAT IT READS IS OF BULK AT MOST 1048576: true; the input reads as it did. -/
def jobStepsUptoRow : OpenClaim := { program := "ytplpdeanepdokaa", sum := "bcad323a68d867cb0c305f093e66a4a5eba0edb6492c8584cceadcae57c900d3", func := "interlock/interlocklaw22.JobSteps", spec := "jobSteps", unfollowed := true, recurses := true, apart := false, narrowed := true }
def JobStepsUptoSaid : Prop := jobStepsUptoRow.holds Try.pinned (OpenSpec.upto jobStepsSpec)

end Rows
end Go.Proofs.Ytplpdeanepdokaa
