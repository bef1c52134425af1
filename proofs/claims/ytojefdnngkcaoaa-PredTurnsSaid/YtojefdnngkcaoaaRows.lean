/-
  No cell of these rows narrows 'for every input' (looked for: loops, veiled, ifaces, maps, wideKeys, modest, calm, conditions, laid).
  DERIVED. THE GIVEN ROWS OF THIS SEAT. 5 by the template 'for every input the law returns true; each argument reads behind the call as it read before'; 0 by the template 'total and deterministic' (their statements: YtojefdnngkcaoaaTotals.lean).
  GIVEN WITH THE SEED: the statements are not yours to turn. If you find one false, say at which input.
  Laid BY PROGRAM, IN A SANDBOX (cutbox-rows.mjs): the forced cells as the released guide's own fill.sh prints them over the translation 19c6c56c13e1420c… (all of the seat's roots in one cut). By AI agents, Wed Nov 11 2026. No macro, syntax, notation, axiom, sorry.
-/
import Derived.Test.YtojefdnngkcaoaaChecked
import GoSem.Claim
import GoSem.ClaimJoined
import GoSem.ClaimMapViews
import Derived.JoinedTies
import Derived.KernelRfl
namespace Go.Proofs.Ytojefdnngkcaoaa
/- THE CELL 'sum', in the pinned program and in every row, IS THE sha256 OF THE DUMP (.gsa) THAT YtojefdnngkcaoaaProg.lean LOADS. Nothing in Lean hashes anything: it is a label: what it is worth is what the hold of that sum in a sandbox is worth. -/
noncomputable def Try.pinned : Pinned := { name := "ytojefdnngkcaoaa", sum := "19c6c56c13e1420cf849cc1b347249616cb1d2fdf94d91becded150a9b855420", checked := Try.checked }
namespace Rows
def none {H : Type} : Left H := { results := [], args := [] }

/-- 'rosettelaw06.PredTells': WHATEVER THE INPUT: true; the input reads as it did. -/
def predTellsSpec : ChangeSpec := { name := "predTells", fn := fun _ => fun
  | [d1, d2, d3, d4] => { results := [.lit (.bool true)], args := [d1, d2, d3, d4] }
  | _ => none }
def predTellsRow : OpenClaim := { program := "ytojefdnngkcaoaa", sum := "19c6c56c13e1420cf849cc1b347249616cb1d2fdf94d91becded150a9b855420", func := "rosette/rosettelaw06.PredTells", spec := "predTells", inPlace := ["internal/bytealg.abigen_runtime_cmpstring"], unfollowed := true, recurses := true, apart := false }
def PredTellsSaid : Prop := predTellsRow.holds Try.pinned (OpenSpec.ofChange predTellsSpec)

/-- ITS FALSE NEIGHBOUR: 'it returns false'. Refute it at one input. -/
def predTellsWrong : ChangeSpec := { name := "predTells", fn := fun _ => fun
  | [d1, d2, d3, d4] => { results := [.lit (.bool false)], args := [d1, d2, d3, d4] }
  | _ => none }
def PredTellsWrongFalsely : Prop := predTellsRow.holds Try.pinned (OpenSpec.ofChange predTellsWrong)

/-- 'rosettelaw06.PredTurns': WHATEVER THE INPUT: true; the input reads as it did. -/
def predTurnsSpec : ChangeSpec := { name := "predTurns", fn := fun _ => fun
  | [d1, d2, d3] => { results := [.lit (.bool true)], args := [d1, d2, d3] }
  | _ => none }
def predTurnsRow : OpenClaim := { program := "ytojefdnngkcaoaa", sum := "19c6c56c13e1420cf849cc1b347249616cb1d2fdf94d91becded150a9b855420", func := "rosette/rosettelaw06.PredTurns", spec := "predTurns", inPlace := ["internal/bytealg.abigen_runtime_cmpstring"], unfollowed := true, recurses := true, apart := false }
def PredTurnsSaid : Prop := predTurnsRow.holds Try.pinned (OpenSpec.ofChange predTurnsSpec)

/-- ITS FALSE NEIGHBOUR: 'it returns false'. Refute it at one input. -/
def predTurnsWrong : ChangeSpec := { name := "predTurns", fn := fun _ => fun
  | [d1, d2, d3] => { results := [.lit (.bool false)], args := [d1, d2, d3] }
  | _ => none }
def PredTurnsWrongFalsely : Prop := predTurnsRow.holds Try.pinned (OpenSpec.ofChange predTurnsWrong)

/-- 'rosettelaw06.PredPrefix': WHATEVER THE INPUT: true; the input reads as it did. -/
def predPrefixSpec : ChangeSpec := { name := "predPrefix", fn := fun _ => fun
  | [d1, d2, d3] => { results := [.lit (.bool true)], args := [d1, d2, d3] }
  | _ => none }
def predPrefixRow : OpenClaim := { program := "ytojefdnngkcaoaa", sum := "19c6c56c13e1420cf849cc1b347249616cb1d2fdf94d91becded150a9b855420", func := "rosette/rosettelaw06.PredPrefix", spec := "predPrefix", inPlace := ["internal/bytealg.abigen_runtime_cmpstring"], unfollowed := true, recurses := true, apart := false }
def PredPrefixSaid : Prop := predPrefixRow.holds Try.pinned (OpenSpec.ofChange predPrefixSpec)

/-- ITS FALSE NEIGHBOUR: 'it returns false'. Refute it at one input. -/
def predPrefixWrong : ChangeSpec := { name := "predPrefix", fn := fun _ => fun
  | [d1, d2, d3] => { results := [.lit (.bool false)], args := [d1, d2, d3] }
  | _ => none }
def PredPrefixWrongFalsely : Prop := predPrefixRow.holds Try.pinned (OpenSpec.ofChange predPrefixWrong)

/-- 'rosettelaw06.PredGets': WHATEVER THE INPUT: true; the input reads as it did. -/
def predGetsSpec : ChangeSpec := { name := "predGets", fn := fun _ => fun
  | [d1, d2] => { results := [.lit (.bool true)], args := [d1, d2] }
  | _ => none }
def predGetsRow : OpenClaim := { program := "ytojefdnngkcaoaa", sum := "19c6c56c13e1420cf849cc1b347249616cb1d2fdf94d91becded150a9b855420", func := "rosette/rosettelaw06.PredGets", spec := "predGets", inPlace := ["internal/bytealg.abigen_runtime_cmpstring"], unfollowed := true, recurses := true, apart := false }
def PredGetsSaid : Prop := predGetsRow.holds Try.pinned (OpenSpec.ofChange predGetsSpec)

/-- ITS FALSE NEIGHBOUR: 'it returns false'. Refute it at one input. -/
def predGetsWrong : ChangeSpec := { name := "predGets", fn := fun _ => fun
  | [d1, d2] => { results := [.lit (.bool false)], args := [d1, d2] }
  | _ => none }
def PredGetsWrongFalsely : Prop := predGetsRow.holds Try.pinned (OpenSpec.ofChange predGetsWrong)

/-- 'rosettelaw06.PredBack': WHATEVER THE INPUT: true; the input reads as it did. -/
def predBackSpec : ChangeSpec := { name := "predBack", fn := fun _ => fun
  | [d1, d2] => { results := [.lit (.bool true)], args := [d1, d2] }
  | _ => none }
def predBackRow : OpenClaim := { program := "ytojefdnngkcaoaa", sum := "19c6c56c13e1420cf849cc1b347249616cb1d2fdf94d91becded150a9b855420", func := "rosette/rosettelaw06.PredBack", spec := "predBack", inPlace := ["internal/bytealg.abigen_runtime_cmpstring"], unfollowed := true, recurses := true, apart := false }
def PredBackSaid : Prop := predBackRow.holds Try.pinned (OpenSpec.ofChange predBackSpec)

/-- ITS FALSE NEIGHBOUR: 'it returns false'. Refute it at one input. -/
def predBackWrong : ChangeSpec := { name := "predBack", fn := fun _ => fun
  | [d1, d2] => { results := [.lit (.bool false)], args := [d1, d2] }
  | _ => none }
def PredBackWrongFalsely : Prop := predBackRow.holds Try.pinned (OpenSpec.ofChange predBackWrong)

/- THE SECOND FORM. 'bulk': how many values and letters a reading holds, each counted each time it is reached (what is shared counts as often as it is met; a slice's spare places count too). A statement '..UptoSaid' is the law's where the arguments, and the package variables that the reading takes, are together of bulk at most 1048576: NARROWER than '..Said'. Prove '..Said' where nothing that the law and all that it calls make is longer than what came in: it says more and counts as full. Else prove '..UptoSaid'. A law counts once. -/
mutual
def uptoBulk {H : Type} : DataW H → Nat
  | .lit (.string bytes) => bytes.length + 1
  | .lit _ => 1
  | .nil => 1
  | .ptr d => uptoBulk d + 1
  | .slice elems spare => uptoBulkAll elems + uptoBulkAll spare + 1
  | .agg parts => uptoBulkAll parts + 1
  | .iface _ d => uptoBulk d + 1
  | .map entries => uptoBulkEntries entries + 1
  | .held _ => 1
def uptoBulkAll {H : Type} : List (DataW H) → Nat
  | [] => 0
  | d :: r => uptoBulk d + uptoBulkAll r
def uptoBulkEntries {H : Type} : List (Lit × DataW H) → Nat
  | [] => 0
  | x :: r => uptoBulkEntry x + uptoBulkEntries r
def uptoBulkEntry {H : Type} : Lit × DataW H → Nat
  | (.string bytes, d) => bytes.length + uptoBulk d + 1
  | (_, d) => uptoBulk d + 1
 end
def uptoSmall : (H : Type) → List (DataW H) → Bool := fun _ ds => decide (uptoBulkAll ds ≤ 1048576)
def OpenSpec.upto (s : _root_.Go.ChangeSpec) : _root_.Go.OpenSpec := { _root_.Go.OpenSpec.ofChange s with cond := some uptoSmall }

/-- 'rosettelaw06.PredTells', WHERE WHAT IT READS IS OF BULK AT MOST 1048576: true; the input reads as it did. -/
def predTellsUptoRow : OpenClaim := { program := "ytojefdnngkcaoaa", sum := "19c6c56c13e1420cf849cc1b347249616cb1d2fdf94d91becded150a9b855420", func := "rosette/rosettelaw06.PredTells", spec := "predTells", inPlace := ["internal/bytealg.abigen_runtime_cmpstring"], unfollowed := true, recurses := true, apart := false, narrowed := true }
def PredTellsUptoSaid : Prop := predTellsUptoRow.holds Try.pinned (OpenSpec.upto predTellsSpec)

/-- 'rosettelaw06.PredTurns', WHERE WHAT IT READS IS OF BULK AT MOST 1048576: true; the input reads as it did. -/
def predTurnsUptoRow : OpenClaim := { program := "ytojefdnngkcaoaa", sum := "19c6c56c13e1420cf849cc1b347249616cb1d2fdf94d91becded150a9b855420", func := "rosette/rosettelaw06.PredTurns", spec := "predTurns", inPlace := ["internal/bytealg.abigen_runtime_cmpstring"], unfollowed := true, recurses := true, apart := false, narrowed := true }
def PredTurnsUptoSaid : Prop := predTurnsUptoRow.holds Try.pinned (OpenSpec.upto predTurnsSpec)

/-- 'rosettelaw06.PredPrefix', WHERE WHAT IT READS IS OF BULK AT MOST 1048576: true; the input reads as it did. -/
def predPrefixUptoRow : OpenClaim := { program := "ytojefdnngkcaoaa", sum := "19c6c56c13e1420cf849cc1b347249616cb1d2fdf94d91becded150a9b855420", func := "rosette/rosettelaw06.PredPrefix", spec := "predPrefix", inPlace := ["internal/bytealg.abigen_runtime_cmpstring"], unfollowed := true, recurses := true, apart := false, narrowed := true }
def PredPrefixUptoSaid : Prop := predPrefixUptoRow.holds Try.pinned (OpenSpec.upto predPrefixSpec)

/-- 'rosettelaw06.PredGets', WHERE WHAT IT READS IS OF BULK AT MOST 1048576: true; the input reads as it did. -/
def predGetsUptoRow : OpenClaim := { program := "ytojefdnngkcaoaa", sum := "19c6c56c13e1420cf849cc1b347249616cb1d2fdf94d91becded150a9b855420", func := "rosette/rosettelaw06.PredGets", spec := "predGets", inPlace := ["internal/bytealg.abigen_runtime_cmpstring"], unfollowed := true, recurses := true, apart := false, narrowed := true }
def PredGetsUptoSaid : Prop := predGetsUptoRow.holds Try.pinned (OpenSpec.upto predGetsSpec)

/-- 'rosettelaw06.PredBack', WHERE WHAT IT READS IS OF BULK AT MOST 1048576: true; the input reads as it did. -/
def predBackUptoRow : OpenClaim := { program := "ytojefdnngkcaoaa", sum := "19c6c56c13e1420cf849cc1b347249616cb1d2fdf94d91becded150a9b855420", func := "rosette/rosettelaw06.PredBack", spec := "predBack", inPlace := ["internal/bytealg.abigen_runtime_cmpstring"], unfollowed := true, recurses := true, apart := false, narrowed := true }
def PredBackUptoSaid : Prop := predBackUptoRow.holds Try.pinned (OpenSpec.upto predBackSpec)

end Rows
end Go.Proofs.Ytojefdnngkcaoaa
