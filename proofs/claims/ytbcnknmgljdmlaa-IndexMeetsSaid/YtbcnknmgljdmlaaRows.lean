/-
  No cell of these rows narrows 'for every input' (looked for: loops, veiled, ifaces, maps, wideKeys, modest, calm, conditions, laid).
  DERIVED. THE GIVEN ROWS OF THIS SEAT. 5 by the template 'for every input the law returns true; each argument reads behind the call as it read before'; 0 by the template 'total and deterministic' (their statements: YtbcnknmgljdmlaaTotals.lean).
  GIVEN WITH THE SEED: the statements are not yours to turn. If you find one false, say at which input.
  Laid BY PROGRAM, IN A SANDBOX (cutbox-rows.mjs): the forced cells as the released guide's own fill.sh prints them over the translation cf0bd06d4bec3085… (all of the seat's roots in one cut). By AI agents, Wed Nov 11 2026. No macro, syntax, notation, axiom, sorry.
-/
import Derived.Test.YtbcnknmgljdmlaaChecked
import GoSem.Claim
import GoSem.ClaimJoined
import GoSem.ClaimMapViews
import Derived.JoinedTies
import Derived.KernelRfl
namespace Go.Proofs.Ytbcnknmgljdmlaa
/- THE CELL 'sum', in the pinned program and in every row, IS THE sha256 OF THE DUMP (.gsa) THAT YtbcnknmgljdmlaaProg.lean LOADS. Nothing in Lean hashes anything: it is a label: what it is worth is what the hold of that sum in a sandbox is worth. -/
noncomputable def Try.pinned : Pinned := { name := "ytbcnknmgljdmlaa", sum := "cf0bd06d4bec3085e1151aef42dad26954d2803e3bec728dc98a309eea13fcce", checked := Try.checked }
namespace Rows
def none {H : Type} : Left H := { results := [], args := [] }

/-- 'rosettelaw12.IndexMeets': WHATEVER THE INPUT: true; the input reads as it did. -/
def indexMeetsSpec : ChangeSpec := { name := "indexMeets", fn := fun _ => fun
  | [d1, d2] => { results := [.lit (.bool true)], args := [d1, d2] }
  | _ => none }
def indexMeetsRow : OpenClaim := { program := "ytbcnknmgljdmlaa", sum := "cf0bd06d4bec3085e1151aef42dad26954d2803e3bec728dc98a309eea13fcce", func := "rosette/rosettelaw12.IndexMeets", spec := "indexMeets", inPlace := ["internal/bytealg.abigen_runtime_cmpstring"], unfollowed := true, recurses := true, plainKeys := false, apart := false }
def IndexMeetsSaid : Prop := indexMeetsRow.holds Try.pinned (OpenSpec.ofChange indexMeetsSpec)

/-- ITS FALSE NEIGHBOUR: 'it returns false'. Refute it at one input. -/
def indexMeetsWrong : ChangeSpec := { name := "indexMeets", fn := fun _ => fun
  | [d1, d2] => { results := [.lit (.bool false)], args := [d1, d2] }
  | _ => none }
def IndexMeetsWrongFalsely : Prop := indexMeetsRow.holds Try.pinned (OpenSpec.ofChange indexMeetsWrong)

/-- 'rosettelaw12.IndexParts': WHATEVER THE INPUT: true; the input reads as it did. -/
def indexPartsSpec : ChangeSpec := { name := "indexParts", fn := fun _ => fun
  | [d1, d2, d3] => { results := [.lit (.bool true)], args := [d1, d2, d3] }
  | _ => none }
def indexPartsRow : OpenClaim := { program := "ytbcnknmgljdmlaa", sum := "cf0bd06d4bec3085e1151aef42dad26954d2803e3bec728dc98a309eea13fcce", func := "rosette/rosettelaw12.IndexParts", spec := "indexParts", inPlace := ["internal/bytealg.abigen_runtime_cmpstring"], unfollowed := true, recurses := true, plainKeys := false, apart := false }
def IndexPartsSaid : Prop := indexPartsRow.holds Try.pinned (OpenSpec.ofChange indexPartsSpec)

/-- ITS FALSE NEIGHBOUR: 'it returns false'. Refute it at one input. -/
def indexPartsWrong : ChangeSpec := { name := "indexParts", fn := fun _ => fun
  | [d1, d2, d3] => { results := [.lit (.bool false)], args := [d1, d2, d3] }
  | _ => none }
def IndexPartsWrongFalsely : Prop := indexPartsRow.holds Try.pinned (OpenSpec.ofChange indexPartsWrong)

/-- 'rosettelaw12.IndexMore': WHATEVER THE INPUT: true; the input reads as it did. -/
def indexMoreSpec : ChangeSpec := { name := "indexMore", fn := fun _ => fun
  | [d1, d2, d3] => { results := [.lit (.bool true)], args := [d1, d2, d3] }
  | _ => none }
def indexMoreRow : OpenClaim := { program := "ytbcnknmgljdmlaa", sum := "cf0bd06d4bec3085e1151aef42dad26954d2803e3bec728dc98a309eea13fcce", func := "rosette/rosettelaw12.IndexMore", spec := "indexMore", inPlace := ["internal/bytealg.abigen_runtime_cmpstring"], unfollowed := true, recurses := true, plainKeys := false, apart := false }
def IndexMoreSaid : Prop := indexMoreRow.holds Try.pinned (OpenSpec.ofChange indexMoreSpec)

/-- ITS FALSE NEIGHBOUR: 'it returns false'. Refute it at one input. -/
def indexMoreWrong : ChangeSpec := { name := "indexMore", fn := fun _ => fun
  | [d1, d2, d3] => { results := [.lit (.bool false)], args := [d1, d2, d3] }
  | _ => none }
def IndexMoreWrongFalsely : Prop := indexMoreRow.holds Try.pinned (OpenSpec.ofChange indexMoreWrong)

/-- 'rosettelaw12.IndexTurned': WHATEVER THE INPUT: true; the input reads as it did. -/
def indexTurnedSpec : ChangeSpec := { name := "indexTurned", fn := fun _ => fun
  | [d1, d2] => { results := [.lit (.bool true)], args := [d1, d2] }
  | _ => none }
def indexTurnedRow : OpenClaim := { program := "ytbcnknmgljdmlaa", sum := "cf0bd06d4bec3085e1151aef42dad26954d2803e3bec728dc98a309eea13fcce", func := "rosette/rosettelaw12.IndexTurned", spec := "indexTurned", inPlace := ["internal/bytealg.abigen_runtime_cmpstring"], unfollowed := true, recurses := true, plainKeys := false, apart := false }
def IndexTurnedSaid : Prop := indexTurnedRow.holds Try.pinned (OpenSpec.ofChange indexTurnedSpec)

/-- ITS FALSE NEIGHBOUR: 'it returns false'. Refute it at one input. -/
def indexTurnedWrong : ChangeSpec := { name := "indexTurned", fn := fun _ => fun
  | [d1, d2] => { results := [.lit (.bool false)], args := [d1, d2] }
  | _ => none }
def IndexTurnedWrongFalsely : Prop := indexTurnedRow.holds Try.pinned (OpenSpec.ofChange indexTurnedWrong)

/-- 'rosettelaw12.IndexNaive': WHATEVER THE INPUT: true; the input reads as it did. -/
def indexNaiveSpec : ChangeSpec := { name := "indexNaive", fn := fun _ => fun
  | [d1, d2] => { results := [.lit (.bool true)], args := [d1, d2] }
  | _ => none }
def indexNaiveRow : OpenClaim := { program := "ytbcnknmgljdmlaa", sum := "cf0bd06d4bec3085e1151aef42dad26954d2803e3bec728dc98a309eea13fcce", func := "rosette/rosettelaw12.IndexNaive", spec := "indexNaive", inPlace := ["internal/bytealg.abigen_runtime_cmpstring"], unfollowed := true, recurses := true, plainKeys := false, apart := false }
def IndexNaiveSaid : Prop := indexNaiveRow.holds Try.pinned (OpenSpec.ofChange indexNaiveSpec)

/-- ITS FALSE NEIGHBOUR: 'it returns false'. Refute it at one input. -/
def indexNaiveWrong : ChangeSpec := { name := "indexNaive", fn := fun _ => fun
  | [d1, d2] => { results := [.lit (.bool false)], args := [d1, d2] }
  | _ => none }
def IndexNaiveWrongFalsely : Prop := indexNaiveRow.holds Try.pinned (OpenSpec.ofChange indexNaiveWrong)

/- THE SECOND FORM. 'bulk': how many values and letters a reading holds, each counted each time it is reached (what is shared counts as often as it is met; a slice's spare places count too). A statement '..UptoSaid' is the law's where the arguments, and the package variables that the reading takes, are together of bulk at most 1048576: NARROWER than '..Said'. Prove '..Said' where nothing that the law and all that it calls make is longer than what came in: it says more and counts as full. Else prove '..UptoSaid'. A law counts once. -/
mutual
def uptoBulk {H : Type} : DataW H → Nat
  | .lit (.string bytes) => bytes.length + 1
  | .lit _ => 1
  | .nil => 1
  | .ptr d => uptoBulk d + 1
  | .slice elems spare => uptoBulkAll elems + uptoBulkAll spare + 1
  | .agg parts => uptoBulkAll parts + 1
  | .iface _ d => uptoBulk d + 1
  | .map entries => uptoBulkEntries entries + 1
  | .held _ => 1
def uptoBulkAll {H : Type} : List (DataW H) → Nat
  | [] => 0
  | d :: r => uptoBulk d + uptoBulkAll r
def uptoBulkEntries {H : Type} : List (Lit × DataW H) → Nat
  | [] => 0
  | x :: r => uptoBulkEntry x + uptoBulkEntries r
def uptoBulkEntry {H : Type} : Lit × DataW H → Nat
  | (.string bytes, d) => bytes.length + uptoBulk d + 1
  | (_, d) => uptoBulk d + 1
 end
def uptoSmall : (H : Type) → List (DataW H) → Bool := fun _ ds => decide (uptoBulkAll ds ≤ 1048576)
def OpenSpec.upto (s : _root_.Go.ChangeSpec) : _root_.Go.OpenSpec := { _root_.Go.OpenSpec.ofChange s with cond := some uptoSmall }

/-- 'rosettelaw12.IndexMeets', WHERE WHAT IT READS IS OF BULK AT MOST 1048576: true; the input reads as it did. -/
def indexMeetsUptoRow : OpenClaim := { program := "ytbcnknmgljdmlaa", sum := "cf0bd06d4bec3085e1151aef42dad26954d2803e3bec728dc98a309eea13fcce", func := "rosette/rosettelaw12.IndexMeets", spec := "indexMeets", inPlace := ["internal/bytealg.abigen_runtime_cmpstring"], unfollowed := true, recurses := true, plainKeys := false, apart := false, narrowed := true }
def IndexMeetsUptoSaid : Prop := indexMeetsUptoRow.holds Try.pinned (OpenSpec.upto indexMeetsSpec)

/-- 'rosettelaw12.IndexParts', WHERE WHAT IT READS IS OF BULK AT MOST 1048576: true; the input reads as it did. -/
def indexPartsUptoRow : OpenClaim := { program := "ytbcnknmgljdmlaa", sum := "cf0bd06d4bec3085e1151aef42dad26954d2803e3bec728dc98a309eea13fcce", func := "rosette/rosettelaw12.IndexParts", spec := "indexParts", inPlace := ["internal/bytealg.abigen_runtime_cmpstring"], unfollowed := true, recurses := true, plainKeys := false, apart := false, narrowed := true }
def IndexPartsUptoSaid : Prop := indexPartsUptoRow.holds Try.pinned (OpenSpec.upto indexPartsSpec)

/-- 'rosettelaw12.IndexMore', WHERE WHAT IT READS IS OF BULK AT MOST 1048576: true; the input reads as it did. -/
def indexMoreUptoRow : OpenClaim := { program := "ytbcnknmgljdmlaa", sum := "cf0bd06d4bec3085e1151aef42dad26954d2803e3bec728dc98a309eea13fcce", func := "rosette/rosettelaw12.IndexMore", spec := "indexMore", inPlace := ["internal/bytealg.abigen_runtime_cmpstring"], unfollowed := true, recurses := true, plainKeys := false, apart := false, narrowed := true }
def IndexMoreUptoSaid : Prop := indexMoreUptoRow.holds Try.pinned (OpenSpec.upto indexMoreSpec)

/-- 'rosettelaw12.IndexTurned', WHERE WHAT IT READS IS OF BULK AT MOST 1048576: true; the input reads as it did. -/
def indexTurnedUptoRow : OpenClaim := { program := "ytbcnknmgljdmlaa", sum := "cf0bd06d4bec3085e1151aef42dad26954d2803e3bec728dc98a309eea13fcce", func := "rosette/rosettelaw12.IndexTurned", spec := "indexTurned", inPlace := ["internal/bytealg.abigen_runtime_cmpstring"], unfollowed := true, recurses := true, plainKeys := false, apart := false, narrowed := true }
def IndexTurnedUptoSaid : Prop := indexTurnedUptoRow.holds Try.pinned (OpenSpec.upto indexTurnedSpec)

/-- 'rosettelaw12.IndexNaive', WHERE WHAT IT READS IS OF BULK AT MOST 1048576: true; the input reads as it did. -/
def indexNaiveUptoRow : OpenClaim := { program := "ytbcnknmgljdmlaa", sum := "cf0bd06d4bec3085e1151aef42dad26954d2803e3bec728dc98a309eea13fcce", func := "rosette/rosettelaw12.IndexNaive", spec := "indexNaive", inPlace := ["internal/bytealg.abigen_runtime_cmpstring"], unfollowed := true, recurses := true, plainKeys := false, apart := false, narrowed := true }
def IndexNaiveUptoSaid : Prop := indexNaiveUptoRow.holds Try.pinned (OpenSpec.upto indexNaiveSpec)

end Rows
end Go.Proofs.Ytbcnknmgljdmlaa
