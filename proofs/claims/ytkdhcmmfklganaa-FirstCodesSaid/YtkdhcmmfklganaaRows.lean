/-
  No cell of these rows narrows 'for every input' (looked for: loops, veiled, ifaces, maps, wideKeys, modest, calm, conditions, laid).
  DERIVED. THE GIVEN ROWS OF THIS SEAT. 5 by the template 'for every input the law returns true; each argument reads behind the call as it read before'; 0 by the template 'total and deterministic' (their statements: YtkdhcmmfklganaaTotals.lean).
  GIVEN WITH THE SEED: the statements are not yours to turn. If you find one false, say at which input.
  Laid BY PROGRAM, IN A SANDBOX (cutbox-rows.mjs): the forced cells as the released guide's own fill.sh prints them over the translation 6ab9cfc36f99d3e7… (all of the seat's roots in one cut). By AI agents, Wed Nov 11 2026. No macro, syntax, notation, axiom, sorry.
-/
import Derived.Test.YtkdhcmmfklganaaChecked
import GoSem.Claim
import GoSem.ClaimJoined
import GoSem.ClaimMapViews
import Derived.JoinedTies
import Derived.KernelRfl
namespace Go.Proofs.Ytkdhcmmfklganaa
/- THE CELL 'sum', in the pinned program and in every row, IS THE sha256 OF THE DUMP (.gsa) THAT YtkdhcmmfklganaaProg.lean LOADS. Nothing in Lean hashes anything: it is a label: what it is worth is what the hold of that sum in a sandbox is worth. -/
noncomputable def Try.pinned : Pinned := { name := "ytkdhcmmfklganaa", sum := "6ab9cfc36f99d3e76cdbb0c4d11c5280bc0997a34c98e16ddd2242effe2e6bba", checked := Try.checked }
namespace Rows
def none {H : Type} : Left H := { results := [], args := [] }

/-- 'rosettelaw15.FirstCodes': WHATEVER THE INPUT: true; the input reads as it did. -/
def firstCodesSpec : ChangeSpec := { name := "firstCodes", fn := fun _ => fun
  | [d1, d2] => { results := [.lit (.bool true)], args := [d1, d2] }
  | _ => none }
def firstCodesRow : OpenClaim := { program := "ytkdhcmmfklganaa", sum := "6ab9cfc36f99d3e76cdbb0c4d11c5280bc0997a34c98e16ddd2242effe2e6bba", func := "rosette/rosettelaw15.FirstCodes", spec := "firstCodes", unfollowed := true, recurses := true, apart := false }
def FirstCodesSaid : Prop := firstCodesRow.holds Try.pinned (OpenSpec.ofChange firstCodesSpec)

/-- ITS FALSE NEIGHBOUR: 'it returns false'. Refute it at one input. -/
def firstCodesWrong : ChangeSpec := { name := "firstCodes", fn := fun _ => fun
  | [d1, d2] => { results := [.lit (.bool false)], args := [d1, d2] }
  | _ => none }
def FirstCodesWrongFalsely : Prop := firstCodesRow.holds Try.pinned (OpenSpec.ofChange firstCodesWrong)

/-- 'rosettelaw15.FirstMeans': WHATEVER THE INPUT: true; the input reads as it did. -/
def firstMeansSpec : ChangeSpec := { name := "firstMeans", fn := fun _ => fun
  | [d1, d2, d3, d4] => { results := [.lit (.bool true)], args := [d1, d2, d3, d4] }
  | _ => none }
def firstMeansRow : OpenClaim := { program := "ytkdhcmmfklganaa", sum := "6ab9cfc36f99d3e76cdbb0c4d11c5280bc0997a34c98e16ddd2242effe2e6bba", func := "rosette/rosettelaw15.FirstMeans", spec := "firstMeans", unfollowed := true, recurses := true, apart := false }
def FirstMeansSaid : Prop := firstMeansRow.holds Try.pinned (OpenSpec.ofChange firstMeansSpec)

/-- ITS FALSE NEIGHBOUR: 'it returns false'. Refute it at one input. -/
def firstMeansWrong : ChangeSpec := { name := "firstMeans", fn := fun _ => fun
  | [d1, d2, d3, d4] => { results := [.lit (.bool false)], args := [d1, d2, d3, d4] }
  | _ => none }
def FirstMeansWrongFalsely : Prop := firstMeansRow.holds Try.pinned (OpenSpec.ofChange firstMeansWrong)

/-- 'rosettelaw15.FirstBack': WHATEVER THE INPUT: true; the input reads as it did. -/
def firstBackSpec : ChangeSpec := { name := "firstBack", fn := fun _ => fun
  | [d1, d2] => { results := [.lit (.bool true)], args := [d1, d2] }
  | _ => none }
def firstBackRow : OpenClaim := { program := "ytkdhcmmfklganaa", sum := "6ab9cfc36f99d3e76cdbb0c4d11c5280bc0997a34c98e16ddd2242effe2e6bba", func := "rosette/rosettelaw15.FirstBack", spec := "firstBack", unfollowed := true, recurses := true, apart := false }
def FirstBackSaid : Prop := firstBackRow.holds Try.pinned (OpenSpec.ofChange firstBackSpec)

/-- ITS FALSE NEIGHBOUR: 'it returns false'. Refute it at one input. -/
def firstBackWrong : ChangeSpec := { name := "firstBack", fn := fun _ => fun
  | [d1, d2] => { results := [.lit (.bool false)], args := [d1, d2] }
  | _ => none }
def FirstBackWrongFalsely : Prop := firstBackRow.holds Try.pinned (OpenSpec.ofChange firstBackWrong)

/-- 'rosettelaw15.FirstRanges': WHATEVER THE INPUT: true; the input reads as it did. -/
def firstRangesSpec : ChangeSpec := { name := "firstRanges", fn := fun _ => fun
  | [d1, d2, d3, d4] => { results := [.lit (.bool true)], args := [d1, d2, d3, d4] }
  | _ => none }
def firstRangesRow : OpenClaim := { program := "ytkdhcmmfklganaa", sum := "6ab9cfc36f99d3e76cdbb0c4d11c5280bc0997a34c98e16ddd2242effe2e6bba", func := "rosette/rosettelaw15.FirstRanges", spec := "firstRanges", unfollowed := true, recurses := true, apart := false }
def FirstRangesSaid : Prop := firstRangesRow.holds Try.pinned (OpenSpec.ofChange firstRangesSpec)

/-- ITS FALSE NEIGHBOUR: 'it returns false'. Refute it at one input. -/
def firstRangesWrong : ChangeSpec := { name := "firstRanges", fn := fun _ => fun
  | [d1, d2, d3, d4] => { results := [.lit (.bool false)], args := [d1, d2, d3, d4] }
  | _ => none }
def FirstRangesWrongFalsely : Prop := firstRangesRow.holds Try.pinned (OpenSpec.ofChange firstRangesWrong)

/-- 'rosettelaw15.FirstCuts': WHATEVER THE INPUT: true; the input reads as it did. -/
def firstCutsSpec : ChangeSpec := { name := "firstCuts", fn := fun _ => fun
  | [d1, d2, d3] => { results := [.lit (.bool true)], args := [d1, d2, d3] }
  | _ => none }
def firstCutsRow : OpenClaim := { program := "ytkdhcmmfklganaa", sum := "6ab9cfc36f99d3e76cdbb0c4d11c5280bc0997a34c98e16ddd2242effe2e6bba", func := "rosette/rosettelaw15.FirstCuts", spec := "firstCuts", unfollowed := true, recurses := true, apart := false }
def FirstCutsSaid : Prop := firstCutsRow.holds Try.pinned (OpenSpec.ofChange firstCutsSpec)

/-- ITS FALSE NEIGHBOUR: 'it returns false'. Refute it at one input. -/
def firstCutsWrong : ChangeSpec := { name := "firstCuts", fn := fun _ => fun
  | [d1, d2, d3] => { results := [.lit (.bool false)], args := [d1, d2, d3] }
  | _ => none }
def FirstCutsWrongFalsely : Prop := firstCutsRow.holds Try.pinned (OpenSpec.ofChange firstCutsWrong)

/- THE SECOND FORM. 'bulk': how many values and letters a reading holds, each counted each time it is reached (what is shared counts as often as it is met; a slice's spare places count too). A statement '..UptoSaid' is the law's where the arguments, and the package variables that the reading takes, are together of bulk at most 1048576: NARROWER than '..Said'. Prove '..Said' where nothing that the law and all that it calls make is longer than what came in: it says more and counts as full. Else prove '..UptoSaid'. A law counts once. -/
mutual
def uptoBulk {H : Type} : DataW H → Nat
  | .lit (.string bytes) => bytes.length + 1
  | .lit _ => 1
  | .nil => 1
  | .ptr d => uptoBulk d + 1
  | .slice elems spare => uptoBulkAll elems + uptoBulkAll spare + 1
  | .agg parts => uptoBulkAll parts + 1
  | .iface _ d => uptoBulk d + 1
  | .map entries => uptoBulkEntries entries + 1
  | .held _ => 1
def uptoBulkAll {H : Type} : List (DataW H) → Nat
  | [] => 0
  | d :: r => uptoBulk d + uptoBulkAll r
def uptoBulkEntries {H : Type} : List (Lit × DataW H) → Nat
  | [] => 0
  | x :: r => uptoBulkEntry x + uptoBulkEntries r
def uptoBulkEntry {H : Type} : Lit × DataW H → Nat
  | (.string bytes, d) => bytes.length + uptoBulk d + 1
  | (_, d) => uptoBulk d + 1
 end
def uptoSmall : (H : Type) → List (DataW H) → Bool := fun _ ds => decide (uptoBulkAll ds ≤ 1048576)
def OpenSpec.upto (s : _root_.Go.ChangeSpec) : _root_.Go.OpenSpec := { _root_.Go.OpenSpec.ofChange s with cond := some uptoSmall }

/-- 'rosettelaw15.FirstCodes', WHERE WHAT IT READS IS OF BULK AT MOST 1048576: true; the input reads as it did. -/
def firstCodesUptoRow : OpenClaim := { program := "ytkdhcmmfklganaa", sum := "6ab9cfc36f99d3e76cdbb0c4d11c5280bc0997a34c98e16ddd2242effe2e6bba", func := "rosette/rosettelaw15.FirstCodes", spec := "firstCodes", unfollowed := true, recurses := true, apart := false, narrowed := true }
def FirstCodesUptoSaid : Prop := firstCodesUptoRow.holds Try.pinned (OpenSpec.upto firstCodesSpec)

/-- 'rosettelaw15.FirstMeans', WHERE WHAT IT READS IS OF BULK AT MOST 1048576: true; the input reads as it did. -/
def firstMeansUptoRow : OpenClaim := { program := "ytkdhcmmfklganaa", sum := "6ab9cfc36f99d3e76cdbb0c4d11c5280bc0997a34c98e16ddd2242effe2e6bba", func := "rosette/rosettelaw15.FirstMeans", spec := "firstMeans", unfollowed := true, recurses := true, apart := false, narrowed := true }
def FirstMeansUptoSaid : Prop := firstMeansUptoRow.holds Try.pinned (OpenSpec.upto firstMeansSpec)

/-- 'rosettelaw15.FirstBack', WHERE WHAT IT READS IS OF BULK AT MOST 1048576: true; the input reads as it did. -/
def firstBackUptoRow : OpenClaim := { program := "ytkdhcmmfklganaa", sum := "6ab9cfc36f99d3e76cdbb0c4d11c5280bc0997a34c98e16ddd2242effe2e6bba", func := "rosette/rosettelaw15.FirstBack", spec := "firstBack", unfollowed := true, recurses := true, apart := false, narrowed := true }
def FirstBackUptoSaid : Prop := firstBackUptoRow.holds Try.pinned (OpenSpec.upto firstBackSpec)

/-- 'rosettelaw15.FirstRanges', WHERE WHAT IT READS IS OF BULK AT MOST 1048576: true; the input reads as it did. -/
def firstRangesUptoRow : OpenClaim := { program := "ytkdhcmmfklganaa", sum := "6ab9cfc36f99d3e76cdbb0c4d11c5280bc0997a34c98e16ddd2242effe2e6bba", func := "rosette/rosettelaw15.FirstRanges", spec := "firstRanges", unfollowed := true, recurses := true, apart := false, narrowed := true }
def FirstRangesUptoSaid : Prop := firstRangesUptoRow.holds Try.pinned (OpenSpec.upto firstRangesSpec)

/-- 'rosettelaw15.FirstCuts', WHERE WHAT IT READS IS OF BULK AT MOST 1048576: true; the input reads as it did. -/
def firstCutsUptoRow : OpenClaim := { program := "ytkdhcmmfklganaa", sum := "6ab9cfc36f99d3e76cdbb0c4d11c5280bc0997a34c98e16ddd2242effe2e6bba", func := "rosette/rosettelaw15.FirstCuts", spec := "firstCuts", unfollowed := true, recurses := true, apart := false, narrowed := true }
def FirstCutsUptoSaid : Prop := firstCutsUptoRow.holds Try.pinned (OpenSpec.upto firstCutsSpec)

end Rows
end Go.Proofs.Ytkdhcmmfklganaa
