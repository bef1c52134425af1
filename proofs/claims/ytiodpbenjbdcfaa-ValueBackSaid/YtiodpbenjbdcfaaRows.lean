/-
  No cell of these rows narrows 'for every input' (looked for: loops, veiled, ifaces, maps, wideKeys, modest, calm, conditions, laid).
  DERIVED. THE GIVEN ROWS OF THIS SEAT. 5 by the template 'for every input the law returns true; each argument reads behind the call as it read before'; 0 by the template 'total and deterministic' (their statements: YtiodpbenjbdcfaaTotals.lean).
  GIVEN WITH THE SEED: the statements are not yours to turn. If you find one false, say at which input.
  Laid BY PROGRAM, IN A SANDBOX (cutbox-rows.mjs): the forced cells as the released guide's own fill.sh prints them over the translation 6d367b13d0c0ba51… (all of the seat's roots in one cut). By AI agents, Wed Nov 11 2026. No macro, syntax, notation, axiom, sorry.
-/
import Derived.Test.YtiodpbenjbdcfaaChecked
import GoSem.Claim
import GoSem.ClaimJoined
import GoSem.ClaimMapViews
import Derived.JoinedTies
import Derived.KernelRfl
namespace Go.Proofs.Ytiodpbenjbdcfaa
/- THE CELL 'sum', in the pinned program and in every row, IS THE sha256 OF THE DUMP (.gsa) THAT YtiodpbenjbdcfaaProg.lean LOADS. Nothing in Lean hashes anything: it is a label: what it is worth is what the hold of that sum in a sandbox is worth. -/
noncomputable def Try.pinned : Pinned := { name := "ytiodpbenjbdcfaa", sum := "6d367b13d0c0ba51a4bba139d38a284b3abbea81a4757b9fd49e08c9c3b178d2", checked := Try.checked }
namespace Rows
def none {H : Type} : Left H := { results := [], args := [] }

/-- 'rosettelaw04.ValueTells': WHATEVER THE INPUT: true; the input reads as it did. -/
def valueTellsSpec : ChangeSpec := { name := "valueTells", fn := fun _ => fun
  | [d1, d2, d3] => { results := [.lit (.bool true)], args := [d1, d2, d3] }
  | _ => none }
def valueTellsRow : OpenClaim := { program := "ytiodpbenjbdcfaa", sum := "6d367b13d0c0ba51a4bba139d38a284b3abbea81a4757b9fd49e08c9c3b178d2", func := "rosette/rosettelaw04.ValueTells", spec := "valueTells", inPlace := ["internal/bytealg.abigen_runtime_cmpstring"], apart := false }
def ValueTellsSaid : Prop := valueTellsRow.holds Try.pinned (OpenSpec.ofChange valueTellsSpec)

/-- ITS FALSE NEIGHBOUR: 'it returns false'. Refute it at one input. -/
def valueTellsWrong : ChangeSpec := { name := "valueTells", fn := fun _ => fun
  | [d1, d2, d3] => { results := [.lit (.bool false)], args := [d1, d2, d3] }
  | _ => none }
def ValueTellsWrongFalsely : Prop := valueTellsRow.holds Try.pinned (OpenSpec.ofChange valueTellsWrong)

/-- 'rosettelaw04.ValueOrder': WHATEVER THE INPUT: true; the input reads as it did. -/
def valueOrderSpec : ChangeSpec := { name := "valueOrder", fn := fun _ => fun
  | [d1, d2, d3] => { results := [.lit (.bool true)], args := [d1, d2, d3] }
  | _ => none }
def valueOrderRow : OpenClaim := { program := "ytiodpbenjbdcfaa", sum := "6d367b13d0c0ba51a4bba139d38a284b3abbea81a4757b9fd49e08c9c3b178d2", func := "rosette/rosettelaw04.ValueOrder", spec := "valueOrder", inPlace := ["internal/bytealg.abigen_runtime_cmpstring"], apart := false }
def ValueOrderSaid : Prop := valueOrderRow.holds Try.pinned (OpenSpec.ofChange valueOrderSpec)

/-- ITS FALSE NEIGHBOUR: 'it returns false'. Refute it at one input. -/
def valueOrderWrong : ChangeSpec := { name := "valueOrder", fn := fun _ => fun
  | [d1, d2, d3] => { results := [.lit (.bool false)], args := [d1, d2, d3] }
  | _ => none }
def ValueOrderWrongFalsely : Prop := valueOrderRow.holds Try.pinned (OpenSpec.ofChange valueOrderWrong)

/-- 'rosettelaw04.ValueApart': WHATEVER THE INPUT: true; the input reads as it did. -/
def valueApartSpec : ChangeSpec := { name := "valueApart", fn := fun _ => fun
  | [d1, d2] => { results := [.lit (.bool true)], args := [d1, d2] }
  | _ => none }
def valueApartRow : OpenClaim := { program := "ytiodpbenjbdcfaa", sum := "6d367b13d0c0ba51a4bba139d38a284b3abbea81a4757b9fd49e08c9c3b178d2", func := "rosette/rosettelaw04.ValueApart", spec := "valueApart", inPlace := ["internal/bytealg.abigen_runtime_cmpstring"], apart := false }
def ValueApartSaid : Prop := valueApartRow.holds Try.pinned (OpenSpec.ofChange valueApartSpec)

/-- ITS FALSE NEIGHBOUR: 'it returns false'. Refute it at one input. -/
def valueApartWrong : ChangeSpec := { name := "valueApart", fn := fun _ => fun
  | [d1, d2] => { results := [.lit (.bool false)], args := [d1, d2] }
  | _ => none }
def ValueApartWrongFalsely : Prop := valueApartRow.holds Try.pinned (OpenSpec.ofChange valueApartWrong)

/-- 'rosettelaw04.ValueGets': WHATEVER THE INPUT: true; the input reads as it did. -/
def valueGetsSpec : ChangeSpec := { name := "valueGets", fn := fun _ => fun
  | [d1, d2] => { results := [.lit (.bool true)], args := [d1, d2] }
  | _ => none }
def valueGetsRow : OpenClaim := { program := "ytiodpbenjbdcfaa", sum := "6d367b13d0c0ba51a4bba139d38a284b3abbea81a4757b9fd49e08c9c3b178d2", func := "rosette/rosettelaw04.ValueGets", spec := "valueGets", inPlace := ["internal/bytealg.abigen_runtime_cmpstring"], apart := false }
def ValueGetsSaid : Prop := valueGetsRow.holds Try.pinned (OpenSpec.ofChange valueGetsSpec)

/-- ITS FALSE NEIGHBOUR: 'it returns false'. Refute it at one input. -/
def valueGetsWrong : ChangeSpec := { name := "valueGets", fn := fun _ => fun
  | [d1, d2] => { results := [.lit (.bool false)], args := [d1, d2] }
  | _ => none }
def ValueGetsWrongFalsely : Prop := valueGetsRow.holds Try.pinned (OpenSpec.ofChange valueGetsWrong)

/-- 'rosettelaw04.ValueBack': WHATEVER THE INPUT: true; the input reads as it did. -/
def valueBackSpec : ChangeSpec := { name := "valueBack", fn := fun _ => fun
  | [d1, d2] => { results := [.lit (.bool true)], args := [d1, d2] }
  | _ => none }
def valueBackRow : OpenClaim := { program := "ytiodpbenjbdcfaa", sum := "6d367b13d0c0ba51a4bba139d38a284b3abbea81a4757b9fd49e08c9c3b178d2", func := "rosette/rosettelaw04.ValueBack", spec := "valueBack", inPlace := ["internal/bytealg.abigen_runtime_cmpstring"], apart := false }
def ValueBackSaid : Prop := valueBackRow.holds Try.pinned (OpenSpec.ofChange valueBackSpec)

/-- ITS FALSE NEIGHBOUR: 'it returns false'. Refute it at one input. -/
def valueBackWrong : ChangeSpec := { name := "valueBack", fn := fun _ => fun
  | [d1, d2] => { results := [.lit (.bool false)], args := [d1, d2] }
  | _ => none }
def ValueBackWrongFalsely : Prop := valueBackRow.holds Try.pinned (OpenSpec.ofChange valueBackWrong)

/- THE SECOND FORM. 'bulk': how many values and letters a reading holds, each counted each time it is reached (what is shared counts as often as it is met; a slice's spare places count too). A statement '..UptoSaid' is the law's where the arguments, and the package variables that the reading takes, are together of bulk at most 1048576: NARROWER than '..Said'. Prove '..Said' where nothing that the law and all that it calls make is longer than what came in: it says more and counts as full. Else prove '..UptoSaid'. A law counts once. -/
mutual
def uptoBulk {H : Type} : DataW H → Nat
  | .lit (.string bytes) => bytes.length + 1
  | .lit _ => 1
  | .nil => 1
  | .ptr d => uptoBulk d + 1
  | .slice elems spare => uptoBulkAll elems + uptoBulkAll spare + 1
  | .agg parts => uptoBulkAll parts + 1
  | .iface _ d => uptoBulk d + 1
  | .map entries => uptoBulkEntries entries + 1
  | .held _ => 1
def uptoBulkAll {H : Type} : List (DataW H) → Nat
  | [] => 0
  | d :: r => uptoBulk d + uptoBulkAll r
def uptoBulkEntries {H : Type} : List (Lit × DataW H) → Nat
  | [] => 0
  | x :: r => uptoBulkEntry x + uptoBulkEntries r
def uptoBulkEntry {H : Type} : Lit × DataW H → Nat
  | (.string bytes, d) => bytes.length + uptoBulk d + 1
  | (_, d) => uptoBulk d + 1
 end
def uptoSmall : (H : Type) → List (DataW H) → Bool := fun _ ds => decide (uptoBulkAll ds ≤ 1048576)
def OpenSpec.upto (s : _root_.Go.ChangeSpec) : _root_.Go.OpenSpec := { _root_.Go.OpenSpec.ofChange s with cond := some uptoSmall }

/-- 'rosettelaw04.ValueTells', WHERE WHAT IT READS IS OF BULK AT MOST 1048576: true; the input reads as it did. -/
def valueTellsUptoRow : OpenClaim := { program := "ytiodpbenjbdcfaa", sum := "6d367b13d0c0ba51a4bba139d38a284b3abbea81a4757b9fd49e08c9c3b178d2", func := "rosette/rosettelaw04.ValueTells", spec := "valueTells", inPlace := ["internal/bytealg.abigen_runtime_cmpstring"], apart := false, narrowed := true }
def ValueTellsUptoSaid : Prop := valueTellsUptoRow.holds Try.pinned (OpenSpec.upto valueTellsSpec)

/-- 'rosettelaw04.ValueOrder', WHERE WHAT IT READS IS OF BULK AT MOST 1048576: true; the input reads as it did. -/
def valueOrderUptoRow : OpenClaim := { program := "ytiodpbenjbdcfaa", sum := "6d367b13d0c0ba51a4bba139d38a284b3abbea81a4757b9fd49e08c9c3b178d2", func := "rosette/rosettelaw04.ValueOrder", spec := "valueOrder", inPlace := ["internal/bytealg.abigen_runtime_cmpstring"], apart := false, narrowed := true }
def ValueOrderUptoSaid : Prop := valueOrderUptoRow.holds Try.pinned (OpenSpec.upto valueOrderSpec)

/-- 'rosettelaw04.ValueApart', WHERE WHAT IT READS IS OF BULK AT MOST 1048576: true; the input reads as it did. -/
def valueApartUptoRow : OpenClaim := { program := "ytiodpbenjbdcfaa", sum := "6d367b13d0c0ba51a4bba139d38a284b3abbea81a4757b9fd49e08c9c3b178d2", func := "rosette/rosettelaw04.ValueApart", spec := "valueApart", inPlace := ["internal/bytealg.abigen_runtime_cmpstring"], apart := false, narrowed := true }
def ValueApartUptoSaid : Prop := valueApartUptoRow.holds Try.pinned (OpenSpec.upto valueApartSpec)

/-- 'rosettelaw04.ValueGets', WHERE WHAT IT READS IS OF BULK AT MOST 1048576: true; the input reads as it did. -/
def valueGetsUptoRow : OpenClaim := { program := "ytiodpbenjbdcfaa", sum := "6d367b13d0c0ba51a4bba139d38a284b3abbea81a4757b9fd49e08c9c3b178d2", func := "rosette/rosettelaw04.ValueGets", spec := "valueGets", inPlace := ["internal/bytealg.abigen_runtime_cmpstring"], apart := false, narrowed := true }
def ValueGetsUptoSaid : Prop := valueGetsUptoRow.holds Try.pinned (OpenSpec.upto valueGetsSpec)

/-- 'rosettelaw04.ValueBack', WHERE WHAT IT READS IS OF BULK AT MOST 1048576: true; the input reads as it did. -/
def valueBackUptoRow : OpenClaim := { program := "ytiodpbenjbdcfaa", sum := "6d367b13d0c0ba51a4bba139d38a284b3abbea81a4757b9fd49e08c9c3b178d2", func := "rosette/rosettelaw04.ValueBack", spec := "valueBack", inPlace := ["internal/bytealg.abigen_runtime_cmpstring"], apart := false, narrowed := true }
def ValueBackUptoSaid : Prop := valueBackUptoRow.holds Try.pinned (OpenSpec.upto valueBackSpec)

end Rows
end Go.Proofs.Ytiodpbenjbdcfaa
