/-
  No cell of these rows narrows 'for every input' (looked for: loops, veiled, ifaces, maps, wideKeys, modest, calm, conditions, laid).
  DERIVED. THE GIVEN ROWS OF THIS SEAT. 5 by the template 'for every input the law returns true; each argument reads behind the call as it read before'; 0 by the template 'total and deterministic' (their statements: YticpcjjgdkbcjaaTotals.lean).
  GIVEN WITH THE SEED: the statements are not yours to turn. If you find one false, say at which input.
  Laid BY PROGRAM, IN A SANDBOX (cutbox-rows.mjs): the forced cells as the released guide's own fill.sh prints them over the translation fd4256e6af99d6c0… (all of the seat's roots in one cut). By AI agents, Wed Nov 11 2026. No macro, syntax, notation, axiom, sorry.
-/
import Derived.Test.YticpcjjgdkbcjaaChecked
import GoSem.Claim
import GoSem.ClaimJoined
import GoSem.ClaimMapViews
import Derived.JoinedTies
import Derived.KernelRfl
namespace Go.Proofs.Yticpcjjgdkbcjaa
/- THE CELL 'sum', in the pinned program and in every row, IS THE sha256 OF THE DUMP (.gsa) THAT YticpcjjgdkbcjaaProg.lean LOADS. Nothing in Lean hashes anything: it is a label: what it is worth is what the hold of that sum in a sandbox is worth. -/
noncomputable def Try.pinned : Pinned := { name := "yticpcjjgdkbcjaa", sum := "fd4256e6af99d6c0abb0144ceae63f47b360e089c582c04a70c5e7818b756252", checked := Try.checked }
namespace Rows
def none {H : Type} : Left H := { results := [], args := [] }

/-- 'rosettelaw22.PacketCodes': WHATEVER THE INPUT: true; the input reads as it did. -/
def packetCodesSpec : ChangeSpec := { name := "packetCodes", fn := fun _ => fun
  | [d1, d2, d3] => { results := [.lit (.bool true)], args := [d1, d2, d3] }
  | _ => none }
def packetCodesRow : OpenClaim := { program := "yticpcjjgdkbcjaa", sum := "fd4256e6af99d6c0abb0144ceae63f47b360e089c582c04a70c5e7818b756252", func := "rosette/rosettelaw22.PacketCodes", spec := "packetCodes", apart := false }
def PacketCodesSaid : Prop := packetCodesRow.holds Try.pinned (OpenSpec.ofChange packetCodesSpec)

/-- ITS FALSE NEIGHBOUR: 'it returns false'. Refute it at one input. -/
def packetCodesWrong : ChangeSpec := { name := "packetCodes", fn := fun _ => fun
  | [d1, d2, d3] => { results := [.lit (.bool false)], args := [d1, d2, d3] }
  | _ => none }
def PacketCodesWrongFalsely : Prop := packetCodesRow.holds Try.pinned (OpenSpec.ofChange packetCodesWrong)

/-- 'rosettelaw22.PacketBack': WHATEVER THE INPUT: true; the input reads as it did. -/
def packetBackSpec : ChangeSpec := { name := "packetBack", fn := fun _ => fun
  | [d1, d2] => { results := [.lit (.bool true)], args := [d1, d2] }
  | _ => none }
def packetBackRow : OpenClaim := { program := "yticpcjjgdkbcjaa", sum := "fd4256e6af99d6c0abb0144ceae63f47b360e089c582c04a70c5e7818b756252", func := "rosette/rosettelaw22.PacketBack", spec := "packetBack", apart := false }
def PacketBackSaid : Prop := packetBackRow.holds Try.pinned (OpenSpec.ofChange packetBackSpec)

/-- ITS FALSE NEIGHBOUR: 'it returns false'. Refute it at one input. -/
def packetBackWrong : ChangeSpec := { name := "packetBack", fn := fun _ => fun
  | [d1, d2] => { results := [.lit (.bool false)], args := [d1, d2] }
  | _ => none }
def PacketBackWrongFalsely : Prop := packetBackRow.holds Try.pinned (OpenSpec.ofChange packetBackWrong)

/-- 'rosettelaw22.PacketTurned': WHATEVER THE INPUT: true; the input reads as it did. -/
def packetTurnedSpec : ChangeSpec := { name := "packetTurned", fn := fun _ => fun
  | [d1, d2, d3, d4] => { results := [.lit (.bool true)], args := [d1, d2, d3, d4] }
  | _ => none }
def packetTurnedRow : OpenClaim := { program := "yticpcjjgdkbcjaa", sum := "fd4256e6af99d6c0abb0144ceae63f47b360e089c582c04a70c5e7818b756252", func := "rosette/rosettelaw22.PacketTurned", spec := "packetTurned", apart := false }
def PacketTurnedSaid : Prop := packetTurnedRow.holds Try.pinned (OpenSpec.ofChange packetTurnedSpec)

/-- ITS FALSE NEIGHBOUR: 'it returns false'. Refute it at one input. -/
def packetTurnedWrong : ChangeSpec := { name := "packetTurned", fn := fun _ => fun
  | [d1, d2, d3, d4] => { results := [.lit (.bool false)], args := [d1, d2, d3, d4] }
  | _ => none }
def PacketTurnedWrongFalsely : Prop := packetTurnedRow.holds Try.pinned (OpenSpec.ofChange packetTurnedWrong)

/-- 'rosettelaw22.PacketPieces': WHATEVER THE INPUT: true; the input reads as it did. -/
def packetPiecesSpec : ChangeSpec := { name := "packetPieces", fn := fun _ => fun
  | [d] => { results := [.lit (.bool true)], args := [d] }
  | _ => none }
def packetPiecesRow : OpenClaim := { program := "yticpcjjgdkbcjaa", sum := "fd4256e6af99d6c0abb0144ceae63f47b360e089c582c04a70c5e7818b756252", func := "rosette/rosettelaw22.PacketPieces", spec := "packetPieces", apart := false }
def PacketPiecesSaid : Prop := packetPiecesRow.holds Try.pinned (OpenSpec.ofChange packetPiecesSpec)

/-- ITS FALSE NEIGHBOUR: 'it returns false'. Refute it at one input. -/
def packetPiecesWrong : ChangeSpec := { name := "packetPieces", fn := fun _ => fun
  | [d] => { results := [.lit (.bool false)], args := [d] }
  | _ => none }
def PacketPiecesWrongFalsely : Prop := packetPiecesRow.holds Try.pinned (OpenSpec.ofChange packetPiecesWrong)

/-- 'rosettelaw22.PacketCuts': WHATEVER THE INPUT: true; the input reads as it did. -/
def packetCutsSpec : ChangeSpec := { name := "packetCuts", fn := fun _ => fun
  | [d1, d2, d3] => { results := [.lit (.bool true)], args := [d1, d2, d3] }
  | _ => none }
def packetCutsRow : OpenClaim := { program := "yticpcjjgdkbcjaa", sum := "fd4256e6af99d6c0abb0144ceae63f47b360e089c582c04a70c5e7818b756252", func := "rosette/rosettelaw22.PacketCuts", spec := "packetCuts", apart := false }
def PacketCutsSaid : Prop := packetCutsRow.holds Try.pinned (OpenSpec.ofChange packetCutsSpec)

/-- ITS FALSE NEIGHBOUR: 'it returns false'. Refute it at one input. -/
def packetCutsWrong : ChangeSpec := { name := "packetCuts", fn := fun _ => fun
  | [d1, d2, d3] => { results := [.lit (.bool false)], args := [d1, d2, d3] }
  | _ => none }
def PacketCutsWrongFalsely : Prop := packetCutsRow.holds Try.pinned (OpenSpec.ofChange packetCutsWrong)

/- THE SECOND FORM. 'bulk': how many values and letters a reading holds, each counted each time it is reached (what is shared counts as often as it is met; a slice's spare places count too). A statement '..UptoSaid' is the law's where the arguments, and the package variables that the reading takes, are together of bulk at most 1048576: NARROWER than '..Said'. Prove '..Said' where nothing that the law and all that it calls make is longer than what came in: it says more and counts as full. Else prove '..UptoSaid'. A law counts once. -/
mutual
def uptoBulk {H : Type} : DataW H → Nat
  | .lit (.string bytes) => bytes.length + 1
  | .lit _ => 1
  | .nil => 1
  | .ptr d => uptoBulk d + 1
  | .slice elems spare => uptoBulkAll elems + uptoBulkAll spare + 1
  | .agg parts => uptoBulkAll parts + 1
  | .iface _ d => uptoBulk d + 1
  | .map entries => uptoBulkEntries entries + 1
  | .held _ => 1
def uptoBulkAll {H : Type} : List (DataW H) → Nat
  | [] => 0
  | d :: r => uptoBulk d + uptoBulkAll r
def uptoBulkEntries {H : Type} : List (Lit × DataW H) → Nat
  | [] => 0
  | x :: r => uptoBulkEntry x + uptoBulkEntries r
def uptoBulkEntry {H : Type} : Lit × DataW H → Nat
  | (.string bytes, d) => bytes.length + uptoBulk d + 1
  | (_, d) => uptoBulk d + 1
 end
def uptoSmall : (H : Type) → List (DataW H) → Bool := fun _ ds => decide (uptoBulkAll ds ≤ 1048576)
def OpenSpec.upto (s : _root_.Go.ChangeSpec) : _root_.Go.OpenSpec := { _root_.Go.OpenSpec.ofChange s with cond := some uptoSmall }

/-- 'rosettelaw22.PacketCodes', WHERE WHAT IT READS IS OF BULK AT MOST 1048576: true; the input reads as it did. -/
def packetCodesUptoRow : OpenClaim := { program := "yticpcjjgdkbcjaa", sum := "fd4256e6af99d6c0abb0144ceae63f47b360e089c582c04a70c5e7818b756252", func := "rosette/rosettelaw22.PacketCodes", spec := "packetCodes", apart := false, narrowed := true }
def PacketCodesUptoSaid : Prop := packetCodesUptoRow.holds Try.pinned (OpenSpec.upto packetCodesSpec)

/-- 'rosettelaw22.PacketBack', WHERE WHAT IT READS IS OF BULK AT MOST 1048576: true; the input reads as it did. -/
def packetBackUptoRow : OpenClaim := { program := "yticpcjjgdkbcjaa", sum := "fd4256e6af99d6c0abb0144ceae63f47b360e089c582c04a70c5e7818b756252", func := "rosette/rosettelaw22.PacketBack", spec := "packetBack", apart := false, narrowed := true }
def PacketBackUptoSaid : Prop := packetBackUptoRow.holds Try.pinned (OpenSpec.upto packetBackSpec)

/-- 'rosettelaw22.PacketTurned', WHERE WHAT IT READS IS OF BULK AT MOST 1048576: true; the input reads as it did. -/
def packetTurnedUptoRow : OpenClaim := { program := "yticpcjjgdkbcjaa", sum := "fd4256e6af99d6c0abb0144ceae63f47b360e089c582c04a70c5e7818b756252", func := "rosette/rosettelaw22.PacketTurned", spec := "packetTurned", apart := false, narrowed := true }
def PacketTurnedUptoSaid : Prop := packetTurnedUptoRow.holds Try.pinned (OpenSpec.upto packetTurnedSpec)

/-- 'rosettelaw22.PacketPieces', WHERE WHAT IT READS IS OF BULK AT MOST 1048576: true; the input reads as it did. -/
def packetPiecesUptoRow : OpenClaim := { program := "yticpcjjgdkbcjaa", sum := "fd4256e6af99d6c0abb0144ceae63f47b360e089c582c04a70c5e7818b756252", func := "rosette/rosettelaw22.PacketPieces", spec := "packetPieces", apart := false, narrowed := true }
def PacketPiecesUptoSaid : Prop := packetPiecesUptoRow.holds Try.pinned (OpenSpec.upto packetPiecesSpec)

/-- 'rosettelaw22.PacketCuts', WHERE WHAT IT READS IS OF BULK AT MOST 1048576: true; the input reads as it did. -/
def packetCutsUptoRow : OpenClaim := { program := "yticpcjjgdkbcjaa", sum := "fd4256e6af99d6c0abb0144ceae63f47b360e089c582c04a70c5e7818b756252", func := "rosette/rosettelaw22.PacketCuts", spec := "packetCuts", apart := false, narrowed := true }
def PacketCutsUptoSaid : Prop := packetCutsUptoRow.holds Try.pinned (OpenSpec.upto packetCutsSpec)

end Rows
end Go.Proofs.Yticpcjjgdkbcjaa
