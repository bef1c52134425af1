/-
  No cell of these rows narrows 'for every input' (looked for: loops, veiled, ifaces, maps, wideKeys, modest, calm, conditions, laid).
  DERIVED. THE GIVEN ROWS OF THIS SEAT. 5 by the template 'for every input the law returns true; each argument reads behind the call as it read before'; 0 by the template 'total and deterministic' (their statements: YtmbpgebboppkmaaTotals.lean).
  GIVEN WITH THE SEED: the statements are not yours to turn. If you find one false, say at which input.
  Laid BY PROGRAM, IN A SANDBOX (cutbox-rows.mjs): the forced cells as the released guide's own fill.sh prints them over the translation 6b90dba725ca4585… (all of the seat's roots in one cut). By AI agents, Wed Nov 11 2026. No macro, syntax, notation, axiom, sorry.
-/
import Derived.Test.YtmbpgebboppkmaaChecked
import GoSem.Claim
import GoSem.ClaimJoined
import GoSem.ClaimMapViews
import Derived.JoinedTies
import Derived.KernelRfl
namespace Go.Proofs.Ytmbpgebboppkmaa
/- THE CELL 'sum', in the pinned program and in every row, IS THE sha256 OF THE DUMP (.gsa) THAT YtmbpgebboppkmaaProg.lean LOADS. Nothing in Lean hashes anything: it is a label: what it is worth is what the hold of that sum in a sandbox is worth. -/
noncomputable def Try.pinned : Pinned := { name := "ytmbpgebboppkmaa", sum := "6b90dba725ca45859656745a1c6c8a0c6653114b7452d593709216d44a8e07cd", checked := Try.checked }
namespace Rows
def none {H : Type} : Left H := { results := [], args := [] }

/-- 'rosettelaw05.EventMakes': WHATEVER THE INPUT: true; the input reads as it did. -/
def eventMakesSpec : ChangeSpec := { name := "eventMakes", fn := fun _ => fun
  | [d] => { results := [.lit (.bool true)], args := [d] }
  | _ => none }
def eventMakesRow : OpenClaim := { program := "ytmbpgebboppkmaa", sum := "6b90dba725ca45859656745a1c6c8a0c6653114b7452d593709216d44a8e07cd", func := "rosette/rosettelaw05.EventMakes", spec := "eventMakes", inPlace := ["internal/bytealg.abigen_runtime_cmpstring"], unfollowed := true, recurses := true, apart := false }
def EventMakesSaid : Prop := eventMakesRow.holds Try.pinned (OpenSpec.ofChange eventMakesSpec)

/-- ITS FALSE NEIGHBOUR: 'it returns false'. Refute it at one input. -/
def eventMakesWrong : ChangeSpec := { name := "eventMakes", fn := fun _ => fun
  | [d] => { results := [.lit (.bool false)], args := [d] }
  | _ => none }
def EventMakesWrongFalsely : Prop := eventMakesRow.holds Try.pinned (OpenSpec.ofChange eventMakesWrong)

/-- 'rosettelaw05.EventGets': WHATEVER THE INPUT: true; the input reads as it did. -/
def eventGetsSpec : ChangeSpec := { name := "eventGets", fn := fun _ => fun
  | [d1, d2] => { results := [.lit (.bool true)], args := [d1, d2] }
  | _ => none }
def eventGetsRow : OpenClaim := { program := "ytmbpgebboppkmaa", sum := "6b90dba725ca45859656745a1c6c8a0c6653114b7452d593709216d44a8e07cd", func := "rosette/rosettelaw05.EventGets", spec := "eventGets", inPlace := ["internal/bytealg.abigen_runtime_cmpstring"], unfollowed := true, recurses := true, apart := false }
def EventGetsSaid : Prop := eventGetsRow.holds Try.pinned (OpenSpec.ofChange eventGetsSpec)

/-- ITS FALSE NEIGHBOUR: 'it returns false'. Refute it at one input. -/
def eventGetsWrong : ChangeSpec := { name := "eventGets", fn := fun _ => fun
  | [d1, d2] => { results := [.lit (.bool false)], args := [d1, d2] }
  | _ => none }
def EventGetsWrongFalsely : Prop := eventGetsRow.holds Try.pinned (OpenSpec.ofChange eventGetsWrong)

/-- 'rosettelaw05.EventOrders': WHATEVER THE INPUT: true; the input reads as it did. -/
def eventOrdersSpec : ChangeSpec := { name := "eventOrders", fn := fun _ => fun
  | [d1, d2] => { results := [.lit (.bool true)], args := [d1, d2] }
  | _ => none }
def eventOrdersRow : OpenClaim := { program := "ytmbpgebboppkmaa", sum := "6b90dba725ca45859656745a1c6c8a0c6653114b7452d593709216d44a8e07cd", func := "rosette/rosettelaw05.EventOrders", spec := "eventOrders", inPlace := ["internal/bytealg.abigen_runtime_cmpstring"], unfollowed := true, recurses := true, apart := false }
def EventOrdersSaid : Prop := eventOrdersRow.holds Try.pinned (OpenSpec.ofChange eventOrdersSpec)

/-- ITS FALSE NEIGHBOUR: 'it returns false'. Refute it at one input. -/
def eventOrdersWrong : ChangeSpec := { name := "eventOrders", fn := fun _ => fun
  | [d1, d2] => { results := [.lit (.bool false)], args := [d1, d2] }
  | _ => none }
def EventOrdersWrongFalsely : Prop := eventOrdersRow.holds Try.pinned (OpenSpec.ofChange eventOrdersWrong)

/-- 'rosettelaw05.EventLess': WHATEVER THE INPUT: true; the input reads as it did. -/
def eventLessSpec : ChangeSpec := { name := "eventLess", fn := fun _ => fun
  | [d1, d2] => { results := [.lit (.bool true)], args := [d1, d2] }
  | _ => none }
def eventLessRow : OpenClaim := { program := "ytmbpgebboppkmaa", sum := "6b90dba725ca45859656745a1c6c8a0c6653114b7452d593709216d44a8e07cd", func := "rosette/rosettelaw05.EventLess", spec := "eventLess", inPlace := ["internal/bytealg.abigen_runtime_cmpstring"], unfollowed := true, recurses := true, apart := false }
def EventLessSaid : Prop := eventLessRow.holds Try.pinned (OpenSpec.ofChange eventLessSpec)

/-- ITS FALSE NEIGHBOUR: 'it returns false'. Refute it at one input. -/
def eventLessWrong : ChangeSpec := { name := "eventLess", fn := fun _ => fun
  | [d1, d2] => { results := [.lit (.bool false)], args := [d1, d2] }
  | _ => none }
def EventLessWrongFalsely : Prop := eventLessRow.holds Try.pinned (OpenSpec.ofChange eventLessWrong)

/-- 'rosettelaw05.EventMay': WHATEVER THE INPUT: true; the input reads as it did. -/
def eventMaySpec : ChangeSpec := { name := "eventMay", fn := fun _ => fun
  | [d] => { results := [.lit (.bool true)], args := [d] }
  | _ => none }
def eventMayRow : OpenClaim := { program := "ytmbpgebboppkmaa", sum := "6b90dba725ca45859656745a1c6c8a0c6653114b7452d593709216d44a8e07cd", func := "rosette/rosettelaw05.EventMay", spec := "eventMay", inPlace := ["internal/bytealg.abigen_runtime_cmpstring"], unfollowed := true, recurses := true, apart := false }
def EventMaySaid : Prop := eventMayRow.holds Try.pinned (OpenSpec.ofChange eventMaySpec)

/-- ITS FALSE NEIGHBOUR: 'it returns false'. Refute it at one input. -/
def eventMayWrong : ChangeSpec := { name := "eventMay", fn := fun _ => fun
  | [d] => { results := [.lit (.bool false)], args := [d] }
  | _ => none }
def EventMayWrongFalsely : Prop := eventMayRow.holds Try.pinned (OpenSpec.ofChange eventMayWrong)

/- THE SECOND FORM. 'bulk': how many values and letters a reading holds, each counted each time it is reached (what is shared counts as often as it is met; a slice's spare places count too). A statement '..UptoSaid' is the law's where the arguments, and the package variables that the reading takes, are together of bulk at most 1048576: NARROWER than '..Said'. Prove '..Said' where nothing that the law and all that it calls make is longer than what came in: it says more and counts as full. Else prove '..UptoSaid'. A law counts once. -/
mutual
def uptoBulk {H : Type} : DataW H → Nat
  | .lit (.string bytes) => bytes.length + 1
  | .lit _ => 1
  | .nil => 1
  | .ptr d => uptoBulk d + 1
  | .slice elems spare => uptoBulkAll elems + uptoBulkAll spare + 1
  | .agg parts => uptoBulkAll parts + 1
  | .iface _ d => uptoBulk d + 1
  | .map entries => uptoBulkEntries entries + 1
  | .held _ => 1
def uptoBulkAll {H : Type} : List (DataW H) → Nat
  | [] => 0
  | d :: r => uptoBulk d + uptoBulkAll r
def uptoBulkEntries {H : Type} : List (Lit × DataW H) → Nat
  | [] => 0
  | x :: r => uptoBulkEntry x + uptoBulkEntries r
def uptoBulkEntry {H : Type} : Lit × DataW H → Nat
  | (.string bytes, d) => bytes.length + uptoBulk d + 1
  | (_, d) => uptoBulk d + 1
 end
def uptoSmall : (H : Type) → List (DataW H) → Bool := fun _ ds => decide (uptoBulkAll ds ≤ 1048576)
def OpenSpec.upto (s : _root_.Go.ChangeSpec) : _root_.Go.OpenSpec := { _root_.Go.OpenSpec.ofChange s with cond := some uptoSmall }

/-- 'rosettelaw05.EventMakes', WHERE WHAT IT READS IS OF BULK AT MOST 1048576: true; the input reads as it did. -/
def eventMakesUptoRow : OpenClaim := { program := "ytmbpgebboppkmaa", sum := "6b90dba725ca45859656745a1c6c8a0c6653114b7452d593709216d44a8e07cd", func := "rosette/rosettelaw05.EventMakes", spec := "eventMakes", inPlace := ["internal/bytealg.abigen_runtime_cmpstring"], unfollowed := true, recurses := true, apart := false, narrowed := true }
def EventMakesUptoSaid : Prop := eventMakesUptoRow.holds Try.pinned (OpenSpec.upto eventMakesSpec)

/-- 'rosettelaw05.EventGets', WHERE WHAT IT READS IS OF BULK AT MOST 1048576: true; the input reads as it did. -/
def eventGetsUptoRow : OpenClaim := { program := "ytmbpgebboppkmaa", sum := "6b90dba725ca45859656745a1c6c8a0c6653114b7452d593709216d44a8e07cd", func := "rosette/rosettelaw05.EventGets", spec := "eventGets", inPlace := ["internal/bytealg.abigen_runtime_cmpstring"], unfollowed := true, recurses := true, apart := false, narrowed := true }
def EventGetsUptoSaid : Prop := eventGetsUptoRow.holds Try.pinned (OpenSpec.upto eventGetsSpec)

/-- 'rosettelaw05.EventOrders', WHERE WHAT IT READS IS OF BULK AT MOST 1048576: true; the input reads as it did. -/
def eventOrdersUptoRow : OpenClaim := { program := "ytmbpgebboppkmaa", sum := "6b90dba725ca45859656745a1c6c8a0c6653114b7452d593709216d44a8e07cd", func := "rosette/rosettelaw05.EventOrders", spec := "eventOrders", inPlace := ["internal/bytealg.abigen_runtime_cmpstring"], unfollowed := true, recurses := true, apart := false, narrowed := true }
def EventOrdersUptoSaid : Prop := eventOrdersUptoRow.holds Try.pinned (OpenSpec.upto eventOrdersSpec)

/-- 'rosettelaw05.EventLess', WHERE WHAT IT READS IS OF BULK AT MOST 1048576: true; the input reads as it did. -/
def eventLessUptoRow : OpenClaim := { program := "ytmbpgebboppkmaa", sum := "6b90dba725ca45859656745a1c6c8a0c6653114b7452d593709216d44a8e07cd", func := "rosette/rosettelaw05.EventLess", spec := "eventLess", inPlace := ["internal/bytealg.abigen_runtime_cmpstring"], unfollowed := true, recurses := true, apart := false, narrowed := true }
def EventLessUptoSaid : Prop := eventLessUptoRow.holds Try.pinned (OpenSpec.upto eventLessSpec)

/-- 'rosettelaw05.EventMay', WHERE WHAT IT READS IS OF BULK AT MOST 1048576: true; the input reads as it did. -/
def eventMayUptoRow : OpenClaim := { program := "ytmbpgebboppkmaa", sum := "6b90dba725ca45859656745a1c6c8a0c6653114b7452d593709216d44a8e07cd", func := "rosette/rosettelaw05.EventMay", spec := "eventMay", inPlace := ["internal/bytealg.abigen_runtime_cmpstring"], unfollowed := true, recurses := true, apart := false, narrowed := true }
def EventMayUptoSaid : Prop := eventMayUptoRow.holds Try.pinned (OpenSpec.upto eventMaySpec)

end Rows
end Go.Proofs.Ytmbpgebboppkmaa
