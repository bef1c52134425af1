-- Written by a program of this session (wip/tools/myprint.py), over the kit's print.
import Derived.Test.YtiodpbenjbdcfaaGM0
import Derived.Test.YtiodpbenjbdcfaaSmall04
namespace Go.Proofs.Ytiodpbenjbdcfaa.G
open Go.RowKit Go.Proofs.YtiodpbenjbdcfaaW.PrintWords Go.Proofs.YtiodpbenjbdcfaaW.PrintLast Go.Proofs.YtiodpbenjbdcfaaW.PrintMore
attribute [local go_sem] max2_int min2_int max_two min_two max_three min_three max_four min_four   -- for this text's walks alone
set_option linter.unusedVariables false
set_option linter.unusedSimpArgs false

-- BY HAND
-- IMPORT YtiodpbenjbdcfaaSmall04
def rosettelaw04_small.f : Option Bool := some true
theorem rosettelaw04_small.calls (r : Bool) (w : World) (h : rosettelaw04_small.f = some r) :
    Calls Try.prog 8 #[] w fun e w' => e = .returned (.bool r) ∧ Below w.heap.size w w' := by
  obtain rfl : true = r := Option.some.inj h
  exact small_any w

end Go.Proofs.Ytiodpbenjbdcfaa.G
