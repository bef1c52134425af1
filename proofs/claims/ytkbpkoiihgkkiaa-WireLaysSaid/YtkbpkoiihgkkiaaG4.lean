-- Written by a program of this session (wip/tools/myprint.py), over the kit's print.
import Derived.Test.YtkbpkoiihgkkiaaG0
namespace Go.Proofs.Ytkbpkoiihgkkiaa.G
open Go.RowKit Go.Proofs.YtkbpkoiihgkkiaaW.PrintWords Go.Proofs.YtkbpkoiihgkkiaaW.PrintLast Go.Proofs.YtkbpkoiihgkkiaaW.PrintMore
attribute [local go_sem] max2_int min2_int max_two min_two max_three min_three max_four min_four   -- for this text's walks alone
set_option linter.unusedVariables false
set_option linter.unusedSimpArgs false

/-! ### wire_zig: function 32 -/
def wire_zig.f (a0 : Int) : Option (Int) := some (Go.bits .xor .u64 (IntKind.u64.wrap (wrap64 (a0 * 2))) (IntKind.u64.wrap (a0 / 9223372036854775808)))
set_option maxHeartbeats 8000000 in
set_option maxRecDepth 100000 in
theorem wire_zig.calls (a0 : Int) (r : Int) (w : World) (h : wire_zig.f a0 = some r) :
    Calls Try.prog 32 #[.int .i64 a0] w fun e w' => e = .returned (.int .u64 r) ∧ Drawn0 w w' := by
  have H : (some (Go.bits .xor .u64 (IntKind.u64.wrap (wrap64 (a0 * 2))) (IntKind.u64.wrap (a0 / 9223372036854775808)))) = some r := h
  clear h
  obtain rfl := Option.some.inj H
  go_enter Try.func32, Try.ntmps32
  go_wp2
  go_ret
  exact ⟨by first | rfl | (simp; done) | (simp [*]; done), by repeat (first | exact Drawn0.refl _ | apply Drawn0.step)⟩

end Go.Proofs.Ytkbpkoiihgkkiaa.G
