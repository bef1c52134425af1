import Derived.Test.YtkbpkoiihgkkiaaG30
import Derived.Test.YtkbpkoiihgkkiaaWirePure
namespace Go.Proofs.Ytkbpkoiihgkkiaa.Pure
open Go.RowKit Go.Proofs.Ytkbpkoiihgkkiaa.G Go.Proofs.Ytkbpkoiihgkkiaa
theorem WireOnce : rosettelaw02_WireOnce.Pure := by
  intro l0 _ h1 h2
  unfold rosettelaw02_WireOnce.f
  rw [if_pos ⟨by omega, u8s_wf h2⟩]
end Go.Proofs.Ytkbpkoiihgkkiaa.Pure
