import Derived.Test.YtkbpkoiihgkkiaaG21
import Derived.Test.YtkbpkoiihgkkiaaWirePure
namespace Go.Proofs.Ytkbpkoiihgkkiaa.Pure
open Go.RowKit Go.Proofs.Ytkbpkoiihgkkiaa.G Go.Proofs.Ytkbpkoiihgkkiaa
theorem WireLays : rosettelaw02_WireLays.Pure := by
  intro l0 a1 a2 a3 _ h1 h2 h3 h4 _
  have b1 := Go.bounds_u64 h3
  have b2 := Go.bounds_i64 h4
  unfold rosettelaw02_WireLays.f
  rw [if_pos ⟨by omega, u8s_wf h2, by omega, by omega⟩]
end Go.Proofs.Ytkbpkoiihgkkiaa.Pure
