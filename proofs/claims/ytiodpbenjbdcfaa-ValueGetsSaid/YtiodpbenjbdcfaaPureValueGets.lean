import Derived.Test.YtiodpbenjbdcfaaRowValueGets
import Derived.Test.YtiodpbenjbdcfaaWirePure
namespace Go.Proofs.Ytiodpbenjbdcfaa.Pure
open Go.RowKit Go.Proofs.Ytiodpbenjbdcfaa.G Go.Proofs.Ytiodpbenjbdcfaa
theorem ValueGets : rosettelaw04_ValueGets.Pure := by
  intro l0 a1 _ h1 h2 h3
  have b1 := Go.bounds_i64 h3
  unfold rosettelaw04_ValueGets.f
  rw [if_pos ⟨by omega, u8s_wf h2, by omega⟩]
end Go.Proofs.Ytiodpbenjbdcfaa.Pure
