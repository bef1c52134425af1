import Derived.Test.YtiodpbenjbdcfaaRowValueBack
import Derived.Test.YtiodpbenjbdcfaaWirePure
namespace Go.Proofs.Ytiodpbenjbdcfaa.Pure
open Go.RowKit Go.Proofs.Ytiodpbenjbdcfaa.G Go.Proofs.Ytiodpbenjbdcfaa
theorem ValueBack : rosettelaw04_ValueBack.Pure := by
  intro k i t l1 h1 h2 h3 _ h5 h6
  have b2 := Go.bounds_i64 h2
  unfold rosettelaw04_ValueBack.f
  rw [if_pos ⟨by omega, u8s_wf h6, by omega⟩]
end Go.Proofs.Ytiodpbenjbdcfaa.Pure
