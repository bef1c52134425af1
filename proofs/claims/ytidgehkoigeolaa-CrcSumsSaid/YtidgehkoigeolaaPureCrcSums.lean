import Derived.Test.YtidgehkoigeolaaG16
import Derived.Test.YtidgehkoigeolaaCrcPure
namespace Go.Proofs.Ytidgehkoigeolaa.Pure
open Go.RowKit Go.Proofs.Ytidgehkoigeolaa.G Go.Proofs.YtidgehkoigeolaaW.PrintWords Go.Proofs.YtidgehkoigeolaaW.PrintLast
theorem CrcSums : rosettelaw01_CrcSums.Pure := by
  intro a0 l1 l2 h0 _ h1 h2 _ h3 h4
  have b0 := Go.bounds_u32 h0
  unfold rosettelaw01_CrcSums.f
  rw [if_pos ⟨by omega, by omega, u8s_wf h2, by omega, u8s_wf h4⟩]
end Go.Proofs.Ytidgehkoigeolaa.Pure
