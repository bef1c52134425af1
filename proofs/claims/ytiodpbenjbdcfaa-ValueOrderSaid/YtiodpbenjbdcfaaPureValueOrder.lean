import Derived.Test.YtiodpbenjbdcfaaRowValueOrder
namespace Go.Proofs.Ytiodpbenjbdcfaa.Pure
open Go.RowKit Go.Proofs.Ytiodpbenjbdcfaa.G
theorem ValueOrder : rosettelaw04_ValueOrder.Pure := fun _ _ _ _ _ _ _ _ _ _ _ _ _ _ _ _ _ _ => rfl
end Go.Proofs.Ytiodpbenjbdcfaa.Pure
