/- The walks of drafts: whether two are the same, the draft of atoms. No condition. -/
import Derived.Test.YtaolimhbeoocjaaDr2
import Derived.Test.YtaolimhbeoocjaaDi
namespace Go.Proofs.Ytaolimhbeoocjaa
open Go.RowKit

def sameD (x y : Dr) : Bool := (x.neg == y.neg) && (x.sep == y.sep) && (x.int == y.int) && (x.frac == y.frac)
theorem sameD_refl (x : Dr) : sameD x x = true := by simp [sameD]

end Go.Proofs.Ytaolimhbeoocjaa
