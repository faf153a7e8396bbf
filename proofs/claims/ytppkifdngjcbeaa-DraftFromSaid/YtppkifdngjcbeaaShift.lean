/- The walk of the program's Shift. No condition. -/
import Derived.Test.YtppkifdngjcbeaaRb
namespace Go.Proofs.Ytppkifdngjcbeaa
open Go.RowKit

def shiftR (l : List Int) (k : Int) : List Int × Int := if mayL l then (if k < -1000 ∨ 1000 < k then ([], 3) else (shiftL l k, 0)) else ([], 1)

end Go.Proofs.Ytppkifdngjcbeaa
