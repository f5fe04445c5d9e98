/- What the reference's GetInt returns: the same as codec.GetInt. -/
import Derived.Test.YtlfodnehgedpmaaGetInt
namespace Go.Proofs.Ytlfodnehgedpmaa
open Go.RowKit

end Go.Proofs.Ytlfodnehgedpmaa
