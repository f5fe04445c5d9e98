/- TransferReceive: the law's walk. -/
import Derived.Test.YtkedhdcnakhbgaaGreatT4
import Derived.Test.YtkedhdcnakhbgaaGreatT3
set_option linter.unusedSimpArgs false
set_option maxRecDepth 100000
set_option maxHeartbeats 16000000
namespace Go.Proofs.YtkedhdcnakhbgaaGreat.transferReceive
open Go.RowKit
theorem walk(x:Fet)(A:Sz)(W:World)(w:PW W x A):Qh 5 #[.agg (x.arr A)] W (Xz (.bool true) W):=treceive_any WY x A W w
