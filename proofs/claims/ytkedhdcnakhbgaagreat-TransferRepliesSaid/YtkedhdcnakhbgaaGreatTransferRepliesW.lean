/- TransferReplies: the law's walk. -/
import Derived.Test.YtkedhdcnakhbgaaGreatT4
import Derived.Test.YtkedhdcnakhbgaaGreatT3
import Derived.Test.YtkedhdcnakhbgaaGreatT2
set_option linter.unusedSimpArgs false
set_option maxRecDepth 100000
set_option maxHeartbeats 16000000
namespace Go.Proofs.YtkedhdcnakhbgaaGreat.transferReplies
open Go.RowKit
theorem walk(x:Fet)(A:Sz)(a:Qa)(z:List Itm)(c:Nat)(W:World)(w:PW W x A)(g:PZ W a z c):Qh 9 #[.agg (x.arr A),.slice a z.length c] W (Xz (.bool true) W):=SE WY x A z a c W w g
