/- TransferHonest: the law's walk. -/
import Derived.Test.YtkedhdcnakhbgaaGreatT4
import Derived.Test.YtkedhdcnakhbgaaGreatT3
set_option linter.unusedSimpArgs false
set_option maxRecDepth 100000
set_option maxHeartbeats 16000000
namespace Go.Proofs.YtkedhdcnakhbgaaGreat.transferHonest
open Go.RowKit
theorem walk(x:Fet)(A:Sz)(a:Qa)(z:List Int)(c:Nat)(W:World)(w:PW W x A)(g:U16s W.heap.size W a z):Qh 7 #[.agg (x.arr A),.slice a z.length c] W (Xz (.bool true) W):=thonest_any WY x A a z c W w g
