/- TransferServe: the law's walk. -/
import Derived.Test.YtkedhdcnakhbgaaGreatT4
import Derived.Test.YtkedhdcnakhbgaaGreatT3
set_option linter.unusedSimpArgs false
set_option maxRecDepth 100000
set_option maxHeartbeats 16000000
namespace Go.Proofs.YtkedhdcnakhbgaaGreat.transferServe
open Go.RowKit
theorem walk(a:Qa)(z:List Itm)(c:Nat)(s:ByteArray)(_:s.size<=maxLen)(k:Int)(_:(Lit.int .i64 k).wf=true)(W:World)(w:PZ W a z c):Qh 4 #[.slice a z.length c,.string s,Yi k] W (Xz (.bool true) W):=tserve_any WY a z c s.data.toList k W w
