/- TransferBegin: the law's walk. -/
import Derived.Test.YtkedhdcnakhbgaaGreatTbE
import Derived.Test.YtkedhdcnakhbgaaGreatTrK
set_option linter.unusedSimpArgs false
set_option maxRecDepth 100000
set_option maxHeartbeats 16000000
namespace Go.Proofs.YtkedhdcnakhbgaaGreat.transferBegin
open Go.RowKit
theorem walk(x:Fet)(A:FetA)(W:World)(w:FetCame W x A):Qh 3 #[.agg (x.arr A)] W fun e w'=>e=.returned (.bool true)/\PM W w':=tbegin_any packEx x A W w
