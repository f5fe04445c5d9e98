/- TransferTrust: the law's walk. -/
import Derived.Test.YtkedhdcnakhbgaaGreatTrS
import Derived.Test.YtkedhdcnakhbgaaGreatTrK
set_option linter.unusedSimpArgs false
set_option maxRecDepth 100000
set_option maxHeartbeats 16000000
open Go.Lib (hid)
namespace Go.Proofs.YtkedhdcnakhbgaaGreat.transferTrust
open Go.RowKit
theorem walk(x:Fet)(A:FetA)(W:World)(w:FetCame W x A):Calls Tryz.prog 6 #[.agg (x.arr A)] W fun e w'=>e=.returned (.bool true)/\PM W w':=ttrust_any packEx x A W w
