/- Joined texts: HiRa, HiRd, HiRe, HiRf, HiRg, HiRh. -/
import Derived.Test.YtkedhdcnakhbgaaGreatK12
import Derived.Test.YtkedhdcnakhbgaaGreatK10
import Derived.Test.YtkedhdcnakhbgaaGreatK11
/- The reference's all; rows of numbers. -/
set_option linter.unusedSimpArgs false
set_option maxRecDepth 100000
set_option maxHeartbeats 16000000
namespace Go.Proofs.YtkedhdcnakhbgaaGreat
open Go.RowKit Go.Shelf
set_option linter.unusedVariables false
theorem pQ:∀(l:Qd) (d:Int×Int),(mE l d).length<=l.length+1
 | [],d=>by simp[mE]
 | y::l,d=>by
  have:=pQ l d;rw[pR];split
  ·simp; omega
  ·split <;> simp
