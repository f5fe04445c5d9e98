/- Joined texts: HiVi, HiDw, HiDx, HiSo, HiSr, HiAn, HiBt, HiBs. -/
import Derived.Test.YtkedhdcnakhbgaaGreatK10
import Derived.Laws.EntriesVeiled
/- history.visit. -/
set_option linter.unusedSimpArgs false
set_option maxRecDepth 100000
set_option maxHeartbeats 16000000
namespace Go.Proofs.YtkedhdcnakhbgaaGreat
open Go.RowKit Go.Shelf
set_option linter.unusedVariables false
attribute [local go_sem] Oper.semAt_some
section
variable {xs:List Itm} {B b nb kd n kb mb db:Nat} {met:Qd} {A:Int×Int->Qa×Nat} {K:Int×Int->Option Nat} {W W':World}
end
open Go.RowKit Go.Shelf Go.Sort
def GotRo(w:World)(r:Qd×Int)(e:Ending)(w':World):Prop:=∃a c,e=.returned (.tuple #[.slice a r.1.length c,.int .i64 r.2])/\w'.ownsRow w.heap.size 54 2 (.slice a r.1.length c) r.1.length (aW r.1)/\PM w w'
section
variable {xs:List Itm} {w wr wr':World} {b1 n1 b2 n2 wd ri N1 cnt n:Nat} {l r:Qd} {A1 A2:Int×Int->Qa×Nat} {left:Int×Int->Bool} {M:Int×Int->Bool}
end
