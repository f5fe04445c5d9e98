/- TransferTrust: the law's walk. -/
import Derived.Test.YtkedhdcnakhbgaaGreatTrO
import Derived.Test.YtkedhdcnakhbgaaGreatK5
set_option linter.unusedSimpArgs false
set_option maxRecDepth 100000
set_option maxHeartbeats 16000000
namespace Go.Proofs.YtkedhdcnakhbgaaGreat
open Go.RowKit Go.Shelf
set_option linter.unusedVariables false
theorem FetCame.below{W W':World}{x:Fet}{A:FetA}(h:FetCame W x A)(B:PM W W'):FetCame W' x A:=
 ⟨⟨h.h.its.ahead B,h.h.cap,h.h.dat⟩,⟨h.y.its.ahead B,h.y.cap,h.y.dat⟩,⟨h.w.dig.ahead B,h.w.cap,h.w.ok⟩,⟨h.c.dig.ahead B,h.c.cap,h.c.ok⟩,fun i E=>by
  obtain⟨b,off,e,C,D⟩:=h.t i E;exact⟨b,off,e,aO C B.size,(B.cell (p:=⟨b,off+i,none⟩) C).trans D⟩,h.tl⟩
