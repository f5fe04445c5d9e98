/- Pack at the example. -/
import Derived.Test.YtkedhdcnakhbgaaGreatTrZ
import Derived.Test.YtkedhdcnakhbgaaGreatP11
set_option linter.unusedSimpArgs false
set_option maxRecDepth 100000
set_option maxHeartbeats 16000000
namespace Go.Proofs.YtkedhdcnakhbgaaGreat
open Go.RowKit Go.Shelf
set_option linter.unusedVariables false
theorem okA:OkD dA:=by unfold dA OkD Ku; decide
theorem okAB:∀d∈[dA,dB],OkD d:=fun d A=>by
 rcases List.mem_cons.1 A with rfl | A
 ·exact okA
 ·rw[aH.1 A]
  exact okB
theorem packEx:PackEx:=fun a c la lc ba bc W C A=>by
 have E:exX.length=2:=rfl;have h:=PG (xs:=exX) (l:=[dA,dB]) (base:=[]) (pa:=a) (la:=la) (ba:=ba) (pc:=c) (lc:=lc) (bc:=bc) (w:=W) ⟨ascX,fun x B=>by
  rcases List.mem_cons.1 B with rfl | B
  ·exact okA
  ·rw[aH.1 B]
   exact okB,by decide,by decide,C.cap⟩ C.its A (fun i D=>(by simp at D)) okAB (fun d A=>(by cases A)) (by decide) (by decide) (by decide +kernel)
 rw[packX] at h;exact h
