/- The reference: Answer, Send. -/
import Derived.Test.YtfdahmicigpnoaaGreatNeRw
import Derived.Test.YtfdahmicigpnoaaGreatNePq
import Derived.Test.YtfdahmicigpnoaaGreatK9
import Derived.Test.YtfdahmicigpnoaaGreatK7
set_option maxRecDepth 100000
set_option maxHeartbeats 16000000
namespace Go.Proofs.YtfdahmicigpnoaaGreat
open Go.RowKit Go.Shelf
set_option linter.unusedVariables false
theorem dslice_at (b0 of0 n c k:Nat) (h:k < n) (hc:n ≤ c):∃ (A1:Option Addr) (c1:Nat),(∀ B W (ds:List (Int × Int)) (hk:k < ds.length),Digs B W (some ⟨b0,of0,none⟩) ds → Digs B W A1 [ds[k]]) ∧ ∀ W,(Instr.slice 24 (.slice (some ⟨b0,of0,none⟩) n c) (some (.int .i64 k)) (some (.int .i64 (k + 1))) none).run Tryz.prog W = .ok (.slice A1 1 c1) W:=by
 refine ⟨if c=k then some ⟨b0,of0,none⟩ else (some ⟨b0,of0,none⟩:Option Addr).map (·.add (k * 2)),c - k,fun B W ps hl hp=>?_,fun W=>?_⟩
 ·rw [if_neg (by omega)]
  intro i hi
  obtain ⟨b,off,ha,hlt,h0,h1⟩:=hp k hl
  cases ha
  obtain rfl:i=0:=by simpa using hi
  refine ⟨b0,of0 + k * 2,by simp [Go.WideShapes.add_plain],hlt,?_,?_⟩
  ·simpa using h0
  ·simpa using h1
 ·rw [run_slice_lh (P:=Tryz.prog) W 24 (some ⟨b0,of0,none⟩) n c (by kernel_rfl) .i64 .i64 k (k + 1) (by omega) (by omega) (by omega),size_dig]
  simp [sliced,Result.andThen]
  try omega
end Go.Proofs.YtfdahmicigpnoaaGreat
