/- Packs on paper: a pack for one who has some objects is not longer. -/
import Derived.Test.YtijkieiihpiljaaGreatP8
set_option maxRecDepth 100000
set_option maxHeartbeats 16000000
open Go.Lib (hid)
namespace Go.Proofs.YtijkieiihpiljaaGreat
open Go.RowKit
set_option linter.unusedVariables false
def pickM (tx:Dg->Nat):List Dg->Nat->Nat
 | [],m=>m
 | c :: cs,m=>if tx c < m then pickM tx cs (tx c) else pickM tx cs m
theorem pickR_val {tx:Dg->Nat}:∀ (cs:List Dg) (m:Nat) (r:Option Dg),(pickR tx cs m r=r/\pickM tx cs m=m)\/∃ c,pickR tx cs m r=some c/\tx c=pickM tx cs m/\pickM tx cs m < m
 | [],m,r=>.inl ⟨rfl,rfl⟩
 | c :: cs,m,r=>by
  rw [pickR,pickM]
  by_cases e:tx c < m
  ·rw [if_pos e,if_pos e]
   rcases pickR_val cs (tx c) (some c) with ⟨h1,h2⟩ | ⟨c',h1,h2,h3⟩
   ·exact .inr ⟨c,h1,by omega,by omega⟩
   ·exact .inr ⟨c',h1,h2,by omega⟩
  ·rw [if_neg e,if_neg e]
   exact pickR_val cs m r
theorem entB_len (xs:List Itm) (d:Dg) (cs:List Dg):∃ m,m=pickM (fun c=>(txS xs d c).length) cs ((putX (datD xs d)).length - 16)/\
  (entB xs d (chosen xs d cs)).length=17 + (if m < (putX (datD xs d)).length - 16 then 16 + m else (putX (datD xs d)).length):=by
 refine ⟨_,rfl,?_⟩
 have e0:(Cw.enc 0).length=1:=by decide +kernel
 have e1:(Cw.enc 1).length=1:=by decide +kernel
 unfold chosen
 rcases pickR_val (tx:=fun c=>(txS xs d c).length) cs ((putX (datD xs d)).length - 16) none with ⟨h1,h2⟩ | ⟨c,h1,h2,h3⟩
 ·rw [h1,h2,if_neg (by omega)]
  unfold entB
  simp only [List.length_append,beD_length,e0]
  omega
 ·rw [h1,if_pos h3,<-h2]
  unfold entB
  simp only [List.length_append,beD_length,e1]
  omega
theorem flat_bound {f:Nat->List UInt8} {m:Nat} (h:∀ i,(f i).length<=m):∀ l:List Nat,(l.flatMap f).length<=l.length * m
 | []=>by simp
 | i :: l=>by
  rw [List.flatMap_cons,List.length_append,List.length_cons,Nat.succ_mul]
  have h1:=h i
  have h2:=flat_bound h l
  omega
theorem pack_ok {xs:List Itm} {l base:List Dg} (h:packE xs l base=0):packS xs l base=(sealS (packB xs l base),0):=by
 unfold packS
 rw [if_neg (by simpa using h)]
end Go.Proofs.YtijkieiihpiljaaGreat
