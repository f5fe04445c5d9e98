/- Packs on paper: a pack for one who has some objects is not longer. -/
import Derived.Test.YtijkieiihpiljaaGreatP8
set_option maxRecDepth 100000
set_option maxHeartbeats 16000000
open Go.Lib (hid)
namespace Go.Proofs.YtijkieiihpiljaaGreat
open Go.RowKit
set_option linter.unusedVariables false
def pickM (tx:Dg->Nat):List Dg->Nat->Nat
 | [],m=>m
 | c :: cs,m=>if tx c < m then pickM tx cs (tx c) else pickM tx cs m
theorem pickM_mono {tx:Dg->Nat}:∀ (cs:List Dg) {m m':Nat},m'<=m->pickM tx cs m'<=pickM tx cs m
 | [],m,m',h=>h
 | c :: cs,m,m',h=>by
  rw [pickM,pickM]
  by_cases e:tx c < m'
  ·rw [if_pos e,if_pos (by omega)]; exact Nat.le_refl _
  ·rw [if_neg e]
   by_cases e2:tx c < m
   ·rw [if_pos e2]; exact pickM_mono cs (by omega)
   ·rw [if_neg e2]; exact pickM_mono cs h
theorem pickM_low {tx:Dg->Nat}:∀ (cs:List Dg) (m:Nat),pickM tx cs m<=m
 | [],m=>Nat.le_refl _
 | c :: cs,m=>by
  rw [pickM]
  by_cases e:tx c < m
  ·rw [if_pos e]; have:=pickM_low (tx:=tx) cs (tx c); omega
  ·rw [if_neg e]; exact pickM_low cs m
theorem pickM_app {tx:Dg->Nat}:∀ (bs cs:List Dg) (m:Nat),pickM tx (bs ++ cs) m=pickM tx cs (pickM tx bs m)
 | [],cs,m=>rfl
 | c :: bs,cs,m=>by
  rw [List.cons_append,pickM,pickM]
  by_cases e:tx c < m
  ·rw [if_pos e,if_pos e]; exact pickM_app bs cs _
  ·rw [if_neg e,if_neg e]; exact pickM_app bs cs _
theorem pickR_val {tx:Dg->Nat}:∀ (cs:List Dg) (m:Nat) (r:Option Dg),(pickR tx cs m r=r/\pickM tx cs m=m)\/∃ c,pickR tx cs m r=some c/\tx c=pickM tx cs m/\pickM tx cs m < m
 | [],m,r=>.inl ⟨rfl,rfl⟩
 | c :: cs,m,r=>by
  rw [pickR,pickM]
  by_cases e:tx c < m
  ·rw [if_pos e,if_pos e]
   rcases pickR_val cs (tx c) (some c) with ⟨h1,h2⟩ | ⟨c',h1,h2,h3⟩
   ·exact .inr ⟨c,h1,by omega,by omega⟩
   ·exact .inr ⟨c',h1,h2,by omega⟩
  ·rw [if_neg e,if_neg e]
   exact pickR_val cs m r
theorem entB_len (xs:List Itm) (d:Dg) (cs:List Dg):∃ m,m=pickM (fun c=>(txS xs d c).length) cs ((putX (datD xs d)).length - 16)/\
  (entB xs d (chosen xs d cs)).length=17 + (if m < (putX (datD xs d)).length - 16 then 16 + m else (putX (datD xs d)).length):=by
 refine ⟨_,rfl,?_⟩
 have e0:(Cw.enc 0).length=1:=by decide +kernel
 have e1:(Cw.enc 1).length=1:=by decide +kernel
 unfold chosen
 rcases pickR_val (tx:=fun c=>(txS xs d c).length) cs ((putX (datD xs d)).length - 16) none with ⟨h1,h2⟩ | ⟨c,h1,h2,h3⟩
 ·rw [h1,h2,if_neg (by omega)]
  unfold entB
  simp only [List.length_append,beD_length,e0]
  omega
 ·rw [h1,if_pos h3,<-h2]
  unfold entB
  simp only [List.length_append,beD_length,e1]
  omega
theorem flat_le {f g:Nat->List UInt8} (h:∀ i,(f i).length<=(g i).length):∀ l:List Nat,(l.flatMap f).length<=(l.flatMap g).length
 | []=>Nat.le_refl _
 | i :: l=>by
  rw [List.flatMap_cons,List.flatMap_cons,List.length_append,List.length_append]
  have h1:=h i
  have h2:=flat_le h l
  omega
theorem seal_len (b:List UInt8):(sealS b).length=b.length + 16:=by unfold sealS; rw [List.length_append,beD_length]
theorem flat_bound {f:Nat->List UInt8} {m:Nat} (h:∀ i,(f i).length<=m):∀ l:List Nat,(l.flatMap f).length<=l.length * m
 | []=>by simp
 | i :: l=>by
  rw [List.flatMap_cons,List.length_append,List.length_cons,Nat.succ_mul]
  have h1:=h i
  have h2:=flat_bound h l
  omega
theorem pack_len {xs:List Itm} (hd:∀ x ∈ xs,x.data.length<=1000) (l base:List Dg):(packS xs l base).1.length<=26 + l.length * 1027:=by
 unfold packS
 split
 ·simp
 ·simp only [seal_len]
  unfold packB
  rw [List.length_append]
  have h1:=enc_length l.length
  have h2:=flat_bound (f:=entI xs l base) (m:=1027) (fun i=>by
   unfold entI
   obtain ⟨m,hm,h⟩:=entB_len xs (l.getD i (0,0)) (base ++ l.take i)
   rw [h]
   have h3:(datD xs (l.getD i (0,0))).length<=1000:=by
    unfold datD datI
    cases hx:xs.find? (fun x=>decide (x.d=l.getD i (0,0))) with
    | none=>simp
    | some x=>exact hd x (List.mem_of_find?_eq_some hx)
   have h4:=enc_length (datD xs (l.getD i (0,0))).length
   have h5:(putX (datD xs (l.getD i (0,0)))).length=(Cw.enc (datD xs (l.getD i (0,0))).length).length + (datD xs (l.getD i (0,0))).length:=by unfold putX; rw [List.length_append]
   split <;> omega) (List.range l.length)
  rw [List.length_range] at h2
  omega
theorem pack_ok {xs:List Itm} {l base:List Dg} (h:packE xs l base=0):packS xs l base=(sealS (packB xs l base),0):=by
 unfold packS
 rw [if_neg (by simpa using h)]
theorem size_law (xs:List Itm) (l base:List Dg):(packS xs l base).2 ≠ 0\/((packS xs l []).2=0/\(packS xs l base).1.length<=(packS xs l []).1.length):=by
 by_cases he:packE xs l base=0
 ·refine .inr ?_
  have h0:packE xs l []=0:=by
   unfold packE at he ⊢
   by_cases h1:1000 < l.length
   ·rw [if_pos h1] at he; simp at he
   ·rw [if_neg h1] at he ⊢
    by_cases h2:pkE xs l [] ≠ 0
    ·rw [if_pos h2] at he; exact absurd he h2
    ·rw [if_neg h2]; rfl
  rw [pack_ok he,pack_ok h0]
  refine ⟨rfl,?_⟩
  simp only [seal_len]
  unfold packB
  simp only [List.length_append]
  have key:=flat_le (f:=entI xs l base) (g:=entI xs l []) (fun i=>by
   unfold entI
   obtain ⟨m,hm,h1⟩:=entB_len xs (l.getD i (0,0)) (base ++ l.take i)
   obtain ⟨m',hm',h2⟩:=entB_len xs (l.getD i (0,0)) ([] ++ l.take i)
   rw [h1,h2]
   have h3:m<=m':=by
    rw [hm,hm',pickM_app,List.nil_append]
    exact pickM_mono _ (pickM_low _ _)
   split <;> split <;> omega) (List.range l.length)
  omega
 ·refine .inl ?_
  unfold packS
  rw [if_pos he]
  exact he
end Go.Proofs.YtijkieiihpiljaaGreat
