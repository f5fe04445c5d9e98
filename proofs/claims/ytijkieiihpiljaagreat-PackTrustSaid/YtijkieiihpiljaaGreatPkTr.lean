/- Packs: what can be unpacked is a valid pool. -/
import Derived.Test.YtijkieiihpiljaaGreatP4
import Derived.Test.YtijkieiihpiljaaGreatK9
set_option maxRecDepth 100000
set_option maxHeartbeats 16000000
open Go.Lib (hid)
namespace Go.Proofs.YtijkieiihpiljaaGreat
open Go.RowKit Go.Shelf
set_option linter.unusedVariables false
theorem addS_parts {P Q:List Itm} {x:Itm} (h:addS P x=(Q,0)):chkI x=0/\insS P x=(Q,0):=by
 refine ⟨?_,addS_ok h⟩
 unfold addS at h
 by_cases hc:chkI x=0
 ·exact hc
 ·rw [if_pos hc] at h
  exact absurd (congrArg Prod.snd h) hc
theorem unGo_law {dat:Nat->List UInt8 × Int} {l:List Pe}:∀ (n k:Nat) (p Q:List Itm),n=l.length - k->k<=l.length->Asc p->(∀ y ∈ p,chkI y=0)->unGo dat l n k p=(Q,0)->
  Asc Q/\(∀ y ∈ Q,chkI y=0)/\(∀ y ∈ p,y ∈ Q)/\(∀ i (h:i < l.length),k<=i->(dat i).2=0/\(⟨l[i].d,(dat i).1⟩:Itm) ∈ Q)/\(∀ y ∈ Q,y ∈ p\/∃ e ∈ l,y.d=e.d)/\Q.length<=p.length + n:=by
 intro n
 induction n with
 | zero=>
  intro k p Q hn hk hp hc h
  unfold unGo at h
  cases h
  exact ⟨hp,hc,fun y hy=>hy,fun i hi hki=>by omega,fun y hy=>.inl hy,by omega⟩
 | succ n ih=>
  intro k p Q hn hk hp hc h
  have hkl:k < l.length:=by omega
  rw [unGo,List.getElem?_eq_getElem hkl] at h
  simp only at h
  by_cases h1:(dat k).2=0
  ·rw [if_neg (by simpa using h1)] at h
   by_cases h2:(addS p ⟨l[k].d,(dat k).1⟩).2=0
   ·rw [if_neg (by simpa using h2)] at h
    obtain ⟨c1,c2⟩:=addS_parts (P:=p) (Q:=(addS p ⟨l[k].d,(dat k).1⟩).1) (x:=⟨l[k].d,(dat k).1⟩) (Prod.ext rfl h2)
    obtain ⟨g1,g2,g3⟩:=ins_law hp c2
    obtain ⟨r1,r2,r3,r4,r5,r6⟩:=ih (k + 1) _ Q (by omega) (by omega) g1 (fun y hy=>by
     rcases (g2 y).1 hy with h5 | rfl
     ·exact hc y h5
     ·exact c1) h
    refine ⟨r1,r2,fun y hy=>r3 y ((g2 y).2 (.inl hy)),fun i hi hki=>?_,fun y hy=>?_,by omega⟩
    ·rcases Nat.lt_or_ge k i with h5 | h5
     ·exact r4 i hi (by omega)
     ·obtain rfl:i=k:=by omega
      exact ⟨h1,r3 _ ((g2 _).2 (.inr rfl))⟩
    ·rcases r5 y hy with h5 | h5
     ·rcases (g2 y).1 h5 with h6 | rfl
      ·exact .inl h6
      ·exact .inr ⟨l[k],List.getElem_mem hkl,rfl⟩
     ·exact .inr h5
   ·rw [if_pos (by simpa using h2)] at h
    exact absurd (congrArg Prod.snd h) h2
  ·rw [if_pos (by simpa using h1)] at h
   exact absurd (congrArg Prod.snd h) h1
theorem chkI_data {x:Itm} (h:chkI x=0):x.data ≠ []:=by
 intro e
 obtain ⟨d,t⟩:=x
 simp only at e
 subst e
 unfold chkI at h
 have hz:(decodeS []).2 ≠ 0:=by decide +kernel
 rw [if_pos hz] at h
 cases h
theorem unGo_bad {dat:Nat->List UInt8 × Int} {l:List Pe}:∀ (n k:Nat) (p:List Itm),(unGo dat l n k p).2 ≠ 0->(unGo dat l n k p).1=[]:=by
 intro n
 induction n with
 | zero=>intro k p h; exact absurd rfl h
 | succ n ih=>
  intro k p h
  rw [unGo] at h ⊢
  cases hl:l[k]? with
  | none=>rw [hl] at h; exact absurd rfl h
  | some e=>
   rw [hl] at h
   simp only at h ⊢
   by_cases h1:(dat k).2=0
   ·rw [if_neg (by simpa using h1)] at h ⊢
    by_cases h2:(addS p ⟨e.d,(dat k).1⟩).2=0
    ·rw [if_neg (by simpa using h2)] at h ⊢
     exact ih _ _ h
    ·rw [if_pos (by simpa using h2)]
   ·rw [if_pos (by simpa using h1)]
theorem unpackS_bad {s:List UInt8} {xs:List Itm} (h:(unpackS s xs).2 ≠ 0):(unpackS s xs).1=[]:=by
 unfold unpackS at h ⊢
 by_cases h1:(entriesS s).2=0
 ·rw [if_neg (by simpa using h1)] at h ⊢
  exact unGo_bad _ _ _ h
 ·rw [if_pos (by simpa using h1)]
structure TrustP (s:List UInt8) (xs Q:List Itm):Prop where
 ent:(entriesS s).2=0
 chk:checkP Q=0
 asc:Asc Q
 fnd:∀ e ∈ (entriesS s).1,(findP s xs e.d).2=0/\(findP s xs e.d).1 ≠ []/\e.d ∈ Q.map (·.d)
 all:∀ y ∈ Q,y.d ∈ xs.map (·.d) ++ (entriesS s).1.map (·.d)
 keep:keepS Q (xs.map (·.d))=xs
 len:Q.length<=xs.length + (entriesS s).1.length
theorem trust_law {s:List UInt8} {xs Q:List Itm} (ha:Asc xs) (hc:∀ x ∈ xs,chkI x=0) (h:unpackS s xs=(Q,0)):TrustP s xs Q:=by
 unfold unpackS at h
 by_cases h1:(entriesS s).2=0
 ·rw [if_neg (by simpa using h1)] at h
  obtain ⟨e1,e2,e3⟩:=entriesS_ok (s:=s) (l:=(entriesS s).1) (Prod.ext rfl h1)
  obtain ⟨r1,r2,r3,r4,r5,r6⟩:=unGo_law _ 0 xs Q (by omega) (by omega) ha hc h
  refine ⟨h1,?_,r1,fun e he=>?_,fun y hy=>?_,?_,r6⟩
  ·unfold checkP
   exact chkGo_of r2 r1 (fun q hq=>by cases hq)
  ·obtain ⟨i,hi,rfl⟩:=List.getElem_of_mem he
   obtain ⟨g1,g2⟩:=r4 i hi (by omega)
   have hf:findP s xs (entriesS s).1[i].d=datS s xs (entriesS s).1 i:=by
    unfold findP
    rw [if_neg (by simpa using h1),idxE_at e1.nd hi]
   rw [hf]
   exact ⟨g1,chkI_data (r2 _ g2),List.mem_map.2 ⟨_,g2,rfl⟩⟩
  ·rw [List.mem_append]
   rcases r5 y hy with h5 | ⟨e,he,hd⟩
   ·exact .inl (List.mem_map.2 ⟨y,h5,rfl⟩)
   ·exact .inr (List.mem_map.2 ⟨e,he,hd.symm⟩)
  ·refine asc_ext (asc_filter r1 _) ha (fun x=>?_)
   unfold keepS
   rw [List.mem_filter]
   constructor
   ·rintro ⟨g1,g2⟩
    simp only [decide_eq_true_eq,List.mem_map] at g2
    obtain ⟨y,hy,hd⟩:=g2
    rw [<-asc_same r1 (r3 y hy) g1 hd]
    exact hy
   ·intro hx
    exact ⟨r3 x hx,by simp only [decide_eq_true_eq,List.mem_map]; exact ⟨x,hx,rfl⟩⟩
 ·rw [if_pos (by simpa using h1)] at h
  exact absurd (congrArg Prod.snd h) h1
end Go.Proofs.YtijkieiihpiljaaGreat
