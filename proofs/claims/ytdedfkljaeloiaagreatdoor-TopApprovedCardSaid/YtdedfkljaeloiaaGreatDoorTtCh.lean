/- tree.Check on paper: what a valid list is. -/
import Derived.Test.YtdedfkljaeloiaaGreatDoorG3
set_option maxRecDepth 100000
set_option maxHeartbeats 16000000
open Go.Lib (hid)
namespace Go.Proofs.YtdedfkljaeloiaaGreatDoor
open Go.RowKit
set_option linter.unusedVariables false
theorem chkFGo_ok:∀ {l:List Fl} {prev:Option Pa},chkFGo prev l=0->(∀ x ∈ l,pathB x.path=true)/\AscF l/\∀ q,prev=some q->∀ x ∈ l,ltS q x.path
 | [],prev,_=>⟨fun x h=>by simp at h,List.Pairwise.nil,fun q _ x h=>by simp at h⟩
 | y :: l,prev,h=>by
  rw [chkFGo] at h
  by_cases h1:pathB y.path=false
  ·rw [if_pos h1] at h; exact absurd h (by decide)
  ·rw [if_neg h1] at h
   by_cases h2:badFP prev y.path=true
   ·rw [if_pos h2] at h; exact absurd h (by decide)
   ·rw [if_neg h2] at h
    obtain ⟨g1,g2,g3⟩:=chkFGo_ok h
    have hb:pathB y.path=true:=by simpa using h1
    refine ⟨fun x hx=>?_,List.pairwise_cons.2 ⟨g3 _ rfl,g2⟩,fun q hq x hx=>?_⟩
    ·rcases List.mem_cons.1 hx with rfl | hx
     ·exact hb
     ·exact g1 x hx
    ·subst hq
     have hqy:ltS q y.path:=by
      unfold badFP at h2
      simpa [ltS] using h2
     rcases List.mem_cons.1 hx with rfl | hx
     ·exact hqy
     ·exact ltS_trans hqy (g3 _ rfl x hx)
theorem chkFGo_asc:∀ {l:List Fl} {prev:Option Pa},(∀ x ∈ l,pathB x.path=true)->AscF l->(∀ q,prev=some q->∀ x ∈ l,ltS q x.path)->chkFGo prev l=0
 | [],_,_,_,_=>rfl
 | y :: l,prev,h1,h2,h3=>by
  have g:=List.pairwise_cons.1 h2
  rw [chkFGo,if_neg (by rw [h1 y (by simp)]; simp),if_neg (by
   cases prev with
   | none=>simp [badFP]
   | some q=>have:=h3 q rfl y (by simp); unfold ltS at this; simp [badFP,this])]
  exact chkFGo_asc (fun x hx=>h1 x (by simp [hx])) g.2 (fun q hq x hx=>by cases hq; exact g.1 x hx)
structure GoodF (l:List Fl):Prop where
 asc:AscF l
 path:∀ x ∈ l,pathB x.path=true
 free:∀ x ∈ l,∀ y ∈ l,∀ r,y.path ≠ x.path ++ 47 :: r
theorem check_ok {l:List Fl} (h:checkF l=0):GoodF l:=by
 unfold checkF at h
 by_cases h1:chkFGo none l=0
 ·rw [if_neg (by simpa using h1)] at h
  obtain ⟨g1,g2,_⟩:=chkFGo_ok h1
  refine ⟨g2,g1,fun x hx y hy r e=>?_⟩
  have hd:dirB l y.path=true:=by
   refine dirB_true (i:=x.path.length) (by rw [e,List.length_append,List.length_cons]; omega) ?_
   unfold dirAt
   rw [e,List.getElem?_append_right (Nat.le_refl _),Nat.sub_self,List.take_append_of_le_length (Nat.le_refl _),List.take_length]
   simp only [List.getElem?_cons_zero,decide_true,Bool.true_and,decide_eq_true_eq]
   exact List.mem_map.2 ⟨x,hx,rfl⟩
  rw [if_pos (List.any_eq_true.2 ⟨y,hy,hd⟩)] at h
  exact absurd h (by decide)
 ·rw [if_pos h1] at h
  exact absurd h h1
theorem ok_check {l:List Fl} (h:GoodF l):checkF l=0:=by
 unfold checkF
 have h1:=chkFGo_asc (prev:=none) h.path h.asc (fun q hq=>by cases hq)
 rw [if_neg (by simpa using h1),if_neg]
 intro h2
 obtain ⟨y,hy,hd⟩:=List.any_eq_true.1 h2
 unfold dirB at hd
 obtain ⟨i,hi,hd⟩:=List.any_eq_true.1 hd
 unfold dirAt at hd
 simp only [Bool.and_eq_true,decide_eq_true_eq] at hd
 obtain ⟨e1,e2⟩:=hd
 obtain ⟨x,hx,e2⟩:=List.mem_map.1 e2
 obtain ⟨hi',e1⟩:=List.getElem?_eq_some_iff.1 e1
 refine h.free x hx y hy (y.path.drop (i + 1)) ?_
 rw [e2,<-e1,<-List.drop_eq_getElem_cons hi',List.take_append_drop]
theorem GoodF.ok {l:List Fl} (h:GoodF l) {n:Nat} (hn:101<=n):OkF n l:=by
 refine ⟨h.asc,fun x hx=>?_,h.free⟩
 have:=h.path x hx
 unfold pathB at this
 simp only [Bool.and_eq_true,decide_eq_true_eq] at this
 rw [pathF_eq n (x.path.length + 1) x.path (by omega) (by omega)]
 exact this.2
end Go.Proofs.YtdedfkljaeloiaaGreatDoor
