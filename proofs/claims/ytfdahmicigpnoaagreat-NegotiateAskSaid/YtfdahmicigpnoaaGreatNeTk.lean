/- Negotiations: what the functions answer; the rounds of a talk keep it valid. -/
import Derived.Test.YtfdahmicigpnoaaGreatNePl
set_option maxRecDepth 100000
set_option maxHeartbeats 16000000
open Go.Lib (hid)
namespace Go.Proofs.YtfdahmicigpnoaaGreat
open Go.RowKit Go.Shelf Go.Sort
set_option linter.unusedVariables false
def wantS (xs:List Itm) (want:List (Int × Int)):List (Int × Int):=(want.filter fun d=>!hasS xs d).foldl withS []
def beginS (xs:List Itm) (heads want:List (Int × Int)):Tk × Int:=
 if (ancS xs heads).2 ≠ 0 then (tk0,(ancS xs heads).2) else
  (⟨wantS xs want,if wantS xs want=[] then [] else (ancS xs heads).1,[],[],decide (wantS xs want=[]\/(ancS xs heads).1=[])⟩,0)
def askT (t:Tk) (n:Nat):Tk:=⟨t.want,t.queue.drop n,t.queue.take n,t.common,t.done⟩
def askS (v:Bool) (t:Tk) (most:Int):Tk × List (Int × Int) × Int:=
 if v=false then (tk0,[],1) else if most < 1\/1000 < most then (tk0,[],2) else if t.done=true\/t.asked ≠ [] then (tk0,[],18) else
  (askT t (min most.toNat t.queue.length),t.queue.take (min most.toNat t.queue.length),0)
def answF (xs:List Itm) (out:List (Int × Int)) (d:Int × Int):List (Int × Int):=if (ancS xs [d]).2=0/\d ∉ out then out ++ [d] else out
def answS (xs:List Itm) (have_:List (Int × Int)):List (Int × Int):=have_.foldl (answF xs) []
def allS (a b:List (Int × Int)):List (Int × Int):=(a ++ b).foldl withS []
noncomputable def topB (xs:List Itm) (l:List (Int × Int)) (d:Int × Int):Bool:=!l.any fun c=>!decide (c=d) && (reachesS xs c d).1
noncomputable def undB (xs:List Itm) (l:List (Int × Int)) (d:Int × Int):Bool:=l.any fun c=>(reachesS xs c d).1
noncomputable def learnT (xs:List Itm) (t:Tk) (com:List (Int × Int)):Tk:=
 ⟨t.want,t.queue.filter fun d=>!undB xs (allS t.common com) d,[],(allS t.common com).filter (topB xs (allS t.common com)),decide ((t.queue.filter fun d=>!undB xs (allS t.common com) d)=[])⟩
noncomputable def learnS (v:Bool) (xs:List Itm) (t:Tk) (com:List (Int × Int)):Tk × Int:=
 if v=false then (tk0,1) else if t.asked=[] then (tk0,18) else if ¬ (∀ d ∈ com,d ∈ t.asked) then (tk0,8) else (learnT xs t com,0)
def comE (xs:List Itm):List (Int × Int)->Int
 | []=>0
 | d :: l=>if (commitS xs d).2 ≠ 0 then (commitS xs d).2 else comE xs l
def sendS (xs:List Itm) (want common:List (Int × Int)):List (Int × Int) × Int:=
 if comE xs (want ++ common) ≠ 0 then ([],comE xs (want ++ common)) else
 if ¬ (∀ d ∈ (reachS xs want).2,d ∈ (reachS xs common).2) then ([],8) else ((reachS xs want).1.filter fun d=>!decide (d ∈ (reachS xs common).1),0)
theorem allS_law (a b:List (Int × Int)):AscD (allS a b)/\∀ d,d ∈ allS a b ↔ d ∈ a\/d ∈ b:=by
 obtain ⟨h1,h2⟩:=foldl_with (a ++ b) [] List.Pairwise.nil
 refine ⟨h1,fun d=>?_⟩
 unfold allS
 rw [h2 d,List.mem_append]
 simp
theorem wantS_law (xs:List Itm) (w:List (Int × Int)):AscD (wantS xs w)/\∀ d,d ∈ wantS xs w ↔ d ∈ w/\hasS xs d=false:=by
 obtain ⟨h1,h2⟩:=foldl_with (w.filter fun d=>!hasS xs d) [] List.Pairwise.nil
 refine ⟨h1,fun d=>?_⟩
 unfold wantS
 rw [h2 d,List.mem_filter]
 simp
theorem undB_iff {xs:List Itm} {l:List (Int × Int)} (h:∀ c ∈ l,Kn xs c) (d:Int × Int):undB xs l d=true ↔ ∃ c ∈ l,Anc xs c d:=by
 unfold undB
 rw [List.any_eq_true]
 constructor
 ·rintro ⟨c,h1,h2⟩
  rw [reachesS_ok (h c h1)] at h2
  exact ⟨c,h1,(vis_anc1 (h c h1)).1 (by simpa using h2)⟩
 ·rintro ⟨c,h1,h2⟩
  refine ⟨c,h1,?_⟩
  rw [reachesS_ok (h c h1)]
  simpa using (vis_anc1 (h c h1)).2 h2
theorem topB_iff {xs:List Itm} {l:List (Int × Int)} (h:∀ c ∈ l,Kn xs c) (d:Int × Int):topB xs l d=true ↔ ∀ c ∈ l,Anc xs c d->c=d:=by
 unfold topB
 rw [Bool.not_eq_true',List.any_eq_false]
 constructor
 ·intro h1 c hc h2
  have h3:=h1 c hc
  rw [reachesS_ok (h c hc)] at h3
  by_cases e:c=d
  ·exact e
  ·exfalso; apply h3
   simp only [e,decide_false,Bool.not_false,Bool.true_and,decide_eq_true_eq]
   exact (vis_anc1 (h c hc)).2 h2
 ·intro h1 c hc h2
  rw [reachesS_ok (h c hc)] at h2
  simp only [Bool.and_eq_true,Bool.not_eq_true',decide_eq_false_iff_not,decide_eq_true_eq] at h2
  exact h2.1 (h1 c hc ((vis_anc1 (h c hc)).1 h2.2))
theorem rk_anc {xs:List Itm} (ha:AcyS xs) {c d:Int × Int} (hk:Kn xs c) (h:Anc xs c d) (hne:c ≠ d):rkS xs d + 1<=rkS xs c:=by
 induction h with
 | refl=>exact absurd rfl hne
 | step hc hp g ih=>
  rename_i a p b
  have h1:=rk_lt ha hc hp
  by_cases e:p=b
  ·subst e; exact h1
  ·have:=ih (hk.par hp) e; omega
theorem top_ex {xs:List Itm} (ha:AcyS xs) {l:List (Int × Int)} (h:∀ c ∈ l,Kn xs c):∀ (n:Nat) (c:Int × Int),c ∈ l->rkS xs c + n ≥ xs.length->∃ e ∈ l.filter (topB xs l),Anc xs e c:=by
 intro n
 induction n with
 | zero=>
  intro c hc hn
  refine ⟨c,List.mem_filter.2 ⟨hc,(topB_iff h c).2 (fun e he hec=>?_)⟩,.refl c⟩
  by_cases hh:e=c
  ·exact hh
  ·exfalso
   have h1:=rk_anc ha (h e he) hec hh
   have h2:=rk_le xs e
   omega
 | succ n ih=>
  intro c hc hn
  by_cases ht:topB xs l c=true
  ·exact ⟨c,List.mem_filter.2 ⟨hc,ht⟩,.refl c⟩
  ·have h1:¬ ∀ e ∈ l,Anc xs e c->e=c:=fun h2=>ht ((topB_iff h c).2 h2)
   have h2:∃ e ∈ l,Anc xs e c/\e ≠ c:=by
    by_cases h3:∃ e ∈ l,Anc xs e c/\e ≠ c
    ·exact h3
    ·exfalso; apply h1; intro e he hec
     by_cases h4:e=c
     ·exact h4
     ·exact absurd ⟨e,he,hec,h4⟩ h3
   obtain ⟨e,he,hec,hne⟩:=h2
   have h3:=rk_anc ha (h e he) hec hne
   obtain ⟨f,hf,hfe⟩:=ih e he (by omega)
   exact ⟨f,hf,hfe.trans hec⟩
theorem top_anc {xs:List Itm} (ha:AcyS xs) {l:List (Int × Int)} (h:∀ c ∈ l,Kn xs c) (d:Int × Int):(∃ c ∈ l,Anc xs c d) ↔ ∃ c ∈ l.filter (topB xs l),Anc xs c d:=by
 constructor
 ·rintro ⟨c,hc,hcd⟩
  obtain ⟨e,he,hec⟩:=top_ex ha h xs.length c hc (by omega)
  exact ⟨e,he,hec.trans hcd⟩
 ·rintro ⟨c,hc,hcd⟩
  exact ⟨c,(List.mem_filter.1 hc).1,hcd⟩
theorem begin_valid {xs:List Itm} {heads want:List (Int × Int)} (h:(beginS xs heads want).2=0):ValidT xs (beginS xs heads want).1/\(beginS xs heads want).1.asked=[]/\(beginS xs heads want).1.common=[]/\(beginS xs heads want).1.want=wantS xs want/\(ancS xs heads).2=0/\((beginS xs heads want).1.want ≠ []->(beginS xs heads want).1.queue=(ancS xs heads).1):=by
 unfold beginS at h ⊢
 by_cases he:(ancS xs heads).2=0
 ·have he':¬ ((ancS xs heads).2 ≠ 0):=by simpa using he
  rw [if_neg he'] at h ⊢
  have hk:=anc_knE.1 he
  have hm:=(anc_kn hk).2
  have hq:∀ d ∈ (if wantS xs want=[] then [] else (ancS xs heads).1),d ∈ (ancS xs heads).1:=by
   intro d hd; split at hd
   ·simp at hd
   ·exact hd
  refine ⟨⟨(wantS_law xs want).1,List.Pairwise.nil,fun d hd=>?_,?_,List.Pairwise.nil,fun d hd=>by simp,fun c hc=>by simp at hc,fun c hc=>by simp at hc,?_,fun hw=>?_⟩,rfl,rfl,rfl,he,fun hw=>?_⟩
  ·simp only [List.append_nil] at hd
   obtain ⟨s,hs,hsd⟩:=(hm d).1 (hq d hd)
   exact (hk s hs).anc hsd
  ·simp only
   split
   ·exact List.Pairwise.nil
   ·exact anc_ascH hk
  ·simp only [decide_eq_true_eq]
   by_cases hw:wantS xs want=[]
   ·simp [hw]
   ·simp [hw]
  ·simp only at hw
   simp [hw]
  ·simp only at hw ⊢
   rw [if_neg hw]
 ·rw [if_pos he] at h
  exact absurd h he
theorem ask_valid {xs:List Itm} {t:Tk} (h:ValidT xs t) (hd:t.done=false) (ha:t.asked=[]) {n:Nat} (hn:0 < n):ValidT xs (askT t n)/\t.queue ≠ []/\(askT t n).asked ≠ []:=by
 have hnd:¬ (t.want=[]\/(t.queue=[]/\t.asked=[])):=fun e=>by
  have:=h.dn.2 e; rw [hd] at this; cases this
 have hq:t.queue ≠ []:=fun e=>hnd (.inr ⟨e,ha⟩)
 have hw:t.want ≠ []:=fun e=>hnd (.inl e)
 have hmem:∀ {d},d ∈ t.queue.drop n->d ∈ t.queue:=fun hd=>List.mem_of_mem_drop hd
 have hmem2:∀ {d},d ∈ t.queue.take n->d ∈ t.queue:=fun hd=>List.mem_of_mem_take hd
 have hat:(askT t n).asked ≠ []:=by
  unfold askT
  simp only
  intro e
  rw [List.take_eq_nil_iff] at e
  rcases e with e | e
  ·omega
  ·exact hq e
 refine ⟨⟨h.w,h.c,fun d hd=>?_,?_,?_,fun d h1 h2=>?_,h.mx,fun c hc d hd=>?_,?_,fun hw2=>absurd hw2 hw⟩,hq,hat⟩
 ·simp only [askT,List.mem_append] at hd
  rcases hd with (hd | hd) | hd
  ·exact h.kn d (by simp [hmem hd])
  ·exact h.kn d (by simp [hmem2 hd])
  ·exact h.kn d (by simp [hd])
 ·exact List.Pairwise.sublist (List.drop_sublist _ _) h.qo
 ·exact List.Pairwise.sublist (List.take_sublist _ _) h.qo
 ·have h3:=ascH_nodup h.qo
  rw [<-List.take_append_drop n t.queue] at h3
  exact (List.nodup_append.1 h3).2.2 d h2 d h1 rfl
 ·refine h.sp c hc d ?_
  simp only [askT,List.mem_append] at hd
  rcases hd with hd | hd
  ·simp [hmem hd]
  ·simp [hmem2 hd]
 ·constructor
  ·intro e
   exact absurd (h.dn.1 e) hnd
  ·rintro (e | ⟨_,e⟩)
   ·exact absurd e hw
   ·exact absurd e hat
theorem learn_valid {xs:List Itm} (hac:AcyS xs) {t:Tk} (h:ValidT xs t) (ha:t.asked ≠ []) {com:List (Int × Int)} (hc:∀ d ∈ com,d ∈ t.asked):ValidT xs (learnT xs t com):=by
 obtain ⟨g1,g2⟩:=allS_law t.common com
 have hk:∀ c ∈ allS t.common com,Kn xs c:=fun c hcc=>by
  rcases (g2 c).1 hcc with h1 | h1
  ·exact h.kn c (by simp [h1])
  ·exact h.kn c (by simp [hc c h1])
 have hw:t.want ≠ []:=fun e=>ha (h.id e).2
 refine ⟨h.w,List.Pairwise.filter _ g1,fun d hd=>?_,List.Pairwise.filter _ h.qo,List.Pairwise.nil,fun d _=>by simp [learnT],fun c h1 d h2 h3=>?_,fun c h1 d h2 h3=>?_,?_,fun e=>absurd e hw⟩
 ·simp only [learnT,List.append_nil,List.mem_append] at hd
  rcases hd with hd | hd
  ·exact h.kn d (by simp [(List.mem_filter.1 hd).1])
  ·exact hk d (List.mem_filter.1 hd).1
 ·simp only [learnT] at h1 h2
  exact (topB_iff hk d).1 (List.mem_filter.1 h2).2 c (List.mem_filter.1 h1).1 h3
 ·simp only [learnT,List.append_nil] at h1 h2
  have h4:=(List.mem_filter.1 h2).2
  rw [Bool.not_eq_true'] at h4
  have h5:=(undB_iff hk d).2 ⟨c,(List.mem_filter.1 h1).1,h3⟩
  rw [h4] at h5; cases h5
 ·simp only [learnT,decide_eq_true_eq]
  constructor
  ·intro e; exact .inr ⟨e,by simp⟩
  ·rintro (e | ⟨e,_⟩)
   ·exact absurd e hw
   ·exact e
end Go.Proofs.YtfdahmicigpnoaaGreat
