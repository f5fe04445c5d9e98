/- Negotiations: the checks of a talk, in both programs. Plain. -/
import Derived.Test.YtfdahmicigpnoaaGreatNeTr
set_option maxRecDepth 100000
set_option maxHeartbeats 16000000
open Go.Lib (hid)
namespace Go.Proofs.YtfdahmicigpnoaaGreat
open Go.RowKit Go.Shelf Go.Sort
set_option linter.unusedVariables false
def InOrd (xs:List Itm) (t:Tk):Prop:=(∀ d ∈ t.queue ++ t.asked ++ t.common,Kn xs d)/\AscH (depS xs) t.queue/\AscH (depS xs) t.asked
def Bel (xs:List Itm) (l:List (Int × Int)) (d:Int × Int):Prop:=∃ c ∈ l,∃ p ∈ (commitS xs c).1.pars,Anc xs p d
def Sep (xs:List Itm) (t:Tk):Prop:=(∀ c ∈ t.common,Kn xs c)/\(∀ d ∈ t.common,¬ Bel xs t.common d)/\t.common.Nodup/\∀ d ∈ t.queue ++ t.asked,¬ (Bel xs t.common d\/d ∈ t.common)
def Idle (t:Tk):Bool:=decide (t.queue=[]) && decide (t.asked=[])
theorem bel_iff {xs:List Itm} (ha:AcyS xs) {l:List (Int × Int)} (h:∀ c ∈ l,Kn xs c) (d:Int × Int):Bel xs l d ↔ ∃ c ∈ l,Anc xs c d/\c ≠ d:=by
 unfold Bel
 constructor
 ·rintro ⟨c,hc,h1⟩; exact ⟨c,hc,(anc_proper ha (h c hc).com).1 h1⟩
 ·rintro ⟨c,hc,h1⟩; exact ⟨c,hc,(anc_proper ha (h c hc).com).2 h1⟩
theorem bel_or {xs:List Itm} (ha:AcyS xs) {l:List (Int × Int)} (h:∀ c ∈ l,Kn xs c) (d:Int × Int):(Bel xs l d\/d ∈ l) ↔ ∃ c ∈ l,Anc xs c d:=by
 rw [bel_iff ha h]
 constructor
 ·rintro (⟨c,hc,h1,_⟩ | h1)
  ·exact ⟨c,hc,h1⟩
  ·exact ⟨d,h1,.refl d⟩
 ·rintro ⟨c,hc,h1⟩
  by_cases e:c=d
  ·subst e; exact .inr hc
  ·exact .inl ⟨c,hc,h1,e⟩
theorem valid_prog {xs:List Itm} (ha:AcyS xs) (t:Tk):ValidT xs t ↔ (AscD t.want/\AscD t.common)/\InOrd xs t/\(t.queue ++ t.asked).Nodup/\Sep xs t/\t.done=(decide (t.want=[]) || Idle t)/\(!decide (t.want=[]) || Idle t)=true:=by
 have hidle:Idle t=true ↔ t.queue=[]/\t.asked=[]:=by unfold Idle; simp
 have hdn:t.done=(decide (t.want=[]) || Idle t) ↔ (t.done=true ↔ (t.want=[]\/(t.queue=[]/\t.asked=[]))):=by
  rw [<-hidle]
  cases t.done <;> cases Idle t <;> by_cases h:t.want=[] <;> simp [h]
 have hidv:(!decide (t.want=[]) || Idle t)=true ↔ (t.want=[]->t.queue=[]/\t.asked=[]):=by
  rw [<-hidle]
  by_cases h:t.want=[] <;> simp [h]
 rw [hdn,hidv]
 constructor
 ·intro h
  have hkc:∀ c ∈ t.common,Kn xs c:=fun c hc=>h.kn c (by simp [hc])
  refine ⟨⟨h.w,h.c⟩,⟨h.kn,h.qo,h.ao⟩,?_,⟨hkc,fun d hd hb=>?_,ascD_nodup h.c,fun d hd hb=>?_⟩,h.dn,h.id⟩
  ·rw [List.nodup_append]
   exact ⟨ascH_nodup h.qo,ascH_nodup h.ao,fun a h1 b h2 e=>h.dj a h1 (by rw [e]; exact h2)⟩
  ·obtain ⟨c,hc,h1,h2⟩:=(bel_iff ha hkc d).1 hb
   exact h2 (h.mx c hc d hd h1)
  ·obtain ⟨c,hc,h1⟩:=(bel_or ha hkc d).1 hb
   exact h.sp c hc d hd h1
 ·rintro ⟨⟨h1,h2⟩,⟨h3,h4,h5⟩,h6,⟨h7,h8,h9,h10⟩,h11,h12⟩
  refine ⟨h1,h2,h3,h4,h5,fun d g1 g2=>(List.nodup_append.1 h6).2.2 d g1 d g2 rfl,fun c hc d hd g=>?_,fun c hc d hd g=>?_,h11,h12⟩
  ·by_cases e:c=d
   ·exact e
   ·exact absurd ((bel_iff ha h7 d).2 ⟨c,hc,g,e⟩) (h8 d hd)
  ·exact h10 d hd ((bel_or ha h7 d).2 ⟨c,hc,g⟩)
theorem foldl_asc {l:List (Int × Int)} (h:AscD l):l.foldl withS []=l:=by
 obtain ⟨h1,h2⟩:=foldl_with l [] List.Pairwise.nil
 exact ascD_ext h1 h (fun x=>by rw [h2 x]; simp)
theorem ordered_iff {xs:List Itm} {l:List (Int × Int)}:((ancS xs l).2=0/\((ancS xs l).1.filter fun d=>decide (d ∈ l))=l) ↔ (∀ d ∈ l,Kn xs d)/\AscH (depS xs) l:=by
 constructor
 ·rintro ⟨h1,h2⟩
  have hk:=anc_knE.1 h1
  refine ⟨hk,?_⟩
  rw [<-h2]
  exact (anc_ascH hk).filter _
 ·rintro ⟨hk,h⟩
  refine ⟨(anc_kn hk).1,ascH_ext ((anc_ascH hk).filter _) h (fun x=>?_)⟩
  rw [List.mem_filter,(anc_kn hk).2]
  simp only [decide_eq_true_eq]
  exact ⟨fun e=>e.2,fun e=>⟨⟨x,e,.refl x⟩,e⟩⟩
noncomputable def maxS (xs:List Itm) (l:List (Int × Int)):List (Int × Int):=(l.filter (topB xs l)).foldl withS []
theorem topB_same (xs:List Itm) {l l':List (Int × Int)} (h:∀ x,x ∈ l ↔ x ∈ l') (d:Int × Int):topB xs l d=topB xs l' d:=by
 unfold topB
 congr 1
 rw [Bool.eq_iff_iff,List.any_eq_true,List.any_eq_true]
 exact ⟨fun ⟨c,h1,h2⟩=>⟨c,(h c).1 h1,h2⟩,fun ⟨c,h1,h2⟩=>⟨c,(h c).2 h1,h2⟩⟩
theorem maxS_all (xs:List Itm) (a b:List (Int × Int)):maxS xs (a ++ b)=(allS a b).filter (topB xs (allS a b)):=by
 obtain ⟨g1,g2⟩:=allS_law a b
 obtain ⟨h1,h2⟩:=foldl_with ((a ++ b).filter (topB xs (a ++ b))) [] List.Pairwise.nil
 refine ascD_ext h1 (g1.filter _) (fun d=>?_)
 have hs:∀ x,x ∈ a ++ b ↔ x ∈ allS a b:=fun x=>by rw [g2 x,List.mem_append]
 rw [show (d ∈ maxS xs (a ++ b))=(d ∈ ((a ++ b).filter (topB xs (a ++ b))).foldl withS []) from rfl,h2 d,List.mem_filter,List.mem_filter,hs d,topB_same xs hs d]
 simp
theorem max_self {xs:List Itm} {l:List (Int × Int)} (ha:AscD l) (h:∀ c ∈ l,Kn xs c):maxS xs l=l ↔ ∀ c ∈ l,∀ d ∈ l,Anc xs c d->c=d:=by
 have h1:maxS xs l=l.filter (topB xs l):=foldl_asc (ha.filter _)
 rw [h1,List.filter_eq_self]
 constructor
 ·intro h2 c hc d hd
  exact (topB_iff h d).1 (h2 d hd) c hc
 ·intro h2 d hd
  exact (topB_iff h d).2 (fun c hc hcd=>h2 c hc d hd hcd)
theorem valid_ref {xs:List Itm} (t:Tk):ValidT xs t ↔ AscD t.want/\AscD t.common/\((∀ d ∈ t.queue,Kn xs d)/\AscH (depS xs) t.queue)/\((∀ d ∈ t.asked,Kn xs d)/\AscH (depS xs) t.asked)/\(t.queue.filter fun d=>decide (d ∈ t.asked))=[]/\(ancS xs t.common).2=0/\maxS xs t.common=t.common/\(((ancS xs t.common).1.filter fun d=>decide (d ∈ t.queue))=[]/\((ancS xs t.common).1.filter fun d=>decide (d ∈ t.asked))=[])/\t.done=(decide (t.want=[]) || Idle t)/\(!decide (t.want=[]) || Idle t)=true:=by
 have hidle:Idle t=true ↔ t.queue=[]/\t.asked=[]:=by unfold Idle; simp
 have hdn:t.done=(decide (t.want=[]) || Idle t) ↔ (t.done=true ↔ (t.want=[]\/(t.queue=[]/\t.asked=[]))):=by
  rw [<-hidle]
  cases t.done <;> cases Idle t <;> by_cases h:t.want=[] <;> simp [h]
 have hidv:(!decide (t.want=[]) || Idle t)=true ↔ (t.want=[]->t.queue=[]/\t.asked=[]):=by
  rw [<-hidle]
  by_cases h:t.want=[] <;> simp [h]
 rw [hdn,hidv,anc_knE]
 constructor
 ·intro h
  have hkc:∀ c ∈ t.common,Kn xs c:=fun c hc=>h.kn c (by simp [hc])
  refine ⟨h.w,h.c,⟨fun d hd=>h.kn d (by simp [hd]),h.qo⟩,⟨fun d hd=>h.kn d (by simp [hd]),h.ao⟩,?_,hkc,(max_self h.c hkc).2 h.mx,⟨?_,?_⟩,h.dn,h.id⟩
  ·rw [List.filter_eq_nil_iff]
   intro d hd; simpa using h.dj d hd
  ·rw [List.filter_eq_nil_iff]
   intro d hd
   obtain ⟨c,hc,h1⟩:=((anc_kn hkc).2 d).1 hd
   intro h2
   exact h.sp c hc d (by simp at h2; simp [h2]) h1
  ·rw [List.filter_eq_nil_iff]
   intro d hd
   obtain ⟨c,hc,h1⟩:=((anc_kn hkc).2 d).1 hd
   intro h2
   exact h.sp c hc d (by simp at h2; simp [h2]) h1
 ·rintro ⟨h1,h2,⟨h3,h4⟩,⟨h5,h6⟩,h7,h8,h9,⟨h10,h11⟩,h12,h13⟩
  refine ⟨h1,h2,fun d hd=>?_,h4,h6,fun d hd h=>?_,(max_self h2 h8).1 h9,fun c hc d hd h=>?_,h12,h13⟩
  ·simp only [List.mem_append] at hd
   rcases hd with (hd | hd) | hd
   ·exact h3 d hd
   ·exact h5 d hd
   ·exact h8 d hd
  ·rw [List.filter_eq_nil_iff] at h7
   exact h7 d hd (by simpa using h)
  ·have hm:=((anc_kn h8).2 d).2 ⟨c,hc,h⟩
   rcases List.mem_append.1 hd with hd | hd
   ·rw [List.filter_eq_nil_iff] at h10
    exact h10 d hm (by simpa using hd)
   ·rw [List.filter_eq_nil_iff] at h11
    exact h11 d hm (by simpa using hd)
theorem learn_ref {xs:List Itm} (ha:AcyS xs) {t:Tk} {com:List (Int × Int)} (hk:∀ c ∈ allS t.common com,Kn xs c):learnT xs t com=⟨t.want,t.queue.filter fun d=>!decide (d ∈ (ancS xs (maxS xs (t.common ++ com))).1),[],maxS xs (t.common ++ com),decide ((t.queue.filter fun d=>!decide (d ∈ (ancS xs (maxS xs (t.common ++ com))).1))=[])⟩:=by
 have hq:(t.queue.filter fun d=>!undB xs (allS t.common com) d)=t.queue.filter fun d=>!decide (d ∈ (ancS xs (maxS xs (t.common ++ com))).1):=by
  refine List.filter_congr (fun d _=>?_)
  congr 1
  rw [Bool.eq_iff_iff,undB_iff hk,decide_eq_true_eq,maxS_all,(anc_kn (fun c hc=>hk c (List.mem_filter.1 hc).1)).2]
  exact top_anc ha hk d
 unfold learnT
 rw [hq,maxS_all]
theorem learn_prog {xs:List Itm} (ha:AcyS xs) {l:List (Int × Int)} (hk:∀ c ∈ l,Kn xs c) (d:Int × Int):(topB xs l d=true ↔ ¬ Bel xs l d)/\(undB xs l d=true ↔ (Bel xs l d\/d ∈ l)):=by
 refine ⟨?_,?_⟩
 ·rw [topB_iff hk,bel_iff ha hk]
  constructor
  ·rintro h ⟨c,hc,h1,h2⟩; exact h2 (h c hc h1)
  ·intro h c hc h1
   by_cases e:c=d
   ·exact e
   ·exact absurd ⟨c,hc,h1,e⟩ h
 ·rw [undB_iff hk,bel_or ha hk]
end Go.Proofs.YtfdahmicigpnoaaGreat
