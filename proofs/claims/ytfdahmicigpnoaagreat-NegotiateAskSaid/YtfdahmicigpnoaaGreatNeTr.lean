/- Negotiations: what a talk finds. -/
import Derived.Test.YtfdahmicigpnoaaGreatNeTk
set_option maxRecDepth 100000
set_option maxHeartbeats 16000000
open Go.Lib (hid)
namespace Go.Proofs.YtfdahmicigpnoaaGreat
open Go.RowKit Go.Shelf Go.Sort
set_option linter.unusedVariables false
def Con (xs ys:List Itm):Prop:=∀ x ∈ xs,∀ y ∈ ys,x.d=y.d->x=y
theorem con_get {xs ys:List Itm} (h:Con xs ys) {d:Int × Int} (h1:(getS xs d).2=0) (h2:(getS ys d).2=0):getS xs d=getS ys d:=by
 obtain ⟨x,hx,hxd,hxe⟩:=getS_good h1
 obtain ⟨y,hy,hyd,hye⟩:=getS_good h2
 rw [<-hxe,<-hye,h x hx y hy (by rw [hxd,hyd])]
theorem con_com {xs ys:List Itm} (h:Con xs ys) {d:Int × Int} (h1:(commitS xs d).2=0) (h2:(commitS ys d).2=0):commitS xs d=commitS ys d:=by
 rw [(commit_ok h1).2.2,(commit_ok h2).2.2,con_get h (commit_ok h1).1 (commit_ok h2).1]
theorem con_anc {xs ys:List Itm} (h:Con xs ys) {c d:Int × Int} (g:Anc xs c d):Kn xs c->Kn ys c->Kn ys d/\Anc ys c d:=by
 induction g with
 | refl=>exact fun _ h2=>⟨h2,.refl _⟩
 | step hc hp g ih=>
  intro h1 h2
  have he:=con_com h hc h2.com
  have hp2:=hp
  rw [he] at hp2
  obtain ⟨h3,h4⟩:=ih (h1.par hp) (h2.par hp2)
  exact ⟨h3,.step h2.com hp2 h4⟩
theorem answF_mem (xs:List Itm):∀ (l out:List (Int × Int)) (d:Int × Int),d ∈ l.foldl (answF xs) out ↔ d ∈ out\/(d ∈ l/\Kn xs d)
 | [],out,d=>by simp
 | e :: l,out,d=>by
  rw [List.foldl_cons,answF_mem xs l]
  unfold answF
  have hk:(ancS xs [e]).2=0 ↔ Kn xs e:=by rw [anc_knE]; simp
  by_cases h:(ancS xs [e]).2=0/\e ∉ out
  ·rw [if_pos h,List.mem_append,List.mem_singleton,List.mem_cons]
   constructor
   ·rintro ((h1 | rfl) | h1)
    ·exact .inl h1
    ·exact .inr ⟨.inl rfl,hk.1 h.1⟩
    ·exact .inr ⟨.inr h1.1,h1.2⟩
   ·rintro (h1 | ⟨rfl | h1,h2⟩)
    ·exact .inl (.inl h1)
    ·exact .inl (.inr rfl)
    ·exact .inr ⟨h1,h2⟩
  ·rw [if_neg h,List.mem_cons]
   constructor
   ·rintro (h1 | h1)
    ·exact .inl h1
    ·exact .inr ⟨.inr h1.1,h1.2⟩
   ·rintro (h1 | ⟨rfl | h1,h2⟩)
    ·exact .inl h1
    ·left
     by_cases h3:d ∈ out
     ·exact h3
     ·exact absurd ⟨hk.2 h2,h3⟩ h
    ·exact .inr ⟨h1,h2⟩
theorem answS_mem (xs:List Itm) (l:List (Int × Int)) (d:Int × Int):d ∈ answS xs l ↔ d ∈ l/\Kn xs d:=by
 unfold answS
 rw [answF_mem]
 simp
structure TI (xs ys:List Itm) (A W:List (Int × Int)) (most:Nat) (t:Tk) (asked:List (Int × Int)) (n:Nat):Prop where
 v:ValidT xs t
 a:t.asked=[]
 w:t.want=W
 q:∀ d ∈ t.queue,d ∈ A
 nd:(asked ++ t.queue).Nodup
 sa:∀ d ∈ asked,d ∈ A
 cm:∀ c ∈ t.common,c ∈ A/\Kn ys c
 al:W ≠ []->∀ d ∈ A,d ∈ t.queue\/(Kn ys d->∃ c ∈ t.common,Anc xs c d)
 e:W=[]->t.common=[]
 cn:n * most<=asked.length + (most - 1)/\(t.queue ≠ []->n * most=asked.length)
theorem TI.start {xs ys:List Itm} {heads want:List (Int × Int)} {most:Nat} (h:(beginS xs heads want).2=0):TI xs ys (ancS xs heads).1 (wantS xs want) most (beginS xs heads want).1 [] 0:=by
 obtain ⟨h1,h2,h3,h4,h5,h6⟩:=begin_valid h
 have hq:∀ d ∈ (beginS xs heads want).1.queue,d ∈ (ancS xs heads).1:=fun d hd=>by
  by_cases hw:(beginS xs heads want).1.want=[]
  ·rw [(h1.id hw).1] at hd; simp at hd
  ·rwa [h6 hw] at hd
 refine ⟨h1,h2,h4,hq,by simpa using ascH_nodup h1.qo,fun d hd=>by simp at hd,fun c hc=>by rw [h3] at hc; simp at hc,fun hw d hd=>.inl ?_,fun _=>h3,by simp,fun _=>by simp⟩
 rw [h6 (by rw [h4]; exact hw)]
 exact hd
theorem TI.notdone {xs ys:List Itm} {A W asked:List (Int × Int)} {most n:Nat} {t:Tk} (h:TI xs ys A W most t asked n) (hd:t.done=false):t.queue ≠ []/\W ≠ []:=by
 obtain ⟨_,h1,_⟩:=ask_valid h.v hd h.a (n:=1) (by omega)
 refine ⟨h1,fun e=>?_⟩
 have:=h.v.dn.2 (.inl (by rw [h.w]; exact e))
 rw [hd] at this; cases this
theorem TI.len {xs ys:List Itm} {A W asked:List (Int × Int)} {most n:Nat} {t:Tk} (h:TI xs ys A W most t asked n):asked.length + t.queue.length<=A.length:=by
 rw [<-List.length_append]
 exact h.nd.length_le_of_subset (fun d hd=>by
  rcases List.mem_append.1 hd with h1 | h1
  ·exact h.sa d h1
  ·exact h.q d h1)
theorem TI.round {xs ys:List Itm} (hac:AcyS xs) {A W asked:List (Int × Int)} {most n:Nat} {t:Tk} (h:TI xs ys A W most t asked n) (hd:t.done=false) (hm:1<=most):TI xs ys A W most (learnT xs (askT t (min most t.queue.length)) (answS ys (t.queue.take (min most t.queue.length)))) (asked ++ t.queue.take (min most t.queue.length)) (n + 1):=by
 obtain ⟨hq,hw⟩:=h.notdone hd
 have hql:0 < t.queue.length:=List.length_pos_iff.2 hq
 obtain ⟨k,hk⟩:∃ k,k=min most t.queue.length:=⟨_,rfl⟩
 rw [<-hk]
 have hk0:0 < k:=by omega
 have hkq:k<=t.queue.length:=by omega
 obtain ⟨v1,_,a1⟩:=ask_valid h.v hd h.a hk0
 have hcom:∀ d ∈ answS ys (t.queue.take k),d ∈ (askT t k).asked:=fun d hd=>((answS_mem _ _ _).1 hd).1
 have v2:=learn_valid hac v1 a1 hcom
 obtain ⟨g1,g2⟩:=allS_law t.common (answS ys (t.queue.take k))
 have hkn:∀ c ∈ allS t.common (answS ys (t.queue.take k)),Kn xs c:=fun c hcc=>by
  rcases (g2 c).1 hcc with h1 | h1
  ·exact h.v.kn c (by simp [h1])
  ·exact h.v.kn c (by simp [List.mem_of_mem_take ((answS_mem _ _ _).1 h1).1])
 have htop:=fun d=>top_anc hac hkn d
 refine ⟨v2,rfl,h.w,fun d hd=>?_,?_,fun d hd=>?_,fun c hc=>?_,fun _ d hdA=>?_,fun e=>absurd e hw,?_⟩
 ·exact h.q d (List.mem_of_mem_drop (List.mem_filter.1 hd).1)
 ·refine List.Nodup.sublist ?_ h.nd
  rw [List.append_assoc]
  refine List.Sublist.append (List.Sublist.refl _) ?_
  have h3:(t.queue.take k ++ (t.queue.drop k).filter fun d=>!undB xs (allS t.common (answS ys (t.queue.take k))) d).Sublist (t.queue.take k ++ t.queue.drop k):=List.Sublist.append (List.Sublist.refl _) List.filter_sublist
  rwa [List.take_append_drop] at h3
 ·rcases List.mem_append.1 hd with h1 | h1
  ·exact h.sa d h1
  ·exact h.q d (List.mem_of_mem_take h1)
 ·rcases (g2 c).1 (List.mem_filter.1 hc).1 with h1 | h1
  ·exact h.cm c h1
  ·obtain ⟨h2,h3⟩:=(answS_mem _ _ _).1 h1
   exact ⟨h.q c (List.mem_of_mem_take h2),h3⟩
 ·have hno:(∃ c ∈ t.common,Anc xs c d)->∃ c ∈ (allS t.common (answS ys (t.queue.take k))).filter (topB xs (allS t.common (answS ys (t.queue.take k)))),Anc xs c d:=by
   rintro ⟨c,h1,h2⟩
   exact (htop d).1 ⟨c,(g2 c).2 (.inl h1),h2⟩
  rcases h.al hw d hdA with h1 | h1
  ·rw [<-List.take_append_drop k t.queue,List.mem_append] at h1
   rcases h1 with h1 | h1
   ·exact .inr (fun h2=>(htop d).1 ⟨d,(g2 d).2 (.inr ((answS_mem _ _ _).2 ⟨h1,h2⟩)),.refl d⟩)
   ·by_cases hu:undB xs (allS t.common (answS ys (t.queue.take k))) d=true
    ·exact .inr (fun _=>(htop d).1 ((undB_iff hkn d).1 hu))
    ·exact .inl (List.mem_filter.2 ⟨h1,by show (!undB xs (allS t.common (answS ys (t.queue.take k))) d)=true; simpa using hu⟩)
  ·exact .inr (fun h2=>hno (h1 h2))
 ·have h1:=h.cn.2 hq
  have h2:(t.queue.take k).length=k:=by rw [List.length_take]; omega
  rw [List.length_append,h2,Nat.succ_mul]
  refine ⟨by omega,fun hne=>?_⟩
  have h3:k=most:=by
   by_cases e:most<=t.queue.length
   ·omega
   ·exfalso
    apply hne
    have:t.queue.drop k=[]:=by rw [List.drop_eq_nil_iff]; omega
    simp [learnT,askT,this]
  omega
theorem TI.fin {xs ys:List Itm} {A W asked:List (Int × Int)} {most n:Nat} {t:Tk} (h:TI xs ys A W most t asked n) (hc:Con xs ys) (hd:t.done=true) (hw:W ≠ []):∀ d ∈ A,Kn ys d ↔ ∃ c ∈ t.common,Anc xs c d:=by
 intro d hdA
 have hq:t.queue=[]:=by
  rcases h.v.dn.1 hd with e | ⟨e,_⟩
  ·exact absurd (by rw [<-h.w]; exact e) hw
  ·exact e
 constructor
 ·intro hk
  rcases h.al hw d hdA with h1 | h1
  ·rw [hq] at h1; simp at h1
  ·exact h1 hk
 ·rintro ⟨c,h1,h2⟩
  exact (con_anc hc h2 (h.v.kn c (by simp [h1])) (h.cm c h1).2).1
theorem TI.rounds {xs ys:List Itm} {A W asked:List (Int × Int)} {most n:Nat} {t:Tk} (h:TI xs ys A W most t asked n) (hd:t.done=false) (hm:1<=most):n < A.length:=by
 obtain ⟨hq,_⟩:=h.notdone hd
 have h1:=h.cn.2 hq
 have h2:=h.len
 have h3:=List.length_pos_iff.2 hq
 have h4:n<=n * most:=Nat.le_mul_of_pos_right n (by omega)
 omega
end Go.Proofs.YtfdahmicigpnoaaGreat
