/- Negotiations: plain facts for the walks of Begin, Answer, Learn and Send. -/
import Derived.Test.YtfdahmicigpnoaaGreatNeVa
import Derived.Test.YtfdahmicigpnoaaGreatNeEn
set_option maxRecDepth 100000
set_option maxHeartbeats 16000000
open Go.Lib (hid)
namespace Go.Proofs.YtfdahmicigpnoaaGreat
open Go.RowKit Go.Shelf Go.Sort
set_option linter.unusedVariables false
theorem want_prog (xs:List Itm) (w:List (Int × Int)):((w.foldl withS []).filter fun d=>!hasS xs d)=wantS xs w:=by
 obtain ⟨h1,h2⟩:=foldl_with w [] List.Pairwise.nil
 refine ascD_ext (h1.filter _) (wantS_law xs w).1 (fun d=>?_)
 rw [List.mem_filter,h2 d,(wantS_law xs w).2]
 simp
theorem fold_len (l acc:List (Int × Int)):(l.foldl withS acc).length<=acc.length + l.length:=by
 induction l generalizing acc with
 | nil=>simp
 | cons d l ih=>
  rw [List.foldl_cons]
  have h1:=ih (withS acc d)
  have h2:=withS_len1 acc d
  simp only [List.length_cons]
  omega
theorem wantS_len (xs:List Itm) (w:List (Int × Int)):(wantS xs w).length<=w.length:=by
 have h1:=fold_len (w.filter fun d=>!hasS xs d) []
 have h2:=List.length_filter_le (fun d=>!hasS xs d) w
 unfold wantS
 simp only [List.length_nil] at h1
 omega
theorem filt_snoc (P:Int × Int->Bool) {l:List (Int × Int)} {k:Nat} (h:k < l.length):(l.take (k + 1)).filter P=if P l[k]=true then (l.take k).filter P ++ [l[k]] else (l.take k).filter P:=by
 rw [List.take_succ_eq_append_getElem h,List.filter_append]
 by_cases hp:P l[k]=true
 ·rw [if_pos hp]; simp [hp]
 ·rw [if_neg hp]; simp [hp]
theorem answ_take (xs:List Itm) {l:List (Int × Int)} {k:Nat} (h:k < l.length):answS xs (l.take (k + 1))=answF xs (answS xs (l.take k)) l[k]:=by
 unfold answS
 rw [List.take_succ_eq_append_getElem h,List.foldl_append]; rfl
theorem answ_met (xs:List Itm) {l:List (Int × Int)} {d:Int × Int} (h:d ∈ l):answF xs (answS xs l) d=answS xs l:=by
 unfold answF
 rw [if_neg]
 rintro ⟨h1,h2⟩
 exact h2 ((answS_mem xs l d).2 ⟨h,anc_knE.1 h1 d (by simp)⟩)
theorem answ_new (xs:List Itm) {l:List (Int × Int)} {d:Int × Int} (h:d ∉ l):answF xs (answS xs l) d=if (ancS xs [d]).2=0 then answS xs l ++ [d] else answS xs l:=by
 unfold answF
 have h2:d ∉ answS xs l:=fun e=>h ((answS_mem xs l d).1 e).1
 by_cases h1:(ancS xs [d]).2=0
 ·rw [if_pos ⟨h1,h2⟩,if_pos h1]
 ·rw [if_neg (fun e=>h1 e.1),if_neg h1]
theorem rch_okD {xs:List Itm} {roots:List (Int × Int)} (hok:∀ d ∈ roots,OkD d) {d:Int × Int} (h:Rch xs roots d):OkD d:=by
 cases h with
 | root h1 h2=>exact hok _ h1
 | link h1 h2 h3 h4=>exact links_ok h2 _ h3
theorem refF_len' (xs:List Itm):∀ (f:Nat) (ws T M:List (Int × Int)),(refF xs f ws T M).1.length<=T.length + f/\(refF xs f ws T M).2.length<=M.length + f
 | 0,ws,T,M=>by rw [refF]; simp
 | f + 1,[],T,M=>by rw [refF]; simp
 | f + 1,d :: ws,T,M=>by
  rw [refF]
  split
  ·have:=refF_len' xs f ws T M; omega
  ·split
   ·have:=refF_len' xs f ws T (withS M d); have:=withS_len1 M d; omega
   ·have:=refF_len' xs f (ws ++ linksS (getS xs d).1) (withS T d) M; have:=withS_len1 T d; omega
theorem reachS_lenF (xs:List Itm) (l:List (Int × Int)):(reachS xs l).1.length<=fuelR xs l/\(reachS xs l).2.length<=fuelR xs l:=by
 have:=refF_len' xs (fuelR xs l) l [] []
 rw [refF_eq] at this
 simpa using this
theorem reach_facts {xs:List Itm} {l:List (Int × Int)} (hx:xs.length<=40) (hl:l.length<=45) (hok:∀ d ∈ l,OkD d):((reachS xs l).1.length:Int)<=100000/\((reachS xs l).2.length:Int)<=100000/\(∀ d ∈ (reachS xs l).1,OkD d)/\∀ d ∈ (reachS xs l).2,OkD d:=by
 obtain ⟨h1,h2⟩:=reachS_lenF xs l
 have h3:fuelR xs l<=100000:=by unfold fuelR; omega
 refine ⟨by omega,by omega,fun d hd=>?_,fun d hd=>?_⟩
 ·exact rch_okD hok (((reachS_law xs l).2.2 d).1.1 hd).1
 ·exact rch_okD hok (((reachS_law xs l).2.2 d).2.1 hd).1
theorem send_known {xs:List Itm} {W C:List (Int × Int)}:(∀ d ∈ (reachS xs W).2,(d ∈ (reachS xs C).1 ++ (reachS xs C).2 ↔ d ∈ (reachS xs C).2))/\∀ d ∈ (reachS xs W).1,(d ∈ (reachS xs C).1 ++ (reachS xs C).2 ↔ d ∈ (reachS xs C).1):=by
 refine ⟨fun d hd=>?_,fun d hd=>?_⟩
 ·rw [List.mem_append]
  have h1:=(((reachS_law xs W).2.2 d).2.1 hd).2
  constructor
  ·rintro (h | h)
   ·exact absurd (((reachS_law xs C).2.2 d).1.1 h).2 h1
   ·exact h
  ·exact .inr
 ·rw [List.mem_append]
  have h1:=(((reachS_law xs W).2.2 d).1.1 hd).2
  constructor
  ·rintro (h | h)
   ·exact h
   ·exact absurd h1 (((reachS_law xs C).2.2 d).2.1 h).2
  ·exact .inl
theorem comE_snoc (xs:List Itm):∀ {l:List (Int × Int)} {d:Int × Int},comE xs l=0->comE xs (l ++ [d])=(commitS xs d).2
 | [],d,_=>by
  rw [List.nil_append]
  by_cases h:(commitS xs d).2=0
  ·simp [comE,h]
  ·simp [comE,h]
 | e :: l,d,h=>by
  unfold comE at h
  rw [List.cons_append]
  unfold comE
  by_cases he:(commitS xs e).2=0
  ·rw [if_neg (by simpa using he)] at h ⊢
   exact comE_snoc xs h
  ·rw [if_pos he] at h; exact absurd h he
theorem comE_bad (xs:List Itm):∀ {l r:List (Int × Int)} {d:Int × Int},comE xs l=0->(commitS xs d).2 ≠ 0->comE xs (l ++ d :: r)=(commitS xs d).2
 | [],r,d,_,h=>by rw [List.nil_append]; unfold comE; rw [if_pos h]
 | e :: l,r,d,h,hd=>by
  unfold comE at h
  rw [List.cons_append]
  unfold comE
  by_cases he:(commitS xs e).2=0
  ·rw [if_neg (by simpa using he)] at h ⊢
   exact comE_bad xs h hd
  ·rw [if_pos he] at h; exact absurd h he
theorem comE_take (xs:List Itm) {l:List (Int × Int)} {k:Nat} (h:k < l.length) (h0:comE xs (l.take k)=0):((commitS xs l[k]).2=0->comE xs (l.take (k + 1))=0)/\((commitS xs l[k]).2 ≠ 0->comE xs l=(commitS xs l[k]).2):=by
 refine ⟨fun h1=>?_,fun h1=>?_⟩
 ·rw [List.take_succ_eq_append_getElem h,comE_snoc xs h0,h1]
 ·have h2:l=l.take k ++ l[k] :: l.drop (k + 1):=by
   rw [<-List.drop_eq_getElem_cons h,List.take_append_drop]
  have h3:=comE_bad xs (r:=l.drop (k + 1)) h0 h1
  rw [<-h2] at h3
  exact h3
theorem learn_facts {xs:List Itm} (ha:AcyS xs) {t:Tk} (hv:ValidT xs t) {com:List (Int × Int)} (hc:∀ d ∈ com,d ∈ t.asked):(∀ c ∈ allS t.common com,Kn xs c)/\(∀ ds:List (Int × Int),(∀ d,d ∈ ds ↔ Bel xs (allS t.common com) d)->learnT xs t com=⟨t.want,t.queue.filter fun d=>!decide (d ∈ ds ++ allS t.common com),[],(allS t.common com).filter (fun d=>!decide (d ∈ ds)),decide ((t.queue.filter fun d=>!decide (d ∈ ds ++ allS t.common com))=[])⟩):=by
 have hk:∀ c ∈ allS t.common com,Kn xs c:=fun c hcc=>by
  rcases ((allS_law t.common com).2 c).1 hcc with h1 | h1
  ·exact hv.kn c (by simp [h1])
  ·exact hv.kn c (by simp [hc c h1])
 refine ⟨hk,fun ds hds=>?_⟩
 have hq:(t.queue.filter fun d=>!undB xs (allS t.common com) d)=t.queue.filter fun d=>!decide (d ∈ ds ++ allS t.common com):=by
  refine List.filter_congr (fun d _=>?_)
  congr 1
  rw [Bool.eq_iff_iff,(learn_prog ha hk d).2,decide_eq_true_eq,List.mem_append,hds d]
 have hm:(allS t.common com).filter (topB xs (allS t.common com))=(allS t.common com).filter (fun d=>!decide (d ∈ ds)):=by
  refine List.filter_congr (fun d _=>?_)
  rw [Bool.eq_iff_iff,(learn_prog ha hk d).1,Bool.not_eq_true',decide_eq_false_iff_not,hds d]
 unfold learnT
 rw [hq,hm]
end Go.Proofs.YtfdahmicigpnoaaGreat
