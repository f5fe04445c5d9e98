/- Joined texts: HiPl, HiDp, HiCy, HiOr, HiBa, HiRx, HiCo, HiMp, HiRv, HiVs. -/
import Derived.Test.YtfdahmicigpnoaaGreatK9
import Derived.Test.YtfdahmicigpnoaaGreatK5
import Derived.Maps.Range
import Derived.Test.YtfdahmicigpnoaaGreatPoRv
import Derived.Test.YtfdahmicigpnoaaGreatK1
import Derived.Shelf.Abstract
import Derived.WalkKit
import Derived.OwnWalkIn
import Derived.TacticsInMore
import Derived.LoopNIn
import Derived.LoopIn
/- Histories: the plain law of visiting. -/
set_option maxRecDepth 100000
set_option maxHeartbeats 16000000
open Go.Lib (hid)
namespace Go.Proofs.YtfdahmicigpnoaaGreat
open Go.RowKit Go.Shelf
set_option linter.unusedVariables false
def commitS (xs:List Itm) (d:Int × Int):Ob × Int:=if (getS xs d).2 ≠ 0 then (obZ,8) else if (getS xs d).1.kind ≠ 3 then (obZ,9) else ((getS xs d).1,0)
theorem commit_ok {xs:List Itm} {d:Int × Int} (h:(commitS xs d).2=0):(getS xs d).2=0/\(getS xs d).1.kind=3/\commitS xs d=((getS xs d).1,0):=by
 unfold commitS at h ⊢
 by_cases h1:(getS xs d).2=0
 ·by_cases h2:(getS xs d).1.kind=3
  ·exact ⟨h1,h2,by simp [h1,h2]⟩
  ·simp [h1,h2] at h
 ·simp [h1] at h
theorem pars_le {xs:List Itm} {d:Int × Int} (h:(commitS xs d).2=0):(commitS xs d).1.pars.length<=200:=by
 obtain ⟨h1,h2,h3⟩:=commit_ok h
 rw [h3]
 obtain ⟨x,_,_,hd⟩:=getS_good h1
 have hg:decodeS x.data=((getS xs d).1,0):=by rw [hd,<-h1]
 have he:(encodeS (getS xs d).1).2=0:=by rw [(decode_good hg).1]
 have hl:=links_le (getS xs d).1
 rw [links_form he,List.length_append] at hl
 simp only
 omega
def visF (xs:List Itm):Nat->List (Int × Int)->List (Int × Int)->List (Int × Int) × Int
 | 0,_,met=>(met,0)
 | f + 1,[],met=>(met,0)
 | f + 1,d :: st,met=>if d ∈ met then visF xs f st met else if (commitS xs d).2 ≠ 0 then ([],(commitS xs d).2) else visF xs f ((commitS xs d).1.pars ++ st) (met ++ [d])
theorem mea_perm (xs:List Itm) {st st' met met':List (Int × Int)} (h1:st.length=st'.length) (h2:∀ d,d ∈ met ↔ d ∈ met'):mea xs st met=mea xs st' met':=by
 unfold mea
 rw [h1]
 congr 3
 funext x
 congr 1
 rw [decide_eq_decide]
 exact h2 x.d
theorem mea_pop' (xs:List Itm) (st met:List (Int × Int)) (d:Int × Int):mea xs st met + 1=mea xs (d :: st) met:=by
 rw [mea_pop xs st met d]
 exact mea_perm xs (by simp) (fun _=>Iff.rfl)
theorem mea_hit' {xs:List Itm} {st met:List (Int × Int)} {d:Int × Int} (hm:d ∉ met) (h:(commitS xs d).2=0):mea xs ((commitS xs d).1.pars ++ st) (met ++ [d]) + 1<=mea xs (d :: st) met:=by
 have:=mea_hit (op:=st) hm (commit_ok h).1 (pars_le h)
 rw [mea_perm xs (st:=(commitS xs d).1.pars ++ st) (st':=st ++ (commitS xs d).1.pars) (met:=met ++ [d]) (met':=d :: met) (by simp; omega) (fun x=>by simp [or_comm])]
 rw [mea_perm xs (st:=d :: st) (st':=st ++ [d]) (met:=met) (met':=met) (by simp) (fun _=>Iff.rfl)]
 exact this
theorem visF_nil (xs:List Itm) (f:Nat) (met:List (Int × Int)):visF xs f [] met=(met,0):=by cases f <;> rfl
theorem visF_fuel (xs:List Itm):∀ (f g:Nat) (st met:List (Int × Int)),mea xs st met<=f->mea xs st met<=g->visF xs f st met=visF xs g st met
 | f,g,[],met,_,_=>by rw [visF_nil,visF_nil]
 | 0,g,d :: st,met,h,_=>by unfold mea at h; simp at h
 | f + 1,0,d :: st,met,_,h=>by unfold mea at h; simp at h
 | f + 1,g + 1,d :: st,met,hf,hg=>by
  rw [visF,visF]
  have h1:=mea_pop' xs st met d
  by_cases hd:d ∈ met
  ·rw [if_pos hd,if_pos hd]
   exact visF_fuel xs f g st met (by omega) (by omega)
  ·rw [if_neg hd,if_neg hd]
   by_cases he:(commitS xs d).2=0
   ·have h2:=mea_hit' (st:=st) hd he
    rw [if_neg (by simpa using he),if_neg (by simpa using he)]
    exact visF_fuel xs f g _ _ (by omega) (by omega)
   ·rw [if_pos he,if_pos he]
def visS (xs:List Itm) (st met:List (Int × Int)):List (Int × Int) × Int:=visF xs (mea xs st met) st met
theorem visS_of {xs:List Itm} {f:Nat} {st met:List (Int × Int)} (h:mea xs st met<=f):visF xs f st met=visS xs st met:=visF_fuel xs _ _ _ _ h (Nat.le_refl _)
theorem visS_nil (xs:List Itm) (met:List (Int × Int)):visS xs [] met=(met,0):=visF_nil _ _ _
theorem visS_cons (xs:List Itm) (d:Int × Int) (st met:List (Int × Int)):visS xs (d :: st) met=if d ∈ met then visS xs st met else if (commitS xs d).2 ≠ 0 then ([],(commitS xs d).2) else visS xs ((commitS xs d).1.pars ++ st) (met ++ [d]):=by
 have h1:=mea_pop' xs st met d
 rw [show visS xs (d :: st) met=visF xs (mea xs st met + 1) (d :: st) met by unfold visS; rw [h1],visF]
 by_cases hd:d ∈ met
 ·rw [if_pos hd,if_pos hd]; rfl
 ·rw [if_neg hd,if_neg hd]
  by_cases he:(commitS xs d).2=0
  ·have h2:=mea_hit' (st:=st) hd he
   rw [if_neg (by simpa using he),if_neg (by simpa using he)]
   exact visS_of (by omega)
  ·rw [if_pos he,if_pos he]
theorem visS_append (xs:List Itm):∀ (f:Nat) (ds st met:List (Int × Int)),mea xs ds met<=f->visS xs (ds ++ st) met=if (visS xs ds met).2 ≠ 0 then ([],(visS xs ds met).2) else visS xs st (visS xs ds met).1
 | f,[],st,met,_=>by rw [visS_nil]; simp
 | 0,d :: ds,st,met,h=>by unfold mea at h; simp at h
 | f + 1,d :: ds,st,met,h=>by
  have h1:=mea_pop' xs ds met d
  rw [List.cons_append,visS_cons,visS_cons xs d ds met]
  by_cases hd:d ∈ met
  ·rw [if_pos hd,if_pos hd]
   exact visS_append xs f ds st met (by omega)
  ·rw [if_neg hd,if_neg hd]
   by_cases he:(commitS xs d).2=0
   ·have h2:=mea_hit' (st:=ds) hd he
    have he':¬ ((commitS xs d).2 ≠ 0):=by simpa using he
    rw [if_neg he',if_neg he',<-List.append_assoc]
    exact visS_append xs f _ st _ (by omega)
   ·rw [if_pos he,if_pos he]
    simp only
    rw [if_pos he]
inductive Anc (xs:List Itm):Int × Int->Int × Int->Prop
 | refl (d:Int × Int):Anc xs d d
 | step {a p b:Int × Int}:(commitS xs a).2=0->p ∈ (commitS xs a).1.pars->Anc xs p b->Anc xs a b
theorem Anc.trans {xs:List Itm} {a b c:Int × Int} (h:Anc xs a b) (g:Anc xs b c):Anc xs a c:=by
 induction h with
 | refl=>exact g
 | step h1 h2 _ ih=>exact .step h1 h2 (ih g)
structure Vis (xs:List Itm) (st met r:List (Int × Int)):Prop where
 pre:∃ new,r=met ++ new
 nd:met.Nodup->r.Nodup
 got:∀ d ∈ st,d ∈ r
 ok:∀ d ∈ r,d ∈ met\/(commitS xs d).2=0
 par:∀ d ∈ r,d ∈ met\/∀ p ∈ (commitS xs d).1.pars,p ∈ r
 snd:∀ d ∈ r,d ∈ met\/∃ s ∈ st,Anc xs s d
theorem visS_law (xs:List Itm):∀ (f:Nat) (st met:List (Int × Int)),mea xs st met<=f->(visS xs st met).2=0->Vis xs st met (visS xs st met).1
 | f,[],met,_,_=>by
  rw [visS_nil]
  exact ⟨⟨[],by simp⟩,id,by simp,fun d h=>.inl h,fun d h=>.inl h,fun d h=>.inl h⟩
 | 0,d :: st,met,h,_=>by unfold mea at h; simp at h
 | f + 1,d :: st,met,h,h0=>by
  have h1:=mea_pop' xs st met d
  rw [visS_cons] at h0 ⊢
  by_cases hd:d ∈ met
  ·rw [if_pos hd] at h0 ⊢
   have g:=visS_law xs f st met (by omega) h0
   obtain ⟨new,hn⟩:=g.pre
   refine ⟨g.pre,g.nd,fun x hx=>?_,g.ok,g.par,fun x hx=>?_⟩
   ·rcases List.mem_cons.1 hx with rfl | hx
    ·rw [hn]; simp [hd]
    ·exact g.got x hx
   ·rcases g.snd x hx with h2 | ⟨s,h2,h3⟩
    ·exact .inl h2
    ·exact .inr ⟨s,by simp [h2],h3⟩
  ·rw [if_neg hd] at h0 ⊢
   by_cases he:(commitS xs d).2=0
   ·have he':¬ ((commitS xs d).2 ≠ 0):=by simpa using he
    have h2:=mea_hit' (st:=st) hd he
    rw [if_neg he'] at h0 ⊢
    have g:=visS_law xs f _ _ (by omega) h0
    generalize (visS xs ((commitS xs d).1.pars ++ st) (met ++ [d])).1=r at g
    obtain ⟨new,hn⟩:=g.pre
    have hdr:d ∈ r:=by rw [hn]; simp
    refine ⟨⟨[d] ++ new,by rw [hn]; simp⟩,fun hm=>g.nd (nodup_snoc hm hd),fun x hx=>?_,fun x hx=>?_,fun x hx=>?_,fun x hx=>?_⟩
    ·rcases List.mem_cons.1 hx with rfl | hx
     ·exact hdr
     ·exact g.got x (List.mem_append.2 (.inr hx))
    ·rcases g.ok x hx with h3 | h3
     ·rcases List.mem_append.1 h3 with h3 | h3
      ·exact .inl h3
      ·simp at h3; subst h3; exact .inr he
     ·exact .inr h3
    ·rcases g.par x hx with h3 | h3
     ·rcases List.mem_append.1 h3 with h3 | h3
      ·exact .inl h3
      ·simp at h3; subst h3; exact .inr (fun p hp=>g.got p (List.mem_append.2 (.inl hp)))
     ·exact .inr h3
    ·rcases g.snd x hx with h3 | ⟨s,h3,h4⟩
     ·rcases List.mem_append.1 h3 with h3 | h3
      ·exact .inl h3
      ·simp at h3; subst h3; exact .inr ⟨x,by simp,.refl x⟩
     ·rcases List.mem_append.1 h3 with h3 | h3
      ·exact .inr ⟨d,by simp,.step he h3 h4⟩
      ·exact .inr ⟨s,by simp [h3],h4⟩
   ·rw [if_pos he] at h0
    exact absurd h0 he
theorem visS_bad (xs:List Itm):∀ (f:Nat) (st met:List (Int × Int)),mea xs st met<=f->(visS xs st met).2 ≠ 0->(visS xs st met).1=[]/\∃ s ∈ st,∃ d,Anc xs s d/\d ∉ met/\(commitS xs d).2=(visS xs st met).2
 | f,[],met,_,h=>by rw [visS_nil] at h; exact absurd rfl h
 | 0,d :: st,met,h,_=>by unfold mea at h; simp at h
 | f + 1,d :: st,met,h,h0=>by
  have h1:=mea_pop' xs st met d
  rw [visS_cons] at h0 ⊢
  by_cases hd:d ∈ met
  ·rw [if_pos hd] at h0 ⊢
   obtain ⟨g1,s,g2,g3⟩:=visS_bad xs f st met (by omega) h0
   exact ⟨g1,s,by simp [g2],g3⟩
  ·rw [if_neg hd] at h0 ⊢
   by_cases he:(commitS xs d).2=0
   ·have he':¬ ((commitS xs d).2 ≠ 0):=by simpa using he
    have h2:=mea_hit' (st:=st) hd he
    rw [if_neg he'] at h0 ⊢
    obtain ⟨g1,s,g2,b,g3,g4,g5⟩:=visS_bad xs f _ _ (by omega) h0
    refine ⟨g1,?_⟩
    have g4':b ∉ met:=fun h=>g4 (by simp [h])
    rcases List.mem_append.1 g2 with g2 | g2
    ·exact ⟨d,by simp,b,.step he g2 g3,g4',g5⟩
    ·exact ⟨s,by simp [g2],b,g3,g4',g5⟩
   ·rw [if_pos he] at h0 ⊢
    exact ⟨rfl,d,by simp,d,.refl d,hd,rfl⟩
theorem visS_anc {xs:List Itm} {st:List (Int × Int)} (h:(visS xs st []).2=0):(visS xs st []).1.Nodup/\∀ d,d ∈ (visS xs st []).1 ↔ ∃ s ∈ st,Anc xs s d:=by
 have g:=visS_law xs _ st [] (Nat.le_refl _) h
 refine ⟨g.nd (by simp),fun d=>⟨fun hd=>?_,?_⟩⟩
 ·rcases g.snd d hd with h1 | h1
  ·simp at h1
  ·exact h1
 ·rintro ⟨s,hs,ha⟩
  have:=g.got s hs
  clear hs
  induction ha with
  | refl=>exact this
  | step h1 h2 _ ih=>
   rcases g.par _ this with h3 | h3
   ·simp at h3
   ·exact ih (h3 _ h2)
def AcyS (xs:List Itm):Prop:=∀ d p,(commitS xs d).2=0->p ∈ (commitS xs d).1.pars->¬ Anc xs p d
open Classical in
noncomputable def rkS (xs:List Itm) (d:Int × Int):Nat:=xs.countP (fun x=>decide (Anc xs d x.d))
theorem rk_le (xs:List Itm) (d:Int × Int):rkS xs d<=xs.length:=List.countP_le_length
theorem countP_strict {α:Type} {p q:α->Bool}:∀ {l:List α} {x:α},(∀ y ∈ l,p y=true->q y=true)->x ∈ l->p x=false->q x=true->l.countP p + 1<=l.countP q
 | [],x,_,hx,_,_=>by simp at hx
 | y :: l,x,h,hx,h1,h2=>by
  rw [List.countP_cons,List.countP_cons]
  have hm:l.countP p<=l.countP q:=List.countP_mono_left (fun z hz=>h z (by simp [hz]))
  rcases List.mem_cons.1 hx with rfl | hx
  ·simp [h1,h2]; exact hm
  ·have ih:=countP_strict (fun z hz=>h z (by simp [hz])) hx h1 h2
   by_cases hp:p y=true
   ·simp [hp,h y (by simp) hp]; omega
   ·simp only [hp]
    split <;> simp_all <;> omega
theorem rk_lt {xs:List Itm} (ha:AcyS xs) {d p:Int × Int} (hc:(commitS xs d).2=0) (hp:p ∈ (commitS xs d).1.pars):rkS xs p + 1<=rkS xs d:=by
 obtain ⟨x,hx,hd,_⟩:=getS_good (commit_ok hc).1
 unfold rkS
 refine countP_strict (x:=x) (fun y _ hy=>?_) hx ?_ ?_
 ·simp only [decide_eq_true_eq] at hy ⊢
  exact .step hc hp hy
 ·rw [hd]; simpa using ha d p hc hp
 ·rw [hd]; simpa using Anc.refl (xs:=xs) d
def depF (xs:List Itm):Nat->Int × Int->Nat
 | 0,_=>0
 | f + 1,d=>((commitS xs d).1.pars.map fun p=>depF xs f p + 1).foldl max 0
theorem no_pars {xs:List Itm} {d:Int × Int} (h:(commitS xs d).2 ≠ 0):(commitS xs d).1.pars=[]:=by
 unfold commitS at h ⊢
 by_cases h1:(getS xs d).2=0
 ·by_cases h2:(getS xs d).1.kind=3
  ·simp [h1,h2] at h
  ·simp [h1,h2,obZ]
 ·simp [h1,obZ]
theorem depF_fuel {xs:List Itm} (ha:AcyS xs):∀ (f g:Nat) (d:Int × Int),rkS xs d < f->rkS xs d < g->depF xs f d=depF xs g d
 | 0,g,d,h,_=>by omega
 | f + 1,0,d,_,h=>by omega
 | f + 1,g + 1,d,hf,hg=>by
  rw [depF,depF]
  congr 1
  refine List.map_congr_left (fun p hp=>?_)
  by_cases hc:(commitS xs d).2=0
  ·have:=rk_lt ha hc hp
   rw [depF_fuel ha f g p (by omega) (by omega)]
  ·rw [no_pars hc] at hp; simp at hp
def depS (xs:List Itm) (d:Int × Int):Nat:=depF xs (xs.length + 1) d
theorem depS_eq {xs:List Itm} (ha:AcyS xs) (d:Int × Int):depS xs d=((commitS xs d).1.pars.map fun p=>depS xs p + 1).foldl max 0:=by
 rw [show depS xs d=depF xs (xs.length + 1 + 1) d from depF_fuel ha _ _ d (by have:=rk_le xs d; omega) (by have:=rk_le xs d; omega),depF]
 rfl
theorem foldl_max_le {l:List Nat}:∀ {a b:Nat},l.foldl max a<=b ↔ a<=b/\∀ x ∈ l,x<=b:=by
 induction l with
 | nil=>intro a b; simp
 | cons y l ih=>intro a b; rw [List.foldl_cons,ih]; simp only [List.mem_cons,forall_eq_or_imp,Nat.max_le,and_assoc]
theorem dep_par {xs:List Itm} (ha:AcyS xs) {d p:Int × Int} (hp:p ∈ (commitS xs d).1.pars):depS xs p + 1<=depS xs d:=by
 rw [depS_eq ha d]
 exact (foldl_max_le.1 (Nat.le_refl _)).2 _ (List.mem_map.2 ⟨p,hp,rfl⟩)
theorem dep_rk {xs:List Itm} (ha:AcyS xs):∀ (f:Nat) (d:Int × Int),rkS xs d<=f->depS xs d<=rkS xs d
 | f,d,hf=>by
  rw [depS_eq ha d,foldl_max_le]
  refine ⟨Nat.zero_le _,fun x hx=>?_⟩
  obtain ⟨p,hp,rfl⟩:=List.mem_map.1 hx
  by_cases hc:(commitS xs d).2=0
  ·have h1:=rk_lt ha hc hp
   cases f with
   | zero=>omega
   | succ f=>
    have:=dep_rk ha f p (by omega)
    omega
  ·rw [no_pars hc] at hp; simp at hp
def folF (xs:List Itm):Nat->List (Int × Int)->List (Int × Int)->List (Int × Int)
 | 0,_,met=>met
 | f + 1,[],met=>met
 | f + 1,d :: st,met=>if d ∈ met then folF xs f st met else folF xs f ((commitS xs d).1.pars ++ st) (met ++ [d])
theorem mea_go {xs:List Itm} {st met:List (Int × Int)} {d:Int × Int} (hm:d ∉ met):mea xs ((commitS xs d).1.pars ++ st) (met ++ [d]) + 1<=mea xs (d :: st) met:=by
 by_cases h:(commitS xs d).2=0
 ·exact mea_hit' hm h
 ·rw [no_pars h,List.nil_append]
  have h1:=mea_miss xs st met d
  rw [mea_perm xs (st:=st) (st':=st) (met:=met ++ [d]) (met':=d :: met) rfl (fun x=>by simp [or_comm])]
  rw [mea_perm xs (st:=d :: st) (st':=st ++ [d]) (met:=met) (met':=met) (by simp) (fun _=>Iff.rfl)]
  exact h1
theorem folF_nil (xs:List Itm) (f:Nat) (met:List (Int × Int)):folF xs f [] met=met:=by cases f <;> rfl
theorem folF_fuel (xs:List Itm):∀ (f g:Nat) (st met:List (Int × Int)),mea xs st met<=f->mea xs st met<=g->folF xs f st met=folF xs g st met
 | f,g,[],met,_,_=>by rw [folF_nil,folF_nil]
 | 0,g,d :: st,met,h,_=>by unfold mea at h; simp at h
 | f + 1,0,d :: st,met,_,h=>by unfold mea at h; simp at h
 | f + 1,g + 1,d :: st,met,hf,hg=>by
  rw [folF,folF]
  have h1:=mea_pop' xs st met d
  by_cases hd:d ∈ met
  ·rw [if_pos hd,if_pos hd]
   exact folF_fuel xs f g st met (by omega) (by omega)
  ·rw [if_neg hd,if_neg hd]
   have h2:=mea_go (xs:=xs) (st:=st) hd
   exact folF_fuel xs f g _ _ (by omega) (by omega)
def folS (xs:List Itm) (st met:List (Int × Int)):List (Int × Int):=folF xs (mea xs st met) st met
theorem folS_nil (xs:List Itm) (met:List (Int × Int)):folS xs [] met=met:=folF_nil _ _ _
theorem folS_cons (xs:List Itm) (d:Int × Int) (st met:List (Int × Int)):folS xs (d :: st) met=if d ∈ met then folS xs st met else folS xs ((commitS xs d).1.pars ++ st) (met ++ [d]):=by
 have h1:=mea_pop' xs st met d
 rw [show folS xs (d :: st) met=folF xs (mea xs st met + 1) (d :: st) met by unfold folS; rw [h1],folF]
 by_cases hd:d ∈ met
 ·rw [if_pos hd,if_pos hd]; rfl
 ·rw [if_neg hd,if_neg hd]
  have h2:=mea_go (xs:=xs) (st:=st) hd
  exact folF_fuel xs _ _ _ _ (by omega) (Nat.le_refl _)
theorem folS_append (xs:List Itm):∀ (f:Nat) (ds st met:List (Int × Int)),mea xs ds met<=f->folS xs (ds ++ st) met=folS xs st (folS xs ds met)
 | f,[],st,met,_=>by rw [folS_nil]; rfl
 | 0,d :: ds,st,met,h=>by unfold mea at h; simp at h
 | f + 1,d :: ds,st,met,h=>by
  have h1:=mea_pop' xs ds met d
  rw [List.cons_append,folS_cons,folS_cons xs d ds met]
  by_cases hd:d ∈ met
  ·rw [if_pos hd,if_pos hd]
   exact folS_append xs f ds st met (by omega)
  ·rw [if_neg hd,if_neg hd]
   have h2:=mea_go (xs:=xs) (st:=ds) hd
   rw [<-List.append_assoc]
   exact folS_append xs f _ st _ (by omega)
theorem folS_law (xs:List Itm):∀ (f:Nat) (st met:List (Int × Int)),mea xs st met<=f->(∀ d ∈ met,d ∈ folS xs st met)/\(∀ d ∈ st,d ∈ folS xs st met)/\(∀ d ∈ folS xs st met,d ∈ met\/∀ p ∈ (commitS xs d).1.pars,p ∈ folS xs st met)
 | f,[],met,_=>by rw [folS_nil]; exact ⟨fun d h=>h,by simp,fun d h=>.inl h⟩
 | 0,d :: st,met,h=>by unfold mea at h; simp at h
 | f + 1,d :: st,met,h=>by
  have h1:=mea_pop' xs st met d
  rw [folS_cons]
  by_cases hd:d ∈ met
  ·rw [if_pos hd]
   obtain ⟨g1,g2,g3⟩:=folS_law xs f st met (by omega)
   refine ⟨g1,fun x hx=>?_,g3⟩
   rcases List.mem_cons.1 hx with rfl | hx
   ·exact g1 x hd
   ·exact g2 x hx
  ·rw [if_neg hd]
   have h2:=mea_go (xs:=xs) (st:=st) hd
   obtain ⟨g1,g2,g3⟩:=folS_law xs f ((commitS xs d).1.pars ++ st) (met ++ [d]) (by omega)
   refine ⟨fun x hx=>g1 x (by simp [hx]),fun x hx=>?_,fun x hx=>?_⟩
   ·rcases List.mem_cons.1 hx with rfl | hx
    ·exact g1 x (by simp)
    ·exact g2 x (List.mem_append.2 (.inr hx))
   ·rcases g3 x hx with h3 | h3
    ·rcases List.mem_append.1 h3 with h3 | h3
     ·exact .inl h3
     ·simp at h3; subst h3; exact .inr (fun p hp=>g2 p (List.mem_append.2 (.inl hp)))
    ·exact .inr h3
theorem folS_anc {xs:List Itm} {st:List (Int × Int)} {s d:Int × Int} (hs:s ∈ st) (ha:Anc xs s d):d ∈ folS xs st []:=by
 obtain ⟨g1,g2,g3⟩:=folS_law xs _ st [] (Nat.le_refl _)
 have:=g2 s hs
 clear hs
 induction ha with
 | refl=>exact this
 | step h1 h2 _ ih=>
  rcases g3 _ this with h3 | h3
  ·simp at h3
  ·exact ih (h3 _ h2)
def cycS (xs:List Itm):Bool:=xs.any fun x=>decide (x.d ∈ folS xs (commitS xs x.d).1.pars [])
theorem acy_of {xs:List Itm} (h:cycS xs=false):AcyS xs:=by
 intro d p hc hp ha
 obtain ⟨x,hx,rfl,_⟩:=getS_good (commit_ok hc).1
 unfold cycS at h
 rw [List.any_eq_false] at h
 exact h x hx (by simpa using folS_anc hp ha)
open Go.RowKit Go.Shelf Go.Sort
def cmpH (dep:Int × Int->Nat) (a b:Int × Int):Int:=if dep b < dep a then -1 else if dep a < dep b then 1 else cmpD a b
theorem cmpH_lt {dep:Int × Int->Nat} {a b:Int × Int}:cmpH dep a b < 0 ↔ dep b < dep a\/(dep a=dep b/\cmpD a b < 0):=by
 unfold cmpH
 split
 ·omega
 ·split <;> omega
theorem swoH (dep:Int × Int->Nat):SWO (ltOf (cmpH dep)) where
 irrefl x:=by
  unfold ltOf
  rw [decide_eq_false_iff_not,cmpH_lt,cmpD_self]
  omega
 trans x y z h1 h2:=by
  unfold ltOf at *
  simp only [decide_eq_true_eq,cmpH_lt] at *
  rcases h1 with h1 | ⟨h1,g1⟩
  ·rcases h2 with h2 | ⟨h2,g2⟩ <;> omega
  ·rcases h2 with h2 | ⟨h2,g2⟩
   ·omega
   ·exact .inr ⟨by omega,cmpD_trans g1 g2⟩
 ntrans x y z h1 h2:=by
  unfold ltOf at *
  simp only [decide_eq_false_iff_not,cmpH_lt] at *
  have g1:=cmpD_range x y
  have g2:=cmpD_range y z
  have g3:=cmpD_range x z
  omega
def AscH (dep:Int × Int->Nat) (l:List (Int × Int)):Prop:=l.Pairwise fun x y=>cmpH dep x y < 0
theorem pairwise_ext {R:Int × Int->Int × Int->Prop} (ha:∀ a b,R a b->¬ R b a):∀ {xs ys:List (Int × Int)},xs.Pairwise R->ys.Pairwise R->(∀ x,x ∈ xs ↔ x ∈ ys)->xs=ys
 | [],[],_,_,_=>rfl
 | [],y :: ys,_,_,hm=>by have:=(hm y).2 (by simp); simp at this
 | x :: xs,[],_,_,hm=>by have:=(hm x).1 (by simp); simp at this
 | x :: xs,y :: ys,h1,h2,hm=>by
  rw [List.pairwise_cons] at h1 h2
  have e:x=y:=by
   rcases List.mem_cons.1 ((hm x).1 (by simp)) with h | h
   ·exact h
   ·rcases List.mem_cons.1 ((hm y).2 (by simp)) with h' | h'
    ·exact h'.symm
    ·exact absurd (h2.1 x h) (ha _ _ (h1.1 y h'))
  subst e
  congr 1
  refine pairwise_ext ha h1.2 h2.2 fun z=>⟨fun hz=>?_,fun hz=>?_⟩
  ·rcases List.mem_cons.1 ((hm z).1 (by simp [hz])) with rfl | h
   ·exact absurd (h1.1 z hz) (ha _ _ (h1.1 z hz))
   ·exact h
  ·rcases List.mem_cons.1 ((hm z).2 (by simp [hz])) with rfl | h
   ·exact absurd (h2.1 z hz) (ha _ _ (h2.1 z hz))
   ·exact h
theorem cmpH_asymm (dep:Int × Int->Nat) (a b:Int × Int) (h:cmpH dep a b < 0):¬ cmpH dep b a < 0:=by
 rw [cmpH_lt] at h ⊢
 have:=cmpD_anti (a:=a) (b:=b)
 omega
theorem ascH_ext {dep:Int × Int->Nat} {xs ys:List (Int × Int)} (h1:AscH dep xs) (h2:AscH dep ys) (hm:∀ x,x ∈ xs ↔ x ∈ ys):xs=ys:=pairwise_ext (cmpH_asymm dep) h1 h2 hm
def sortH (dep:Int × Int->Nat) (l:List (Int × Int)):List (Int × Int):=l.mergeSort fun x y=>!(ltOf (cmpH dep)) y x
theorem sortH_perm (dep:Int × Int->Nat) (l:List (Int × Int)):(sortH dep l).Perm l:=List.mergeSort_perm _ _
theorem sortH_asc {dep:Int × Int->Nat} {l:List (Int × Int)} (h:l.Nodup):AscH dep (sortH dep l):=by
 have h1:(sortH dep l).Pairwise (fun x y=>(!(ltOf (cmpH dep)) y x)=true):=by
  unfold sortH
  refine List.pairwise_mergeSort (fun a b c h1 h2=>?_) (fun a b=>?_) l
  ·simp only [Bool.not_eq_true'] at h1 h2 ⊢
   exact (swoH dep).ntrans c b a h2 h1
  ·unfold ltOf
   by_cases g:cmpH dep b a < 0
   ·have:=cmpH_asymm dep b a g
    simp [g,this]
   ·simp [g]
 have h2:(sortH dep l).Nodup:=(sortH_perm dep l).nodup_iff.2 h
 refine (h1.and h2).imp ?_
 rintro x y ⟨h3,h4⟩
 unfold ltOf at h3
 simp only [Bool.not_eq_true',decide_eq_false_iff_not] at h3
 rw [cmpH_lt] at h3 ⊢
 have g1:=cmpD_range x y
 have g2:=cmpD_range y x
 have:¬ cmpD x y=0:=fun e=>h4 (cmpD_zero.1 e)
 omega
def layerS (dep:Int × Int->Nat) (l:List (Int × Int)) (k:Nat):List (Int × Int):=(l.filter fun d=>decide (dep d=k)).foldl withS []
def layersS (dep:Int × Int->Nat) (l:List (Int × Int)):Nat->List (Int × Int)
 | 0=>[]
 | k + 1=>layerS dep l k ++ layersS dep l k
theorem foldl_with:∀ (l acc:List (Int × Int)),AscD acc->AscD (l.foldl withS acc)/\∀ x,x ∈ l.foldl withS acc ↔ x ∈ acc\/x ∈ l
 | [],acc,h=>⟨h,fun x=>by simp⟩
 | d :: l,acc,h=>by
  obtain ⟨h1,h2⟩:=foldl_with l (withS acc d) (withS_asc d h)
  refine ⟨h1,fun x=>?_⟩
  rw [List.foldl_cons,h2 x,withS_mem,List.mem_cons,or_assoc]
theorem layerS_law (dep:Int × Int->Nat) (l:List (Int × Int)) (k:Nat):AscD (layerS dep l k)/\∀ x,x ∈ layerS dep l k ↔ x ∈ l/\dep x=k:=by
 obtain ⟨h1,h2⟩:=foldl_with (l.filter fun d=>decide (dep d=k)) [] List.Pairwise.nil
 refine ⟨h1,fun x=>?_⟩
 unfold layerS
 rw [h2 x,List.mem_filter]
 simp
theorem layersS_law (dep:Int × Int->Nat) (l:List (Int × Int)):∀ n,AscH dep (layersS dep l n)/\∀ x,x ∈ layersS dep l n ↔ x ∈ l/\dep x < n
 | 0=>⟨List.Pairwise.nil,fun x=>by simp [layersS]⟩
 | n + 1=>by
  obtain ⟨h1,h2⟩:=layersS_law dep l n
  obtain ⟨g1,g2⟩:=layerS_law dep l n
  refine ⟨?_,fun x=>?_⟩
  ·rw [layersS]
   refine List.pairwise_append.2 ⟨?_,h1,fun a ha b hb=>?_⟩
   ·refine List.Pairwise.imp_of_mem (fun ha hb hc=>?_) g1
    rw [cmpH_lt]
    exact .inr ⟨by rw [((g2 _).1 ha).2,((g2 _).1 hb).2],hc⟩
   ·rw [cmpH_lt]
    have e1:=((g2 a).1 ha).2
    have e2:=((h2 b).1 hb).2
    exact .inl (by omega)
  ·rw [layersS,List.mem_append,g2 x,h2 x]
   constructor
   ·rintro (⟨e1,e2⟩ | ⟨e1,e2⟩)
    ·exact ⟨e1,by omega⟩
    ·exact ⟨e1,by omega⟩
   ·rintro ⟨e1,e2⟩
    rcases Nat.lt_or_ge (dep x) n with e3 | e3
    ·exact .inr ⟨e1,e3⟩
    ·exact .inl ⟨e1,by omega⟩
theorem layers_sort {dep:Int × Int->Nat} {l:List (Int × Int)} (h:l.Nodup) {n:Nat} (hn:∀ x ∈ l,dep x < n):layersS dep l n=sortH dep l:=by
 obtain ⟨h1,h2⟩:=layersS_law dep l n
 refine ascH_ext h1 (sortH_asc h) fun x=>?_
 rw [h2 x,(sortH_perm dep l).mem_iff]
 exact ⟨fun e=>e.1,fun e=>⟨e,hn x e⟩⟩
def atL (l:List (Int × Int)) (i:Nat):Int × Int:=l.getD i (0,0)
def rStep (xs:List Itm) (l:List (Int × Int)) (i:Nat) (out:List Nat) (k:Nat):List Nat:=if atL l k ∈ (commitS xs (atL l i)).1.pars then out.set i (max (out.getD i 0) (out.getD k 0 + 1)) else out
def rRow (xs:List Itm) (l:List (Int × Int)) (out:List Nat) (i:Nat):List Nat:=(List.range l.length).foldl (rStep xs l i) out
def rRound (xs:List Itm) (l:List (Int × Int)) (out:List Nat):List Nat:=(List.range l.length).foldl (rRow xs l) out
def relN (xs:List Itm) (l:List (Int × Int)):Nat->List Nat
 | 0=>List.replicate l.length 0
 | r + 1=>rRound xs l (relN xs l r)
def Und (xs:List Itm) (l:List (Int × Int)) (out:List Nat):Prop:=out.length=l.length/\∀ i,i < l.length->out.getD i 0<=depS xs (atL l i)
def Up (a b:List Nat):Prop:=∀ j,a.getD j 0<=b.getD j 0
theorem Up.trans {a b c:List Nat} (h:Up a b) (g:Up b c):Up a c:=fun j=>Nat.le_trans (h j) (g j)
theorem getD_set (out:List Nat) (i v j:Nat) (hi:i < out.length):(out.set i v).getD j 0=if j=i then v else out.getD j 0:=by
 rw [List.getD_eq_getElem?_getD,List.getD_eq_getElem?_getD,List.getElem?_set]
 by_cases h:i=j
 ·subst h; simp [hi]
 ·have:¬ j=i:=fun e=>h e.symm
  simp [h,this]
theorem rStep_law {xs:List Itm} (ha:AcyS xs) {l:List (Int × Int)} {i k:Nat} {out:List Nat} (hi:i < l.length) (hk:k < l.length) (h:Und xs l out):Und xs l (rStep xs l i out k)/\Up out (rStep xs l i out k)/\(atL l k ∈ (commitS xs (atL l i)).1.pars->out.getD k 0 + 1<=(rStep xs l i out k).getD i 0):=by
 unfold rStep
 by_cases hc:atL l k ∈ (commitS xs (atL l i)).1.pars
 ·rw [if_pos hc]
  have hio:i < out.length:=by rw [h.1]; exact hi
  refine ⟨⟨by simp [h.1],fun j hj=>?_⟩,fun j=>?_,fun _=>?_⟩
  ·rw [getD_set _ _ _ _ hio]
   by_cases e:j=i
   ·subst e
    rw [if_pos rfl]
    have h1:=h.2 j hj
    have h2:=h.2 k hk
    have h3:=dep_par ha hc
    omega
   ·rw [if_neg e]; exact h.2 j hj
  ·rw [getD_set _ _ _ _ hio]
   by_cases e:j=i
   ·subst e; rw [if_pos rfl]; omega
   ·rw [if_neg e]; omega
  ·rw [getD_set _ _ _ _ hio,if_pos rfl]; omega
 ·rw [if_neg hc]
  exact ⟨h,fun j=>Nat.le_refl _,fun e=>absurd e hc⟩
theorem rRow_law {xs:List Itm} (ha:AcyS xs) {l:List (Int × Int)} {i:Nat} (hi:i < l.length):∀ (ks:List Nat) (out:List Nat),(∀ k ∈ ks,k < l.length)->Und xs l out->Und xs l (ks.foldl (rStep xs l i) out)/\Up out (ks.foldl (rStep xs l i) out)/\∀ k ∈ ks,atL l k ∈ (commitS xs (atL l i)).1.pars->out.getD k 0 + 1<=(ks.foldl (rStep xs l i) out).getD i 0
 | [],out,_,h=>⟨h,fun j=>Nat.le_refl _,by simp⟩
 | k :: ks,out,hk,h=>by
  obtain ⟨g1,g2,g3⟩:=rStep_law ha hi (hk k (by simp)) h
  obtain ⟨f1,f2,f3⟩:=rRow_law ha hi ks (rStep xs l i out k) (fun z hz=>hk z (by simp [hz])) g1
  refine ⟨f1,g2.trans f2,fun z hz hc=>?_⟩
  rcases List.mem_cons.1 hz with rfl | hz
  ·exact Nat.le_trans (g3 hc) (f2 i)
  ·have:=f3 z hz hc
   have:=g2 z
   rw [List.foldl_cons]
   omega
theorem rRound_law {xs:List Itm} (ha:AcyS xs) {l:List (Int × Int)}:∀ (is:List Nat) (out:List Nat),(∀ k ∈ is,k < l.length)->Und xs l out->Und xs l (is.foldl (rRow xs l) out)/\Up out (is.foldl (rRow xs l) out)/\∀ i ∈ is,∀ k,k < l.length->atL l k ∈ (commitS xs (atL l i)).1.pars->out.getD k 0 + 1<=(is.foldl (rRow xs l) out).getD i 0
 | [],out,_,h=>⟨h,fun j=>Nat.le_refl _,by simp⟩
 | i :: is,out,hk,h=>by
  obtain ⟨g1,g2,g3⟩:=rRow_law ha (hk i (by simp)) (List.range l.length) out (fun z hz=>by simpa using hz) h
  obtain ⟨f1,f2,f3⟩:=rRound_law ha is (rRow xs l out i) (fun z hz=>hk z (by simp [hz])) g1
  refine ⟨f1,Up.trans g2 f2,fun z hz k hkl hc=>?_⟩
  rcases List.mem_cons.1 hz with rfl | hz
  ·exact Nat.le_trans (g3 k (by simpa using hkl) hc) (f2 z)
  ·have h1:=f3 z hz k hkl hc
   have h2:out.getD k 0<=(rRow xs l out i).getD k 0:=g2 k
   rw [List.foldl_cons]
   omega
theorem dep_some {xs:List Itm} (ha:AcyS xs) {d:Int × Int} (h:0 < depS xs d):∃ p ∈ (commitS xs d).1.pars,depS xs d=depS xs p + 1:=by
 rw [depS_eq ha d] at h ⊢
 have key:∀ (ls:List Nat) (a:Nat),ls.foldl max a=a\/ls.foldl max a ∈ ls:=by
  intro ls
  induction ls with
  | nil=>intro a; exact .inl rfl
  | cons y ls ih=>
   intro a
   rw [List.foldl_cons]
   rcases ih (max a y) with e | e
   ·rw [e]
    rcases Nat.le_total a y with g | g
    ·right; rw [Nat.max_eq_right g]; simp
    ·left; rw [Nat.max_eq_left g]
   ·right; simp [e]
 rcases key ((commitS xs d).1.pars.map fun p=>depS xs p + 1) 0 with e | e
 ·omega
 ·obtain ⟨p,hp,he⟩:=List.mem_map.1 e
  exact ⟨p,hp,he.symm⟩
theorem relN_law {xs:List Itm} (ha:AcyS xs) {l:List (Int × Int)} (hl:∀ d ∈ l,∀ p ∈ (commitS xs d).1.pars,p ∈ l):∀ r,Und xs l (relN xs l r)/\∀ i,i < l.length->min (depS xs (atL l i)) r<=(relN xs l r).getD i 0
 | 0=>⟨⟨by simp [relN],fun i hi=>by simp [relN,List.getD_eq_getElem?_getD,hi]⟩,fun i hi=>by omega⟩
 | r + 1=>by
  obtain ⟨h1,h2⟩:=relN_law ha hl r
  obtain ⟨g1,g2,g3⟩:=rRound_law ha (List.range l.length) (relN xs l r) (fun z hz=>by simpa using hz) h1
  refine ⟨g1,fun i hi=>?_⟩
  by_cases h0:depS xs (atL l i)=0
  ·omega
  ·obtain ⟨p,hp,he⟩:=dep_some ha (Nat.pos_of_ne_zero h0)
   have hd:atL l i=l[i]:=by unfold atL; rw [List.getD_eq_getElem?_getD,List.getElem?_eq_getElem hi]; rfl
   obtain ⟨k,hk,hkp⟩:=List.getElem_of_mem (hl (atL l i) (by rw [hd]; exact List.getElem_mem hi) p hp)
   have hka:atL l k=p:=by unfold atL; rw [List.getD_eq_getElem?_getD,List.getElem?_eq_getElem hk]; exact hkp
   have e1:=g3 i (by simpa using hi) k hk (by rw [hka]; exact hp)
   have e2:=h2 k hk
   rw [hka] at e2
   have e3:(relN xs l (r + 1)).getD i 0=((List.range l.length).foldl (rRow xs l) (relN xs l r)).getD i 0:=rfl
   rw [e3]
   omega
open Classical in
noncomputable def rkL (xs:List Itm) (l:List (Int × Int)) (d:Int × Int):Nat:=l.countP (fun x=>decide (Anc xs d x))
theorem rkL_lt {xs:List Itm} (ha:AcyS xs) {l:List (Int × Int)} {d p:Int × Int} (hd:d ∈ l) (hc:(commitS xs d).2=0) (hp:p ∈ (commitS xs d).1.pars):rkL xs l p + 1<=rkL xs l d:=by
 unfold rkL
 refine countP_strict (x:=d) (fun y _ hy=>?_) hd ?_ ?_
 ·simp only [decide_eq_true_eq] at hy ⊢
  exact .step hc hp hy
 ·simpa using ha d p hc hp
 ·simpa using Anc.refl (xs:=xs) d
theorem dep_rkL {xs:List Itm} (ha:AcyS xs) {l:List (Int × Int)} (hl:∀ d ∈ l,∀ p ∈ (commitS xs d).1.pars,p ∈ l):∀ (f:Nat) (d:Int × Int),rkL xs l d<=f->d ∈ l->depS xs d + 1<=rkL xs l d
 | f,d,hf,hd=>by
  have h1:1<=rkL xs l d:=by
   unfold rkL
   exact List.countP_pos_iff.2 ⟨d,hd,by simpa using Anc.refl (xs:=xs) d⟩
  by_cases h0:depS xs d=0
  ·omega
  ·obtain ⟨p,hp,he⟩:=dep_some ha (Nat.pos_of_ne_zero h0)
   have hc:(commitS xs d).2=0:=by
    by_cases hc:(commitS xs d).2=0
    ·exact hc
    ·rw [no_pars hc] at hp; simp at hp
   have h2:=rkL_lt ha hd hc hp
   cases f with
   | zero=>omega
   | succ f=>
    have:=dep_rkL ha hl f p (by omega) (hl d hd p hp)
    omega
theorem dep_len {xs:List Itm} (ha:AcyS xs) {l:List (Int × Int)} (hl:∀ d ∈ l,∀ p ∈ (commitS xs d).1.pars,p ∈ l) {d:Int × Int} (hd:d ∈ l):depS xs d + 1<=l.length:=by
 have h1:=dep_rkL ha hl _ d (Nat.le_refl _) hd
 have h2:rkL xs l d<=l.length:=List.countP_le_length
 omega
theorem relN_dep {xs:List Itm} (ha:AcyS xs) {l:List (Int × Int)} (hl:∀ d ∈ l,∀ p ∈ (commitS xs d).1.pars,p ∈ l) {i:Nat} (hi:i < l.length):(relN xs l l.length).getD i 0=depS xs (atL l i):=by
 obtain ⟨h1,h2⟩:=relN_law ha hl l.length
 have h3:=h1.2 i hi
 have h4:=h2 i hi
 have hd:atL l i=l[i]:=by unfold atL; rw [List.getD_eq_getElem?_getD,List.getElem?_eq_getElem hi]; rfl
 have h5:=dep_len ha hl (d:=atL l i) (by rw [hd]; exact List.getElem_mem hi)
 omega
theorem commit_any (a:Option Addr) (xs:List Itm) (c:Nat) (x y:Int) (w:World) (hp:PoolIn w a xs c) (ha:Asc xs) :
  Calls Tryz.prog 134 #[.slice a xs.length c,.agg #[.int .u64 x,.int .u64 y]] w (GotO w (commitS xs (x,y)).1 (commitS xs (x,y)).2):=by
 have HG:=hid (fun W (hW:Below w.heap.size w W)=>get_any a xs c x y W (hp.below hW) ha)
 obtain ⟨n,hnn⟩:∃ n,n=xs.length:=⟨_,rfl⟩
 rw [<-hnn] at HG ⊢
 have HC:Hid (commitS xs (x,y)=if (getS xs (x,y)).2 ≠ 0 then (obZ,8) else if (getS xs (x,y)).1.kind ≠ 3 then (obZ,9) else ((getS xs (x,y)).1,0)):=hid rfl
 generalize getS xs (x,y)=OE at HG HC
 obtain ⟨o,er⟩:=OE
 simp only at HG HC
 generalize commitS xs (x,y)=CR at HC ⊢
 obtain ⟨w0,hw0⟩:∃ w0,w0=(w.alloc (.cells #[.int .u64 x,.int .u64 y] 41)).alloc (.cells #[.int .i64 0,.string ⟨#[]⟩,.slice none 0 0,.int .u64 0,.int .u64 0,.slice none 0 0,.string ⟨#[]⟩,.int .i64 0,.string ⟨#[]⟩] 56):=⟨_,rfl⟩
 have HK0:Hid (BK (w.heap.size + 1) #[.int .i64 0,.string ⟨#[]⟩,.slice none 0 0,.int .u64 0,.int .u64 0,.slice none 0 0,.string ⟨#[]⟩,.int .i64 0,.string ⟨#[]⟩] 56 w0):=hid (by rw [hw0]; exact BK.new2 _ _ _ _)
 have HB0:Hid (Below w.heap.size w w0):=hid (by rw [hw0]; exact ((Below.refl _ w).alloc (Nat.le_refl _) _).alloc (by simp) _)
 have hw0s:w0.heap.size=w.heap.size + 2:=by rw [hw0]; simp
 have HG0:=hid (HG.out w0 HB0.out)
 rw [hw0] at HG0
 have HW0:=hid hw0
 clear hw0 HG hnn hp ha
 go_enter Tryz.func134,Tryz.ntmps134
 go_wp2_with fail
 (with_reducible refine (HG0.out).mono ?_)
 rintro e v ⟨ea,ec,pa,pc,rfl,hob,hb⟩
 rw [<-HW0.out] at hb hob
 rw [hw0s] at hob
 have HB1:=hid (HB0.out.trans (hb.mono HB0.out.size))
 have HK1:=hid (HK0.out.below hb)
 have HOB:=hid hob
 have hv:=HK1.out.lt
 clear hob hb HG0 HW0 HB0 HK0 hw0s
 obtain ⟨kind,data,ents,⟨t1,t2⟩,pars,author,time,msg⟩:=o
 obtain ⟨v2,hv2⟩:∃ v2,v2=v.alloc (.cells (Ob.arr ⟨kind,data,ents,(t1,t2),pars,author,time,msg⟩ ea ec pa pc) 56):=⟨_,rfl⟩
 have HFN:Hid (∀ W,CR=(⟨kind,data,ents,(t1,t2),pars,author,time,msg⟩,0)->v2.grownBy W (some (w.heap.size + 1))->Below w.heap.size w W->GotO w CR.1 CR.2 (.returned (.tuple #[.agg #[.int .i64 kind,.string ⟨data.toArray⟩,.slice ea ents.length ec,.int .u64 t1,.int .u64 t2,.slice pa pars.length pc,.string ⟨author.toArray⟩,.int .i64 time,.string ⟨msg.toArray⟩],.int .i64 0])) W):=hid (fun W hc h1 h2=>by
  rw [hc]
  have hO:=HOB.out.below (show Below v.heap.size v v2 by rw [hv2]; exact (Below.refl _ _).alloc (Nat.le_refl _) _)
  exact ⟨ea,ec,pa,pc,rfl,(hO.kept h1 (by omega)).le (by omega),h2⟩)
 have HK3:Hid (BK (w.heap.size + 1) #[.int .i64 0,.string ⟨#[]⟩,.slice none 0 0,.int .u64 0,.int .u64 0,.slice none 0 0,.string ⟨#[]⟩,.int .i64 0,.string ⟨#[]⟩] 56 v2):=hid (by rw [hv2]; exact HK1.out.alloc _)
 have HKO:Hid (BK v.heap.size (Ob.arr ⟨kind,data,ents,(t1,t2),pars,author,time,msg⟩ ea ec pa pc) 56 v2):=hid (by rw [hv2]; exact BK.new _ _ _)
 have HB3:Hid (Below w.heap.size w v2):=hid (by rw [hv2]; exact HB1.out.alloc HB1.out.size _)
 simp only [Ob.arr] at hv2 HKO
 simp only [Ob.val]
 generalize ents.length=ne at HFN hv2 HKO ⊢
 generalize pars.length=np at HFN hv2 HKO ⊢
 have HV2:=hid hv2
 clear hv2 HB1 HK1 HOB
 have hne:v.heap.size ≠ w.heap.size + 1:=by omega
 go_upto_region 2 with (fail)
 rw [<-HV2.out]
 obtain ⟨r0,r1,r2,r3,r4,r5,r6,r7,r8⟩:=BK.c9 (show BK _ #[.int .i64 0,.string ⟨#[]⟩,.slice none 0 0,.int .u64 0,.int .u64 0,.slice none 0 0,.string ⟨#[]⟩,.int .i64 0,.string ⟨#[]⟩] _ _ from HK3.out)
 obtain ⟨fr0,fr1,fr2,fr3,fr4,fr5,fr6,fr7,fr8⟩:=BK.f9 (HK3.out)
 obtain ⟨o0,o1,o2,o3,o4,o5,o6,o7,o8⟩:=BK.c9 (show BK _ #[.int .i64 kind,.string ⟨data.toArray⟩,.slice ea ne ec,.int .u64 t1,.int .u64 t2,.slice pa np pc,.string ⟨author.toArray⟩,.int .i64 time,.string ⟨msg.toArray⟩] _ _ from HKO.out)
 clear HV2 HK3 HKO
 by_cases he:er=0
 ·subst he
  simp only [ne_eq,not_true_eq_false,if_false] at HC
  by_cases hk:kind=3
  ·subst hk
   simp only [not_true_eq_false,if_false] at HC
   go_wp2_with fail
   refine bodyPost_ret (v:=.tuple #[.agg #[.int .i64 3,.string ⟨data.toArray⟩,.slice ea ne ec,.int .u64 t1,.int .u64 t2,.slice pa np pc,.string ⟨author.toArray⟩,.int .i64 time,.string ⟨msg.toArray⟩],.int .i64 0]) (by simp [results,Tryz.results134,go_sem,r0,r1,r2,r3,r4,r5,r6,r7,r8]) rfl ?_
   refine HFN.out _ HC.out ?_ ?_
   ·exact (gown (gown (gown (gown (gown (gown (gown (gown (gset _ _ _ _) _ _) _ _) _ _) _ _) _ _) _ _) _ _) _ _)
   ·exact ((((((((HB3.out.setCell (by simp) _).setCell (by simp) _).setCell (by simp) _).setCell (by simp) _).setCell (by simp) _).setCell (by simp) _).setCell (by simp) _).setCell (by simp) _).setCell (by simp) _
  ·have hkk:(kind != 3)=true:=by simpa using hk
   rw [if_pos hk] at HC
   go_wp2_with fail
   refine bodyPost_ret (v:=.tuple #[obZ.val none 0 none 0,.int .i64 9]) (by simp [results,Tryz.results134,go_sem,obZ,r0,r1,r2,r3,r4,r5,r6,r7,r8]) rfl ?_
   rw [HC.out]
   exact ⟨none,0,none,0,rfl,ObOwn.zero _ _,((((((((HB3.out.setCell (by simp) _).setCell (by simp) _).setCell (by simp) _).setCell (by simp) _).setCell (by simp) _).setCell (by simp) _).setCell (by simp) _).setCell (by simp) _).setCell (by simp) _⟩
 ·have hee:(er != 0)=true:=by simpa using he
  simp only [ne_eq] at HC
  rw [if_pos he] at HC
  go_wp2_with fail
  refine bodyPost_ret (v:=.tuple #[obZ.val none 0 none 0,.int .i64 8]) (by simp [results,Tryz.results134,go_sem,obZ,r0,r1,r2,r3,r4,r5,r6,r7,r8]) rfl ?_
  rw [HC.out]
  exact ⟨none,0,none,0,rfl,ObOwn.zero _ _,((((((((HB3.out.setCell (by simp) _).setCell (by simp) _).setCell (by simp) _).setCell (by simp) _).setCell (by simp) _).setCell (by simp) _).setCell (by simp) _).setCell (by simp) _).setCell (by simp) _⟩
theorem rcmt_any (a:Option Addr) (xs:List Itm) (c:Nat) (x y:Int) (w:World) (hp:Its w.heap.size w a xs) (ha:Asc xs) (hn:(xs.length:Int)<=1000000) (hd:∀ x ∈ xs,(x.data.length:Int)<=1000000) :
  Calls Tryz.prog 188 #[.slice a xs.length c,.agg #[.int .u64 x,.int .u64 y]] w (GotO w (commitS xs (x,y)).1 (commitS xs (x,y)).2):=by
 have HG:=hid (fun W (hW:Below w.heap.size w W)=>rget_any a xs c x y W (hp.ahead hW) ha hn hd)
 obtain ⟨n,hnn⟩:∃ n,n=xs.length:=⟨_,rfl⟩
 rw [<-hnn] at HG ⊢
 have HC:Hid (commitS xs (x,y)=if (getS xs (x,y)).2 ≠ 0 then (obZ,8) else if (getS xs (x,y)).1.kind ≠ 3 then (obZ,9) else ((getS xs (x,y)).1,0)):=hid rfl
 generalize getS xs (x,y)=OE at HG HC
 obtain ⟨o,er⟩:=OE
 simp only at HG HC
 generalize commitS xs (x,y)=CR at HC ⊢
 obtain ⟨w0,hw0⟩:∃ w0,w0=(w.alloc (.cells #[.int .u64 x,.int .u64 y] 41)).alloc (.cells #[.int .i64 0,.string ⟨#[]⟩,.slice none 0 0,.int .u64 0,.int .u64 0,.slice none 0 0,.string ⟨#[]⟩,.int .i64 0,.string ⟨#[]⟩] 56):=⟨_,rfl⟩
 have HK0:Hid (BK (w.heap.size + 1) #[.int .i64 0,.string ⟨#[]⟩,.slice none 0 0,.int .u64 0,.int .u64 0,.slice none 0 0,.string ⟨#[]⟩,.int .i64 0,.string ⟨#[]⟩] 56 w0):=hid (by rw [hw0]; exact BK.new2 _ _ _ _)
 have HB0:Hid (Below w.heap.size w w0):=hid (by rw [hw0]; exact ((Below.refl _ w).alloc (Nat.le_refl _) _).alloc (by simp) _)
 have hw0s:w0.heap.size=w.heap.size + 2:=by rw [hw0]; simp
 have HG0:=hid (HG.out w0 HB0.out)
 rw [hw0] at HG0
 have HW0:=hid hw0
 clear hw0 HG hnn hp ha hn hd
 go_enter Tryz.func188,Tryz.ntmps188
 go_wp2_with fail
 (with_reducible refine (HG0.out).mono ?_)
 rintro e v ⟨ea,ec,pa,pc,rfl,hob,hb⟩
 rw [<-HW0.out] at hb hob
 rw [hw0s] at hob
 have HB1:=hid (HB0.out.trans (hb.mono HB0.out.size))
 have HK1:=hid (HK0.out.below hb)
 have HOB:=hid hob
 have hv:=HK1.out.lt
 clear hob hb HG0 HW0 HB0 HK0 hw0s
 obtain ⟨kind,data,ents,⟨t1,t2⟩,pars,author,time,msg⟩:=o
 obtain ⟨v2,hv2⟩:∃ v2,v2=v.alloc (.cells (Ob.arr ⟨kind,data,ents,(t1,t2),pars,author,time,msg⟩ ea ec pa pc) 56):=⟨_,rfl⟩
 have HFN:Hid (∀ W,CR=(⟨kind,data,ents,(t1,t2),pars,author,time,msg⟩,0)->v2.grownBy W (some (w.heap.size + 1))->Below w.heap.size w W->GotO w CR.1 CR.2 (.returned (.tuple #[.agg #[.int .i64 kind,.string ⟨data.toArray⟩,.slice ea ents.length ec,.int .u64 t1,.int .u64 t2,.slice pa pars.length pc,.string ⟨author.toArray⟩,.int .i64 time,.string ⟨msg.toArray⟩],.int .i64 0])) W):=hid (fun W hc h1 h2=>by
  rw [hc]
  have hO:=HOB.out.below (show Below v.heap.size v v2 by rw [hv2]; exact (Below.refl _ _).alloc (Nat.le_refl _) _)
  exact ⟨ea,ec,pa,pc,rfl,(hO.kept h1 (by omega)).le (by omega),h2⟩)
 have HK3:Hid (BK (w.heap.size + 1) #[.int .i64 0,.string ⟨#[]⟩,.slice none 0 0,.int .u64 0,.int .u64 0,.slice none 0 0,.string ⟨#[]⟩,.int .i64 0,.string ⟨#[]⟩] 56 v2):=hid (by rw [hv2]; exact HK1.out.alloc _)
 have HKO:Hid (BK v.heap.size (Ob.arr ⟨kind,data,ents,(t1,t2),pars,author,time,msg⟩ ea ec pa pc) 56 v2):=hid (by rw [hv2]; exact BK.new _ _ _)
 have HB3:Hid (Below w.heap.size w v2):=hid (by rw [hv2]; exact HB1.out.alloc HB1.out.size _)
 simp only [Ob.arr] at hv2 HKO
 simp only [Ob.val]
 generalize ents.length=ne at HFN hv2 HKO ⊢
 generalize pars.length=np at HFN hv2 HKO ⊢
 have HV2:=hid hv2
 clear hv2 HB1 HK1 HOB
 have hne:v.heap.size ≠ w.heap.size + 1:=by omega
 go_upto_region 2 with (fail)
 rw [<-HV2.out]
 obtain ⟨r0,r1,r2,r3,r4,r5,r6,r7,r8⟩:=BK.c9 (show BK _ #[.int .i64 0,.string ⟨#[]⟩,.slice none 0 0,.int .u64 0,.int .u64 0,.slice none 0 0,.string ⟨#[]⟩,.int .i64 0,.string ⟨#[]⟩] _ _ from HK3.out)
 obtain ⟨fr0,fr1,fr2,fr3,fr4,fr5,fr6,fr7,fr8⟩:=BK.f9 (HK3.out)
 obtain ⟨o0,o1,o2,o3,o4,o5,o6,o7,o8⟩:=BK.c9 (show BK _ #[.int .i64 kind,.string ⟨data.toArray⟩,.slice ea ne ec,.int .u64 t1,.int .u64 t2,.slice pa np pc,.string ⟨author.toArray⟩,.int .i64 time,.string ⟨msg.toArray⟩] _ _ from HKO.out)
 clear HV2 HK3 HKO
 by_cases he:er=0
 ·subst he
  simp only [ne_eq,not_true_eq_false,if_false] at HC
  by_cases hk:kind=3
  ·subst hk
   simp only [not_true_eq_false,if_false] at HC
   go_wp2_with fail
   refine bodyPost_ret (v:=.tuple #[.agg #[.int .i64 3,.string ⟨data.toArray⟩,.slice ea ne ec,.int .u64 t1,.int .u64 t2,.slice pa np pc,.string ⟨author.toArray⟩,.int .i64 time,.string ⟨msg.toArray⟩],.int .i64 0]) (by simp [results,Tryz.results188,go_sem,r0,r1,r2,r3,r4,r5,r6,r7,r8]) rfl ?_
   refine HFN.out _ HC.out ?_ ?_
   ·exact (gown (gown (gown (gown (gown (gown (gown (gown (gset _ _ _ _) _ _) _ _) _ _) _ _) _ _) _ _) _ _) _ _)
   ·exact ((((((((HB3.out.setCell (by simp) _).setCell (by simp) _).setCell (by simp) _).setCell (by simp) _).setCell (by simp) _).setCell (by simp) _).setCell (by simp) _).setCell (by simp) _).setCell (by simp) _
  ·have hkk:(kind != 3)=true:=by simpa using hk
   rw [if_pos hk] at HC
   go_wp2_with fail
   refine bodyPost_ret (v:=.tuple #[obZ.val none 0 none 0,.int .i64 9]) (by simp [results,Tryz.results188,go_sem,obZ,r0,r1,r2,r3,r4,r5,r6,r7,r8]) rfl ?_
   rw [HC.out]
   exact ⟨none,0,none,0,rfl,ObOwn.zero _ _,((((((((HB3.out.setCell (by simp) _).setCell (by simp) _).setCell (by simp) _).setCell (by simp) _).setCell (by simp) _).setCell (by simp) _).setCell (by simp) _).setCell (by simp) _).setCell (by simp) _⟩
 ·have hee:(er != 0)=true:=by simpa using he
  simp only [ne_eq] at HC
  rw [if_pos he] at HC
  go_wp2_with fail
  refine bodyPost_ret (v:=.tuple #[obZ.val none 0 none 0,.int .i64 8]) (by simp [results,Tryz.results188,go_sem,obZ,r0,r1,r2,r3,r4,r5,r6,r7,r8]) rfl ?_
  rw [HC.out]
  exact ⟨none,0,none,0,rfl,ObOwn.zero _ _,((((((((HB3.out.setCell (by simp) _).setCell (by simp) _).setCell (by simp) _).setCell (by simp) _).setCell (by simp) _).setCell (by simp) _).setCell (by simp) _).setCell (by simp) _).setCell (by simp) _⟩
theorem keyLits_u64 {m:Nat} {v:Value} {ls:List Lit} (h:Tryz.prog.keyLits (m + 1) 39 [v]=some ls):∃ x,u64B x/\v = .int .u64 x:=by
 unfold Program.keyLits at h
 rw [Tryz.underlying39] at h
 cases v <;> simp at h
 obtain ⟨⟨rfl,hw⟩,_⟩:=h
 refine ⟨_,?_,rfl⟩
 simp [Lit.wf,IntKind.min,IntKind.max,IntKind.signed,IntKind.bits] at hw
 unfold u64B
 omega
theorem keyD_inv {key:Value} {kl:Lit} (h:keyOf Tryz.prog 41 key=some kl):∃ d,OkD d/\key=dval d/\kl=keyL d:=by
 have key':∃ d,OkD d/\key=dval d:=by
  obtain ⟨m,hm⟩:=typesD
  unfold keyOf at h
  rw [Tryz.underlying41] at h
  simp only [hm] at h
  split at h
  ·rename_i hc
   simp only [Bool.and_eq_true] at hc
   obtain ⟨_,hf⟩:=hc
   cases key <;> simp [Value.formed,Tryz.underlying41,cellsD] at hf
   rename_i cs
   obtain ⟨l⟩:=cs
   match l,hf with
   | [a,b],_=>
    unfold Program.keyLits at h
    simp only [Tryz.underlying41,cellsD,cellsU64,Value.cells,List.range_succ,List.range_zero,List.nil_append,List.cons_append,List.mapM_cons,List.mapM_nil] at h
    cases hA:Tryz.prog.keyLits (m + 1) 39 [a] with
    | none=>simp [hA] at h
    | some la=>
     cases hB:Tryz.prog.keyLits (m + 1) 39 [b] with
     | none=>simp [hA,hB] at h
     | some lb=>
      obtain ⟨x,hx,rfl⟩:=keyLits_u64 hA
      obtain ⟨y,hy,rfl⟩:=keyLits_u64 hB
      exact ⟨(x,y),⟨hx,hy⟩,rfl⟩
  ·cases h
 obtain ⟨d,h1,rfl⟩:=key'
 refine ⟨d,h1,rfl,?_⟩
 have:=keyL_some h1
 rw [h] at this
 injection this
theorem keyL_isKey {d:Int × Int} (h:OkD d):WideAt.IsKeyLit (keyL d):=lawD.key (keyL_some h)
def selfE (v:Value):Option (DataW Value × List MemPlace):=some (.held v,[])
def optV:Option Value->DataW Value->DataW Value
 | some v,_=>.held v
 | none,z=>z
def MapV (b n:Nat) (F:Int × Int->Option Value) (W:World):Prop:=
 ∃ D:DataW Value,W.ownsMap Tryz.prog 41 selfE b n D/\∀ d,OkD d->∀ z,D.atKey (keyL d) z=optV (F d) z
section
variable {b n:Nat} {F:Int × Int->Option Value} {W:World}
theorem MapV.made (W:World):MapV W.heap.size 0 (fun _=>none) (W.alloc (.map #[] 0)):=⟨.map [],World.ownsMap_made _ _ _ _,fun d _ z=>WideAt.atKey_none _ (fun p hp=>by simp at hp)⟩
theorem MapV.lt (h:MapV b n F W):b < W.heap.size:=by obtain ⟨D,h1,_⟩:=h; exact h1.lt
theorem MapV.kept {W':World} {row:Option Nat} (h:MapV b n F W) (hg:W.grownBy W' row) (hne:some b ≠ row):MapV b n F W':=by obtain ⟨D,h1,h2⟩:=h; exact ⟨D,h1.kept hg hne,h2⟩
theorem MapV.alloc (h:MapV b n F W) (o:Obj):MapV b n F (W.alloc o):=by obtain ⟨D,h1,h2⟩:=h; exact ⟨D,h1.alloc o,h2⟩
theorem MapV.below {W':World} (h:MapV b n F W) (hb:Below W.heap.size W W'):MapV b n F W':=h.kept (row:=none) ⟨hb.os,hb.tape,hb.output,hb.size,fun k hk _=>hb.block k hk⟩ (by simp)
theorem MapV.setCell (h:MapV b n F W) {a:Addr} (ha:b ≠ a.block) (u:Value):MapV b n F (W.setCell a u):=by obtain ⟨D,h1,h2⟩:=h; exact ⟨D,h1.setCell ha u,h2⟩
theorem MapV.eq {F':Int × Int->Option Value} (h:MapV b n F W) (e:∀ d,F d=F' d):MapV b n F' W:=by
 have:F=F':=funext e
 rw [<-this]; exact h
theorem MapV.mono {n':Nat} (h:MapV b n F W) (hn:n<=n'):MapV b n' F W:=by obtain ⟨D,h1,h2⟩:=h; exact ⟨D,h1.mono hn,h2⟩
theorem has_optV {D:DataW Value} {k:Lit} {o:Option Value} (h:∀ z,D.atKey k z=optV o z):Maps.has D k=o.isSome:=by
 cases o with
 | none=>exact Maps.has_false_of_atKey h
 | some v=>exact Maps.has_true_of_atKey h
theorem selfE_inv {v:Value} {y:DataW Value × List MemPlace} (h:selfE v=some y):y=(.held v,[]):=by unfold selfE at h; injection h with h; exact h.symm
theorem optV_held {o:Option Value} {z v:Value} {ps:List MemPlace} (h:selfE v=some (optV o (.held z),ps)):v=o.getD z:=by
 have:=selfE_inv h
 cases o <;> simp [optV] at this ⊢ <;> exact this.1.symm
theorem MapV.look {t e:TypeId} {z:Value} (h:MapV b n F W) (ht:Tryz.prog.underlying t=some (.map 41 e)) (hz:(zeroValue e).run Tryz.prog W = .ok z W) {x y:Int} (hd:OkD (x,y)):(Instr.lookup t (.map (some b)) (.agg #[.int .u64 x,.int .u64 y]) false).run Tryz.prog W = .ok ((F (x,y)).getD z) W:=by
 obtain ⟨D,h1,h2⟩:=h
 obtain ⟨v,ps,hrun,hv⟩:=h1.lookup lawD ht hz (zd:=.held z) (zp:=[]) rfl (keyL_some hd)
 rw [h2 _ hd] at hv
 rw [hrun,optV_held hv]
theorem MapV.lookOk {t e:TypeId} {z:Value} (h:MapV b n F W) (ht:Tryz.prog.underlying t=some (.map 41 e)) (hz:(zeroValue e).run Tryz.prog W = .ok z W) {x y:Int} (hd:OkD (x,y)):(Instr.lookup t (.map (some b)) (.agg #[.int .u64 x,.int .u64 y]) true).run Tryz.prog W = .ok (.tuple #[(F (x,y)).getD z,.bool (F (x,y)).isSome]) W:=by
 obtain ⟨D,h1,h2⟩:=h
 obtain ⟨v,ps,hrun,hv⟩:=h1.look_ok lawD ht hz (zd:=.held z) (zp:=[]) rfl (keyL_some hd)
 rw [h2 _ hd] at hv
 rw [hrun,optV_held hv,has_optV (h2 _ hd)]
theorem MapV.put {t e:TypeId} (h:MapV b n F W) (ht:Tryz.prog.underlying t=some (.map 41 e)) {x y:Int} (hd:OkD (x,y)) (hn:(n:Int)<=1000000000) (v:Value) :
  ∃ W',(Instr.mapUpdate t (.map (some b)) (.agg #[.int .u64 x,.int .u64 y]) v).run Tryz.prog W = .ok () W'/\MapV b (n + 1) (fun d=>if d=(x,y) then some v else F d) W'/\W.grownBy W' (some b)/\W'.heap.size=W.heap.size:=by
 obtain ⟨D,h1,h2⟩:=h
 obtain ⟨W',hrun,ho,ht'⟩:=h1.store lawD ht (by unfold maxLen; omega) (keyL_some hd) (d:=.held v) (ps:=[]) rfl
 refine ⟨W',hrun,⟨_,ho,fun d hd' z=>?_⟩,ht'.grown,?_⟩
 ·by_cases e:d=(x,y)
  ·subst e
   rw [Maps.atKey_put_same h1.isMap (keyL_isKey hd)]
   simp [optV]
  ·rw [Maps.atKey_put_other (fun h=>e (keyL_inj hd' hd h)),h2 _ hd']
   simp only [if_neg e]
 ·obtain ⟨es,clock,es',clock',hb,rfl⟩:=ht'
  simp [ChangeMaps.setBlock]
def RangeV (b r n:Nat) (F:Int × Int->Option Value) (left:Int × Int->Bool) (cnt:Nat) (W:World):Prop:=
 ∃ (D:DataW Value) (lf:Lit->Bool),W.ranges Tryz.prog 41 selfE b r n D lf cnt/\(∀ d,OkD d->∀ z,D.atKey (keyL d) z=optV (F d) z)/\∀ d,OkD d->lf (keyL d)=left d
variable {r cnt:Nat} {left:Int × Int->Bool}
theorem RangeV.lt (h:RangeV b r n F left cnt W):r < W.heap.size:=by obtain ⟨D,lf,h1,_⟩:=h; exact h1.lt
theorem RangeV.ne (h:RangeV b r n F left cnt W):r ≠ b:=by obtain ⟨D,lf,h1,_⟩:=h; exact h1.ne
theorem RangeV.kept {W':World} {row:Option Nat} (h:RangeV b r n F left cnt W) (hg:W.grownBy W' row) (hb:some b ≠ row) (hr:some r ≠ row):RangeV b r n F left cnt W':=by obtain ⟨D,lf,h1,h2⟩:=h; exact ⟨D,lf,h1.kept hg hb hr,h2⟩
theorem RangeV.alloc (h:RangeV b r n F left cnt W) (o:Obj):RangeV b r n F left cnt (W.alloc o):=by obtain ⟨D,lf,h1,h2⟩:=h; exact ⟨D,lf,h1.alloc o,h2⟩
theorem RangeV.below {W':World} (h:RangeV b r n F left cnt W) (hb:Below W.heap.size W W'):RangeV b r n F left cnt W':=h.kept (row:=none) ⟨hb.os,hb.tape,hb.output,hb.size,fun k hk _=>hb.block k hk⟩ (by simp) (by simp)
theorem RangeV.left_eq (h:RangeV b r n F left cnt W):W.rangeLeft b r=cnt:=by obtain ⟨D,lf,h1,_⟩:=h; exact h1.left_eq
theorem RangeV.eq {left':Int × Int->Bool} (h:RangeV b r n F left cnt W) (e:∀ d,OkD d->left d=left' d):RangeV b r n F left' cnt W:=by obtain ⟨D,lf,h1,h2,h3⟩:=h; exact ⟨D,lf,h1,h2,fun d hd=>by rw [h3 d hd,e d hd]⟩
theorem MapV.range {t e:TypeId} (h:MapV b n F W) (ht:Tryz.prog.underlying t=some (.map 41 e)) :
  ∃ W',(Instr.range t (.map (some b))).run Tryz.prog W = .ok (.pointer (some ⟨W.heap.size,0,none⟩)) W'/\(∃ cnt,cnt<=n/\RangeV b W.heap.size n F (fun d=>(F d).isSome) cnt W')/\W.grownBy W' none/\W'.heap.size=W.heap.size + 1:=by
 obtain ⟨D,h1,h2⟩:=h
 obtain ⟨W',hrun,h3,h4,h5⟩:=h1.range lawD ht
 exact ⟨W',hrun,⟨_,h1.size_le,⟨D,_,h3,h2,fun d hd=>has_optV (h2 d hd)⟩⟩,h4,h5⟩
theorem RangeV.next (h:RangeV b r n F left cnt W) (ty:TypeId) :
  ((∀ d,OkD d->left d=false)/\(Instr.next (.pointer (some ⟨r,0,none⟩)) false ty).run Tryz.prog W = .ok (.tuple #[.bool false]) W)\/
  ∃ (x y:Int) (v:Value) (W':World) (cnt':Nat),OkD (x,y)/\left (x,y)=true/\F (x,y)=some v/\(Instr.next (.pointer (some ⟨r,0,none⟩)) false ty).run Tryz.prog W = .ok (.tuple #[.bool true,.agg #[.int .u64 x,.int .u64 y],v]) W'/\
   RangeV b r n F (fun d=>left d && !decide (d=(x,y))) cnt' W'/\cnt' < cnt/\W.grownBy W' (some r)/\W'.heap.size=W.heap.size/\(Instr.entry (.pointer (some ⟨r,0,none⟩))).run Tryz.prog W' = .ok (.tuple #[.agg #[.int .u64 x,.int .u64 y],v]) W':=by
 obtain ⟨D,lf,h1,h2,h3⟩:=h
 rcases h1.next lawD ty with ⟨h0,hl,hrun⟩ | ⟨key,v,kl,y,W',cnt',hkey,hlk,hv,hat,hrun,hrg,hlt,hgr,hsz,hen⟩
 ·exact .inl ⟨fun d hd=>by rw [<-h3 d hd]; exact hl _,hrun⟩
 ·obtain ⟨⟨p,q⟩,hok,rfl,rfl⟩:=keyD_inv hkey
  refine .inr ⟨p,q,v,W',cnt',hok,by rw [<-h3 _ hok]; exact hlk,?_,hrun,⟨D,_,hrg,h2,fun d hd=>?_⟩,hlt,hgr,hsz,hen⟩
  ·have e1:=selfE_inv hv
   have e2:=hat .nil
   rw [h2 _ hok,e1] at e2
   cases hF:F (p,q) with
   | none=>rw [hF] at e2; simp [optV] at e2
   | some u=>rw [hF] at e2; simp only [optV,DataW.held.injEq] at e2; rw [e2]
  ·simp only
   rw [h3 d hd]
   congr 2
   by_cases e:d=(p,q)
   ·subst e; rw [WideAt.sameKey_self (keyL_isKey hok)]; simp
   ·rw [Maps.sameKey_ne (fun h=>e (keyL_inj hd hok h))]; simp [e]
end
theorem revD_any {base:Nat} (a:Option Addr) (ds:List (Int × Int)) (c:Nat) (w:World) (ho:w.ownsRow base 41 2 (.slice a ds.length c) ds.length (dcells ds)) (hn:(ds.length:Int)<=1000000000) :
  Calls Tryz.prog 192 #[.slice a ds.length c] w fun e w'=>e = .returned (.tuple #[])/\w'.ownsRow base 41 2 (.slice a ds.length c) ds.length (dcells ds.reverse)/\w.grownBy w' (Value.slice a ds.length c).ownBlock:=by
 rcases ho.2 with ⟨h1,h2⟩ | ⟨g,cap,cur,h1,hbase,hg,hcap,hmax,hcs,htake⟩
 ·have hd:ds=[]:=List.eq_nil_of_length_eq_zero h2
  subst hd
  have:=AnyQ.slices_Reverse_empty Tryz.revD a c w
  refine Calls.mono this fun e w' ⟨he,hw⟩=>⟨he,?_,?_⟩
  ·rw [hw]; exact ho
  ·rw [hw]; exact ⟨rfl,rfl,rfl,Nat.le_refl _,fun _ _ _=>rfl⟩
 ·cases h1
  have hH:HoldsK encD 2 w g 0 ds.toArray:=by
   unfold HoldsK
   rw [flat_dcells]
   intro j hj
   have hj':j < (dcells ds).length:=by simpa using hj
   refine ⟨?_,Lib.frozen_of_heap hg _⟩
   rw [Lib.cell_of_heap hg,Nat.zero_add]
   have h3:(cur.toList.take (ds.length * 2))[j]? = (dcells ds)[j]?:=by rw [htake]
   rw [List.getElem?_take_of_lt (by rw [dcells_length] at hj'; exact hj'),Array.getElem?_toList] at h3
   rw [h3,List.getElem?_eq_getElem hj',getElem!_pos _ j hj]
   simp
  have hcon:=AnyQ.slices_Reverse Tryz.revD 2 Tryz.isAgg41 Tryz.sizeOf41 encD (fun _=>rfl) (fun x v hv=>by simp [encD] at hv; rcases hv with rfl | rfl <;> rfl) g 0 c ds.toArray w hH (by simp; omega)
  have hcon2:Calls Tryz.prog 192 #[.slice (some ⟨g,0,none⟩) ds.length c] w _:=hcon
  refine hcon2.mono fun e w' ⟨he,n,hw⟩=>⟨he,?_,?_⟩
  ·rw [hw,<-Go.Sort.grow_empty (putRowK _ _ _ _ _ _)]
   unfold putRowK
   have hl:ds.reverse.length=ds.length:=List.length_reverse
   rw [show ds.toArray.reverse=ds.reverse.toArray by simp,flat_dcells]
   have hl2:(dcells ds.reverse).length=ds.length * 2:=by rw [dcells_length,hl]
   exact ⟨hl2,.inr ⟨g,c,_,rfl,hbase,heap_sortedD _ hg,hcap,hmax,by simp [putCells,hcs],by rw [<-hl2]; exact take_putCellsD cur _ (by rw [hl2,hcs]; exact Nat.mul_le_mul_right _ hcap)⟩⟩
  ·rw [hw,<-Go.Sort.grow_empty (putRowK _ _ _ _ _ _)]
   unfold putRowK
   exact grownBy_sortedD _
theorem back_any (a:Option Addr) (n c:Nat) (w:World) :
  Calls Tryz.prog 193 #[.slice a n c] w fun e w'=>e = .returned (.func (.func 219) #[] #[.pointer (some ⟨w.heap.size,0,none⟩)])/\w.alloc (.cells #[.slice a n c] 24)=w':=by
 go_enter Tryz.func193,Tryz.ntmps193
 go_wp2
 go_ret
 exact ⟨rfl,rfl⟩
attribute [local go_sem] Oper.semAt_some
def Kp (Bs:Nat) (pa:Option Addr) (W W':World):Prop:=W.heap.size<=W'.heap.size/\W'.heap[Bs]? = W.heap[Bs]?/\∀ ad,pa=some ad->W'.heap[ad.block]? = W.heap[ad.block]?
theorem Kp.trans {Bs:Nat} {pa:Option Addr} {A B C:World} (h:Kp Bs pa A B) (k:Kp Bs pa B C):Kp Bs pa A C:=⟨Nat.le_trans h.1 k.1,k.2.1.trans h.2.1,fun ad e=>(k.2.2 ad e).trans (h.2.2 ad e)⟩
theorem Kp.digs {Bs:Nat} {pa:Option Addr} {A B:World} {L:List (Int × Int)} (h:Kp Bs pa A B) (hd:Digs A.heap.size A pa L):Digs B.heap.size B pa L:=by
 intro i hi
 obtain ⟨b,off,rfl,hlt,h1,h2⟩:=hd i hi
 have hb:=h.2.2 _ rfl
 simp only at hb
 refine ⟨b,off,rfl,Nat.lt_of_lt_of_le hlt h.1,?_,?_⟩
 ·rw [<-h1]; unfold World.cell?; simp only [hb]
 ·rw [<-h2]; unfold World.cell?; simp only [hb]
theorem rev_take {L:List (Int × Int)} {k:Nat} (hk:k < L.length):L.reverse.take (L.length - k)=L.reverse.take (L.length - (k + 1)) ++ [L[k]]:=by
 have h1:L.length - (k + 1) < L.reverse.length:=by rw [List.length_reverse]; omega
 rw [show L.length - k=L.length - (k + 1) + 1 by omega,List.take_succ_eq_append_getElem h1]
 congr 1
 rw [List.getElem_reverse]
 congr 2
 omega
theorem back1_in (F:Fence) (nn:Nat) (hF:F.fn 219) (hro:F.round=none) (hn:1<=nn) (l Bs:Nat) (pa:Option Addr) (c:Nat) (L:List (Int × Int)) (hL:(L.length:Int)<=1000000) (J Jx:List (Int × Int × Int)->World->Prop)
  (hY:∀ pre x W,J pre W->pre.length < L.length->YieldAt F (nn - 1) Tryz.prog l #[.int .i64 x.1,.agg #[.int .u64 x.2.1,.int .u64 x.2.2]] W fun e W'=>
   (e = .returned (.bool true)/\J (pre ++ [x]) W'/\Kp Bs pa W W')\/(e = .returned (.bool false)/\Jx (pre ++ [x]) W'))
  (W:World) (hb:BK Bs #[.slice pa L.length c] 24 W) (hd:Digs W.heap.size W pa L) (h0:J [] W) :
  CallsIn F nn Tryz.prog 219 #[.func (.yield l) #[] #[],.pointer (some ⟨Bs,0,none⟩)] W fun e W'=>(∃ v,e = .returned v)/\((∃ xs,xs.map (fun x=>x.2)=L.reverse/\J xs W')\/(∃ pre,True/\Jx pre W')):=by
 refine callsIn_of_wp Tryz.func219 rfl hF ?_ hro
 simp only [Tryz.ntmps219,List.size_toArray,List.length_cons,List.length_nil,Nat.reduceAdd,Nat.reduceSub,Array.replicate_succ,Array.replicate_zero,List.push_toArray,List.append_toArray,List.nil_append,List.cons_append]
 obtain ⟨n,hnn⟩:∃ n,n=L.length:=⟨_,rfl⟩
 rw [<-hnn] at hb hL
 have HN:=hid hnn
 have HY:=hid hY
 have hc0:W.cell? ⟨Bs,0,none⟩=some (.slice pa n c):=by rw [hb.cell]; rfl
 have HB:=hid hb
 have HD:=hid hd
 clear hY hb hd hnn
 gi_wp2
 gi_loopw [3] (fun i wr=>∃ (j:Nat) (m:Int) (pre:List (Int × Int × Int)),i = .int .i64 m/\m=(j:Int) - 1/\j<=n/\Hid (pre.map (fun x=>x.2)=L.reverse.take (n - j))/\J pre wr/\Hid (BK Bs #[.slice pa n c] 24 wr)/\Hid (Digs wr.heap.size wr pa L)) (fun i _=>(intOf i + 1).toNat)
 case atStart=>exact ⟨n,(n:Int) - 1,[],by go_num,rfl,Nat.le_refl _,hid (by simp),h0,HB,HD⟩
 case round=>
  obtain ⟨j,m,pre,rfl,hm,hjn,HP,hJ',HBX,HDX⟩:=hrel
  have hc:wr.cell? ⟨Bs,0,none⟩=some (.slice pa n c):=by rw [HBX.out.cell]; rfl
  clear hc0 HB HD h0
  rcases Nat.eq_zero_or_pos j with hz | hz
  ·obtain rfl:m = -1:=by omega
   have HE:Hid (pre.map (fun x=>x.2)=L.reverse):=hid (by rw [HP.out,hz,List.take_of_length_le]; rw [List.length_reverse]; have:=HN.out; omega)
   clear hm HP
   gi_wp2
   go_end0
   exact ⟨⟨_,rfl⟩,.inl ⟨pre,HE.out,hJ'⟩⟩
  ·obtain ⟨k,hk⟩:∃ k,j=k + 1:=⟨j - 1,by omega⟩
   obtain rfl:m=(k:Int):=by omega
   have hkL:k < L.length:=by have:=HN.out; omega
   obtain ⟨b,off,rfl,hbl,q0,q1⟩:=HDX.out k hkL
   have HX:Hid (L.reverse.take (n - k)=L.reverse.take (n - j) ++ [L[k]]):=hid (by rw [HN.out,hk]; exact rev_take hkL)
   generalize L[k]=dd at q0 q1 HX
   obtain ⟨d1,d2⟩:=dd
   simp only at q0 q1
   have hlen:pre.length < L.length:=by
    have h1:=congrArg List.length HP.out
    rw [List.length_map,List.length_take,List.length_reverse] at h1
    have:=HN.out
    omega
   have hkn:(k:Int) < (n:Int):=by omega
   obtain ⟨fn,tmps,assign,body,hy,hR⟩:=HY.out pre ((k:Int),(d1,d2)) wr hJ' hlen
   dsimp only at hy
   clear hm hlen
   gi_wp2
   refine hR.mono ?_
   rintro e W3 (⟨rfl,hJ3,hk3⟩ | ⟨rfl,hJx3⟩)
   ·gi_wp2
    go_roundw
    case rel=>exact ⟨k,(k:Int) - 1,pre ++ [((k:Int),(d1,d2))],by go_num,rfl,by omega,hid (by rw [HX.out,List.map_append,HP.out]; rfl),hJ3,hid (hk3.2.1.trans HBX.out),hid (hk3.digs HDX.out)⟩
    case measure=>simp [intOf]
   ·gi_wp2
    refine bodyPost_ret (results_none rfl _ _ _) rfl ?_
    exact ⟨⟨_,rfl⟩,.inr ⟨_,trivial,hJx3⟩⟩
theorem back_stops (F:Fence) (nn:Nat) (hF:F.fn 219) (hro:F.round=none) (hn:1<=nn) (Bs:Nat) (pa:Option Addr) (c:Nat) (L:List (Int × Int)) (hL:(L.length:Int)<=1000000) (w:World) (hb:BK Bs #[.slice pa L.length c] 24 w) (hd:Digs w.heap.size w pa L) :
  SeqStopsK F nn Tryz.prog 219 #[.pointer (some ⟨Bs,0,none⟩)] (fun x:Int × Int × Int=>#[.int .i64 x.1,.agg #[.int .u64 x.2.1,.int .u64 x.2.2]]) (Kp Bs pa) (fun xs=>xs.map (fun x=>x.2)=L.reverse) (fun _=>True) L.length w:=fun l J Jx W hW _ _ hY h0=>
 back1_in F nn hF hro hn l Bs pa c L hL J Jx hY W (hb.below hW) ((hd.below hW (Nat.le_refl _)).mono hW.size) h0
theorem wpIn_loop_fuel {F:Fence} {n:Nat} {P:Program} {Q:Exit->Act->World->Prop} {c:Code} (I:Nat->Act->World->Prop)
  (round:∀ f a w,I f a w->c.wpIn F n P (Exit.then (fun a' w'=>∃ g,f=g + 1/\I g a' w') Q) a w) (f:Nat) (a:Act) (w:World) (h0:I f a w):(Code.loop c).wpIn F n P Q a w:=by
 refine wpIn_loop_rounds (f + 1) ?_
 induction f generalizing a w with
 | zero=>
  rw [roundsIn_succ]
  refine wpIn_mono (round 0 a w h0) ?_
  rintro e a' w' h
  cases e with
  | normal=>obtain ⟨g,hg,_⟩:=h; omega
  | _=>exact h
 | succ f ih=>
  rw [roundsIn_succ]
  refine wpIn_mono (round (f + 1) a w h0) ?_
  rintro e a' w' h
  cases e with
  | normal=>
   obtain ⟨g,hg,hi⟩:=h
   obtain rfl:f=g:=by omega
   exact ih a' w' hi
  | _=>exact h
def FA (xs:List Itm) (met:List (Int × Int)) (A:Int × Int->Option Addr × Nat) (d:Int × Int):Option Value:=if d ∈ met then some (.slice (A d).1 (commitS xs d).1.pars.length (A d).2) else none
structure VM (xs:List Itm) (B b n:Nat) (met:List (Int × Int)) (A:Int × Int->Option Addr × Nat) (W:World):Prop where
 mp:MapV b n (FA xs met A) W
 pr:∀ d ∈ met,Digs W.heap.size W (A d).1 (commitS xs d).1.pars/\(commitS xs d).1.pars.length<=(A d).2
 pb:∀ d ∈ met,∀ ad,(A d).1=some ad->B<=ad.block/\ad.block < W.heap.size/\ad.block ≠ b
section
variable {xs:List Itm} {B b n:Nat} {met:List (Int × Int)} {A:Int × Int->Option Addr × Nat} {W W':World}
theorem VM.kept {row:Option Nat} (h:VM xs B b n met A W) (hg:W.grownBy W' row) (hb:row ≠ some b) (hr:∀ k,row=some k->∀ d ∈ met,0 < (commitS xs d).1.pars.length->∀ ad,(A d).1=some ad->k ≠ ad.block):VM xs B b n met A W':=
 ⟨h.mp.kept hg hb.symm,fun d hd=>⟨(h.pr d hd).1.kept hg (fun hp ad e hk=>hr _ hk d hd hp ad e rfl),(h.pr d hd).2⟩,fun d hd ad e=>⟨(h.pb d hd ad e).1,Nat.lt_of_lt_of_le (h.pb d hd ad e).2.1 hg.size,(h.pb d hd ad e).2.2⟩⟩
theorem grown_below {W W':World} (hb:Below W.heap.size W W'):W.grownBy W' none:=⟨hb.os,hb.tape,hb.output,hb.size,fun k hk _=>hb.block k hk⟩
theorem VM.below (h:VM xs B b n met A W) (hb:Below W.heap.size W W'):VM xs B b n met A W':=h.kept (grown_below hb) (by simp) (fun k e=>by cases e)
theorem VM.alloc (h:VM xs B b n met A W) (o:Obj):VM xs B b n met A (W.alloc o):=h.below ((Below.refl _ _).alloc (Nat.le_refl _) _)
theorem digs_cells {a:Option Addr} {L:List (Int × Int)} (h:Digs W.heap.size W a L) (hp:0 < L.length) {ad:Addr} (e:a=some ad) {k:Nat} {o:Obj} (hk:W.heap[k]? = some o) (ho:o.isCells=false):k ≠ ad.block:=by
 obtain ⟨g,off,h1,h2,h3,_⟩:=h 0 hp
 rw [h1] at e
 cases e
 rintro rfl
 try simp only at hk
 unfold World.cell? at h3
 simp only [hk] at h3
 cases o <;> first | (cases ho; done) | (simp at h3; done)
theorem VM.put (h:VM xs B b n met A W) {x y:Int} (hd:OkD (x,y)) (hn:(n:Int)<=1000000000) {pa:Option Addr} {pc:Nat} (hdg:Digs W.heap.size W pa (commitS xs (x,y)).1.pars) (hc:(commitS xs (x,y)).1.pars.length<=pc) (hpb:∀ ad,pa=some ad->B<=ad.block/\ad.block < W.heap.size/\ad.block ≠ b) :
  ∃ W',(Instr.mapUpdate 199 (.map (some b)) (.agg #[.int .u64 x,.int .u64 y]) (.slice pa (commitS xs (x,y)).1.pars.length pc)).run Tryz.prog W = .ok () W'/\VM xs B b (n + 1) (met ++ [(x,y)]) (fun d=>if d=(x,y) then (pa,pc) else A d) W'/\W.grownBy W' (some b)/\W'.heap.size=W.heap.size:=by
 obtain ⟨W',hrun,hm,hg,hs⟩:=h.mp.put Tryz.underlying199 hd hn (.slice pa (commitS xs (x,y)).1.pars.length pc)
 have key:∀ d ∈ met ++ [(x,y)],d ≠ (x,y)->d ∈ met:=fun d hd he=>by
  rcases List.mem_append.1 hd with h1 | h1
  ·exact h1
  ·exact absurd (List.mem_singleton.1 h1) he
 refine ⟨W',hrun,⟨hm.eq (fun d=>?_),fun d hd=>?_,fun d hd ad e=>?_⟩,hg,hs⟩
 ·by_cases e:d=(x,y)
  ·subst e; simp [FA]
  ·simp [FA,e]
 ·by_cases e:d=(x,y)
  ·subst e
   simp only [if_true]
   exact ⟨hdg.kept hg (fun _ ad e1 hk=>(hpb ad e1).2.2 (Option.some.inj hk).symm),hc⟩
  ·simp only [if_neg e]
   exact ⟨(h.pr d (key d hd e)).1.kept hg (fun _ ad e1 hk=>(h.pb d (key d hd e) ad e1).2.2 (Option.some.inj hk).symm),(h.pr d (key d hd e)).2⟩
 ·rw [hs]
  by_cases e1:d=(x,y)
  ·subst e1
   simp only [if_true] at e
   exact hpb ad e
  ·simp only [if_neg e1] at e
   exact h.pb d (key d hd e1) ad e
end
structure SV (xs:List Itm) (w0:World) (b n ob:Nat) (met row:List (Int × Int)) (Ds:List Nat) (A:Int × Int->Option Addr × Nat) (v:Value) (W:World):Prop where
 gr:w0.grownBy W (some b)
 lb:b < w0.heap.size
 bx:BK ob #[v] 24 W
 lo:w0.heap.size<=ob
 ow:W.ownsRow w0.heap.size 41 2 v row.length (dcells row)
 ne:v.ownBlock ≠ some ob
 vm:VM xs w0.heap.size b n met A W
 pb:∀ d ∈ met,∀ ad,(A d).1=some ad->ad.block ≠ ob/\v.ownBlock ≠ some ad.block
 mks:∀ D ∈ Ds,w0.heap.size<=D/\W.heap[D]? = some (.deferred (some []))
 nd:Ds.Nodup
section
variable {xs:List Itm} {w0 W W':World} {b n ob:Nat} {met row:List (Int × Int)} {Ds:List Nat} {A:Int × Int->Option Addr × Nat} {v v':Value}
theorem own_cells {base:Nat} {e:TypeId} {z:Nat} {m:Nat} {cs:List Value} (h:W.ownsRow base e z v m cs) {k:Nat} (hk:v.ownBlock=some k) {o:Obj} (ho:W.heap[k]? = some o):o.isCells=true:=by
 rcases h.2 with ⟨rfl,_⟩ | ⟨g,cap,cur,rfl,_,hg,_⟩
 ·cases hk
 ·have:g=k:=by simpa [Value.ownBlock] using hk
  subst this
  rw [hg] at ho
  cases ho
  rfl
theorem SV.kept {r:Option Nat} (h:SV xs w0 b n ob met row Ds A v W) (hg:W.grownBy W' r) (hr:∀ k,r=some k->w0.heap.size<=k/\k ∉ Ds/\∃ o,W.heap[k]? = some o/\o.isCells=false):SV xs w0 b n ob met row Ds A v W':=by
 have hlb:=h.lb
 have e1:∀ k,r=some k->k ≠ ob:=fun k e hk=>by
  obtain ⟨_,_,o,ho,hc⟩:=hr k e
  subst hk
  rw [show W.heap[k]? = _ from h.bx] at ho
  cases ho
  cases hc
 refine ⟨h.gr.andThen hg (fun j e=>.inl (hr j e).1),h.lb,h.bx.grow hg e1,h.lo,h.ow.kept hg ?_,h.ne,h.vm.kept hg (fun e=>by have:=(hr b e).1; omega) (fun k e d hd hp ad ha=>?_),h.pb,fun D hD=>⟨(h.mks D hD).1,(hg.block D (Array.getElem?_eq_some_iff.1 (h.mks D hD).2).1 (fun e=>(hr D e.symm).2.1 hD)).trans (h.mks D hD).2⟩,h.nd⟩
 ·cases hv:v.ownBlock with
  | none=>exact .inl rfl
  | some k=>
   refine .inr (fun e=>?_)
   obtain ⟨_,_,o,ho,hc⟩:=hr k e.symm
   rw [own_cells h.ow hv ho] at hc
   cases hc
 ·obtain ⟨_,_,o,ho,hc⟩:=hr k e
  exact digs_cells (h.vm.pr d hd).1 hp ha ho hc
theorem SV.below (h:SV xs w0 b n ob met row Ds A v W) (hb:Below W.heap.size W W'):SV xs w0 b n ob met row Ds A v W':=h.kept (grown_below hb) (fun k e=>by cases e)
theorem SV.alloc (h:SV xs w0 b n ob met row Ds A v W) (o:Obj):SV xs w0 b n ob met row Ds A v (W.alloc o):=h.below ((Below.refl _ _).alloc (Nat.le_refl _) _)
theorem SV.set (h:SV xs w0 b n ob met row Ds A v W) {row':List (Int × Int)} (ho:W.ownsRow w0.heap.size 41 2 v' row'.length (dcells row')) (hv:v'.ownBlock=v.ownBlock):SV xs w0 b n ob met row' Ds A v' (W.setCell ⟨ob,0,none⟩ v'):=by
 have hlb:=h.lb
 have hlo:=h.lo
 have hg:W.grownBy (W.setCell ⟨ob,0,none⟩ v') (some ob):=grownBy_setCell' W ob v'
 have hs:=h.bx.set 0 v'
 refine ⟨h.gr.andThen hg (fun j e=>by cases e; exact .inl hlo),h.lb,hs,h.lo,ho.kept hg (.inr (by rw [hv]; exact h.ne)),by rw [hv]; exact h.ne,h.vm.kept hg (fun e=>by cases e; omega) (fun k e d hd hp ad ha=>by cases e; exact (h.pb d hd ad ha).1.symm),fun d hd ad e=>⟨(h.pb d hd ad e).1,by rw [hv]; exact (h.pb d hd ad e).2⟩,fun D hD=>⟨(h.mks D hD).1,(hg.block D (Array.getElem?_eq_some_iff.1 (h.mks D hD).2).1 (fun e=>?_)).trans (h.mks D hD).2⟩,h.nd⟩
 have h2:=(h.mks D hD).2
 cases e
 rw [show W.heap[ob]? = _ from h.bx] at h2
 cases h2
theorem SV.put (h:SV xs w0 b n ob met row Ds A v W) {x y:Int} (hd:OkD (x,y)) (hn:(n:Int)<=1000000000) {pa:Option Addr} {pc:Nat} (hdg:Digs W.heap.size W pa (commitS xs (x,y)).1.pars) (hc:(commitS xs (x,y)).1.pars.length<=pc) (hpb:∀ ad,pa=some ad->w0.heap.size<=ad.block/\ad.block < W.heap.size/\ad.block ≠ ob/\v.ownBlock ≠ some ad.block) :
  ∃ W',(Instr.mapUpdate 199 (.map (some b)) (.agg #[.int .u64 x,.int .u64 y]) (.slice pa (commitS xs (x,y)).1.pars.length pc)).run Tryz.prog W = .ok () W'/\SV xs w0 b (n + 1) ob (met ++ [(x,y)]) row Ds (fun d=>if d=(x,y) then (pa,pc) else A d) v W'/\W.grownBy W' (some b)/\W'.heap.size=W.heap.size:=by
 have hlb:=h.lb
 obtain ⟨W',hrun,hv,hg,hs⟩:=h.vm.put hd hn hdg hc (fun ad e=>⟨(hpb ad e).1,(hpb ad e).2.1,by have:=(hpb ad e).1; omega⟩)
 refine ⟨W',hrun,⟨h.gr.andThen hg (fun j e=>.inr e),h.lb,h.bx.grow1 hg (by have:=h.lo; omega),h.lo,own_kept h.ow hg hlb,h.ne,hv,fun d hd ad e=>?_,fun D hD=>⟨(h.mks D hD).1,(hg.block D (Array.getElem?_eq_some_iff.1 (h.mks D hD).2).1 (fun e=>by have:=(h.mks D hD).1; cases e; omega)).trans (h.mks D hD).2⟩,h.nd⟩,hg,hs⟩
 by_cases e1:d=(x,y)
 ·subst e1
  simp only [if_true] at e
  exact (hpb ad e).2.2
 ·simp only [if_neg e1] at e
  rcases List.mem_append.1 hd with h1 | h1
  ·exact h.pb d h1 ad e
  ·exact absurd (List.mem_singleton.1 h1) e1
theorem SV.push (h:SV xs w0 b n ob met row Ds A v W) {row':List (Int × Int)} (ho:W'.ownsRow w0.heap.size 41 2 v' row'.length (dcells row')) (hg:W.grownBy W' v.ownBlock) (hat:v'.ownBlock=v.ownBlock\/v'.ownBlock=some W.heap.size):SV xs w0 b n ob met row' Ds A v' (W'.setCell ⟨ob,0,none⟩ v'):=by
 have hlb:=h.lb
 have hlo:=h.lo
 have hox:=h.bx.lt
 have hvo:∀ k,v.ownBlock=some k->w0.heap.size<=k/\k < W.heap.size:=fun k e=>h.ow.lt k e
 have hnew:v'.ownBlock ≠ some ob:=by
  rcases hat with e | e
  ·rw [e]; exact h.ne
  ·rw [e]; intro e2; cases e2; omega
 have hg2:W'.grownBy (W'.setCell ⟨ob,0,none⟩ v') (some ob):=grownBy_setCell' W' ob v'
 have hbx':BK ob #[v] 24 W':=h.bx.grow hg (fun k e hk=>h.ne (by rw [e,hk]))
 refine ⟨(h.gr.andThen hg (fun j e=>.inl (hvo j e).1)).andThen hg2 (fun j e=>by cases e; exact .inl hlo),h.lb,hbx'.set 0 v',h.lo,ho.kept hg2 (.inr hnew),hnew,(h.vm.kept hg (fun e=>by have:=(hvo b e).1; omega) (fun k e d hd hp ad ha hk=>(h.pb d hd ad ha).2 (by rw [e,hk]))).kept hg2 (fun e=>by cases e; omega) (fun k e d hd hp ad ha=>by cases e; exact (h.pb d hd ad ha).1.symm),fun d hd ad e=>⟨(h.pb d hd ad e).1,?_⟩,fun D hD=>⟨(h.mks D hD).1,?_⟩,h.nd⟩
 ·rcases hat with e1 | e1
  ·rw [e1]; exact (h.pb d hd ad e).2
  ·rw [e1]; intro e2; have:=(h.vm.pb d hd ad e).2.1; have:=Option.some.inj e2; omega
 ·have h2:=(h.mks D hD).2
  have h3:=(Array.getElem?_eq_some_iff.1 h2).1
  have h4:W'.heap[D]? = some (.deferred (some [])):=(hg.block D h3 (fun e=>by have:=own_cells h.ow e.symm h2; cases this)).trans h2
  refine (hg2.block D (Nat.lt_of_lt_of_le h3 hg.size) (fun e=>?_)).trans h4
  cases e
  rw [show W'.heap[ob]? = _ from hbx'] at h4
  cases h4
theorem SV.mark (h:SV xs w0 b n ob met row Ds A v W) {D:Nat} (h1:w0.heap.size<=D) (h2:W.heap[D]? = some (.deferred (some []))) (h3:D ∉ Ds):SV xs w0 b n ob met row (D :: Ds) A v W:=
 ⟨h.gr,h.lb,h.bx,h.lo,h.ow,h.ne,h.vm,h.pb,fun E hE=>by
  rcases List.mem_cons.1 hE with rfl | hE
  ·exact ⟨h1,h2⟩
  ·exact h.mks E hE,List.nodup_cons.2 ⟨h3,h.nd⟩⟩
theorem SV.unmark {D:Nat} (h:SV xs w0 b n ob met row (D :: Ds) A v W):SV xs w0 b n ob met row Ds A v (W.putObj D (.deferred none)):=by
 have hm:=h.mks D (by simp)
 have hnd:=List.nodup_cons.1 h.nd
 have h':SV xs w0 b n ob met row Ds A v W:=⟨h.gr,h.lb,h.bx,h.lo,h.ow,h.ne,h.vm,h.pb,fun E hE=>h.mks E (by simp [hE]),hnd.2⟩
 exact h'.kept (grownBy_putObj' W D _) (fun k e=>by cases e; exact ⟨hm.1,hnd.1,_,hm.2,rfl⟩)
end
theorem own_pop {base:Nat} {op:List (Int × Int)} {d1 d2:Int} {W:World} {v:Value} (ho:W.ownsRow base 41 2 v (op ++ [(d1,d2)]).length (dcells (op ++ [(d1,d2)]))):∃ g c,v = .slice (some ⟨g,0,none⟩) (op.length + 1) c/\op.length + 1<=c/\W.cell? ⟨g,op.length * 2,none⟩=some (.int .u64 d1)/\W.cell? ⟨g,op.length * 2 + 1,none⟩=some (.int .u64 d2)/\
  W.ownsRow base 41 2 (.slice (some ⟨g,0,none⟩) op.length c) op.length (dcells op):=by
 rcases ho.2 with ⟨h1,h2⟩ | ⟨g,c,cur,h1,hbase,hg,hcap,hmax,hcs,htake⟩
 ·simp at h2
 ·rw [List.length_append,List.length_singleton] at h1 hcap htake
  subst h1
  have hat:=dcells_at (op ++ [(d1,d2)]) op.length (by simp)
  simp only [List.getElem_append_right (Nat.le_refl _),Nat.sub_self,List.getElem_cons_zero] at hat
  refine ⟨g,c,rfl,hcap,?_,?_,?_⟩
  ·have:=ho.cells (g:=g) rfl _ _ hat.1; rwa [Go.WideShapes.add_plain,Nat.zero_add] at this
  ·have:=ho.cells (g:=g) rfl _ _ hat.2; rwa [Go.WideShapes.add_plain,Nat.zero_add] at this
  ·refine ⟨dcells_length op,.inr ⟨g,c,cur,rfl,hbase,hg,by omega,hmax,hcs,?_⟩⟩
   have h3:(cur.toList.take ((op.length + 1) * 2)).take (op.length * 2)=dcells op:=by
    rw [htake,dcells_append,<-dcells_length op,List.take_left]
   rw [List.take_take,Nat.min_eq_left (by omega)] at h3
   exact h3
theorem pars_okD {xs:List Itm} {d:Int × Int} (h:(commitS xs d).2=0):∀ p ∈ (commitS xs d).1.pars,OkD p:=by
 obtain ⟨h1,_,h3⟩:=commit_ok h
 obtain ⟨x,_,_,hd⟩:=getS_good h1
 have hg:decodeS x.data=((getS xs d).1,0):=by rw [hd,<-h1]
 rw [h3]
 exact (decode_good hg).2.2.1
theorem zeroSl (W:World):(zeroValue 24).run Tryz.prog W = .ok (.slice none 0 0) W:=by kernel_rfl
def marks (Ds:List Nat):List Deferred:=Ds.map fun D=>{ target:=.collected D,args:=#[] }
theorem leaves_marks {xs:List Itm} {w0:World} {b n ob:Nat} {met row:List (Int × Int)} {A:Int × Int->Option Addr × Nat} {v:Value} {F:Fence} {nn:Nat} {P:Program} {fn:Func} {tmps:Array Value} {R:Ending->World->Prop} {u:FrameMode} (hu:u ≠ .run) :
  ∀ (Ds:List Nat) (W:World),SV xs w0 b n ob met row Ds A v W->(∀ W',SV xs w0 b n ob met row [] A v W'->LeavesInM F nn P fn tmps R [] u W')->LeavesInM F nn P fn tmps R (marks Ds) u W
 | [],W,h,k=>k W h
 | D :: Ds,W,h,k=>⟨hu,.inl ⟨D,_,rfl,run_takeDeferred (h.mks D (by simp)).2,leaves_marks hu Ds _ h.unmark k⟩⟩
end Go.Proofs.YtfdahmicigpnoaaGreat
