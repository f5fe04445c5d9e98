/- A talk's rounds: what is asked of the functions on the way. Plain. -/
import Derived.Test.YtdeggadmbjkpfaaGreatNeIn
import Derived.Test.YtdeggadmbjkpfaaGreatNeFi
import Derived.Test.YtdeggadmbjkpfaaGreatNePq
import Derived.Test.YtdeggadmbjkpfaaGreatK9
set_option maxRecDepth 100000
set_option maxHeartbeats 16000000
namespace Go.Proofs.YtdeggadmbjkpfaaGreat
open Go.RowKit Go.Shelf Go.Sort
set_option linter.unusedVariables false
structure Fine (x:Tlk):Prop where
 cl:HV x.cl
 sv:HV x.sv
 hl:x.hd.length ≤ 20
 wl:x.wt.length ≤ 20
 an:(ancS x.cl x.hd).2=0
 un:(runS x.cl x.sv).2=0
theorem fine_of {x:Tlk} (h:fineT x=true):Fine x:=by
 unfold fineT at h
 simp only [Bool.and_eq_true,decide_eq_true_eq] at h
 obtain ⟨⟨⟨⟨h1,h2⟩,h3⟩,h4⟩,h5,h6⟩:=h
 exact ⟨validS_true h1,validS_true h2,h3,h4,h5,h6⟩
theorem Fine.con {x:Tlk} (h:Fine x):Con x.cl x.sv:=by
 intro a ha b hb e
 rcases runS_law (ys:=x.sv) h.cl.asc with ⟨h1,_⟩ | ⟨zs,_,hz⟩
 ·have hu:=h.un
  rw [h1] at hu
  cases hu
 ·by_cases hne:a=b
  ·exact hne
  ·exact (hz.no ⟨a,b,.inl ha,.inr hb,e,hne⟩).elim
section
variable {xs ys:List Itm} {A W asked:List (Int × Int)} {most n:Nat} {t:Tk}
theorem anc_le {xs:List Itm} (hv:HV xs) {hs:List (Int × Int)} (hok:∀ d ∈ hs,OkD d):(ancS xs hs).1.length ≤ 40 ∧ ∀ d ∈ (ancS xs hs).1,OkD d:=by
 have:=hv.le
 by_cases h:(visS xs hs []).2=0
 ·have hf:=vis_facts h hok
  have e:(ancS xs hs).1=sortH (depS xs) (visS xs hs []).1:=by unfold ancS; rw [if_neg (by simpa using h)]
  rw [e]
  exact ⟨by rw [(sortH_perm _ _).length_eq]; have:=hf.le; omega,fun d hd=>hf.ok d ((sortH_perm _ _).mem_iff.1 hd)⟩
 ·rw [ancS_err h]; simp
theorem TI.cle (h:TI xs ys A W most t asked n) (hA:A.length ≤ 40):t.common.length ≤ 40:=
 Nat.le_trans ((ascD_nodup h.v.c).length_le_of_subset (fun d hd=>(h.cm d hd).1)) hA
theorem TI.tkb (h:TI xs ys A W most t asked n) (hA:A.length ≤ 40) (hAo:∀ d ∈ A,OkD d) (hW:W.length ≤ 20) (hWo:∀ d ∈ W,OkD d):TkB t:=by
 have h1:=h.len
 have h2:=h.cle hA
 have h3:t.asked.length=0:=by rw [h.a]; rfl
 have h4:t.want.length ≤ 20:=by rw [h.w]; exact hW
 refine ⟨by omega,by omega,by omega,by omega,fun d hd=>hWo d (by rw [← h.w]; exact hd),fun d hd=>hAo d (h.q d hd),fun d hd=>?_,fun d hd=>hAo d (h.cm d hd).1⟩
 rw [h.a] at hd; simp at hd
theorem askT_tkb (h:TkB t) (k:Nat):TkB (askT t k):=by
 have h1:=h.ql
 have h2:(t.queue.drop k).length ≤ t.queue.length:=by rw [List.length_drop]; omega
 have h3:(t.queue.take k).length ≤ t.queue.length:=by rw [List.length_take]; omega
 exact ⟨h.wl,by show ((t.queue.drop k).length:Int) ≤ 45; omega,by show ((t.queue.take k).length:Int) ≤ 45; omega,h.cl,h.wo,fun d hd=>h.qo d (List.mem_of_mem_drop hd),fun d hd=>h.qo d (List.mem_of_mem_take hd),h.co⟩
theorem TI.asks (h:TI xs ys A W most t asked n) (hd:t.done=false) (hm:1 ≤ most) (hm5:most ≤ 1000):askS true t (most:Int)=(askT t (min most t.queue.length),t.queue.take (min most t.queue.length),0):=by
 unfold askS
 rw [if_neg (by simp),if_neg (by omega),if_neg]
 ·simp
 ·rintro (e | e)
  ·rw [hd] at e; cases e
  ·exact e h.a
structure Rnd (xs ys:List Itm) (A W:List (Int × Int)) (most:Nat) (t:Tk) (asked:List (Int × Int)) (n:Nat) (t1:Tk) (l com:List (Int × Int)) (t2:Tk):Prop where
 v:ValidT xs t
 b:TkB t
 ask:askS true t (most:Int)=(t1,l,0)
 w1:t1.want=t.want
 w2:t2.want=t1.want
 v1:ValidT xs t1
 b1:TkB t1
 lle:(l.length:Int) ≤ 45
 lok:∀ d ∈ l,OkD d
 cme:answS ys l=com
 cle:(com.length:Int) ≤ 45
 cok:∀ d ∈ com,OkD d
 all:((allS t1.common com).length:Int) ≤ 45
 lrn:learnS true xs t1 com=(t2,0)
 nxt:TI xs ys A W most t2 (asked ++ l) (n + 1)
 lA:∀ d ∈ l,d ∈ A ∧ ∀ c ∈ t.common,¬ Anc xs c d
theorem TI.rnd (hac:AcyS xs) (h:TI xs ys A W most t asked n) (hd:t.done=false) (hm:1 ≤ most) (hm5:most ≤ 1000) (hA:A.length ≤ 40) (hAo:∀ d ∈ A,OkD d) (hW:W.length ≤ 20) (hWo:∀ d ∈ W,OkD d):∃ t1 l com t2,Rnd xs ys A W most t asked n t1 l com t2:=by
 have hb:=h.tkb hA hAo hW hWo
 obtain ⟨hq,hw⟩:=h.notdone hd
 have hql:0 < t.queue.length:=List.length_pos_iff.2 hq
 obtain ⟨v1,_,a1⟩:=ask_valid h.v hd h.a (n:=min most t.queue.length) (by omega)
 have hsub:∀ d ∈ answS ys (t.queue.take (min most t.queue.length)),d ∈ t.queue:=fun d hd=>List.mem_of_mem_take ((answS_mem _ _ _).1 hd).1
 have hcl:=answS_len ys (t.queue.take (min most t.queue.length))
 have hlt:(t.queue.take (min most t.queue.length)).length ≤ t.queue.length:=by rw [List.length_take]; omega
 have hqb:=hb.ql
 have hal:(allS t.common (answS ys (t.queue.take (min most t.queue.length)))).length ≤ A.length:=(ascD_nodup (allS_law _ _).1).length_le_of_subset (fun d hd=>by
  rcases ((allS_law _ _).2 d).1 hd with h1 | h1
  ·exact (h.cm d h1).1
  ·exact h.q d (hsub d h1))
 refine ⟨askT t (min most t.queue.length),t.queue.take (min most t.queue.length),answS ys (t.queue.take (min most t.queue.length)),learnT xs (askT t (min most t.queue.length)) (answS ys (t.queue.take (min most t.queue.length))),⟨h.v,hb,h.asks hd hm hm5,rfl,rfl,v1,askT_tkb hb _,by omega,fun d hd=>hb.qo d (List.mem_of_mem_take hd),rfl,by omega,fun d hd=>hb.qo d (hsub d hd),?_,?_,h.round hac hd hm,fun d hd=>⟨h.q d (List.mem_of_mem_take hd),fun c hc hcd=>h.v.sp c hc d (by simp [List.mem_of_mem_take hd]) hcd⟩⟩⟩
 ·show ((allS t.common (answS ys (t.queue.take (min most t.queue.length)))).length:Int) ≤ 45
  omega
 ·unfold learnS
  rw [if_neg (by simp),if_neg a1,if_neg]
  intro hno
  exact hno (fun d hd=>((answS_mem _ _ _).1 hd).1)
end
end Go.Proofs.YtdeggadmbjkpfaaGreat
