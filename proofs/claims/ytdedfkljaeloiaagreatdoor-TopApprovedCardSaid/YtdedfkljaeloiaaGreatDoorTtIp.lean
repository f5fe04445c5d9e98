/- tree.isPath. -/
import Derived.Test.YtdedfkljaeloiaaGreatDoorTtIx
set_option maxRecDepth 100000
set_option maxHeartbeats 16000000
open Go.Lib (hid)
namespace Go.Proofs.YtdedfkljaeloiaaGreatDoor
open Go.RowKit Go.Shelf
set_option linter.unusedVariables false
attribute [local go_sem] Oper.semAt_some
theorem names_le:∀ {n:Nat} {s x:List UInt8},x ∈ namesG n s->x.length<=s.length
 | 0,s,x,h=>by simp only [namesG,List.mem_singleton] at h; rw [h]; exact Nat.le_refl _
 | n + 1,s,x,h=>by
  rw [namesG] at h
  by_cases hc:(cutS s).2.2=true
  ·rw [if_pos hc] at h
   have h1:=cutS_len hc
   have h2:=(cut_take hc).2.2
   rcases List.mem_cons.1 h with rfl | h
   ·omega
   ·have:=names_le h; omega
  ·rw [if_neg hc,List.mem_singleton] at h
   rw [h]; exact Nat.le_refl _
theorem isPath_any (s:List UInt8) (hs:(s.length:Int)<=1000000) (w:World):Calls Tryz.prog 45 #[.string ⟨s.toArray⟩] w fun e w'=>e = .returned (.bool (pathB s))/\Below w.heap.size w w':=by
 obtain ⟨R,hR⟩:∃ R,R=pathB s:=⟨_,rfl⟩
 rw [<-hR]
 have hsl:=ba_len s
 by_cases h100:(100:Int) < (s.length:Int)
 ·have HR:Hid (R=false):=hid (by rw [hR]; unfold pathB; rw [decide_eq_false (by omega)]; rfl)
  clear hR
  go_enter Tryz.func45,Tryz.ntmps45
  have hc:(w.alloc (.cells #[.bool false] 4)).cell? ⟨w.heap.size,0,none⟩=some (.bool false):=(BK.new w #[.bool false] 4).c1
  go_wp2
  refine bodyPost_ret (v:=.bool false) (by simp [results,Tryz.results45,go_sem,hc]) rfl ?_
  exact ⟨by rw [HR.out],(Below.refl _ w).alloc (Nat.le_refl _) _⟩
 ·have HR:Hid (R=(namesG (s.length + 1) s).all nameB):=hid (by rw [hR]; unfold pathB; rw [decide_eq_true (by omega),pathF_names _ _ (by omega)]; rfl)
  clear hR
  refine (callsIn_wide (n:=5)).1 ?_
  refine callsIn_of_wp_marks Tryz.func45 rfl trivial ?_ rfl
  simp only [Tryz.ntmps45,List.size_toArray,List.length_cons,List.length_nil,Nat.reduceAdd,Nat.reduceSub,Array.replicate_succ,Array.replicate_zero,List.push_toArray,List.append_toArray,List.nil_append,List.cons_append]
  obtain ⟨w1,hw1⟩:∃ w1,w1=w.alloc (.cells #[.bool false] 4):=⟨_,rfl⟩
  have HSQ:=hid (splitseq_any s w1)
  have hs1:w1.heap.size=w.heap.size + 1:=by rw [hw1]; simp
  have HB1:Hid (BK w.heap.size #[.bool false] 4 w1):=hid (by rw [hw1]; exact BK.new _ _ _)
  have HE1:Hid (Below w.heap.size w w1):=hid (by rw [hw1]; exact (Below.refl _ w).alloc (Nat.le_refl _) _)
  have HW:=hid hw1
  rw [hw1] at HSQ
  clear hw1
  gi_wp2
  refine ⟨trivial,?_⟩
  refine (callsIn_wide.2 HSQ.out).mono ?_
  rintro e W2 ⟨rfl,hW2⟩
  rw [<-HW.out] at hW2 ⊢
  have hs2:W2.heap.size=w.heap.size + 4:=by rw [hW2]; simp; omega
  have c0:BK w1.heap.size #[.string ⟨s.toArray⟩] 9 W2:=by rw [hW2]; exact ((BK.new _ _ _).alloc _).alloc _
  have c1:BK (w1.heap.size + 1) #[.string ⟨#[47]⟩] 9 W2:=by
   rw [hW2]
   have:=(BK.new (w1.alloc (.cells #[.string ⟨s.toArray⟩] 9)) #[.string ⟨#[47]⟩] 9).alloc (.cells #[.int .i64 0] 3)
   simpa using this
  have c2:BK (w1.heap.size + 2) #[.int .i64 0] 3 W2:=by
   rw [hW2]
   have:=BK.new ((w1.alloc (.cells #[.string ⟨s.toArray⟩] 9)).alloc (.cells #[.string ⟨#[47]⟩] 9)) #[.int .i64 0] 3
   simpa using this
  have hB2:Below w.heap.size w W2:=by rw [hW2]; exact ((HE1.out.alloc HE1.out.size _).alloc (by simp; omega) _).alloc (by simp; omega) _
  have hR2:BK w.heap.size #[.bool false] 4 W2:=by rw [hW2]; exact ((HB1.out.alloc _).alloc _).alloc _
  rw [hs1] at c0 c1 c2
  clear hW2 HSQ
  gi_wp2
  refine wpIn_rangeFunc_stop (F:=Fence.wide) (n:=5) rfl (by omega) (gf:=151) (lb:=#[.pointer (some ⟨w.heap.size + 1 + 1,0,none⟩),.pointer (some ⟨w.heap.size + 1,0,none⟩),.pointer (some ⟨w.heap.size + 1 + 2,0,none⟩)]) rfl trivial (enters_of Tryz.func151 (by kernel_rfl) rfl)
   (enc:=fun x:List UInt8=>.string ⟨x.toArray⟩) (bn:=w.heap.size + 1) (kn:=3) (xs:=namesG (s.length + 1) s)
   (fun l J Jx W hJ hJx hY hk h0=>split1_in l (5 - 1) (w.heap.size + 1) (by omega) s hs J Jx W hJ hY ((hk _ (by omega) (by omega)).trans c0) ((hk _ (by omega) (by omega)).trans c1) ((hk _ (by omega) (by omega)).trans c2) h0)
   rfl (by omega) (by omega)
   (fun pre W=>pre.all nameB=true/\BK w.heap.size #[.bool false] 4 W/\Below w.heap.size w W)
   (fun W=>R=false/\BK w.heap.size #[.bool false] 4 W/\Below w.heap.size w W)
   ?own ?ownx (fun s W v h=>⟨h.1,h.2.1.other (by omega) 0 v,h.2.2.setCell (p:=⟨w.heap.size + 1,0,none⟩) (by simp) v⟩) (fun W v h=>⟨h.1,h.2.1.other (by omega) 0 v,h.2.2.setCell (p:=⟨w.heap.size + 1,0,none⟩) (by simp) v⟩)
   ⟨rfl,hR2,hB2⟩
   (fun x=>{ tmps:=#[.string ⟨s.toArray⟩,undef,.pointer (some ⟨w.heap.size,0,none⟩),.string ⟨x.toArray⟩,.string ⟨s.toArray⟩,.int .i64 s.length,.bool false,.string ⟨s.toArray⟩,.func (.func 151) #[] #[.pointer (some ⟨w.heap.size + 1 + 1,0,none⟩),.pointer (some ⟨w.heap.size + 1,0,none⟩),.pointer (some ⟨w.heap.size + 1 + 2,0,none⟩)],.string ⟨x.toArray⟩,undef,undef,undef],defers:=[] })
   ?assign ?body ?done ?stop
  case own=>
   intro s A B row hs hg hr
   refine ⟨hs.1,hs.2.1.grow hg (fun k hk hp=>?_),hs.2.2.grown hg (by have:=hs.2.2.size; omega) (fun k hk=>by have:=(hr k hk).1; omega)⟩
   have:=(hr k hk).1; omega
  case ownx=>
   intro s A B row hs hg hr
   refine ⟨hs.1,hs.2.1.grow hg (fun k hk hp=>?_),hs.2.2.grown hg (by have:=hs.2.2.size; omega) (fun k hk=>by have:=(hr k hk).1; omega)⟩
   have:=(hr k hk).1; omega
  case assign=>
   intro l x W K hK
   gi_wp2
   exact hK
  case body=>
   rintro l pre x W hl hx ⟨h1,h2,h3⟩
   have hlx:(x.length:Int)<=9223372036854775807:=by have:=names_le hx; omega
   have HV:=hid (valid_any x W hlx)
   have c0:=h2.c1
   have f0:=h2.f1
   cases hv:nameB x with
   | true=>
    rw [hv] at HV
    gi_wp2
    refine ⟨trivial,?_⟩
    refine (CallsIn.inRound l (callsIn_wide.2 HV.out)).mono ?_
    rintro e W' ⟨rfl,rfl⟩
    gi_wp2
    exact ⟨KeepsOthers.refl _,fun _ _ _=>rfl,by rw [List.all_append,h1]; simp [hv],h2,h3⟩
   | false=>
    rw [hv] at HV
    have hRf:R=false:=by
     rw [HR.out,List.all_eq_false]
     exact ⟨x,hx,by rw [hv]; simp⟩
    gi_wp2
    refine ⟨trivial,?_⟩
    refine (CallsIn.inRound l (callsIn_wide.2 HV.out)).mono ?_
    rintro e W' ⟨rfl,rfl⟩
    gi_wp2
    exact ⟨KeepsOthers.setCell _ _ _,hRf,h2.set 0 _,h3.setCell (p:=⟨w.heap.size,0,none⟩) (Nat.le_refl _) _⟩
  case done=>
   rintro D W hD ⟨h1,h2,h3⟩ hK
   have c0:=h2.c1
   have f0:=h2.f1
   gi_wp2
   refine ⟨by simp,.inl ⟨_,_,rfl,run_takeDeferred ((KeepsOthers.setCell _ _ _).same D _ hK rfl),?_⟩⟩
   have g1:BK w.heap.size #[.bool true] 4 ((W.setCell ⟨w.heap.size,0,none⟩ (.bool true)).putObj D (.deferred none)):=(show BK w.heap.size #[.bool true] 4 _ from h2.set 0 (.bool true)).grow1 (grownBy_putObj' _ D _) (by omega)
   have g0:=g1.c1
   refine ⟨.bool true,by simp [results,Tryz.results45,go_sem,g0],by rw [HR.out,h1],?_⟩
   exact (h3.setCell (p:=⟨w.heap.size,0,none⟩) (Nat.le_refl _) _).grown (grownBy_putObj' _ D _) (by have:=h3.size; simp [World.setCell]; omega) (fun k hk=>by cases hk; omega)
  case stop=>
   rintro D W hD ⟨h1,h2,h3⟩ hK
   have c0:=h2.c1
   have f0:=h2.f1
   gi_wp2
   refine ⟨by simp,.inl ⟨_,_,rfl,run_takeDeferred hK,?_⟩⟩
   have g1:BK w.heap.size #[.bool false] 4 (W.putObj D (.deferred none)):=h2.grow1 (grownBy_putObj' _ D _) (by omega)
   have g0:=g1.c1
   refine ⟨.bool false,by simp [results,Tryz.results45,go_sem,g0],by rw [h1],?_⟩
   exact h3.grown (grownBy_putObj' _ D _) (by have:=h3.size; omega) (fun k hk=>by cases hk; omega)
end Go.Proofs.YtdedfkljaeloiaaGreatDoor
