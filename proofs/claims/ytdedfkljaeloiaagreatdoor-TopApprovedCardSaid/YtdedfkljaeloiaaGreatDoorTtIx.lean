/- strings.Index at a slash; strings.SplitSeq at a slash. -/
import Derived.Test.YtdedfkljaeloiaaGreatDoorTtX
import Derived.Test.YtdedfkljaeloiaaGreatDoorG2
import Derived.Test.YtdedfkljaeloiaaGreatDoorTtLs
import Derived.Shelf.Abstract
import Derived.WalkKit
import Derived.OwnWalkIn
import Derived.TacticsInMore
import Derived.LoopNIn
import Derived.LoopIn
set_option maxRecDepth 100000
set_option maxHeartbeats 16000000
open Go.Lib (hid)
namespace Go.Proofs.YtdedfkljaeloiaaGreatDoor
open Go.RowKit Go.Shelf
set_option linter.unusedVariables false
attribute [local go_sem] Oper.semAt_some
theorem index_cut:∀ s:List UInt8,Lib.indexByte s 47=if (cutS s).2.2=true then ((cutS s).1.length:Int) else -1
 | []=>rfl
 | c :: r=>by
  rw [Lib.indexByte,cutS,index_cut r]
  by_cases h:c=47
  ·subst h; simp
  ·have hb:(c == 47)=false:=by simpa using h
   rw [if_neg h,hb]
   simp only [Bool.false_eq_true,if_false]
   by_cases h2:(cutS r).2.2=true
   ·rw [if_pos h2,if_pos h2,if_neg (by simp)]
    simp
   ·rw [if_neg h2,if_neg h2]; simp
theorem index_slash (s:List UInt8) (w:World):Calls Tryz.prog 153 #[.string ⟨s.toArray⟩,.string ⟨#[47]⟩] w fun e w'=>e = .returned (.int .i64 (if (cutS s).2.2=true then ((cutS s).1.length:Int) else -1))/\w' = w:=by
 have h:=Any.strings_Index_one Tryz.indexS ⟨s.toArray⟩ 47 w
 rw [<-index_cut]
 exact h
def namesG:Nat->List UInt8->List (List UInt8)
 | 0,s=>[s]
 | n + 1,s=>if (cutS s).2.2=true then (cutS s).1 :: namesG n (cutS s).2.1 else [s]
theorem namesG_eq:∀ (n m:Nat) (s:List UInt8),s.length < n->s.length < m->namesG n s=namesG m s
 | 0,_,s,h,_=>by omega
 | _,0,s,_,h=>by omega
 | n + 1,m + 1,s,h1,h2=>by
  rw [namesG,namesG]
  by_cases hc:(cutS s).2.2=true
  ·have:=cutS_len hc
   rw [if_pos hc,if_pos hc,namesG_eq n m _ (by omega) (by omega)]
  ·rw [if_neg hc,if_neg hc]
theorem pathF_names:∀ (n:Nat) (s:List UInt8),s.length < n->pathF n s=(namesG n s).all nameB
 | 0,s,h=>by omega
 | n + 1,s,h=>by
  rw [pathF,namesG]
  cases hc:(cutS s).2.2 with
  | true=>
   have:=cutS_len hc
   rw [if_pos rfl,List.all_cons,pathF_names n _ (by omega)]
   simp
  | false=>
   rw [if_neg (by simp)]
   rcases cutS_law s with ⟨h1,_⟩ | ⟨_,h2,_⟩
   ·rw [hc] at h1; cases h1
   ·simp [<-h2]
theorem cut_take {s:List UInt8} (h:(cutS s).2.2=true):s.take (cutS s).1.length=(cutS s).1/\s.drop ((cutS s).1.length + 1)=(cutS s).2.1/\(cutS s).1.length + 1<=s.length:=by
 rcases cutS_law s with ⟨_,h2,_⟩ | ⟨h1,_⟩
 ·have hl:s.length=(cutS s).1.length + (1 + (cutS s).2.1.length):=by
   have:=congrArg List.length h2
   rw [List.length_append,List.length_cons] at this
   omega
  generalize (cutS s).1=a at *
  generalize (cutS s).2.1=b at *
  subst h2
  refine ⟨by simp,?_,by omega⟩
  rw [List.drop_append]
  simp
 ·rw [h] at h1; cases h1
def strLen (W:World) (b:Nat):Nat:=match W.cell? ⟨b,0,none⟩ with
 | some (.string t)=>t.size
 | _=>0
theorem split1_in (l n B:Nat) (hn:1<=n) (s:List UInt8) (hs:(s.length:Int)<=1000000) (J:List (List UInt8)->World->Prop) (Jx:World->Prop) (W:World) (hJ:Abd W.heap.size B J)
  (hY:∀ pre x W,x ∈ namesG (s.length + 1) s->J pre W->YieldAt Fence.wide (n - 1) Tryz.prog l #[.string ⟨x.toArray⟩] W fun e W'=>(e = .returned (.bool true)/\J (pre ++ [x]) W'/\Kb B 3 W W')\/(e = .returned (.bool false)/\Jx W'))
  (hb0:BK B #[.string ⟨s.toArray⟩] 9 W) (hb1:BK (B + 1) #[.string ⟨#[47]⟩] 9 W) (hb2:BK (B + 2) #[.int .i64 0] 3 W) (h0:J [] W) :
  CallsIn Fence.wide n Tryz.prog 151 (#[.func (.yield l) #[] #[]] ++ #[.pointer (some ⟨B + 1,0,none⟩),.pointer (some ⟨B,0,none⟩),.pointer (some ⟨B + 2,0,none⟩)]) W fun e W'=>(∃ v,e = .returned v)/\(J (namesG (s.length + 1) s) W'\/Jx W'):=by
 refine callsIn_of_wp Tryz.func151 rfl trivial ?_ rfl
 simp only [Tryz.ntmps151,List.size_toArray,List.length_cons,List.length_nil,Nat.reduceAdd,Nat.reduceSub,Array.replicate_succ,Array.replicate_zero,List.push_toArray,List.append_toArray,List.nil_append,List.cons_append]
 have HY:=hid hY
 have HJ:=hid hJ
 have k1:W.cell? ⟨B + 1,0,none⟩=some (.string ⟨#[47]⟩):=hb1.c1
 have HB0:=hid hb0
 have HB1:=hid hb1
 have HB2:=hid hb2
 clear hY hJ hb0 hb1 hb2
 gi_wp2
 gi_loopw [7] (fun _ wr=>∃ (pre:List (List UInt8)) (r:List UInt8),J pre wr/\(r.length:Int)<=1000000/\Hid (namesG (s.length + 1) s=pre ++ namesG (r.length + 1) r)/\Hid (BK B #[.string ⟨r.toArray⟩] 9 wr)/\Hid (BK (B + 1) #[.string ⟨#[47]⟩] 9 wr)/\Hid (BK (B + 2) #[.int .i64 0] 3 wr)) (fun _ wr=>strLen wr B)
 case atStart=>exact ⟨[],s,h0,hs,hid rfl,HB0,HB1,HB2⟩
 case round=>
  clear h0 HB0 HB1 HB2 k1
  obtain ⟨pre,r,hj,hr,HN,HA,HB,HC⟩:=hrel
  have a0:wr.cell? ⟨B,0,none⟩=some (.string ⟨r.toArray⟩):=HA.out.c1
  have a1:wr.cell? ⟨B + 1,0,none⟩=some (.string ⟨#[47]⟩):=HB.out.c1
  have a2:wr.cell? ⟨B + 2,0,none⟩=some (.int .i64 0):=HC.out.c1
  have hrl:=ba_len r
  cases hc:(cutS r).2.2 with
  | false=>
   have HX:=index_slash r wr
   rw [hc,if_neg (by simp)] at HX
   have HX:=hid HX
   have HE:Hid (namesG (s.length + 1) s=pre ++ [r]):=hid (by rw [HN.out,namesG,hc,if_neg (by simp)])
   obtain ⟨fn,tmps,assign,body,hy,hR⟩:=HY.out pre r wr (by rw [HE.out]; simp) hj
   clear hc HN HA HB HC
   gi_wp2
   refine ⟨trivial,?_⟩
   refine (callsIn_wide.2 HX.out).mono ?_
   rintro e W2 ⟨rfl,rfl⟩
   gi_wp2
   refine hR.mono ?_
   rintro e W3 (⟨rfl,hJ3,hk3⟩ | ⟨rfl,hJx3⟩)
   ·gi_wp2
    go_end0
    exact ⟨⟨_,rfl⟩,.inl (by rw [HE.out]; exact hJ3)⟩
   ·gi_wp2
    go_end0
    exact ⟨⟨_,rfl⟩,.inr hJx3⟩
  | true=>
   have HX:=index_slash r wr
   rw [hc,if_pos rfl] at HX
   have HX:=hid HX
   obtain ⟨t1,t2,t3⟩:=cut_take hc
   have hlt:=cutS_len hc
   have HE:Hid (namesG (s.length + 1) s=(pre ++ [(cutS r).1]) ++ namesG ((cutS r).2.1.length + 1) (cutS r).2.1):=hid (by
    rw [HN.out,namesG,hc,if_pos rfl,namesG_eq r.length ((cutS r).2.1.length + 1) _ hlt (by omega)]; simp)
   have hh:=sl_hi r (cutS r).1.length (by omega)
   have hl:∀ W,(Instr.slice 9 (.string ⟨r.toArray⟩) (some (.int .i64 (((cutS r).1.length:Int) + 1))) none none).run Tryz.prog W = .ok (.string ⟨(r.drop ((cutS r).1.length + 1)).toArray⟩) W:=fun W=>sl_lo r ((cutS r).1.length + 1) t3 W
   rw [t1] at hh
   rw [t2] at hl
   obtain ⟨fn,tmps,assign,body,hy,hR⟩:=HY.out pre (cutS r).1 wr (by rw [HE.out]; simp) hj
   clear t1 t2 HN hc
   generalize (cutS r).1=x at hh hl HX HE hy hR t3
   generalize (cutS r).2.1=q at hl HE hlt
   generalize x.length=k at hh hl HX t3
   have hk:=t3
   clear t3
   gi_wp2
   refine ⟨trivial,?_⟩
   refine (callsIn_wide.2 HX.out).mono ?_
   rintro e W2 ⟨rfl,rfl⟩
   gi_wp2
   refine hR.mono ?_
   rintro e W3 (⟨rfl,hJ3,hk3⟩ | ⟨rfl,hJx3⟩)
   ·have b0:BK B #[.string ⟨r.toArray⟩] 9 W3:=(hk3 B (by omega) (by omega)).trans HA.out
    have b1:BK (B + 1) #[.string ⟨#[47]⟩] 9 W3:=(hk3 (B + 1) (by omega) (by omega)).trans HB.out
    have b2:BK (B + 2) #[.int .i64 0] 3 W3:=(hk3 (B + 2) (by omega) (by omega)).trans HC.out
    have d0:=b0.c1
    have df:=b0.f1
    have d1:=b1.c1
    have HB0:=hid b0
    have HB1:=hid b1
    have HB2:=hid b2
    have HJ3:=hid (HJ.out.2 _ _ (.string ⟨q.toArray⟩) hJ3)
    have hw:strLen W2 B=r.length:=by unfold strLen; rw [a0]; exact hrl
    clear b0 b1 b2 HA HB HC HX hR hy hk3 hJ3 a0 a1 a2
    gi_wp2
    go_roundw
    case rel=>exact ⟨pre ++ [x],q,HJ3.out,by omega,HE,hid (HB0.out.set 0 _),hid (HB1.out.other (by omega) 0 _),hid (HB2.out.other (by omega) 0 _)⟩
    case measure=>
     rw [hw]
     have hz:(W3.setCell ⟨B,0,none⟩ (.string ⟨q.toArray⟩)).cell? ⟨B,0,none⟩=some (.string ⟨q.toArray⟩):=World.cell?_setCell_same' _ _ _ (by rw [d0]; rfl)
     unfold strLen
     rw [hz]
     have:=ba_len q
     simp only
     omega
   ·gi_wp2
    refine bodyPost_ret (results_none rfl _ _ _) rfl ?_
    exact ⟨⟨_,rfl⟩,.inr hJx3⟩
theorem splitseq_any (s:List UInt8) (w:World):Calls Tryz.prog 78 #[.string ⟨s.toArray⟩,.string ⟨#[47]⟩] w fun e w'=>
  e = .returned (.func (.func 151) #[] #[.pointer (some ⟨w.heap.size + 1,0,none⟩),.pointer (some ⟨w.heap.size,0,none⟩),.pointer (some ⟨w.heap.size + 2,0,none⟩)])/\w' = ((w.alloc (.cells #[.string ⟨s.toArray⟩] 9)).alloc (.cells #[.string ⟨#[47]⟩] 9)).alloc (.cells #[.int .i64 0] 3):=by
 have h:Calls Tryz.prog 105 #[.string ⟨s.toArray⟩,.string ⟨#[47]⟩,.int .i64 0] w fun e w'=>
  e = .returned (.func (.func 151) #[] #[.pointer (some ⟨w.heap.size + 1,0,none⟩),.pointer (some ⟨w.heap.size,0,none⟩),.pointer (some ⟨w.heap.size + 2,0,none⟩)])/\w' = ((w.alloc (.cells #[.string ⟨s.toArray⟩] 9)).alloc (.cells #[.string ⟨#[47]⟩] 9)).alloc (.cells #[.int .i64 0] 3):=by
  go_enter Tryz.func105,Tryz.ntmps105
  go_wp2
  go_ret
  exact ⟨rfl,rfl⟩
 go_enter Tryz.func78,Tryz.ntmps78
 go_wp2_with fail
 (with_reducible refine h.mono ?_)
 rintro e w' ⟨rfl,rfl⟩
 go_wp2_with fail
 go_ret
 exact ⟨rfl,rfl⟩
end Go.Proofs.YtdedfkljaeloiaaGreatDoor
