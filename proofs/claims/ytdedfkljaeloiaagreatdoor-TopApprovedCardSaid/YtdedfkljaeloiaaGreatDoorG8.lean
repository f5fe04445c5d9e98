/- Joined texts: ApWo, ApIf, ApCr, ApCs, ApPa. -/
import Derived.Test.YtdedfkljaeloiaaGreatDoorG6
import Derived.Test.YtdedfkljaeloiaaGreatDoorTtVw
import Derived.Lib.QuietBelow
import Derived.BigQuiet
import Derived.Laws.EntriesVeiled
import Derived.Test.YtdedfkljaeloiaaGreatDoorG7
import Derived.Test.YtdedfkljaeloiaaGreatDoorG3
import Derived.Test.YtdedfkljaeloiaaGreatDoorTtLd
import Derived.OwnWalkIn
/- The words of a text: the iterator. -/
set_option maxRecDepth 100000
set_option maxHeartbeats 16000000
open Go.Lib (hid)
namespace Go.Proofs.YtdedfkljaeloiaaGreatDoor
open Go.RowKit Go.Shelf
set_option linter.unusedVariables false
attribute [local go_sem] Oper.semAt_some
theorem tw_spec (q:UInt8->Bool):∀ (l:List UInt8) (i:Nat) (hi:i < l.length),(i < (l.takeWhile q).length->q l[i]=true)/\(i=(l.takeWhile q).length->q l[i]=false)
 | [],i,hi=>by simp at hi
 | c :: l,i,hi=>by
  cases hc:q c with
  | false=>rw [List.takeWhile_cons_of_neg (by simp [hc])]; exact ⟨fun h=>by simp at h,fun h=>by simp at h; subst h; exact hc⟩
  | true=>
   rw [List.takeWhile_cons_of_pos hc,List.length_cons]
   cases i with
   | zero=>exact ⟨fun _=>hc,fun h=>by omega⟩
   | succ i=>
    obtain ⟨h1,h2⟩:=tw_spec q l i (by simpa using hi)
    exact ⟨fun h=>h1 (by omega),fun h=>h2 (by omega)⟩
theorem tw_le (q:UInt8->Bool):∀ l:List UInt8,(l.takeWhile q).length<=l.length
 | []=>by simp
 | c :: l=>by
  cases hc:q c with
  | false=>rw [List.takeWhile_cons_of_neg (by simp [hc])]; simp
  | true=>rw [List.takeWhile_cons_of_pos hc]; have:=tw_le q l; simp; omega
theorem tw_take (q:UInt8->Bool):∀ l:List UInt8,l.take (l.takeWhile q).length=l.takeWhile q/\l.drop (l.takeWhile q).length=l.dropWhile q
 | []=>by simp
 | c :: l=>by
  cases hc:q c with
  | false=>rw [List.takeWhile_cons_of_neg (by simp [hc]),List.dropWhile_cons_of_neg (by simp [hc])]; simp
  | true=>
   obtain ⟨h1,h2⟩:=tw_take q l
   rw [List.takeWhile_cons_of_pos hc,List.dropWhile_cons_of_pos hc,List.length_cons,List.take_succ_cons,List.drop_succ_cons,h1,h2]
   exact ⟨rfl,rfl⟩
def runE (q:UInt8->Bool) (s:Pa) (k:Nat):Nat:=k + ((s.drop k).takeWhile q).length
theorem runE_le (q:UInt8->Bool) (s:Pa) (k:Nat) (h:k<=s.length):runE q s k<=s.length:=by
 have:=tw_le q (s.drop k)
 rw [List.length_drop] at this
 unfold runE; omega
theorem runE_in (q:UInt8->Bool) (s:Pa) (k j:Nat) (h1:k<=j) (h2:j < s.length):(j < runE q s k->q s[j]=true)/\(j=runE q s k->q s[j]=false):=by
 have h:=tw_spec q (s.drop k) (j - k) (by rw [List.length_drop]; omega)
 have e:(s.drop k)[j - k]'(by rw [List.length_drop]; omega)=s[j]:=by rw [List.getElem_drop]; congr 1; omega
 rw [e] at h
 unfold runE
 exact ⟨fun g=>h.1 (by omega),fun g=>h.2 (by omega)⟩
theorem runE_gt (q:UInt8->Bool) (s:Pa) (k:Nat) (h:k < s.length) (hq:q s[k]=true):k < runE q s k:=by
 rcases Nat.lt_or_ge k (runE q s k) with h1 | h1
 ·exact h1
 ·have:k=runE q s k:=by unfold runE at h1 ⊢; omega
  have:=(runE_in q s k k (Nat.le_refl _) h).2 this
  rw [hq] at this; cases this
theorem words_sp {f:Nat} {s:Pa} {k:Nat} (h:k < s.length) (hc:spB s[k]=true):wordsF (f + 1) (s.drop k) k=wordsF f (s.drop (k + 1)) (k + 1):=by
 rw [List.drop_eq_getElem_cons h,wordsF,if_pos hc]
theorem words_cm {f:Nat} {s:Pa} {k:Nat} (h:k < s.length) (hc:spB s[k]=false) (h2:s[k]=35):wordsF (f + 1) (s.drop k) k=wordsF f (s.drop (runE (fun c=>!nlB c) s k)) (runE (fun c=>!nlB c) s k):=by
 have e:=List.drop_eq_getElem_cons h
 rw [e,wordsF,if_neg (by rw [hc]; simp),if_pos h2,<-e]
 unfold runE
 rw [<-(tw_take (fun c=>!nlB c) (s.drop k)).2,List.drop_drop]
theorem words_wd {f:Nat} {s:Pa} {k:Nat} (h:k < s.length) (hc:spB s[k]=false) (h2:¬ s[k]=35):wordsF (f + 1) (s.drop k) k=((s.drop k).take (runE (fun c=>!spB c) s k - k),k) :: wordsF f (s.drop (runE (fun c=>!spB c) s k)) (runE (fun c=>!spB c) s k):=by
 have e:=List.drop_eq_getElem_cons h
 rw [e,wordsF,if_neg (by rw [hc]; simp),if_neg h2,<-e]
 unfold runE
 rw [<-(tw_take (fun c=>!spB c) (s.drop k)).2,List.drop_drop,Nat.add_sub_cancel_left,(tw_take (fun c=>!spB c) (s.drop k)).1]
def wdV (x:Pa × Nat):Value:=.agg #[.string ⟨x.1.toArray⟩,.int .i64 (x.2:Int)]
def Kw (sb fb:Nat) (W W':World):Prop:=W.heap.size<=W'.heap.size/\W'.heap[sb]? = W.heap[sb]?/\W'.heap[fb]? = W.heap[fb]?
abbrev TFn:TypeId:=176
theorem words2_in (l n sb fb:Nat) (hn:1<=n) (s:Pa) (hs:(s.length:Int)<=1000000) (J:List (Pa × Nat)->World->Prop) (Jx:World->Prop) (W:World) (hJ:∀ s W W',J s W->Below W.heap.size W W'->J s W')
  (hY:∀ pre x W,J pre W->pre ++ [x] <+: wordsF (s.length + 1) s 0->YieldAt Fence.wide (n - 1) Tryz.prog l #[wdV x] W fun e W'=>(e = .returned (.bool true)/\J (pre ++ [x]) W'/\Kw sb fb W W')\/(e = .returned (.bool false)/\Jx W'))
  (hb0:BK sb #[.string ⟨s.toArray⟩] 9 W) (hb1:BK fb #[.func (.func 141) #[] #[]] TFn W) (h0:J [] W) :
  CallsIn Fence.wide n Tryz.prog 142 (#[.func (.yield l) #[] #[]] ++ #[.pointer (some ⟨sb,0,none⟩),.pointer (some ⟨fb,0,none⟩)]) W fun e W'=>(∃ v,e = .returned v)/\(J (wordsF (s.length + 1) s 0) W'\/Jx W'):=by
 refine callsIn_of_wp Tryz.func142 rfl trivial ?_ rfl
 simp only [Tryz.ntmps142,List.size_toArray,List.length_cons,List.length_nil,Nat.reduceAdd,Nat.reduceSub,Array.replicate_succ,Array.replicate_zero,List.push_toArray,List.append_toArray,List.nil_append,List.cons_append]
 have HY:=hid hY
 have HJ:=hid hJ
 have HB0:=hid hb0
 have HB1:=hid hb1
 obtain ⟨T,hT⟩:∃ T,T=wordsF (s.length + 1) s 0:=⟨_,rfl⟩
 rw [<-hT] at HY ⊢
 have HT:=hid hT
 obtain ⟨m,hm⟩:∃ m,m=s.length:=⟨_,rfl⟩
 have hsz:(⟨s.toArray⟩:ByteArray).size=m:=by rw [ba_len,hm]
 have HM:=hid hm
 have hm2:(m:Int)<=1000000:=by rw [hm]; exact hs
 clear hY hJ hb0 hb1 hT hm hs
 gi_wp2
 gi_loopw [4] (fun i wr=>∃ (k f:Nat) (pre:List (Pa × Nat)),i = .int .i64 (k:Int)/\k<=m/\m - k < f/\Hid (T=pre ++ wordsF f (s.drop k) k)/\Hid (J pre wr)/\Hid (BK sb #[.string ⟨s.toArray⟩] 9 wr)/\Hid (BK fb #[.func (.func 141) #[] #[]] TFn wr)) (fun i _=>m - (intOf i).toNat)
 case atStart=>exact ⟨0,m + 1,[],rfl,by omega,by omega,hid (by rw [HT.out,HM.out]; rfl),hid h0,HB0,HB1⟩
 case round=>
  clear h0 HB0 HB1
  obtain ⟨k,f,pre,rfl,hkm,hf,HP,HJW,HA,HB⟩:=hrel
  have a0:=HA.out.c1
  have a1:=HB.out.c1
  by_cases hk:k < m
  ·have hki:(k:Int) < (m:Int):=by omega
   have hkl:k < s.length:=by rw [<-HM.out]; exact hk
   have hidx:=fun W=>idxA s k hkl W
   obtain ⟨f,rfl⟩:∃ g,f=g + 1:=⟨f - 1,by omega⟩
   have HQ1:=hid (words_sp (f:=f) hkl)
   have HQ2:=hid (words_cm (f:=f) hkl)
   have HQ3:=hid (words_wd (f:=f) hkl)
   have hc:(s[k].toNat:Int)=35 ↔ s[k]=35:=by rw [<-UInt8.toNat_inj]; simp; omega
   have HAR0:=hid (fun W=>(isSpace_any s[k] W).mono (fun e w' h=>(show e=Ending.returned (.bool (spB s[k]))/\Below W.heap.size W w' from ⟨h.1,by rw [h.2]; exact Below.refl _ _⟩)))
   have HAR:=hid (fun d os=>Calls.regrown_of (w:=wr) (d:=d) (os:=os) (HAR0.out _))
   have f0:=cell_regrown a0
   have f1:=cell_regrown a1
   clear HAR0
   obtain ⟨c,hcc⟩:∃ c,s[k]=c:=⟨_,rfl⟩
   have HCC:=hid hcc
   rw [hcc] at hidx HQ1 HQ2 HQ3 hc HAR
   clear hcc
   cases hsp:spB c with
   | true=>
    rw [hsp] at HAR HQ1
    have HP2:Hid (T=pre ++ wordsF f (s.drop (k + 1)) (k + 1)):=hid (by rw [HP.out,HQ1.out rfl])
    clear HQ1 HQ2 HQ3 HP
    gi_wp2
    refine wpIn_wide.2 ?_
    refine wp_region_quiet_below (by kernel_rfl) (by kernel_rfl) ?_
    repeat (any_goals (first | go_big_quiet_step (first | (with_reducible exact HAR.out _ _)) | quiet_step (first | (with_reducible exact HAR.out _ _))))
    refine wpQuiet_nil ?_
    intro w3 hw3
    have hbq:=below_rg hw3
    have HJ3:=hid (HJ.out _ _ _ HJW.out hbq)
    have HA3:=hid (HA.out.below hbq)
    have HB3:=hid (HB.out.below hbq)
    clear hbq hw3 HB HA HJW HAR f0 f1 a0 a1 hidx
    gi_wp2
    go_roundw
    case rel=>exact ⟨k + 1,f,pre,by go_num,by omega,by omega,HP2,HJ3,HA3,HB3⟩
    case measure=>simp [intOf] <;> omega
   | false=>
    rw [hsp] at HAR HQ1 HQ2 HQ3
    clear HQ1
    by_cases h35:c=35
    ·have HX:=hid (hc.2 h35)
     obtain ⟨E,hE⟩:∃ E,E=runE (fun c=>!nlB c) s k:=⟨_,rfl⟩
     have HQ:=hid (HQ2.out rfl h35)
     have hEm:E<=m:=by rw [hE,HM.out]; exact runE_le _ _ _ (by omega)
     have hEk:k < E:=by
      rw [hE]
      refine runE_gt _ _ _ hkl ?_
      rw [HCC.out,h35]; rfl
     have HEI:=hid (fun j h1 h2=>runE_in (fun c=>!nlB c) s k j h1 h2)
     rw [<-hE] at HQ HEI
     have HP2:Hid (T=pre ++ wordsF f (s.drop E) E):=hid (by rw [HP.out,HQ.out])
     clear hE HQ HQ2 HQ3 HP hc h35
     gi_wp2
     refine wpIn_wide.2 ?_
     refine wp_region_quiet_below (by kernel_rfl) (by kernel_rfl) ?_
     repeat (any_goals (first | go_big_quiet_step (first | (with_reducible exact HAR.out _ _)) | quiet_step (first | (with_reducible exact HAR.out _ _))))
     refine wpQuiet_nil ?_
     intro w3 hw3
     have hbq:=below_rg hw3
     have HJ3:=hid (HJ.out _ _ _ HJW.out hbq)
     have HA3:=hid (HA.out.below hbq)
     have HB3:=hid (HB.out.below hbq)
     clear hbq hw3 HB HA HJW HAR f0 f1 a0 a1
     have a0:=HA3.out.c1
     have hx:=HX.out
     gi_wp2
     clear hidx HCC hx HX
     gi_loopw [4] (fun i wx=>∃ (j:Nat),i = .int .i64 (j:Int)/\k<=j/\j<=E/\w3=wx) (fun i _=>m - (intOf i).toNat)
     case atStart=>exact ⟨k,rfl,Nat.le_refl _,by omega,rfl⟩
     case round=>
      obtain ⟨j,rfl,hkj,hjE,rfl⟩:=hrel
      by_cases hjm:j < m
      ·have hji:(j:Int) < (m:Int):=by omega
       have hjl:j < s.length:=by rw [<-HM.out]; exact hjm
       have hidx:=fun W=>idxA s j hjl W
       have h10:(s[j].toNat:Int)=10 ↔ nlB s[j]=true:=by
        unfold nlB
        rw [beq_iff_eq,<-UInt8.toNat_inj]; simp; omega
       obtain ⟨e1,e2⟩:=HEI.out j hkj hjl
       generalize s[j]=d at hidx h10 e1 e2
       by_cases hjE2:j < E
       ·have hd:=e1 hjE2
        have hn10:¬ (d.toNat:Int)=10:=fun h=>by rw [h10.1 h] at hd; cases hd
        generalize (d.toNat:Int)=y at hidx hn10
        clear e1 e2 h10
        gi_wp2
        go_roundw
        case rel=>exact ⟨j + 1,by go_num,by omega,by omega,trivial⟩
        case measure=>simp [intOf] <;> omega
       ·have hd:=e2 (by omega)
        have h10':(d.toNat:Int)=10:=h10.2 (by simpa using hd)
        rw [h10'] at hidx
        clear e1 e2 h10
        gi_wp2
        go_roundw
        case rel=>exact ⟨j,f,pre,rfl,by omega,by omega,by rw [show j=E by omega]; exact HP2,HJ3,HA3,HB3⟩
        case measure=>simp [intOf] <;> omega
      ·have hji:¬ (j:Int) < (m:Int):=by omega
       gi_wp2
       go_roundw
       case rel=>exact ⟨j,f,pre,rfl,by omega,by omega,by rw [show j=E by omega]; exact HP2,HJ3,HA3,HB3⟩
       case measure=>simp [intOf] <;> omega
    ·have HX:Hid (¬ (c.toNat:Int)=35):=hid (fun h=>h35 (hc.1 h))
     obtain ⟨E,hE⟩:∃ E,E=runE (fun c=>!spB c) s k:=⟨_,rfl⟩
     have HQ:=hid (HQ3.out rfl h35)
     have hEm:E<=m:=by rw [hE,HM.out]; exact runE_le _ _ _ (by omega)
     have hEk:k < E:=by
      rw [hE]
      refine runE_gt _ _ _ hkl ?_
      rw [HCC.out,hsp]; rfl
     have HEI:=hid (fun j h1 h2=>runE_in (fun c=>!spB c) s k j h1 h2)
     have hmid:=fun W=>sl_mid s k E (by omega) (by rw [<-HM.out]; exact hEm) W
     rw [<-hE] at HQ HEI
     generalize hwd:(s.drop k).take (E - k)=wd at HQ hmid
     have HP2:Hid (T=(pre ++ [(wd,k)]) ++ wordsF f (s.drop E) E):=hid (by rw [HP.out,HQ.out,List.append_assoc]; rfl)
     have hpl:Hid (pre ++ [(wd,k)] <+: T):=hid ⟨_,HP2.out.symm⟩
     clear hE HQ HQ2 HQ3 HP hc h35 hwd
     gi_wp2
     refine wpIn_wide.2 ?_
     refine wp_region_quiet_below (by kernel_rfl) (by kernel_rfl) ?_
     repeat (any_goals (first | go_big_quiet_step (first | (with_reducible exact HAR.out _ _)) | quiet_step (first | (with_reducible exact HAR.out _ _))))
     refine wpQuiet_nil ?_
     intro w3 hw3
     have hbq:=below_rg hw3
     have HJ3:=hid (HJ.out _ _ _ HJW.out hbq)
     have HA3:=hid (HA.out.below hbq)
     have HB3:=hid (HB.out.below hbq)
     clear hbq hw3 HB HA HJW HAR f0 f1 a0 a1
     have a0:=HA3.out.c1
     have hx:=HX.out
     gi_wp2
     clear hidx HCC hx HX a0
     gi_loopw [4] (fun i wx=>∃ (j:Nat),i = .int .i64 (j:Int)/\k<=j/\j<=E/\Hid (Below w3.heap.size w3 wx)) (fun i _=>m - (intOf i).toNat)
     case atStart=>exact ⟨k,rfl,Nat.le_refl _,by omega,hid (Below.refl _ _)⟩
     case round=>
      obtain ⟨j,rfl,hkj,hjE,HBX⟩:=hrel
      have HJ4:=hid (HJ.out _ _ _ HJ3.out HBX.out)
      have HA4:=hid (HA3.out.below HBX.out)
      have HB4:=hid (HB3.out.below HBX.out)
      have a0:=HA4.out.c1
      have a1:=HB4.out.c1
      have f0:=cell_regrown a0
      have f1:=cell_regrown a1
      by_cases hjm:j < m
      ·have hji:(j:Int) < (m:Int):=by omega
       have hjl:j < s.length:=by rw [<-HM.out]; exact hjm
       have hidx:=fun W=>idxA s j hjl W
       have HAR0:=hid (fun W=>(isSpace_any s[j] W).mono (fun e w' h=>(show e=Ending.returned (.bool (spB s[j]))/\Below W.heap.size W w' from ⟨h.1,by rw [h.2]; exact Below.refl _ _⟩)))
       have HAR:=hid (fun d os=>Calls.regrown_of (w:=wr) (d:=d) (os:=os) (HAR0.out _))
       obtain ⟨e1,e2⟩:=HEI.out j hkj hjl
       clear HAR0
       generalize s[j]=d at hidx e1 e2 HAR
       by_cases hjE2:j < E
       ·have hd:spB d=false:=by simpa using e1 hjE2
        rw [hd] at HAR
        clear e1 e2
        gi_wp2
        refine wpIn_wide.2 ?_
        refine wp_region_quiet_below (by kernel_rfl) (by kernel_rfl) ?_
        repeat (any_goals (first | go_big_quiet_step (first | (with_reducible exact HAR.out _ _)) | quiet_step (first | (with_reducible exact HAR.out _ _))))
        refine wpQuiet_nil ?_
        intro w4 hw4
        have hbq:=below_rg hw4
        have HBX2:=hid (HBX.out.trans (hbq.mono HBX.out.size))
        clear hbq hw4 HAR f0 f1 a0 a1 hidx HJ4 HA4 HB4 HBX
        gi_wp2
        go_roundw
        case rel=>exact ⟨j + 1,by go_num,by omega,by omega,HBX2⟩
        case measure=>simp [intOf] <;> omega
       ·have hjeq:j=E:=by omega
        have hd:spB d=true:=by simpa using e2 hjeq
        subst hjeq
        rw [hd] at HAR
        clear e1 e2
        gi_wp2
        refine wpIn_wide.2 ?_
        refine wp_region_quiet_below (by kernel_rfl) (by kernel_rfl) ?_
        repeat (any_goals (first | go_big_quiet_step (first | (with_reducible exact HAR.out _ _)) | quiet_step (first | (with_reducible exact HAR.out _ _))))
        refine wpQuiet_nil ?_
        intro w5 hw5
        have hbq:=below_rg hw5
        have HJ5:=hid (HJ.out _ _ _ HJ4.out hbq)
        have HA5:=hid (HA4.out.below hbq)
        have HB5:=hid (HB4.out.below hbq)
        clear hbq hw5 HAR f0 f1 a0 a1 hidx HJ4 HA4 HB4 HBX
        obtain ⟨fn,tmps,assign,body,hy,hR⟩:=HY.out pre (wd,k) w5 HJ5.out hpl.out
        simp only [wdV] at hy
        have a0:=HA5.out.c1
        gi_wp2
        refine hR.mono ?_
        rintro e w6 (⟨rfl,hj6,hk6⟩ | ⟨rfl,hx6⟩)
        ·have HJ6:=hid hj6
         have HA6:Hid (BK sb #[.string ⟨s.toArray⟩] 9 w6):=hid (hk6.2.1.trans HA5.out)
         have HB6:Hid (BK fb #[.func (.func 141) #[] #[]] TFn w6):=hid (hk6.2.2.trans HB5.out)
         clear hj6 hk6 hy hR a0 hmid
         gi_wp2
         go_roundw
         case rel=>exact ⟨j,f,pre ++ [(wd,k)],rfl,by omega,by omega,HP2,HJ6,HA6,HB6⟩
         case measure=>simp [intOf] <;> omega
        ·clear hy hR a0 hmid
         gi_wp2
         refine bodyPost_ret (results_none rfl _ _ _) rfl ?_
         exact ⟨⟨_,rfl⟩,.inr hx6⟩
      ·have hji:¬ (j:Int) < (m:Int):=by omega
       have hjeq:j=E:=by omega
       subst hjeq
       gi_wp2
       refine wpIn_wide.2 ?_
       refine wp_region_quiet_below (by kernel_rfl) (by kernel_rfl) ?_
       repeat (any_goals (first | go_big_quiet_step (fail) | quiet_step (fail)))
       refine wpQuiet_nil ?_
       intro w5 hw5
       have hbq:=below_rg hw5
       have HJ5:=hid (HJ.out _ _ _ HJ4.out hbq)
       have HA5:=hid (HA4.out.below hbq)
       have HB5:=hid (HB4.out.below hbq)
       clear hbq hw5 f0 f1 a0 a1 HJ4 HA4 HB4 HBX
       obtain ⟨fn,tmps,assign,body,hy,hR⟩:=HY.out pre (wd,k) w5 HJ5.out hpl.out
       simp only [wdV] at hy
       have a0:=HA5.out.c1
       gi_wp2
       refine hR.mono ?_
       rintro e w6 (⟨rfl,hj6,hk6⟩ | ⟨rfl,hx6⟩)
       ·have HJ6:=hid hj6
        have HA6:Hid (BK sb #[.string ⟨s.toArray⟩] 9 w6):=hid (hk6.2.1.trans HA5.out)
        have HB6:Hid (BK fb #[.func (.func 141) #[] #[]] TFn w6):=hid (hk6.2.2.trans HB5.out)
        clear hj6 hk6 hy hR a0 hmid
        gi_wp2
        go_roundw
        case rel=>exact ⟨j,f,pre ++ [(wd,k)],rfl,by omega,by omega,HP2,HJ6,HA6,HB6⟩
        case measure=>simp [intOf] <;> omega
       ·clear hy hR a0 hmid
        gi_wp2
        refine bodyPost_ret (results_none rfl _ _ _) rfl ?_
        exact ⟨⟨_,rfl⟩,.inr hx6⟩
  ·have hki:¬ (k:Int) < (m:Int):=by omega
   have HF:Hid (J T wr):=hid (by
    have h:=HP.out
    rw [List.drop_of_length_le (by have:=HM.out; omega)] at h
    obtain ⟨g,rfl⟩:∃ g,f=g + 1:=⟨f - 1,by omega⟩
    rw [wordsF,List.append_nil] at h
    rw [h]; exact HJW.out)
   clear HP HJW HA HB
   gi_wp2
   go_end0
   exact ⟨⟨_,rfl⟩,.inl HF.out⟩
theorem words_any (s:Pa) (w:World):Calls Tryz.prog 96 #[.string ⟨s.toArray⟩] w fun e w'=>e = .returned (.func (.func 142) #[] #[.pointer (some ⟨w.heap.size,0,none⟩),.pointer (some ⟨w.heap.size + 1,0,none⟩)])/\Below w.heap.size w w'/\w'.heap.size=w.heap.size + 2/\BK w.heap.size #[.string ⟨s.toArray⟩] 9 w'/\BK (w.heap.size + 1) #[.func (.func 141) #[] #[]] TFn w':=by
 have HK:=hid (BK.new2 w (.cells #[.string ⟨s.toArray⟩] 9) #[.func (.func 141) #[] #[]] 176)
 have HS:Hid (BK w.heap.size #[.string ⟨s.toArray⟩] 9 ((w.alloc (.cells #[.string ⟨s.toArray⟩] 9)).alloc (.cells #[.func (.func 141) #[] #[]] 176))):=hid ((BK.new w _ _).alloc _)
 have HB:Hid (Below w.heap.size w ((w.alloc (.cells #[.string ⟨s.toArray⟩] 9)).alloc (.cells #[.func (.func 141) #[] #[]] 176))):=hid (((Below.refl _ w).alloc (Nat.le_refl _) _).alloc (by simp) _)
 go_enter Tryz.func96,Tryz.ntmps96
 go_wp2_with fail
 go_ret
 exact ⟨rfl,HB.out,by simp,HS.out,HK.out⟩
abbrev Wd:={ x:Pa × Nat // (x.1.length:Int)<=1000000 }
theorem words2_stops (sb fb:Nat) (s:Pa) (hs:(s.length:Int)<=1000000) (hq:∀ x ∈ wordsF (s.length + 1) s 0,x.1.length<=s.length) (w:World) (hp:BK sb #[.string ⟨s.toArray⟩] 9 w) (hd:BK fb #[.func (.func 141) #[] #[]] TFn w) :
  SeqStopsK Fence.wide (5 - 1) Tryz.prog 142 #[.pointer (some ⟨sb,0,none⟩),.pointer (some ⟨fb,0,none⟩)] (fun x:Wd=>#[wdV x.1]) (Kw sb fb) (fun ys=>ys.map (·.1)=wordsF (s.length + 1) s 0) (fun ys=>ys.map (·.1) <+: wordsF (s.length + 1) s 0) (wordsF (s.length + 1) s 0).length w:=fun l J Jx W hW hA hAx hY h0=>by
 have h:=words2_in l (5 - 1) sb fb (by omega) s hs (fun ys W=>∃ zs:List Wd,zs.map (·.1)=ys/\J zs W) (fun W=>∃ pre:List Wd,pre.map (·.1) <+: wordsF (s.length + 1) s 0/\Jx pre W) W (fun s A B ⟨zs,hz,hj⟩ hb=>⟨zs,hz,hA zs A B none hj ⟨hb.os,hb.tape,hb.output,hb.size,fun k hk _=>hb.block k hk⟩ (fun r e=>by cases e)⟩)
  (fun pre x W1 ⟨zs,hz,hj⟩ hl=>by
   have hx:x ∈ wordsF (s.length + 1) s 0:=hl.subset (by simp)
   have hxl:(x.1.length:Int)<=1000000:=by have:=hq x hx; omega
   have hlen:zs.length < (wordsF (s.length + 1) s 0).length:=by
    have:=hl.length_le
    rw [<-hz] at this
    simp at this; omega
   refine YieldAt.mono (hY zs ⟨x,hxl⟩ W1 hj hlen) (fun e w h=>h.elim (fun ⟨h1,h2,h3⟩=>.inl ⟨h1,⟨zs ++ [⟨x,hxl⟩],by rw [List.map_append,hz]; rfl,h2⟩,h3⟩) (fun ⟨h1,h2⟩=>.inr ⟨h1,_,by rw [List.map_append,hz]; exact hl,h2⟩)))
  (hp.below hW) (hd.below hW) ⟨[],rfl,h0⟩
 refine h.mono (fun e w' h=>⟨h.1,?_⟩)
 rcases h.2 with ⟨zs,h1,h2⟩ | ⟨pre,h1,h2⟩
 ·exact .inl ⟨zs,h1,h2⟩
 ·exact .inr ⟨pre,h1,h2⟩
abbrev InG (x:Hd) (g:List Pa) (W:World):Prop:=SrW W.heap.size W x g
abbrev InS (x:Pa) (g:Pa) (W:World):Prop:=x=g
def PredGr (gf:Nat) (lb:Array Value) (p:List Pa->Bool) (w:World) (G:List (List Pa)):Prop:=
 (∀ args w,(callFunc gf args).run Tryz.prog w = .ok (.enter gf args) w)/\∀ (x:Hd) (g:List Pa) (W:World),Below w.heap.size w W->g ∈ G->InG x g W->Calls Tryz.prog gf (#[.slice x.1 x.2.1 x.2.2] ++ lb) W fun e W'=>e = .returned (.bool (p g))/\Below W.heap.size W W'
theorem indexF_Gr (gf:Nat) (lb:Array Value) (p:List Pa->Bool) (a:Option Addr) (c:Nat) (G:List (List Pa)) (w:World) (hr:GrW w.heap.size w (a,G.length,c) G) (hn:(G.length:Int)<=1000000) (hP:PredGr gf lb p w G) :
  Calls Tryz.prog 99 #[.slice a G.length c,.func (.func gf) #[] lb] w fun e w'=>(∃ k:Int,e = .returned (.int .i64 k)/\(0<=k ↔ G.any p=true))/\Below w.heap.size w w':=by
 have HR:=hid hr
 obtain ⟨R,hR⟩:∃ R,R=G.any p:=⟨_,rfl⟩
 rw [<-hR]
 have HRR:=hid hR
 have HP:=hid hP.2
 have heg:=hP.1
 obtain ⟨n,hnn⟩:∃ n,n=G.length:=⟨_,rfl⟩
 have HN:=hid hnn
 rw [<-hnn] at hn ⊢
 clear hr hP hnn hR
 go_enter Tryz.func99,Tryz.ntmps99
 go_wp2_with fail
 go_loopw [8] (fun i wr=>∃ (k:Nat),i = .int .i64 k/\k<=n/\Hid (∀ j (hj:j < G.length),j < k->p G[j]=false)/\Hid (Below w.heap.size w wr)) (fun i _=>n - (intOf i).toNat)
 case atStart=>exact ⟨0,rfl,by omega,hid (fun j hj h=>by omega),hid (Below.refl _ _)⟩
 case round=>
  obtain ⟨k,rfl,hk,HA,HB⟩:=hrel
  by_cases hlt:k < n
  ·have hki:(k:Int) < (n:Int):=by omega
   have hkl:k < G.length:=by rw [<-HN.out]; exact hlt
   obtain ⟨b,off,x,hab,hb,q0,hx⟩:=gr_cell (HR.out.below HB.out) hkl
   have HX:Hid (InG x G[k] wr):=hid (hx.mono HB.out.size)
   simp only at hab
   simp only [hdV] at q0
   clear hx
   subst hab
   have HC:=hid (HP.out x G[k] wr HB.out (List.getElem_mem hkl) HX.out)
   have HNX:Hid (p G[k]=false->∀ j (hj:j < G.length),j < k + 1->p G[j]=false):=hid (fun h j hj hjk=>by
    rcases Nat.lt_or_ge j k with h1 | h1
    ·exact HA.out j hj h1
    ·obtain rfl:j=k:=by omega
     exact h)
   have HYS:Hid (p G[k]=true->((0:Int)<=(k:Int) ↔ R=true)):=hid (fun h=>by rw [HRR.out,List.any_eq_true.2 ⟨_,List.getElem_mem hkl,h⟩]; simp)
   generalize p G[k]=pk at HC HNX HYS
   clear HA HX
   go_wp2_with fail
   (with_reducible refine HC.out.mono ?_)
   rintro e w2 ⟨rfl,hb2⟩
   have HB2:=hid (HB.out.trans (hb2.mono HB.out.size))
   clear hb2 HC HB q0
   cases pk with
   | true=>
    go_wp2_with fail
    go_ret
    exact ⟨⟨_,rfl,HYS.out (by simp)⟩,HB2.out⟩
   | false=>
    have HNX2:=hid (HNX.out (by simp))
    clear HNX HYS
    go_wp2_with fail
    go_roundw
    case rel=>exact ⟨k + 1,by go_num,by omega,HNX2,HB2⟩
    case measure=>simp [intOf] <;> omega
  ·have hki:¬ (k:Int) < (n:Int):=by omega
   have HF:Hid ((0:Int)<=-1 ↔ R=true):=hid (by
    have:G.any p=false:=by
     rw [List.any_eq_false]
     intro g hg
     obtain ⟨j,hj,rfl⟩:=List.getElem_of_mem hg
     rw [HA.out j hj (by have:=HN.out; omega)]; simp
    rw [HRR.out,this]; simp)
   clear HA HP
   go_wp2_with fail
   go_ret
   exact ⟨⟨_,rfl,HF.out⟩,HB.out⟩
theorem containsF_Gr (gf:Nat) (lb:Array Value) (p:List Pa->Bool) (a:Option Addr) (c:Nat) (G:List (List Pa)) (w:World) (hr:GrW w.heap.size w (a,G.length,c) G) (hn:(G.length:Int)<=1000000) (hP:PredGr gf lb p w G) :
  Calls Tryz.prog 66 #[.slice a G.length c,.func (.func gf) #[] lb] w fun e w'=>e = .returned (.bool (G.any p))/\Below w.heap.size w w':=by
 have HC:=hid (indexF_Gr gf lb p a c G w hr hn hP)
 clear hr hP
 generalize G.any p=R at HC
 go_enter Tryz.func66,Tryz.ntmps66
 go_wp2_with fail
 (with_reducible refine HC.out.mono ?_)
 rintro e w2 ⟨⟨k,rfl,hk⟩,hb⟩
 have HB:=hid hb
 have HK:=hid hk
 clear hb hk HC
 go_wp2_with fail
 go_ret
 exact ⟨by rw [show R=decide (0<=k) from by have:=HK.out; cases R <;> simp at this ⊢ <;> omega]; rfl,HB.out⟩
def PredSt (gf:Nat) (lb:Array Value) (p:Pa->Bool) (w:World) (G:List (Pa)):Prop:=
 (∀ args w,(callFunc gf args).run Tryz.prog w = .ok (.enter gf args) w)/\∀ (x:Pa) (g:Pa) (W:World),Below w.heap.size w W->g ∈ G->InS x g W->Calls Tryz.prog gf (#[.string ⟨x.toArray⟩] ++ lb) W fun e W'=>e = .returned (.bool (p g))/\Below W.heap.size W W'
theorem indexF_St (gf:Nat) (lb:Array Value) (p:Pa->Bool) (a:Option Addr) (c:Nat) (G:List (Pa)) (w:World) (hr:SrW w.heap.size w (a,G.length,c) G) (hn:(G.length:Int)<=1000000) (hP:PredSt gf lb p w G) :
  Calls Tryz.prog 44 #[.slice a G.length c,.func (.func gf) #[] lb] w fun e w'=>(∃ k:Int,e = .returned (.int .i64 k)/\(0<=k ↔ G.any p=true))/\Below w.heap.size w w':=by
 have HR:=hid hr
 obtain ⟨R,hR⟩:∃ R,R=G.any p:=⟨_,rfl⟩
 rw [<-hR]
 have HRR:=hid hR
 have HP:=hid hP.2
 have heg:=hP.1
 obtain ⟨n,hnn⟩:∃ n,n=G.length:=⟨_,rfl⟩
 have HN:=hid hnn
 rw [<-hnn] at hn ⊢
 clear hr hP hnn hR
 go_enter Tryz.func44,Tryz.ntmps44
 go_wp2_with fail
 go_loopw [8] (fun i wr=>∃ (k:Nat),i = .int .i64 k/\k<=n/\Hid (∀ j (hj:j < G.length),j < k->p G[j]=false)/\Hid (Below w.heap.size w wr)) (fun i _=>n - (intOf i).toNat)
 case atStart=>exact ⟨0,rfl,by omega,hid (fun j hj h=>by omega),hid (Below.refl _ _)⟩
 case round=>
  obtain ⟨k,rfl,hk,HA,HB⟩:=hrel
  by_cases hlt:k < n
  ·have hki:(k:Int) < (n:Int):=by omega
   have hkl:k < G.length:=by rw [<-HN.out]; exact hlt
   obtain ⟨b,off,hab,hb,q0⟩:=sr_cell (HR.out.below HB.out) hkl
   have HX:Hid (InS G[k] G[k] wr):=hid rfl
   simp only at hab
   subst hab
   have HC:=hid (HP.out G[k] G[k] wr HB.out (List.getElem_mem hkl) HX.out)
   have HNX:Hid (p G[k]=false->∀ j (hj:j < G.length),j < k + 1->p G[j]=false):=hid (fun h j hj hjk=>by
    rcases Nat.lt_or_ge j k with h1 | h1
    ·exact HA.out j hj h1
    ·obtain rfl:j=k:=by omega
     exact h)
   have HYS:Hid (p G[k]=true->((0:Int)<=(k:Int) ↔ R=true)):=hid (fun h=>by rw [HRR.out,List.any_eq_true.2 ⟨_,List.getElem_mem hkl,h⟩]; simp)
   generalize p G[k]=pk at HC HNX HYS
   clear HA HX
   go_wp2_with fail
   (with_reducible refine HC.out.mono ?_)
   rintro e w2 ⟨rfl,hb2⟩
   have HB2:=hid (HB.out.trans (hb2.mono HB.out.size))
   clear hb2 HC HB q0
   cases pk with
   | true=>
    go_wp2_with fail
    go_ret
    exact ⟨⟨_,rfl,HYS.out (by simp)⟩,HB2.out⟩
   | false=>
    have HNX2:=hid (HNX.out (by simp))
    clear HNX HYS
    go_wp2_with fail
    go_roundw
    case rel=>exact ⟨k + 1,by go_num,by omega,HNX2,HB2⟩
    case measure=>simp [intOf] <;> omega
  ·have hki:¬ (k:Int) < (n:Int):=by omega
   have HF:Hid ((0:Int)<=-1 ↔ R=true):=hid (by
    have:G.any p=false:=by
     rw [List.any_eq_false]
     intro g hg
     obtain ⟨j,hj,rfl⟩:=List.getElem_of_mem hg
     rw [HA.out j hj (by have:=HN.out; omega)]; simp
    rw [HRR.out,this]; simp)
   clear HA HP
   go_wp2_with fail
   go_ret
   exact ⟨⟨_,rfl,HF.out⟩,HB.out⟩
theorem containsF_St (gf:Nat) (lb:Array Value) (p:Pa->Bool) (a:Option Addr) (c:Nat) (G:List (Pa)) (w:World) (hr:SrW w.heap.size w (a,G.length,c) G) (hn:(G.length:Int)<=1000000) (hP:PredSt gf lb p w G) :
  Calls Tryz.prog 21 #[.slice a G.length c,.func (.func gf) #[] lb] w fun e w'=>e = .returned (.bool (G.any p))/\Below w.heap.size w w':=by
 have HC:=hid (indexF_St gf lb p a c G w hr hn hP)
 clear hr hP
 generalize G.any p=R at HC
 go_enter Tryz.func21,Tryz.ntmps21
 go_wp2_with fail
 (with_reducible refine HC.out.mono ?_)
 rintro e w2 ⟨⟨k,rfl,hk⟩,hb⟩
 have HB:=hid hb
 have HK:=hid hk
 clear hb hk HC
 go_wp2_with fail
 go_ret
 exact ⟨by rw [show R=decide (0<=k) from by have:=HK.out; cases R <;> simp at this ⊢ <;> omega]; rfl,HB.out⟩
theorem index_St (s:Pa) (a:Option Addr) (c:Nat) (G:List Pa) (w:World) (hr:SrW w.heap.size w (a,G.length,c) G) (hn:(G.length:Int)<=1000000) :
  Calls Tryz.prog 33 #[.slice a G.length c,.string ⟨s.toArray⟩] w fun e w'=>(∃ k:Int,e = .returned (.int .i64 k)/\(0<=k ↔ decide (s ∈ G)=true))/\w' = w:=by
 have HR:=hid hr
 obtain ⟨R,hR⟩:∃ R,R=decide (s ∈ G):=⟨_,rfl⟩
 rw [<-hR]
 have HRR:=hid hR
 obtain ⟨n,hnn⟩:∃ n,n=G.length:=⟨_,rfl⟩
 have HN:=hid hnn
 rw [<-hnn] at hn ⊢
 clear hr hnn hR
 go_enter Tryz.func33,Tryz.ntmps33
 go_wp2_with fail
 go_loopw [8] (fun i wr=>∃ (k:Nat),i = .int .i64 k/\k<=n/\Hid (∀ j (hj:j < G.length),j < k->s ≠ G[j])/\w=wr) (fun i _=>n - (intOf i).toNat)
 case atStart=>exact ⟨0,rfl,by omega,hid (fun j hj h=>by omega),rfl⟩
 case round=>
  obtain ⟨k,rfl,hk,HA,rfl⟩:=hrel
  by_cases hlt:k < n
  ·have hki:(k:Int) < (n:Int):=by omega
   have hkl:k < G.length:=by rw [<-HN.out]; exact hlt
   obtain ⟨b,off,hab,hb,q0⟩:=sr_cell HR.out hkl
   simp only at hab
   subst hab
   by_cases he:s=G[k]
   ·have HF:Hid ((0:Int)<=(k:Int) ↔ R=true):=hid (by rw [HRR.out,decide_eq_true (show s ∈ G by rw [he]; exact List.getElem_mem hkl)]; simp)
    have hbq:(s == s)=true:=by simp
    rw [<-he] at q0
    clear HA he
    go_wp2_with fail
    go_ret
    exact ⟨⟨_,rfl,HF.out⟩,rfl⟩
   ·have hbq:(s == G[k])=false:=by simpa using he
    have HNX:Hid (∀ j (hj:j < G.length),j < k + 1->s ≠ G[j]):=hid (fun j hj hjk=>by
     rcases Nat.lt_or_ge j k with h1 | h1
     ·exact HA.out j hj h1
     ·obtain rfl:j=k:=by omega
      exact he)
    generalize G[k]=y at q0 hbq
    clear HA he
    go_wp2_with fail
    go_roundw
    case rel=>exact ⟨k + 1,by go_num,by omega,HNX,trivial⟩
    case measure=>simp [intOf] <;> omega
  ·have hki:¬ (k:Int) < (n:Int):=by omega
   have HF:Hid ((0:Int)<=-1 ↔ R=true):=hid (by
    rw [HRR.out,decide_eq_false (show ¬ s ∈ G from fun hm=>by
     obtain ⟨j,hj,e⟩:=List.getElem_of_mem hm
     exact HA.out j hj (by have:=HN.out; omega) e.symm)]; simp)
   clear HA
   go_wp2_with fail
   go_ret
   exact ⟨⟨_,rfl,HF.out⟩,rfl⟩
theorem contains_St (s:Pa) (a:Option Addr) (c:Nat) (G:List Pa) (w:World) (hr:SrW w.heap.size w (a,G.length,c) G) (hn:(G.length:Int)<=1000000) :
  Calls Tryz.prog 14 #[.slice a G.length c,.string ⟨s.toArray⟩] w fun e w'=>e = .returned (.bool (decide (s ∈ G)))/\w' = w:=by
 have HC:=hid (index_St s a c G w hr hn)
 clear hr
 generalize decide (s ∈ G)=R at HC
 go_enter Tryz.func14,Tryz.ntmps14
 go_wp2_with fail
 (with_reducible refine HC.out.mono ?_)
 rintro e w2 ⟨⟨k,rfl,hk⟩,rfl⟩
 have HK:=hid hk
 clear hk HC
 go_wp2_with fail
 go_ret
 exact ⟨by rw [show R=decide (0<=k) from by have:=HK.out; cases R <;> simp at this ⊢ <;> omega]; rfl,rfl⟩
def ChkP (w:World) (b:Bool) (e:Ending) (w':World):Prop:=∃ k:Int,e = .returned (.int .i64 k)/\(k=0 ↔ b=true)/\Below w.heap.size w w'
theorem dupB_nodup:∀ g:List Pa,dupB g=true ↔ g.Nodup
 | []=>by simp [dupB]
 | x :: g=>by simp [dupB,dupB_nodup g]
theorem dupB_take (g:List Pa):dupB g=true ↔ ∀ i (h:i < g.length),g[i] ∉ g.take i:=by
 rw [dupB_nodup,List.nodup_iff_pairwise_ne,List.pairwise_iff_getElem]
 constructor
 ·intro h i hi hm
  obtain ⟨j,hj,e⟩:=List.getElem_of_mem hm
  rw [List.getElem_take] at e
  simp at hj
  exact h j i (by omega) hi (by omega) e
 ·intro h i j hi hj hij e
  refine h j hj ?_
  rw [<-e]
  exact List.mem_take_iff_getElem.2 ⟨i,by omega,rfl⟩
theorem empty_any (x:Hd) (g:List Pa) (W:World) (hx:x.2.1=g.length):Calls Tryz.prog 175 #[.slice x.1 x.2.1 x.2.2] W fun e W'=>e = .returned (.bool (decide (g=[])))/\Below W.heap.size W W':=by
 have hd:decide (g=[])=decide ((g.length:Int)=0):=by cases g <;> simp; omega
 rw [hd,hx]
 generalize g.length=n
 go_enter Tryz.func175,Tryz.ntmps175
 go_wp2_with fail
 go_ret
 exact ⟨rfl,Below.refl _ _⟩
theorem toomany_any (x:Hd) (g:List Pa) (W:World) (hx:x.2.1=g.length):Calls Tryz.prog 176 #[.slice x.1 x.2.1 x.2.2] W fun e W'=>e = .returned (.bool (decide (20 < g.length)))/\Below W.heap.size W W':=by
 have hd:decide (20 < g.length)=decide ((g.length:Int) > 20):=by simp; omega
 rw [hd,hx]
 generalize g.length=n
 go_enter Tryz.func176,Tryz.ntmps176
 go_wp2_with fail
 go_ret
 exact ⟨rfl,Below.refl _ _⟩
def SmR (r:Ru):Prop:=(r.1.length:Int)<=1000000/\(r.2.length:Int)<=1000000/\∀ g ∈ r.2,(g.length:Int)<=1000000/\∀ s ∈ g,(s.length:Int)<=1000000
def grpB (g:List Pa):Bool:=g.all personB && dupB g
theorem ruleB_eq (r:Ru):ruleB 8 20 r=(prefB r.1 && !decide (r.2=[]) && !(r.2.any fun g=>decide (g=[])) && !decide (8 < r.2.length) && !(r.2.any fun g=>decide (20 < g.length)) && r.2.all grpB):=by
 rw [Bool.eq_iff_iff]
 simp only [ruleB,grpB,Bool.and_eq_true,decide_eq_true_eq,List.all_eq_true,Bool.not_eq_true',List.any_eq_false,decide_eq_false_iff_not]
 constructor
 ·rintro ⟨⟨⟨h1,h2⟩,h3⟩,h4⟩
  exact ⟨⟨⟨⟨⟨h1,h2⟩,fun g hg=>by have:=(h4 g hg).1.1.1; simpa using this⟩,by omega⟩,fun g hg=>by have:=(h4 g hg).1.1.2; simpa using this⟩,fun g hg=>⟨(h4 g hg).1.2,(h4 g hg).2⟩⟩
 ·rintro ⟨⟨⟨⟨⟨h1,h2⟩,h3⟩,h4⟩,h5⟩,h6⟩
  exact ⟨⟨⟨h1,h2⟩,by omega⟩,fun g hg=>⟨⟨⟨by have:=h3 g hg; simpa using this,by have:=h5 g hg; simpa using this⟩,(h6 g hg).1⟩,(h6 g hg).2⟩⟩
theorem GrW.up {B B':Nat} {W:World} {h:Hd} {G:List (List Pa)} (hr:GrW B W h G) (hb:B<=W.heap.size):GrW W.heap.size W h G:=hr.mono hb
theorem srw_cut {B:Nat} {W:World} {a:Option Addr} {n c:Nat} {g:List Pa} (h:SrW B W (a,n,c) g) (k:Nat) (hk:k<=n):SrW B W (a,k,c) (g.take k):=by
 have hl:=h.len
 have hc:=h.cap
 simp only at hl hc
 exact ⟨by simp; omega,by simp; omega,fun i hi=>by
  have hi':i < g.length:=by simp at hi; omega
  obtain ⟨b,off,h1,h2,h3⟩:=h.row i hi'
  exact ⟨b,off,h1,h2,fun j v hv=>h3 j v (by rw [List.getElem_take] at hv; exact hv)⟩,h.ty,h.lt⟩
theorem crule_any (p:Pa) (ga:Option Addr) (gc:Nat) (G:List (List Pa)) (w:World) (hr:GrW w.heap.size w (ga,G.length,gc) G) (hs:SmR (p,G)) :
  Calls Tryz.prog 146 #[.agg #[.string ⟨p.toArray⟩,.slice ga G.length gc]] w (ChkP w (ruleB 8 20 (p,G))):=by
 obtain ⟨hs1,hs2,hs3⟩:=hs
 simp only at hs1 hs2 hs3
 obtain ⟨R,hR⟩:∃ R,R=ruleB 8 20 (p,G):=⟨_,rfl⟩
 rw [<-hR]
 rw [ruleB_eq] at hR
 simp only at hR
 obtain ⟨w1,hw1⟩:∃ w1,w1=w.alloc (.cells #[.string ⟨p.toArray⟩,.slice ga G.length gc] 127):=⟨_,rfl⟩
 have HK1:Hid (BK w.heap.size #[.string ⟨p.toArray⟩,.slice ga G.length gc] 127 w1):=hid (by rw [hw1]; exact BK.new _ _ _)
 have HB1:Hid (Below w.heap.size w w1):=hid (by rw [hw1]; exact (Below.refl _ w).alloc (Nat.le_refl _) _)
 have HG1:Hid (GrW w1.heap.size w1 (ga,G.length,gc) G):=hid ((hr.below HB1.out).mono HB1.out.size)
 have HP:=hid (isPrefix_any p (by omega) w1)
 obtain ⟨c0,c1⟩:=HK1.out.c2
 have HW1:=hid hw1
 rw [hw1] at c0 c1
 have HR:=hid hR
 have HS3:=hid hs3
 clear hw1 hR hr hs3
 cases h1:prefB p with
 | false=>
  have HF:Hid (R=false):=hid (by rw [HR.out,h1]; rfl)
  rw [h1] at HP
  go_enter Tryz.func146,Tryz.ntmps146
  go_wp2_with fail
  rw [<-HW1.out]
  (with_reducible refine HP.out.mono ?_)
  rintro e u ⟨rfl,rfl⟩
  go_wp2_with fail
  go_ret
  exact ⟨6,rfl,by rw [HF.out]; simp,HB1.out⟩
 | true=>
  rw [h1] at HP
  have HR2:Hid (R=(!decide (G=[]) && !(G.any fun g=>decide (g=[])) && !decide (8 < G.length) && !(G.any fun g=>decide (20 < g.length)) && G.all grpB)):=hid (by rw [HR.out,h1,Bool.true_and])
  have HC1:=hid (fun W (hb:Below w1.heap.size w1 W)=>containsF_Gr 175 #[] (fun g=>decide (g=[])) ga gc G W ((HG1.out.below hb).mono hb.size) (by omega) ⟨enters_of Tryz.func175 (by kernel_rfl) rfl,fun x g W' _ _ hx=>empty_any x g W' hx.len⟩)
  have HC2:=hid (fun W (hb:Below w1.heap.size w1 W)=>containsF_Gr 176 #[] (fun g=>decide (20 < g.length)) ga gc G W ((HG1.out.below hb).mono hb.size) (by omega) ⟨enters_of Tryz.func176 (by kernel_rfl) rfl,fun x g W' _ _ hx=>toomany_any x g W' hx.len⟩)
  clear HR h1
  go_enter Tryz.func146,Tryz.ntmps146
  go_wp2_with fail
  rw [<-HW1.out] at c0 c1 ⊢
  (with_reducible refine HP.out.mono ?_)
  rintro e u ⟨rfl,rfl⟩
  clear HP HW1
  have HF0:Hid (G=[]\/(G.any fun g=>decide (g=[]))=true->R=false):=hid (fun h=>by
   rw [HR2.out]
   rcases h with h | h
   ·rw [decide_eq_true h]; rfl
   ·rw [h]; simp)
  have HF1:Hid (8 < G.length\/(G.any fun g=>decide (20 < g.length))=true->R=false):=hid (fun h=>by
   rw [HR2.out]
   rcases h with h | h
   ·rw [decide_eq_true h]; simp
   ·rw [h]; simp)
  have HF2:Hid (∀ k (hk:k < G.length),grpB G[k]=false->R=false):=hid (fun k hk h=>by
   rw [HR2.out,show G.all grpB=false from List.all_eq_false.2 ⟨_,List.getElem_mem hk,by rw [h]; simp⟩]; simp)
  have HF3:Hid (G ≠ []->(G.any fun g=>decide (g=[]))=false->¬ 8 < G.length->(G.any fun g=>decide (20 < g.length))=false->(∀ k (hk:k < G.length),grpB G[k]=true)->R=true):=hid (fun h1 h2 h3 h4 h5=>by
   rw [HR2.out,decide_eq_false h1,h2,decide_eq_false h3,h4,show G.all grpB=true from List.all_eq_true.2 (fun g hg=>by obtain ⟨k,hk,rfl⟩:=List.getElem_of_mem hg; exact h5 k hk)]; rfl)
  obtain ⟨n,hn⟩:∃ n,n=G.length:=⟨_,rfl⟩
  have HN:=hid hn
  have HGE:Hid (G=[] ↔ (n:Int)=0):=hid (by rw [hn]; cases G <;> simp; omega)
  have HC1u:=hid (HC1.out w1 (Below.refl _ _))
  rw [<-hn] at c1 HG1 HC1 HC2 HC1u hs2 ⊢
  clear hn HR2 HC1
  by_cases hz:(n:Int)=0
  ·have HF:Hid (R=false):=hid (HF0.out (.inl (HGE.out.2 hz)))
   obtain rfl:n=0:=by omega
   go_wp2_with fail
   go_ret
   exact ⟨1,rfl,by rw [HF.out]; simp,HB1.out⟩
  ·have HGN:Hid (G ≠ []):=hid (fun h=>hz (HGE.out.1 h))
   clear HGE
   generalize hq1:(G.any fun g=>decide (g=[]))=b1 at HC1u HF0 HF3
   clear hq1
   go_wp2_with fail
   (with_reducible refine HC1u.out.mono ?_)
   rintro e u2 ⟨rfl,hb2⟩
   have HB2:=hid hb2
   have HC2u:=hid (HC2.out u2 hb2)
   have hk2:=HK1.out.below hb2
   rw [<-HN.out] at hk2
   obtain ⟨d0,d1⟩:=hk2.c2
   have HK2:=hid hk2
   clear hb2 hk2 HC1u c0 c1
   cases b1 with
   | true=>
    have HF:Hid (R=false):=hid (HF0.out (.inr (by simp)))
    go_wp2_with fail
    go_ret
    exact ⟨1,rfl,by rw [HF.out]; simp,HB1.out.trans (HB2.out.mono HB1.out.size)⟩
   | false=>
    by_cases h8:(8:Int) < (n:Int)
    ·have HF:Hid (R=false):=hid (HF1.out (.inl (by have:=HN.out; omega)))
     go_wp2_with fail
     go_ret
     exact ⟨4,rfl,by rw [HF.out]; simp,HB1.out.trans (HB2.out.mono HB1.out.size)⟩
    ·generalize hq1:(G.any fun g=>decide (20 < g.length))=b2 at HC2u HF1 HF3
     clear hq1 HF0
     go_wp2_with fail
     (with_reducible refine HC2u.out.mono ?_)
     rintro e u3 ⟨rfl,hb3⟩
     have HB3:=hid (HB2.out.trans (hb3.mono HB2.out.size))
     obtain ⟨d2,d3⟩:=(HK2.out.below hb3).c2
     clear hb3 HC2u d0 d1 HC2
     cases b2 with
     | true=>
      have HF:Hid (R=false):=hid (HF1.out (.inr (by simp)))
      go_wp2_with fail
      go_ret
      exact ⟨4,rfl,by rw [HF.out]; simp,HB1.out.trans (HB3.out.mono HB1.out.size)⟩
     | false=>
      have HF4:Hid ((∀ k (hk:k < G.length),grpB G[k]=true)->R=true):=hid (fun h=>HF3.out HGN.out (by simp) (by have:=HN.out; omega) (by simp) h)
      have HG3:=hid (HG1.out.below HB3.out)
      clear HF1 HF3 HGN HB2 HK2
      go_wp2_with fail
      go_loopw [34] (fun i wr=>∃ (k:Nat),i = .int .i64 k/\k<=n/\Hid (∀ j (hj:j < G.length),j < k->grpB G[j]=true)/\Hid (Below u3.heap.size u3 wr)) (fun i _=>n - (intOf i).toNat)
      case atStart=>exact ⟨0,rfl,by omega,hid (fun j hj h=>by omega),hid (Below.refl _ _)⟩
      case round=>
       obtain ⟨k,rfl,hk,HA,HB⟩:=hrel
       obtain ⟨x0,hx0⟩:∃ x0,x0=wr:=⟨_,rfl⟩
       rw [<-hx0] at HB ⊢
       clear hx0
       have HBB:Hid (Below w.heap.size w x0):=hid ((HB1.out.trans (HB3.out.mono HB1.out.size)).trans (HB.out.mono (by have:=HB1.out.size; have:=HB3.out.size; omega)))
       have HBW:Hid (Below w1.heap.size w1 x0):=hid (HB3.out.trans (HB.out.mono HB3.out.size))
       by_cases hlt:k < n
       ·have hki:(k:Int) < (n:Int):=by omega
        have hkl:k < G.length:=by rw [<-HN.out]; exact hlt
        have hgx:=HG1.out.below HBW.out
        obtain ⟨b,off,x,hab,hb,q0,hx⟩:=gr_cell hgx hkl
        have HX:Hid (SrW x0.heap.size x0 x G[k]):=hid (hx.mono HBW.out.size)
        have hsk:=HS3.out _ (List.getElem_mem hkl)
        have HFK:=hid (HF2.out k hkl)
        have HNX:Hid (grpB G[k]=true->∀ j (hj:j < G.length),j < k + 1->grpB G[j]=true):=hid (fun h j hj hjk=>by
         rcases Nat.lt_or_ge j k with h1 | h1
         ·exact HA.out j hj h1
         ·obtain rfl:j=k:=by omega
          exact h)
        generalize G[k]=g at HX hsk HFK HNX
        obtain ⟨sa,sm,sc⟩:=x
        have hsm:=HX.out.len
        simp only at hsm hab
        simp only [hdV] at q0
        subst hsm hab
        have hsc:=HX.out.cap
        simp only at hsc
        have HSK:=hid hsk.2
        have hgl:=hsk.1
        clear hx hgx HA hsk
        obtain ⟨m,hm⟩:∃ m,m=g.length:=⟨_,rfl⟩
        have HM:=hid hm
        rw [<-hm] at q0 HX hsc hgl
        clear hm
        go_wp2_with fail
        go_loopw [40] (fun i wr=>∃ (j:Nat),i = .int .i64 j/\j<=m/\Hid (∀ t (ht:t < g.length),t < j->personB g[t]=true/\g[t] ∉ g.take t)/\Hid (Below x0.heap.size x0 wr)) (fun i _=>m - (intOf i).toNat)
        case atStart=>exact ⟨0,rfl,by omega,hid (fun j hj h=>by omega),hid (Below.refl _ _)⟩
        case round=>
         obtain ⟨j,rfl,hj,HJ,HBX⟩:=hrel
         by_cases hjm:j < m
         ·have hji:(j:Int) < (m:Int):=by omega
          have hjl:j < g.length:=by rw [<-HM.out]; exact hjm
          have hxx:=HX.out.below HBX.out
          rw [HM.out] at hxx
          obtain ⟨b2,off2,hab,hb2,q1⟩:=sr_cell hxx hjl
          have hcut:=srw_cut (hxx.mono HBX.out.size) j (by omega)
          have HS:=hid (HSK.out _ (List.getElem_mem hjl))
          have HPN:=hid (isPerson_any g[j] (by have:=HS.out; omega) wr)
          have HCN:=hid (fun W (hb:Below wr.heap.size wr W)=>contains_St g[j] sa sc (g.take j) W (by
           have:=(hcut.below hb).mono hb.size
           rw [show (g.take j).length=j from by simp; omega]; exact this) (by simp; omega))
          rw [show (g.take j).length=j from by simp; omega] at HCN
          have HBD:Hid (personB g[j]=false\/g[j] ∈ g.take j->R=false):=hid (fun h=>HFK.out (by
           unfold grpB
           rcases h with h | h
           ·rw [List.all_eq_false.2 ⟨_,List.getElem_mem hjl,by rw [h]; simp⟩]; rfl
           ·rw [show dupB g=false from by
             cases hd:dupB g with
             | false=>rfl
             | true=>exact absurd h ((dupB_take g).1 hd j hjl)]
            simp))
          have HNJ:Hid (personB g[j]=true->¬ g[j] ∈ g.take j->∀ t (ht:t < g.length),t < j + 1->personB g[t]=true/\g[t] ∉ g.take t):=hid (fun h1 h2 t ht htj=>by
           rcases Nat.lt_or_ge t j with h3 | h3
           ·exact HJ.out t ht h3
           ·obtain rfl:t=j:=by omega
            exact ⟨h1,h2⟩)
          simp only at hab
          subst hab
          have hjs:j<=sc:=by omega
          generalize hsj:g[j]=sj at q1 HPN HCN HBD HNJ
          clear hsj HS hxx hcut HJ
          generalize hpb:personB sj=pb at HPN HBD HNJ
          generalize hcb:decide (sj ∈ g.take j)=cb at HCN
          have HCB:=hid hcb
          clear hpb hcb
          go_wp2_with fail
          (with_reducible refine HPN.out.mono ?_)
          rintro e u4 ⟨rfl,hb4⟩
          have HB4:=hid (HBX.out.trans (hb4.mono HBX.out.size))
          have HCN4:=hid (HCN.out u4 hb4)
          clear hb4 HPN HCN q1
          cases pb with
          | false=>
           have HF:Hid (R=false):=hid (HBD.out (.inl (by simp)))
           go_wp2_with fail
           go_ret
           exact ⟨6,rfl,by rw [HF.out]; simp,HBB.out.trans (HB4.out.mono HBB.out.size)⟩
          | true=>
           go_wp2_with fail
           (with_reducible refine HCN4.out.mono ?_)
           rintro e u5 ⟨rfl,rfl⟩
           clear HCN4
           cases cb with
           | true=>
            have HF:Hid (R=false):=hid (HBD.out (.inr (by simpa using HCB.out)))
            go_wp2_with fail
            go_ret
            exact ⟨7,rfl,by rw [HF.out]; simp,HBB.out.trans (HB4.out.mono HBB.out.size)⟩
           | false=>
            have HNJ2:=hid (HNJ.out (by simp) (by simpa using HCB.out))
            clear HNJ HBD HCB
            go_wp2_with fail
            go_roundw
            case rel=>exact ⟨j + 1,by go_num,by omega,HNJ2,HB4⟩
            case measure=>simp [intOf] <;> omega
         ·have hji:¬ (j:Int) < (m:Int):=by omega
          have HGK:Hid (∀ j (hj:j < G.length),j < k + 1->grpB G[j]=true):=hid (HNX.out (by
           unfold grpB
           rw [Bool.and_eq_true]
           have hall:∀ t (ht:t < g.length),personB g[t]=true/\g[t] ∉ g.take t:=fun t ht=>HJ.out t ht (by have:=HM.out; omega)
           exact ⟨List.all_eq_true.2 (fun s hs=>by obtain ⟨t,ht,rfl⟩:=List.getElem_of_mem hs; exact (hall t ht).1),(dupB_take g).2 (fun t ht=>(hall t ht).2)⟩))
          have HBN:=hid (HB.out.trans (HBX.out.mono HB.out.size))
          clear HJ HNX HFK HX HSK
          go_wp2_with fail
          go_roundw
          case rel=>exact ⟨k + 1,by go_num,by omega,HGK,HBN⟩
          case measure=>simp [intOf] <;> omega
       ·have hki:¬ (k:Int) < (n:Int):=by omega
        have HF:Hid (R=true):=hid (HF4.out (fun j hj=>HA.out j hj (by have:=HN.out; omega)))
        clear HA HF4 HF2
        go_wp2_with fail
        go_ret
        exact ⟨0,rfl,by rw [HF.out]; simp,HBB.out⟩
def prefK (R:List Ru) (k:Nat) (s:Pa):Option Value:=if s ∈ (R.take k).map (·.1) then some (.bool true) else none
theorem prefK_succ {R:List Ru} {k:Nat} (h:k < R.length) (s:Pa):(if s=R[k].1 then some (Value.bool true) else prefK R k s)=prefK R (k + 1) s:=by
 unfold prefK
 rw [List.take_succ_eq_append_getElem h,List.map_append]
 by_cases h1:s=R[k].1
 ·rw [if_pos h1,if_pos (by rw [h1]; simp)]
 ·rw [if_neg h1]
  by_cases h2:s ∈ (R.take k).map (·.1)
  ·rw [if_pos h2,if_pos (List.mem_append_left _ h2)]
  ·rw [if_neg h2,if_neg (by rw [List.mem_append]; rintro (h | h); exact h2 h; exact h1 (by simpa using h))]
theorem dupB_bad {R:List Ru} {k:Nat} (h:k < R.length) (hm:R[k].1 ∈ (R.take k).map (·.1)):dupB (R.map (·.1))=false:=by
 cases hd:dupB (R.map (·.1)) with
 | false=>rfl
 | true=>
  have:=(dupB_take _).1 hd k (by simpa using h)
  rw [<-List.map_take] at this
  simp only [List.getElem_map] at this
  exact absurd hm this
theorem rulesB_good {R:List Ru} (hn:R.length<=100) (h:∀ k (hk:k < R.length),ruleB 8 20 R[k]=true/\R[k].1 ∉ (R.take k).map (·.1)):rulesB 100 8 20 R=true:=by
 simp only [rulesB,Bool.and_eq_true,decide_eq_true_eq,List.all_eq_true]
 refine ⟨⟨hn,fun r hr=>?_⟩,(dupB_take _).2 (fun i hi=>?_)⟩
 ·obtain ⟨k,hk,rfl⟩:=List.getElem_of_mem hr
  exact (h k hk).1
 ·rw [<-List.map_take]
  simp only [List.getElem_map]
  exact (h i (by simpa using hi)).2
theorem ocheck2_any (a:Option Addr) (c:Nat) (R:List Ru) (w:World) (hr:RlW w.heap.size w (a,R.length,c) R) (hs:∀ r ∈ R,SmR r) (hn:(R.length:Int)<=1000000) :
  Calls Tryz.prog 98 #[.slice a R.length c] w (ChkP w (rulesB 100 8 20 R)):=by
 obtain ⟨B,hB⟩:∃ B,B=rulesB 100 8 20 R:=⟨_,rfl⟩
 rw [<-hB]
 have HBE:=hid hB
 have HR:=hid hr
 have HS:=hid hs
 obtain ⟨n,hnn⟩:∃ n,n=R.length:=⟨_,rfl⟩
 have HN:=hid hnn
 rw [<-hnn] at hn ⊢
 have HM0:Hid (MapS w.heap.size 0 (prefK R 0) (w.alloc (.map #[] 0))):=hid ((MapS.made w).eq (fun s=>by simp [prefK]))
 have HB0:Hid (Below w.heap.size w (w.alloc (.map #[] 0))):=hid ((Below.refl _ w).alloc (Nat.le_refl _) _)
 clear hB hr hs hnn
 have hmm:=@run_makeMap Tryz.prog
 by_cases h100:(100:Int) < (n:Int)
 ·have HF:Hid (B=false):=hid (by rw [HBE.out]; unfold rulesB; rw [decide_eq_false (by have:=HN.out; omega)]; rfl)
  go_enter Tryz.func98,Tryz.ntmps98
  go_wp2_with fail
  go_ret
  exact ⟨4,rfl,by rw [HF.out]; simp,Below.refl _ _⟩
 ·have HGD:Hid ((∀ k (hk:k < R.length),ruleB 8 20 R[k]=true/\R[k].1 ∉ (R.take k).map (·.1))->B=true):=hid (fun h=>by rw [HBE.out]; exact rulesB_good (by have:=HN.out; omega) h)
  have HBR:Hid (∀ k (hk:k < R.length),ruleB 8 20 R[k]=false\/R[k].1 ∈ (R.take k).map (·.1)->B=false):=hid (fun k hk h=>by
   rw [HBE.out]
   unfold rulesB
   rcases h with h | h
   ·rw [List.all_eq_false.2 ⟨_,List.getElem_mem hk,by rw [h]; simp⟩]; simp
   ·rw [dupB_bad hk h]; simp)
  clear HBE
  go_enter Tryz.func98,Tryz.ntmps98
  go_wp2_with fail
  go_loopw [13] (fun i wr=>∃ k:Nat,k<=n/\i = .int .i64 (k:Int)/\Hid (∀ j (hj:j < R.length),j < k->ruleB 8 20 R[j]=true/\R[j].1 ∉ (R.take j).map (·.1))/\Hid (MapS w.heap.size k (prefK R k) wr)/\Hid (Below w.heap.size w wr)) (fun i _=>n - (intOf i).toNat)
  case atStart=>exact ⟨0,by omega,rfl,hid (fun j hj h=>by omega),HM0,HB0⟩
  case round=>
   clear HM0 HB0
   obtain ⟨k,hk,rfl,HA,HM,HB⟩:=hrel
   have hws:=HB.out.size
   by_cases hlt:k < n
   ·have hki:(k:Int) < (n:Int):=by omega
    have hkl:k < R.length:=by rw [<-HN.out]; exact hlt
    have hrx:=HR.out.below HB.out
    obtain ⟨b0,of0,x,hab,hbb,q0,q1,hx⟩:=rl_cell hrx hkl
    have HSM:=hid (HS.out _ (List.getElem_mem hkl))
    have HPK:=hid (fun s=>prefK_succ hkl s)
    have HBD:=hid (HBR.out k hkl)
    have HNX:Hid (ruleB 8 20 R[k]=true->R[k].1 ∉ (R.take k).map (·.1)->∀ j (hj:j < R.length),j < k + 1->ruleB 8 20 R[j]=true/\R[j].1 ∉ (R.take j).map (·.1)):=hid (fun h1 h2 j hj hjk=>by
     rcases Nat.lt_or_ge j k with h3 | h3
     ·exact HA.out j hj h3
     ·obtain rfl:j=k:=by omega
      exact ⟨h1,h2⟩)
    generalize R[k]=r at q0 q1 hx HSM HPK HBD HNX
    obtain ⟨p,G⟩:=r
    obtain ⟨ga,gn,gc⟩:=x
    have hgl:=hx.len
    simp only at q0 q1 hx HPK HBD HNX hgl hab
    simp only [hdV] at q1
    subst hgl hab
    obtain ⟨u1,hu1⟩:∃ u1,u1=wr.alloc (.cells #[.string ⟨p.toArray⟩,.slice ga G.length gc] 127):=⟨_,rfl⟩
    have HB1:Hid (Below w.heap.size w u1):=hid (by rw [hu1]; exact HB.out.alloc hws _)
    have HM1:Hid (MapS w.heap.size k (prefK R k) u1):=hid (by rw [hu1]; exact HM.out.alloc _)
    have HK1:Hid (BK wr.heap.size #[.string ⟨p.toArray⟩,.slice ga G.length gc] 127 u1):=hid (by rw [hu1]; exact BK.new _ _ _)
    have hgw:GrW u1.heap.size u1 (ga,G.length,gc) G:=by
     have h1:Below wr.heap.size wr u1:=by rw [hu1]; exact (Below.refl _ _).alloc (Nat.le_refl _) _
     exact ((hx.mono hws).below h1).mono h1.size
    have HCR:=hid (crule_any p ga gc G u1 hgw HSM.out)
    obtain ⟨c0,c1⟩:=HK1.out.c2
    have HU:=hid hu1
    rw [hu1] at c0 c1
    clear hu1 hgw hx hrx HB HM HA
    have hpl:p.length<=1000000:=by have:=HSM.out.1; simp only at this; omega
    generalize hrb:ruleB 8 20 (p,G)=rb at HCR HBD HNX
    generalize G.length=gn at *
    clear hrb
    go_wp2_with fail
    rw [<-HU.out]
    (with_reducible refine HCR.out.mono ?_)
    rintro e u2 ⟨ek,rfl,hek,hb2⟩
    have HB2:=hid (HB1.out.trans (hb2.mono HB1.out.size))
    have HM2:=hid (HM1.out.below hb2)
    obtain ⟨d0,d1⟩:=(HK1.out.below hb2).c2
    have HEK:=hid hek
    have hz2:=hb2.size
    clear hb2 hek HCR HB1 HM1 HK1 HU c0 c1
    by_cases he:ek=0
    ·subst he
     have HRB:Hid (rb=true):=hid (HEK.out.1 rfl)
     clear HEK
     have hlook:=HM2.out.look Tryz.underlying63 (zeroBoolT u2) hpl
     by_cases hin:p ∈ (R.take k).map (·.1)
     ·have HF:Hid (B=false):=hid (HBD.out (.inr hin))
      rw [show prefK R k p=some (.bool true) from if_pos hin] at hlook
      simp only [Option.getD_some] at hlook
      clear HNX HPK HM2 hin
      go_wp2_with fail
      go_ret
      exact ⟨7,rfl,by rw [HF.out]; simp,HB2.out⟩
     ·rw [show prefK R k p=none from if_neg hin] at hlook
      simp only [Option.getD_none] at hlook
      have HNX2:=hid (HNX.out HRB.out hin)
      obtain ⟨u3,hput,hm3,hg3,hz3⟩:=HM2.out.put Tryz.underlying63 hpl (by omega) (.bool true)
      have HM3:Hid (MapS w.heap.size (k + 1) (prefK R (k + 1)) u3):=hid (hm3.eq (fun s=>HPK.out s))
      have HB3:Hid (Below w.heap.size w u3):=hid (HB2.out.grown hg3 HB2.out.size (fun j e=>by cases e; exact Nat.le_refl _))
      clear hm3 hg3 hz3 HM2 HB2 HNX HBD HPK hin
      go_wp2_with fail
      go_roundw
      case rel=>exact ⟨k + 1,by omega,by go_num,HNX2,HM3,HB3⟩
      case measure=>simp [intOf] <;> omega
    ·have HF:Hid (B=false):=hid (HBD.out (.inl (by
      cases rb with
      | false=>rfl
      | true=>exact absurd (HEK.out.2 rfl) he)))
     clear HNX HPK HM2
     go_wp2_with fail
     go_ret
     exact ⟨ek,rfl,by rw [HF.out]; simp [he],HB2.out⟩
   ·have hki:¬ (k:Int) < (n:Int):=by omega
    have HF:Hid (B=true):=hid (HGD.out (fun j hj=>HA.out j hj (by have:=HN.out; omega)))
    clear HA HM HGD HBR
    go_wp2_with fail
    go_ret
    exact ⟨0,rfl,by rw [HF.out]; simp,HB.out⟩
attribute [local go_sem] Oper.semAt_some
theorem words_len:∀ (n:Nat) (s:Pa) (k:Nat),(wordsF n s k).length<=s.length
 | 0,_,_=>by simp [wordsF]
 | n + 1,[],_=>by simp [wordsF]
 | n + 1,c :: l,k=>by
  rw [wordsF]
  split
  ·have:=words_len n l (k + 1); simp; omega
  ·rename_i h1
   split
   ·exact Nat.le_trans (words_len n _ _) (drW_len _)
   ·have hd:((c :: l).dropWhile fun c=>!spB c).length<=l.length:=by
     rw [List.dropWhile_cons,if_pos (by simpa using h1)]
     exact drW_len _
    have:=words_len n ((c :: l).dropWhile fun c=>!spB c) (k + ((c :: l).takeWhile fun c=>!spB c).length)
    simp only [List.length_cons]; omega
theorem runR_pre {pre ws:List (Pa × Nat)} (hp:pre <+: ws) (h:runR pre 0 []=none):runR ws 0 []=none:=by
 obtain ⟨t,rfl⟩:=hp
 rw [runR_app,h]
theorem runR_snoc {pre:List (Pa × Nat)} {x:Pa × Nat} {pl:Nat} {R:List Ru} (h:runR pre 0 []=some (pl,R)):runR (pre ++ [x]) 0 []=stepR pl R x.1:=by
 rw [runR_app,h]
 simp only [runR]
 cases stepR pl R x.1 <;> rfl
theorem WdOk.small {R:List Ru} {n:Nat} (h:NmR (WdOk n) R) (hn:(n:Int)<=1000000) (hz:SzR 90000 R):∀ r ∈ R,SmR r:=fun r hr=>by
 obtain ⟨h1,h2⟩:=h r hr
 obtain ⟨h3,h4⟩:=hz.2 r hr
 refine ⟨?_,by omega,fun g hg=>⟨by have:=h4 g hg; omega,fun s hs=>by have:=(h2 g hg s hs).2.2; omega⟩⟩
 rcases h1 with h1 | h1
 ·rw [h1]; simp
 ·have:=h1.2.2; omega
def GotPa (w:World) (s:Pa) (e:Ending) (w':World):Prop:=Below w.heap.size w w'/\∃ a n c p k,e = .returned (.tuple #[.slice a n c,.int .i64 p,.int .i64 k])/\
 match parseS s with
 | some R=>k=0/\n=R.length/\RlW w'.heap.size w' (a,n,c) R
 | none=>k ≠ 0
theorem GotPa.bad {w w':World} {s:Pa} {p k:Int} (h:parseS s=none) (hb:Below w.heap.size w w') (hk:k ≠ 0):GotPa w s (.returned (.tuple #[.slice none 0 0,.int .i64 p,.int .i64 k])) w':=
 ⟨hb,none,0,0,p,k,rfl,by rw [h]; exact hk⟩
theorem RlW.grow {B B':Nat} {W W':World} {h:Hd} {R:List Ru} {row:Option Nat} (hr:RlW B W h R) (hg:W.grownBy W' row) (hf:Far [TSt,TSl,TRu] B W row) (hB:B<=B'):RlW B' W' h R:=by
 obtain ⟨L,h1,h2⟩:=hr
 exact ⟨L,h1.grow hg (hf.sub (by decide)) hB,h2.imp (fun a b hab=>hab.grow hg (hf.sub (by decide)) hB)⟩
structure PrC (n:Nat) (p k:Int) (W:World):Prop where
 b2:BK n #[.slice none 0 0] 125 W
 b3:BK (n + 1) #[.int .i64 p] 3 W
 b4:BK (n + 1 + 1) #[.int .i64 k] 28 W
theorem PrC.grow {n:Nat} {p k:Int} {W W':World} {row:Option Nat} (h:PrC n p k W) (hg:W.grownBy W' row) (hr:∀ j,row=some j->n + 2 < j):PrC n p k W':=
 ⟨h.b2.grow hg (fun j e hj=>by have:=hr j e; omega),h.b3.grow hg (fun j e hj=>by have:=hr j e; omega),h.b4.grow hg (fun j e hj=>by have:=hr j e; omega)⟩
theorem PrC.put3 {n:Nat} {p0 k0:Int} {W:World} (h:PrC n p0 k0 W) (p k:Int):PrC n p k (((W.setCell ⟨n,0,none⟩ (.slice none 0 0)).setCell ⟨n + 1,0,none⟩ (.int .i64 p)).setCell ⟨n + 1 + 1,0,none⟩ (.int .i64 k)).drew:=by
 have h2:BK n #[.slice none 0 0] 125 (((W.setCell ⟨n,0,none⟩ (.slice none 0 0)).setCell ⟨n + 1,0,none⟩ (.int .i64 p)).setCell ⟨n + 1 + 1,0,none⟩ (.int .i64 k)):=((h.b2.set 0 _).other (by omega) 0 _).other (by omega) 0 _
 have h3:BK (n + 1) #[.int .i64 p] 3 (((W.setCell ⟨n,0,none⟩ (.slice none 0 0)).setCell ⟨n + 1,0,none⟩ (.int .i64 p)).setCell ⟨n + 1 + 1,0,none⟩ (.int .i64 k)):=((h.b3.other (by omega) 0 _).set 0 _).other (by omega) 0 _
 have h4:BK (n + 1 + 1) #[.int .i64 k] 28 (((W.setCell ⟨n,0,none⟩ (.slice none 0 0)).setCell ⟨n + 1,0,none⟩ (.int .i64 p)).setCell ⟨n + 1 + 1,0,none⟩ (.int .i64 k)):=((h.b4.other (by omega) 0 _).other (by omega) 0 _).set 0 _
 exact ⟨h2,h3,h4⟩
theorem PrC.fin {n D:Nat} {p0 k0:Int} {W:World} (h:PrC n p0 k0 W) (v:Value) (p k:Int) (hD:W.heap[D]? = some (.deferred (some []))) :
  BK n #[v] 125 ((((W.setCell ⟨n,0,none⟩ v).setCell ⟨n + 1,0,none⟩ (.int .i64 p)).setCell ⟨n + 1 + 1,0,none⟩ (.int .i64 k)).putObj D (.deferred none))/\
  BK (n + 1) #[.int .i64 p] 3 ((((W.setCell ⟨n,0,none⟩ v).setCell ⟨n + 1,0,none⟩ (.int .i64 p)).setCell ⟨n + 1 + 1,0,none⟩ (.int .i64 k)).putObj D (.deferred none))/\
  BK (n + 1 + 1) #[.int .i64 k] 28 ((((W.setCell ⟨n,0,none⟩ v).setCell ⟨n + 1,0,none⟩ (.int .i64 p)).setCell ⟨n + 1 + 1,0,none⟩ (.int .i64 k)).putObj D (.deferred none))/\
  (((W.setCell ⟨n,0,none⟩ v).setCell ⟨n + 1,0,none⟩ (.int .i64 p)).setCell ⟨n + 1 + 1,0,none⟩ (.int .i64 k)).heap[D]? = some (.deferred (some []))/\
  ∀ a m c R,RlW W.heap.size W (a,m,c) R->RlW W.heap.size ((((W.setCell ⟨n,0,none⟩ v).setCell ⟨n + 1,0,none⟩ (.int .i64 p)).setCell ⟨n + 1 + 1,0,none⟩ (.int .i64 k)).putObj D (.deferred none)) (a,m,c) R:=by
 have h2:BK n #[v] 125 (W.setCell ⟨n,0,none⟩ v):=h.b2.set 0 _
 have h3:BK (n + 1) #[.int .i64 p0] 3 (W.setCell ⟨n,0,none⟩ v):=h.b3.other (by omega) 0 _
 have h4:BK (n + 1 + 1) #[.int .i64 k0] 28 (W.setCell ⟨n,0,none⟩ v):=h.b4.other (by omega) 0 _
 have g2:BK n #[v] 125 ((W.setCell ⟨n,0,none⟩ v).setCell ⟨n + 1,0,none⟩ (.int .i64 p)):=h2.other (by omega) 0 _
 have g3:BK (n + 1) #[.int .i64 p] 3 ((W.setCell ⟨n,0,none⟩ v).setCell ⟨n + 1,0,none⟩ (.int .i64 p)):=h3.set 0 _
 have g4:BK (n + 1 + 1) #[.int .i64 k0] 28 ((W.setCell ⟨n,0,none⟩ v).setCell ⟨n + 1,0,none⟩ (.int .i64 p)):=h4.other (by omega) 0 _
 have k2:BK n #[v] 125 (((W.setCell ⟨n,0,none⟩ v).setCell ⟨n + 1,0,none⟩ (.int .i64 p)).setCell ⟨n + 1 + 1,0,none⟩ (.int .i64 k)):=g2.other (by omega) 0 _
 have k3:BK (n + 1) #[.int .i64 p] 3 (((W.setCell ⟨n,0,none⟩ v).setCell ⟨n + 1,0,none⟩ (.int .i64 p)).setCell ⟨n + 1 + 1,0,none⟩ (.int .i64 k)):=g3.other (by omega) 0 _
 have k4:BK (n + 1 + 1) #[.int .i64 k] 28 (((W.setCell ⟨n,0,none⟩ v).setCell ⟨n + 1,0,none⟩ (.int .i64 p)).setCell ⟨n + 1 + 1,0,none⟩ (.int .i64 k)):=g4.set 0 _
 have hd:(((W.setCell ⟨n,0,none⟩ v).setCell ⟨n + 1,0,none⟩ (.int .i64 p)).setCell ⟨n + 1 + 1,0,none⟩ (.int .i64 k)).heap[D]? = some (.deferred (some [])):=((KeepsOthers.setCell _ _ _).trans ((KeepsOthers.setCell _ _ _).trans (KeepsOthers.setCell _ _ _))).same D _ hD rfl
 have hne:∀ {q:Nat} {cs:Array Value} {t:TypeId},BK q cs t (((W.setCell ⟨n,0,none⟩ v).setCell ⟨n + 1,0,none⟩ (.int .i64 p)).setCell ⟨n + 1 + 1,0,none⟩ (.int .i64 k))->D ≠ q:=fun hq e=>by
  have hq':(((W.setCell ⟨n,0,none⟩ v).setCell ⟨n + 1,0,none⟩ (.int .i64 p)).setCell ⟨n + 1 + 1,0,none⟩ (.int .i64 k)).heap[_]? = _:=hq
  rw [<-e,hd] at hq'
  cases hq'
 have hgD:=grownBy_putObj' (((W.setCell ⟨n,0,none⟩ v).setCell ⟨n + 1,0,none⟩ (.int .i64 p)).setCell ⟨n + 1 + 1,0,none⟩ (.int .i64 k)) D (.deferred none)
 refine ⟨k2.grow1 hgD (hne k2),k3.grow1 hgD (hne k3),k4.grow1 hgD (hne k4),hd,fun a m c R hr=>?_⟩
 have e1:=hr.grow (gset W n 0 v) (Far.bk h.b2 (by decide)) (Nat.le_refl _)
 have e2:=e1.grow (gset _ (n + 1) 0 (.int .i64 p)) (Far.bk h3 (by decide)) (Nat.le_refl _)
 have e3:=e2.grow (gset _ (n + 1 + 1) 0 (.int .i64 k)) (Far.bk g4 (by decide)) (Nat.le_refl _)
 exact e3.grow hgD (fun j e=>by cases e; exact .inr (fun t _ cs fz h=>by rw [hd] at h; cases h)) (Nat.le_refl _)
abbrev TWd:TypeId:=169
def AxP (n:Nat) (a:Act) (x:Wd) (a':Act) (W:World):Prop:=∃ p,n<=p/\BK p #[.string ⟨x.1.1.toArray⟩,.int .i64 (x.1.2:Int)] TWd W/\a' = { tmps:=(a.tmps.setIfInBounds 13 (wdV x.1)).setIfInBounds 6 (.pointer (some ⟨p,0,none⟩)),defers:=[] }
theorem rf_boxA {α:Type} {F:Fence} {n:Nat} {P:Program} {g:Operand} {ps:Array Tmp} {assign body:Code} {Q:Exit->Act->World->Prop} {a:Act} {w:World}
  (AxF:Act->α->Act->World->Prop)
  (hro:F.round=none) (h1:1<=n) {gf:Nat} {lb:Array Value} (hg:a.eval g = .func (.func gf) #[] lb) (hFg:F.fn gf) (eg:∀ args w,(callFunc gf args).run P w = .ok (.enter gf args) w)
  {encs:α->Array Value} {Kp:World->World->Prop} {S Sp:List α->Prop} {N:Nat} {w0:World} (hseq:SeqStopsK F (n - 1) P gf lb encs Kp S Sp N w0)
  (hKt:∀ {A B C:World},Kp A B->Kp B C->Kp A C) (hKb:∀ (W:World) (l:Nat) (o o':Obj),w.heap.size<=l->W.heap[l]? = some o->o.isCells=false->o.isWalk=false->Kp W (W.putObj l o')) (hb0:Below w0.heap.size w0 w) (hps:∀ x,(encs x).size=ps.size)
  (I:List α->World->Prop) (Ix:Code->List α->World->Prop) (hI:OwnFrom w.heap.size I) (hIx:∀ c,OwnFrom w.heap.size (Ix c)) (h0:I [] w) (hAx:∀ x a',OwnFrom w.heap.size (fun (_:Unit) W=>AxF a x a' W))
  (hassign:∀ (l:Nat) (pre:List α) (x:α) (W:World) (K:Act->World->Prop),I pre W->(∀ a' W',KeepsFrom w.heap.size W W'->Kp W W'->I pre W'->AxF a x a' W'->K a' W')->
   assign.wpIn (F.inRound l) (n - 1 - 1) P (Exit.then K (fun _ _ _=>False)) { tmps:=(ps.zip (encs x)).foldl (fun t (p,v)=>t.setIfInBounds p v) a.tmps,defers:=[] } W)
  (hbody:∀ (l:Nat) (pre:List α) (x:α) (a':Act) (W:World),w.heap.size<=l->I pre W->AxF a x a' W->pre.length < N->body.wpIn (F.inRound l) (n - 1 - 1) P (ownPostG w.heap.size Kp I Ix (pre ++ [x]) W) a' W)
  (hdone:∀ (D:Nat) (xs:List α) (W:World),w.heap.size<=D->S xs->I xs W->W.heap[D]? = some (.deferred (some []))->Q .normal { a with defers:={ target:=.collected D,args:=#[] } :: a.defers } W)
  (hstop:∀ (D:Nat) (c:Code) (pre:List α) (W:World),w.heap.size<=D->Sp pre->Ix c pre W->W.heap[D]? = some (.deferred (some []))->c.wpIn F n P Q { a with defers:={ target:=.collected D,args:=#[] } :: a.defers } W) :
  (Code.rangeFunc g ps assign body).wpIn F n P Q a w:=
 wpIn_rangeFunc_ownH hro h1 hg hFg eg hseq hKt hKb hb0 hps I Ix hI hIx h0 (AxF a) hAx hassign (fun l pre x a' W hl _ hi hax hlen=>hbody l pre x a' W hl hi hax hlen) hdone hstop
theorem parse_any (s:Pa) (hs:(s.length:Int)<=9223372036854775807) (w:World):Calls Tryz.prog 63 #[.string ⟨s.toArray⟩] w (GotPa w s):=by
 have hsl:=ba_len s
 by_cases h6:(65536:Int) < (s.length:Int)
 ·have HF:Hid (parseS s=none):=hid (by unfold parseS; rw [if_neg (by omega)])
  obtain ⟨u1,hu1⟩:∃ u1,u1=((w.alloc (.cells #[.slice none 0 0] 125)).alloc (.cells #[.int .i64 0] 3)).alloc (.cells #[.int .i64 4] 28):=⟨_,rfl⟩
  have HB:Hid (Below w.heap.size w u1):=hid (by rw [hu1]; exact (((Below.refl _ w).alloc (Nat.le_refl _) _).alloc (by simp) _).alloc (by simp; omega) _)
  have g0:BK w.heap.size #[.slice none 0 0] 125 u1:=by rw [hu1]; exact ((BK.new _ _ _).alloc _).alloc _
  have g1:BK (w.heap.size + 1) #[.int .i64 0] 3 u1:=by rw [hu1]; exact (BK.new2 _ _ _ _).alloc _
  have g2:BK (w.heap.size + 1 + 1) #[.int .i64 4] 28 u1:=by
   rw [hu1]
   have h:=BK.new ((w.alloc (.cells #[.slice none 0 0] 125)).alloc (.cells #[.int .i64 0] 3)) #[.int .i64 4] 28
   simp only [World.size_alloc] at h
   exact h
  have c0:=g0.c1
  have c1:=g1.c1
  have c2:=g2.c1
  rw [hu1] at c0 c1 c2
  have HU:=hid hu1
  clear hu1 g0 g1 g2
  go_enter Tryz.func63,Tryz.ntmps63
  go_wp2_with fail
  refine bodyPost_ret (v:=.tuple #[.slice none 0 0,.int .i64 0,.int .i64 4]) (by simp [results,Tryz.results63,go_sem,c0,c1,c2]) rfl ?_
  exact .bad HF.out (by rw [<-HU.out]; exact HB.out) (by decide)
 ·have hs6:(s.length:Int)<=65536:=by omega
  refine (callsIn_wide (n:=5)).1 ?_
  refine callsIn_of_wp_marks Tryz.func63 rfl trivial ?_ rfl
  simp only [Tryz.ntmps63,List.size_toArray,List.length_cons,List.length_nil,Nat.reduceAdd,Nat.reduceSub,Array.replicate_succ,Array.replicate_zero,List.push_toArray,List.append_toArray,List.nil_append,List.cons_append]
  obtain ⟨z,hz⟩:∃ z,z=w.heap.size:=⟨_,rfl⟩
  obtain ⟨u1,hu1⟩:∃ u1,u1=(((w.alloc (.cells #[.slice none 0 0] 125)).alloc (.cells #[.int .i64 0] 3)).alloc (.cells #[.int .i64 0] 28)).alloc (.cells #[.int .i64 0,.slice none 0 0] 164):=⟨_,rfl⟩
  have hz1:u1.heap.size=z + 4:=by rw [hu1,hz]; simp
  have HB1:Hid (Below z w u1):=hid (by rw [hu1,hz]; exact ((((Below.refl _ w).alloc (Nat.le_refl _) _).alloc (by simp) _).alloc (by simp; omega) _).alloc (by simp; omega) _)
  have HP1:Hid (PrC z 0 0 u1):=hid (by
   rw [hu1,hz]
   exact ⟨(((BK.new _ _ _).alloc _).alloc _).alloc _,((BK.new2 _ _ _ _).alloc _).alloc _,(by have h:=BK.new ((w.alloc (.cells #[.slice none 0 0] 125)).alloc (.cells #[.int .i64 0] 3)) #[.int .i64 0] 28; simp only [World.size_alloc] at h; exact h:BK (w.heap.size + 1 + 1) _ _ _).alloc _⟩)
  have HR1:Hid (BK (z + 1 + 1 + 1) #[.int .i64 0,.slice none 0 0] TRd u1):=hid (by
   rw [hu1,hz]
   have h:=BK.new (((w.alloc (.cells #[.slice none 0 0] 125)).alloc (.cells #[.int .i64 0] 3)).alloc (.cells #[.int .i64 0] 28)) #[.int .i64 0,.slice none 0 0] 164
   simp only [World.size_alloc] at h
   exact h)
  have HC:=hid (words_any s u1)
  have HU:=hid hu1
  have HZ:=hid hz
  clear hu1
  gi_wp2
  rw [<-HZ.out]
  clear hz
  refine ⟨trivial,?_⟩
  rw [<-HU.out]
  refine (callsIn_wide.2 HC.out).mono ?_
  rintro e u2 ⟨rfl,hb2,hz2,hsb,hfb⟩
  rw [hz1] at hz2 hsb hfb ⊢
  have HB2:=hid (HB1.out.trans (hb2.mono (by omega)))
  have HP2:Hid (PrC z 0 0 u2):=hid ⟨HP1.out.b2.below hb2,HP1.out.b3.below hb2,HP1.out.b4.below hb2⟩
  have HR2:=hid (HR1.out.below hb2)
  have HSB:=hid hsb
  have HFB:=hid hfb
  have HZ2:Hid (u2.heap.size=z + 4 + 2):=hid hz2
  have HST:=hid (words2_stops (z + 4) (z + 4 + 1) s (by omega) (fun x hx=>(words_ok _ _ _ x hx).2.2) u2 hsb hfb)
  clear hb2 hsb hfb HC HU HB1 HP1 HR1 hz2
  gi_wp2
  have HWL:Hid ((wordsF (s.length + 1) s 0).length<=65536):=hid (by have:=words_len (s.length + 1) s 0; omega)
  have HPS:Hid (parseS s=match runR (wordsF (s.length + 1) s 0) 0 [] with | some x=>if x.1=0/\rulesB 100 8 20 x.2=true then some x.2 else none | none=>none):=hid (by unfold parseS; rw [if_pos (by omega)]; cases runR (wordsF (s.length + 1) s 0) 0 [] <;> rfl)
  have HRD:Hid (RdS u2 u2 (z + 1 + 1 + 1) 0 [] u2):=hid (.inl ⟨.inl rfl,⟨by have:=HZ2.out; omega,⟨⟨rfl,rfl,rfl,Nat.le_refl _,fun _ _ _=>rfl⟩,KeepsOthers.refl _⟩,none,0,[],HR2.out,World.ownsRow_nil _ _ _ _,.nil⟩⟩)
  have HWS:=hid (words_ok (s.length + 1) s 0)
  generalize wordsF (s.length + 1) s 0=ws at HST HWL HPS HWS
  clear HR2
  refine rf_boxA (AxP u2.heap.size) rfl (by omega) (gf:=142) (lb:=#[.pointer (some ⟨z + 4,0,none⟩),.pointer (some ⟨z + 4 + 1,0,none⟩)]) rfl trivial (enters_of Tryz.func142 (by kernel_rfl) rfl) HST.out
   (fun h k=>⟨Nat.le_trans h.1 k.1,k.2.1.trans h.2.1,k.2.2.trans h.2.2⟩)
   (fun W l o o' hl ho hc hw=>⟨by simp,World.putObj_heap_other (by have:=HZ2.out; omega),World.putObj_heap_other (by have:=HZ2.out; omega)⟩) (Below.refl _ _) (fun _=>rfl)
   (fun pre W=>∃ pl R,runR (pre.map (·.1)) 0 []=some (pl,R)/\RdS u2 u2 (z + 1 + 1 + 1) pl R W/\SzR pre.length R)
   (fun c pre W=>c = .ret/\runR (pre.map (·.1)) 0 []=none/\∃ p:Int,PrC z p 3 W/\Below z w W)
   ?hI ?hIx ⟨0,[],rfl,HRD.out,by simp,fun r hr=>by simp at hr⟩ ?hAx ?assign ?body ?done ?stop
  case hI=>
   rintro pre W W' row ⟨pl,R,h1,h2,h3⟩ hg hr
   have hk:=h2.ke.ko
   refine ⟨pl,R,h1,h2.grow hg (far_walk (fun r e=>(hr r e).2) _) (fun k e=>(hr k e).1) ⟨Nat.le_trans hk.size hg.size,fun k o ho hc=>?_⟩,h3⟩
   exact (hg.block k (Array.getElem?_eq_some_iff.1 (hk.same k o ho hc)).1 (fun e=>by have:=(hr k e.symm).1; have:=(Array.getElem?_eq_some_iff.1 ho).1; omega)).trans (hk.same k o ho hc)
  case hIx=>
   rintro c pre W W' row ⟨h1,h2,p,h3,h4⟩ hg hr
   refine ⟨h1,h2,p,h3.grow hg (fun j e=>by have:=(hr j e).1; have:=HZ2.out; omega),h4.grown hg (by have:=h4.size; have:=HZ.out; omega) (fun j e=>by have:=(hr j e).1; have:=HZ2.out; omega)⟩
  case hAx=>
   rintro x a' _ W W' row ⟨p,hp,hb,e⟩ hg hr
   refine ⟨p,hp,hb.grow hg (fun k hk hp=>?_),e⟩
   obtain ⟨_,o,ho,hc⟩:=hr k hk
   rw [hp,show W.heap[p]? = _ from hb] at ho
   cases ho
   cases hc
  case assign=>
   rintro l pre x W K ⟨pl,R,h1,h2,h3⟩ hK
   obtain ⟨W1,hW1⟩:∃ W1,W1=W.alloc (.cells #[.string ⟨x.1.1.toArray⟩,.int .i64 (x.1.2:Int)] 169):=⟨_,rfl⟩
   have hzw:u2.heap.size<=W.heap.size:=h2.ke.gr.size
   have hgr:W.grownBy W1 none:=by rw [hW1]; exact gal _ _
   have hko:KeepsOthers u2 W1:=h2.ke.ko.trans (by rw [hW1]; exact KeepsOthers.alloc _ _)
   have hz2:=HZ2.out
   have HX:Hid (KeepsFrom u2.heap.size W W1/\Kw (z + 4) (z + 4 + 1) W W1/\(∃ pl R,runR (pre.map (·.1)) 0 []=some (pl,R)/\RdS u2 u2 (z + 1 + 1 + 1) pl R W1/\SzR pre.length R)/\BK W.heap.size #[.string ⟨x.1.1.toArray⟩,.int .i64 (x.1.2:Int)] TWd W1):=hid ⟨by rw [hW1]; exact (KeepsOthers.alloc _ _).from _,⟨hgr.size,hgr.block _ (by omega) (by simp),hgr.block _ (by omega) (by simp)⟩,⟨pl,R,h1,h2.grow hgr (Far.none _ _ _) (fun k e=>by cases e) hko,h3⟩,by rw [hW1]; exact BK.new _ _ _⟩
   clear h1 h2 h3 hgr hko
   subst hW1
   simp only [wdV]
   gi_wp2
   exact hK _ _ HX.out.1 HX.out.2.1 HX.out.2.2.1 ⟨W.heap.size,hzw,HX.out.2.2.2,rfl⟩
  case body=>
   rintro l' pre x a' W hl ⟨pl,R,h1,h2,h3⟩ ⟨p,hp,hbp,rfl⟩ hlen
   obtain ⟨⟨xs,xk⟩,hxl⟩:=x
   simp only at hbp hxl ⊢
   have hsz:SzR 90000 R:=⟨by have:=h3.1; have:=HWL.out; omega,fun r hr=>⟨by have:=(h3.2 r hr).1; have:=HWL.out; omega,fun g hg=>by have:=(h3.2 r hr).2 g hg; have:=HWL.out; omega⟩⟩
   have hrs:RdS u2 W (z + 1 + 1 + 1) pl R W:=h2.grow (row:=none) ⟨rfl,rfl,rfl,Nat.le_refl _,fun _ _ _=>rfl⟩ (Far.none _ _ _) (fun k e=>by cases e) (KeepsOthers.refl _)
   have HRA:=hid (read_any hrs hsz xs (by omega))
   have HSN:Hid (runR ((pre ++ [(⟨(xs,xk),hxl⟩:Wd)]).map (·.1)) 0 []=stepR pl R xs):=hid (by rw [List.map_append]; exact runR_snoc h1)
   have HS3:=hid h3
   have HG2:=hid h2.ke.gr
   have HBP:=hid hbp
   have HL:=hid (h2.ke.ko)
   obtain ⟨c0,c1⟩:=hbp.c2
   have hplt:=hbp.lt
   clear hbp h1 h2 h3 hrs hsz
   simp only [wdV]
   gi_wp2
   refine ⟨trivial,?_⟩
   refine (CallsIn.inRound l' (callsIn_wide.2 HRA.out)).mono ?_
   rintro e W2 ⟨rfl,hke,hst,hno⟩
   have hz2:=HZ2.out
   have HKW:Hid (Kw (z + 4) (z + 4 + 1) W W2):=hid ⟨hke.ko.size,(hke.gr.block _ (by omega) (by intro e; cases e)).trans (HG2.out.block _ (by omega) (by intro e; cases e)).symm,(hke.gr.block _ (by omega) (by intro e; cases e)).trans (HG2.out.block _ (by omega) (by intro e; cases e)).symm⟩
   have HKF:Hid (KeepsFrom u2.heap.size W W2):=hid (hke.ko.from _)
   have HLL:Hid (KeepsOthers u2 W2):=hid (HL.out.trans hke.ko)
   have HGR:Hid (u2.grownBy W2 (some (z + 1 + 1 + 1))):=hid hke.gr
   cases hsr:stepR pl R xs with
   | some y=>
    have hrd:=hst y hsr
    have HFN:Hid (∃ pl R,runR ((pre ++ [(⟨(xs,xk),hxl⟩:Wd)]).map (·.1)) 0 []=some (pl,R)/\RdS u2 u2 (z + 1 + 1 + 1) pl R W2/\SzR (pre ++ [(⟨(xs,xk),hxl⟩:Wd)]).length R):=hid ⟨y.1,y.2,by rw [HSN.out,hsr],hrd.grow (row:=none) ⟨rfl,rfl,rfl,Nat.le_refl _,fun _ _ _=>rfl⟩ (Far.none _ _ _) (fun k e=>by cases e) HLL.out,by rw [List.length_append]; exact stepR_sz HS3.out hsr⟩
    clear hrd hst hno hsr hke HRA HSN HS3 HG2 HBP HL c0 c1
    gi_wp2
    exact ⟨HKF.out,HKW.out,HFN.out⟩
   | none=>
    have HSN2:Hid (runR ((pre ++ [(⟨(xs,xk),hxl⟩:Wd)]).map (·.1)) 0 []=none):=hid (HSN.out.trans hsr)
    have hbw:=hno hsr
    obtain ⟨d0,d1⟩:=(HBP.out.below hbw).c2
    have hpc:PrC z 0 0 W2:=HP2.out.grow HGR.out (fun j e=>by cases e; omega)
    obtain ⟨e0,e1,e2⟩:=And.intro hpc.b2.c1 (And.intro hpc.b3.c1 hpc.b4.c1)
    obtain ⟨f0,f1,f2⟩:=And.intro (hpc.b2.frozen 0) (And.intro (hpc.b3.frozen 0) (hpc.b4.frozen 0))
    have HPC:=hid hpc
    have HKO:=hid hke.ko
    have HBX:Hid (Below z w W2):=hid (HB2.out.grown HGR.out (by have:=HB2.out.size; have:=HZ.out; omega) (fun j e=>by cases e; omega))
    have hmix:Tryz.prog.follows .mixedOrders=true:=by kernel_rfl
    clear hst hno hbw hpc hsr hke HRA HSN HS3 HBP c0 c1
    gi_wp2
    gi_region
    all_goals gi_wp2
    all_goals have hp3:=HPC.out
    all_goals refine ⟨(HKO.out.trans ⟨by simp [World.drew,World.setCell],fun k o hk ho=>?_⟩).from _,rfl,HSN2.out,xk,?_,?_⟩
    any_goals exact hp3.put3 xk 3
    any_goals exact (((HBX.out.setCell (by simp) _).setCell (by simp <;> omega) _).setCell (by simp <;> omega) _).drew
    all_goals exact ((KeepsOthers.setCell _ _ _).trans ((KeepsOthers.setCell _ _ _).trans (KeepsOthers.setCell _ _ _))).same k o hk ho
  case done=>
   rintro D ys W hD hS ⟨pl,R,h1,h2,h3⟩ hdef
   rw [hS] at h1
   have hPS:=HPS.out
   rw [h1] at hPS
   simp only at hPS
   have hz2:=HZ2.out
   have hlen:ys.length<=65536:=by have:=HWL.out; rw [<-hS] at this; simpa using this
   have hsz:SzR 90000 R:=⟨by have:=h3.1; omega,fun r hr=>⟨by have:=(h3.2 r hr).1; omega,fun g hg=>by have:=(h3.2 r hr).2 g hg; omega⟩⟩
   have hsm:∀ r ∈ R,SmR r:=WdOk.small (runR_all ws 0 [] (pl,R) (fun r hr=>by simp at hr) (fun x hx=>HWS.out x hx) h1) (by omega) hsz
   have hgr:=h2.ke.gr
   have hpc:PrC z 0 0 W:=HP2.out.grow hgr (fun j e=>by cases e; omega)
   have hbe:Below z w W:=HB2.out.grown hgr (by have:=HB2.out.size; have:=HZ.out; omega) (fun j e=>by cases e; omega)
   obtain ⟨e0,e1,e2⟩:=And.intro hpc.b2.c1 (And.intro hpc.b3.c1 hpc.b4.c1)
   obtain ⟨f0,f1,f2⟩:=And.intro (hpc.b2.frozen 0) (And.intro (hpc.b3.frozen 0) (hpc.b4.frozen 0))
   by_cases hpl:pl=0
   ·subst hpl
    obtain ⟨ra,rc,hbk,hrl⟩:=h2.zero.rules
    have HCK:=hid (ocheck2_any ra rc R W hrl hsm (by have:=hsz.1; omega))
    have HRL:=hid hrl
    have HPC:=hid hpc
    have HBE:=hid hbe
    have HDF:=hid hdef
    have HBK:=hid hbk
    obtain ⟨c0,c1⟩:=hbk.c2
    have HPR:Hid (parseS s=if rulesB 100 8 20 R=true then some R else none):=hid (by rw [hPS]; simp)
    clear hPS h1 h2 h3 hS hsz hsm hgr hpc hbe hdef hbk hrl hlen
    generalize hn:R.length=n at HCK HRL HBK c1
    have HN:=hid hn
    clear hn
    gi_wp2
    refine ⟨trivial,?_⟩
    refine (callsIn_wide.2 HCK.out).mono ?_
    rintro e W4 ⟨k,rfl,hk,hb4⟩
    have HP4:Hid (PrC z 0 0 W4):=hid (HPC.out.grow (gr_below hb4) (fun j e=>by cases e))
    have HD4:Hid (W4.heap[D]? = some (.deferred (some []))):=hid ((hb4.block D (Array.getElem?_eq_some_iff.1 HDF.out).1).trans HDF.out)
    have HRL4:=hid ((HRL.out.below hb4).mono hb4.size)
    have HB4:Hid (Below z w W4):=hid (HBE.out.trans (hb4.mono (by have:=HBE.out.size; have:=HZ.out; omega)))
    obtain ⟨c0,c1⟩:=(HBK.out.below hb4).c2
    have hpc:=HP4.out
    obtain ⟨e0,e1,e2⟩:=And.intro hpc.b2.c1 (And.intro hpc.b3.c1 hpc.b4.c1)
    obtain ⟨f0,f1,f2⟩:=And.intro (hpc.b2.frozen 0) (And.intro (hpc.b3.frozen 0) (hpc.b4.frozen 0))
    have HK:=hid hk
    clear hb4 hk hpc HCK HRL HPC HDF HBE HBK
    by_cases hk0:k=0
    ·subst hk0
     have HPQ:Hid (parseS s=some R):=hid (by rw [HPR.out,if_pos (HK.out.1 rfl)])
     obtain ⟨g2,g3,g4,g5,g6⟩:=HP4.out.fin (.slice ra n rc) 0 0 HD4.out
     have HG5:=hid g5
     have hbf:Below z w ((((W4.setCell ⟨z,0,none⟩ (.slice ra n rc)).setCell ⟨z + 1,0,none⟩ (.int .i64 0)).setCell ⟨z + 1 + 1,0,none⟩ (.int .i64 0)).putObj D (.deferred none)):=(((HB4.out.setCell (by simp) _).setCell (by simp <;> omega) _).setCell (by simp <;> omega) _).grown (grownBy_putObj' _ D _) (by have:=HB4.out.size; simp [World.setCell]; have:=HZ.out; omega) (fun j e=>by cases e; omega)
     have HFN:Hid (GotPa w s (.returned (.tuple #[.slice ra n rc,.int .i64 0,.int .i64 0])) ((((W4.setCell ⟨z,0,none⟩ (.slice ra n rc)).setCell ⟨z + 1,0,none⟩ (.int .i64 0)).setCell ⟨z + 1 + 1,0,none⟩ (.int .i64 0)).putObj D (.deferred none))):=hid ⟨by rw [<-HZ.out]; exact hbf,ra,n,rc,0,0,rfl,by
      rw [HPQ.out]
      exact ⟨rfl,HN.out.symm,(g6 _ _ _ _ HRL4.out).mono (by simp [World.setCell])⟩⟩
     have g2:=g2.c1
     have g3:=g3.c1
     have g4:=g4.c1
     clear g5 g6 hbf HRL4 HK HP4 HB4 HPR HPQ
     gi_wp2
     refine ⟨by simp,.inl ⟨_,_,rfl,run_takeDeferred HG5.out,?_⟩⟩
     exact ⟨.tuple #[.slice ra n rc,.int .i64 0,.int .i64 0],by simp [results,Tryz.results63,go_sem,g2,g3,g4],HFN.out⟩
    ·have HPQ:Hid (parseS s=none):=hid (by rw [HPR.out,if_neg (fun h=>hk0 (HK.out.2 h))])
     obtain ⟨g2,g3,g4,g5,_⟩:=HP4.out.fin (.slice none 0 0) 0 k HD4.out
     have HG5:=hid g5
     have hbf:Below z w ((((W4.setCell ⟨z,0,none⟩ (.slice none 0 0)).setCell ⟨z + 1,0,none⟩ (.int .i64 0)).setCell ⟨z + 1 + 1,0,none⟩ (.int .i64 k)).putObj D (.deferred none)):=(((HB4.out.setCell (by simp) _).setCell (by simp <;> omega) _).setCell (by simp <;> omega) _).grown (grownBy_putObj' _ D _) (by have:=HB4.out.size; simp [World.setCell]; have:=HZ.out; omega) (fun j e=>by cases e; omega)
     have HFN:Hid (GotPa w s (.returned (.tuple #[.slice none 0 0,.int .i64 0,.int .i64 k])) ((((W4.setCell ⟨z,0,none⟩ (.slice none 0 0)).setCell ⟨z + 1,0,none⟩ (.int .i64 0)).setCell ⟨z + 1 + 1,0,none⟩ (.int .i64 k)).putObj D (.deferred none))):=hid (.bad HPQ.out (by rw [<-HZ.out]; exact hbf) hk0)
     have g2:=g2.c1
     have g3:=g3.c1
     have g4:=g4.c1
     clear g5 hbf HRL4 HK HP4 HB4 HPR HPQ
     gi_wp2
     refine ⟨by simp,.inl ⟨_,_,rfl,run_takeDeferred HG5.out,?_⟩⟩
     exact ⟨.tuple #[.slice none 0 0,.int .i64 0,.int .i64 k],by simp [results,Tryz.results63,go_sem,g2,g3,g4],HFN.out⟩
   ·obtain ⟨ra,rc,hbk⟩:=h2.cells
    obtain ⟨c0,c1⟩:=hbk.c2
    have HPQ:Hid (parseS s=none):=hid (by rw [hPS,if_neg (fun h=>hpl h.1)])
    have hpi:¬ ((pl:Int)=0):=by omega
    obtain ⟨g2,g3,g4,g5,_⟩:=hpc.fin (.slice none 0 0) (s.length:Int) 3 hdef
    have HG5:=hid g5
    have hbf:Below z w ((((W.setCell ⟨z,0,none⟩ (.slice none 0 0)).setCell ⟨z + 1,0,none⟩ (.int .i64 (s.length:Int))).setCell ⟨z + 1 + 1,0,none⟩ (.int .i64 3)).putObj D (.deferred none)):=(((hbe.setCell (by simp) _).setCell (by simp <;> omega) _).setCell (by simp <;> omega) _).grown (grownBy_putObj' _ D _) (by have:=hbe.size; simp [World.setCell]; have:=HZ.out; omega) (fun j e=>by cases e; omega)
    have HFN:Hid (GotPa w s (.returned (.tuple #[.slice none 0 0,.int .i64 (s.length:Int),.int .i64 3])) ((((W.setCell ⟨z,0,none⟩ (.slice none 0 0)).setCell ⟨z + 1,0,none⟩ (.int .i64 (s.length:Int))).setCell ⟨z + 1 + 1,0,none⟩ (.int .i64 3)).putObj D (.deferred none))):=hid (.bad HPQ.out (by rw [<-HZ.out]; exact hbf) (by decide))
    have g2:=g2.c1
    have g3:=g3.c1
    have g4:=g4.c1
    clear g5 hbf HPQ hPS h1 h2 h3 hS hsz hsm hgr hpc hbe hdef hbk hlen
    gi_wp2
    refine ⟨by simp,.inl ⟨_,_,rfl,run_takeDeferred HG5.out,?_⟩⟩
    exact ⟨.tuple #[.slice none 0 0,.int .i64 (s.length:Int),.int .i64 3],by simp [results,Tryz.results63,go_sem,g2,g3,g4],HFN.out⟩
  case stop=>
   rintro D c pre W hD hS ⟨rfl,h1,p,h3,h4⟩ hdef
   have hz2:=HZ2.out
   have HPQ:parseS s=none:=by rw [HPS.out,runR_pre hS h1]
   have hgD:=grownBy_putObj' W D (.deferred none)
   have h5:=h3.grow hgD (fun j e=>by cases e; omega)
   have HFN:Hid (GotPa w s (.returned (.tuple #[.slice none 0 0,.int .i64 p,.int .i64 3])) (W.putObj D (.deferred none))):=hid (.bad HPQ (by rw [<-HZ.out]; exact h4.grown hgD (by have:=h4.size; have:=HZ.out; omega) (fun j e=>by cases e; omega)) (by decide))
   have g2:=h5.b2.c1
   have g3:=h5.b3.c1
   have g4:=h5.b4.c1
   have HD:=hid hdef
   clear h5 hgD HPQ h1 h3 h4 hdef hS
   gi_wp2
   refine ⟨by simp,.inl ⟨_,_,rfl,run_takeDeferred HD.out,?_⟩⟩
   exact ⟨.tuple #[.slice none 0 0,.int .i64 p,.int .i64 3],by simp [results,Tryz.results63,go_sem,g2,g3,g4],HFN.out⟩
end Go.Proofs.YtdedfkljaeloiaaGreatDoor
