/- negotiate.Send. -/
import Derived.Test.YtfdahmicigpnoaaGreatNeBx
set_option maxRecDepth 100000
set_option maxHeartbeats 16000000
open Go.Lib (hid)
namespace Go.Proofs.YtfdahmicigpnoaaGreat
open Go.RowKit Go.Shelf
set_option linter.unusedVariables false
theorem send_any (a:Option Addr) (xs:List Itm) (c:Nat) (wa:Option Addr) (want:List (Int × Int)) (wc:Nat) (ca:Option Addr) (com:List (Int × Int)) (cc:Nat) (w:World) (hp:PoolIn w a xs c) (hA:Asc xs) (hxl:xs.length<=40) (hw:Digs w.heap.size w wa want) (hwo:∀ d ∈ want,OkD d) (hwl:(want.length:Int)<=45) (hc:Digs w.heap.size w ca com) (hco:∀ d ∈ com,OkD d) (hcl:(com.length:Int)<=45) :
  Calls Tryz.prog 79 #[.slice a xs.length c,.slice wa want.length wc,.slice ca com.length cc] w (GotRo w (sendS xs want com)):=by
 have HCO:=hid (fun p q W (hW:Below w.heap.size w W)=>commit_any a xs c p q W (hp.below hW) hA)
 have HRW:=hid (fun W (hW:Below w.heap.size w W)=>reach_any a xs c wa want wc W (hp.below hW) hA (hw.ahead hW) hwo (by omega) (by omega))
 have HRC:=hid (fun W (hW:Below w.heap.size w W)=>reach_any a xs c ca com cc W (hp.below hW) hA (hc.ahead hW) hco (by omega) (by omega))
 have HFW:=hid (reach_facts (xs:=xs) (l:=want) hxl (by omega) hwo)
 have HFC:=hid (reach_facts (xs:=xs) (l:=com) hxl (by omega) hco)
 have HKN:=hid (send_known (xs:=xs) (W:=want) (C:=com))
 have HCE:Hid (∀ k (h:k < (want ++ com).length),comE xs ((want ++ com).take k)=0->((commitS xs (want ++ com)[k]).2=0->comE xs ((want ++ com).take (k + 1))=0)/\((commitS xs (want ++ com)[k]).2 ≠ 0->comE xs (want ++ com)=(commitS xs (want ++ com)[k]).2)):=hid (fun k h h0=>comE_take xs h h0)
 obtain ⟨R,hR⟩:∃ R,R=sendS xs want com:=⟨_,rfl⟩
 rw [<-hR]
 unfold sendS at hR
 have HR:=hid hR
 have HOC:Hid (∀ d ∈ want ++ com,OkD d):=hid (fun d hd=>by
  rcases List.mem_append.1 hd with h | h
  ·exact hwo d h
  ·exact hco d h)
 obtain ⟨v,hv⟩:∃ v,v=w.alloc (.cells #[.slice wa want.length wc,.slice ca com.length cc] 24):=⟨_,rfl⟩
 have hbv:Below w.heap.size w v:=by rw [hv]; exact (Below.refl _ _).alloc (Nat.le_refl _) _
 have hall:allD [⟨wa,want,wc⟩,⟨ca,com,cc⟩]=want ++ com:=by simp [allD]
 have HCC:=hid (concatD_any w.heap.size 2 [⟨wa,want,wc⟩,⟨ca,com,cc⟩] v (slsD_two (by rw [hv]; exact BK.new _ _ _) (hw.ahead hbv) (hc.ahead hbv)) (by rw [hall,List.length_append]; omega) (by simp))
 rw [hall,hv] at HCC
 simp only [List.length_cons,List.length_nil,Nat.zero_add,Nat.reduceAdd] at HCC
 have HV:=hid hv
 have HBV:=hid hbv
 have hal:((want ++ com).length:Int)<=90:=by rw [List.length_append]; omega
 generalize hRW:reachS xs want=rw at HRW HFW HKN HR
 generalize hRC:reachS xs com=rc at HRC HFC HKN HR
 clear hRW hRC
 obtain ⟨ra,rb⟩:=rw
 obtain ⟨ta,tb⟩:=rc
 simp only at HFW HFC HKN HR
 generalize want ++ com=all at HCE HOC HCC HR hal
 obtain ⟨n,hn⟩:∃ n,n=all.length:=⟨_,rfl⟩
 rw [<-hn] at hal
 have HN:=hid hn
 obtain ⟨nra,hnra⟩:∃ n,n=ra.length:=⟨_,rfl⟩
 obtain ⟨nrb,hnrb⟩:∃ n,n=rb.length:=⟨_,rfl⟩
 obtain ⟨nta,hnta⟩:∃ n,n=ta.length:=⟨_,rfl⟩
 obtain ⟨ntb,hntb⟩:∃ n,n=tb.length:=⟨_,rfl⟩
 have HNRA:=hid hnra
 have HNRB:=hid hnrb
 have HNTA:=hid hnta
 have HNTB:=hid hntb
 have hra:=HFW.out.1
 have hrb:=HFW.out.2.1
 have hta:=HFC.out.1
 have htb:=HFC.out.2.1
 rw [<-hnra] at hra
 rw [<-hnrb] at hrb
 rw [<-hnta] at hta
 rw [<-hntb] at htb
 generalize want.length=nw at HRW HV HCC ⊢
 generalize com.length=nc at HRC HV HCC ⊢
 generalize xs.length=nx at HCO HRW HRC ⊢
 clear hR hv hbv hall hn hnra hnrb hnta hntb hp hA hxl hw hwo hwl hc hco hcl
 go_enter Tryz.func79,Tryz.ntmps79
 go_wp2_with fail
 (with_reducible refine (HCC.out).mono ?_)
 rintro e u ⟨va,vc,rfl,hown,hb⟩
 rw [<-HV.out] at hb
 rw [<-HN.out] at hown ⊢
 have HB1:=hid (HBV.out.trans (hb.mono HBV.out.size))
 have HA1:=hid (own_digs HN.out hown)
 clear hown hb HCC HV HBV
 go_wp2_with fail
 go_loopw [27] (fun i wr=>∃ k:Nat,k<=n/\i = .int .i64 k/\Hid (comE xs (all.take k)=0)/\Hid (Below u.heap.size u wr)) (fun i _=>n - (intOf i).toNat)
 case atStart=>exact ⟨0,by omega,rfl,hid (by simp [comE]),hid (Below.refl _ _)⟩
 case round=>
  obtain ⟨k,hk,rfl,HJ,HE⟩:=hrel
  have HB:=hid (HB1.out.trans (HE.out.mono HB1.out.size))
  by_cases hkn:k < n
  ·have hki:(k:Int) < (n:Int):=by omega
   have h1:k < all.length:=by have:=HN.out; omega
   obtain ⟨b0,of0,haa,hb0,q0,q1⟩:=(HA1.out.ahead HE.out) k h1
   have HAx:=HA1
   subst haa
   have HX:=hid (HCE.out k h1 HJ.out)
   generalize all[k]=d at q0 q1 HX
   obtain ⟨d1,d2⟩:=d
   simp only at q0 q1
   obtain ⟨v,hv⟩:∃ v,v=wr.alloc (.cells #[.int .u64 d1,.int .u64 d2] 41):=⟨_,rfl⟩
   have hbv:Below wr.heap.size wr v:=by rw [hv]; exact (Below.refl _ _).alloc (Nat.le_refl _) _
   have HBv:=hid (HB.out.trans (hbv.mono HB.out.size))
   have HEv:=hid (HE.out.trans (hbv.mono HE.out.size))
   have HC:=hid (HCO.out d1 d2 v HBv.out)
   generalize commitS xs (d1,d2)=CR at HC HX
   obtain ⟨⟨kind,data,ents,⟨t1,t2⟩,pars,author,time,msg⟩,er⟩:=CR
   simp only at HC HX
   rw [hv] at HC
   have HV:=hid hv
   clear hv hbv HE HB HAx HJ
   go_wp2_with fail
   (with_reducible refine (HC.out).mono ?_)
   rintro e u3 ⟨ea,ec,pa,pc,rfl,hob,hb⟩
   rw [<-HV.out] at hb
   simp only [Ob.val]
   have HB3:=hid (HBv.out.trans (hb.mono HBv.out.size))
   have HE3:=hid (HEv.out.trans (hb.mono HEv.out.size))
   generalize pars.length=np
   generalize ents.length=ne
   obtain ⟨v2,hv2⟩:∃ v2,v2=u3.alloc (.cells #[.int .i64 kind,.string ⟨data.toArray⟩,.slice ea ne ec,.int .u64 t1,.int .u64 t2,.slice pa np pc,.string ⟨author.toArray⟩,.int .i64 time,.string ⟨msg.toArray⟩] 56):=⟨_,rfl⟩
   have hbv:Below u3.heap.size u3 v2:=by rw [hv2]; exact (Below.refl _ _).alloc (Nat.le_refl _) _
   have HB4:=hid (HB3.out.trans (hbv.mono HB3.out.size))
   have HE4:=hid (HE3.out.trans (hbv.mono HE3.out.size))
   have HV2:=hid hv2
   clear hob hb hbv hv2 HC HV HBv HEv HB3 HE3 q0 q1
   by_cases he:er=0
   ·subst he
    have HJ2:=hid (HX.out.1 rfl)
    clear HX
    go_wp2_with fail
    rw [<-HV2.out]
    go_roundw
    case rel=>exact ⟨k + 1,by omega,by go_num,HJ2,HE4⟩
    case measure=>simp [intOf] <;> omega
   ·have hee:(er != 0)=true:=by simpa using he
    have HR2:Hid (R=([],er)):=hid (by rw [HR.out,HX.out.2 he,if_pos he])
    clear HX HR he
    go_wp2_with fail
    rw [<-HV2.out]
    go_ret2
    rw [HR2.out]
    exact ⟨none,0,rfl,World.ownsRow_nil _ _ _ _,HB4.out⟩
  ·have hki:¬ (k:Int) < (n:Int):=by omega
   have htk:all.take k=all:=List.take_of_length_le (by have:=HN.out; omega)
   rw [htk] at HJ
   have HR2:Hid (R=if ¬ (∀ d ∈ rb,d ∈ tb) then ([],8) else (ra.filter fun d=>!decide (d ∈ ta),0)):=hid (by rw [HR.out,HJ.out]; simp)
   obtain ⟨x0,hx0⟩:∃ x0,x0=wr:=⟨_,rfl⟩
   rw [<-hx0] at HB ⊢
   have HC1:=hid (HRW.out x0 HB.out)
   clear hx0 htk HJ HE HR HCE HOC HA1 HB1 HRW HCO
   go_wp2_with fail
   (with_reducible refine (HC1.out).mono ?_)
   rintro e u1 ⟨pa,pc,sa,sc,rfl,ho1,ho2,hb⟩
   simp only at ho1 ho2 ⊢
   rw [<-HNRA.out] at ho1 ⊢
   rw [<-HNRB.out] at ho2 ⊢
   have HB2:=hid (HB.out.trans (hb.mono HB.out.size))
   have HP1:=hid (own_digs HNRA.out ho1)
   have HS1:=hid (own_digs HNRB.out ho2)
   have HC2:=hid (HRC.out u1 HB2.out)
   clear ho1 ho2 hb HC1 HB HRC
   go_wp2_with fail
   (with_reducible refine (HC2.out).mono ?_)
   rintro e u2 ⟨ea,ec,fa,fc,rfl,ho1,ho2,hb⟩
   simp only at ho1 ho2 ⊢
   rw [<-HNTA.out] at ho1 ⊢
   rw [<-HNTB.out] at ho2 ⊢
   have HB3:=hid (HB2.out.trans (hb.mono HB2.out.size))
   have HP2:=hid (HP1.out.ahead hb)
   have HS2:=hid (HS1.out.ahead hb)
   obtain ⟨v,hv⟩:∃ v,v=u2.alloc (.cells #[.slice ea nta ec,.slice fa ntb fc] 24):=⟨_,rfl⟩
   have hbv:Below u2.heap.size u2 v:=by rw [hv]; exact (Below.refl _ _).alloc (Nat.le_refl _) _
   have hall:allD [⟨ea,ta,ec⟩,⟨fa,tb,fc⟩]=ta ++ tb:=by simp [allD]
   have HTS:=hid (toSet_any u2.heap.size 2 [⟨ea,ta,ec⟩,⟨fa,tb,fc⟩] v (slsD_two (by rw [hv,<-HNTA.out,<-HNTB.out]; exact BK.new _ _ _) ((own_digs HNTA.out ho1).ahead hbv) ((own_digs HNTB.out ho2).ahead hbv)) (by
    rw [hall]; intro d hd
    rcases List.mem_append.1 hd with h | h
    ·exact HFC.out.2.2.1 d h
    ·exact HFC.out.2.2.2 d h) (by rw [hall,List.length_append,<-HNTA.out,<-HNTB.out]; omega) (by simp))
   rw [hall,hv] at HTS
   simp only [List.length_cons,List.length_nil,Nat.zero_add,Nat.reduceAdd] at HTS
   have HV:=hid hv
   have HBv:=hid (HB3.out.trans (hbv.mono HB3.out.size))
   have HPv:=hid (HP2.out.ahead hbv)
   have HSv:=hid (HS2.out.ahead hbv)
   clear ho1 ho2 hb hv hbv hall HC2 HB2 HP1 HS1 HB3 HP2 HS2
   go_wp2_with fail
   (with_reducible refine (HTS.out).mono ?_)
   rintro e u3 ⟨mb,rfl,hs,hmb,hb⟩
   rw [<-HV.out] at hmb hb
   have HB4:=hid (HBv.out.trans (hb.mono HBv.out.size))
   have HP4:=hid (HPv.out.ahead hb)
   have HS4:=hid (HSv.out.ahead hb)
   have HM4:=hid hs
   clear hs hb hmb HTS HV HBv HPv HSv
   go_wp2_with fail
   go_loopw [59] (fun i wr=>∃ k:Nat,k<=nrb/\i = .int .i64 k/\Hid (∀ j (h:j < rb.length),j < k->rb[j] ∈ tb)/\Hid (Below u3.heap.size u3 wr)) (fun i _=>nrb - (intOf i).toNat)
   case atStart=>exact ⟨0,by omega,rfl,hid (fun j h hj=>by omega),hid (Below.refl _ _)⟩
   case round=>
    obtain ⟨k,hk,rfl,HJ,HE⟩:=hrel
    by_cases hkn:k < nrb
    ·have hki:(k:Int) < (nrb:Int):=by omega
     have h1:k < rb.length:=by have:=HNRB.out; omega
     obtain ⟨b0,of0,haa,hb0,q0,q1⟩:=(HS4.out.ahead HE.out) k h1
     have HAx:=HS4
     subst haa
     have hokd:=HFW.out.2.2.2 _ (List.getElem_mem h1)
     have HKK:=hid (HKN.out.1 _ (List.getElem_mem h1))
     have HMM:Hid (rb[k] ∈ rb):=hid (List.getElem_mem h1)
     have HJ2:Hid (rb[k] ∈ tb->∀ j (h:j < rb.length),j < k + 1->rb[j] ∈ tb):=hid (fun hno j h hj=>by
      by_cases e:j < k
      ·exact HJ.out j h e
      ·obtain rfl:j=k:=by omega
       exact hno)
     generalize rb[k]=d at q0 q1 hokd HKK HMM HJ2
     obtain ⟨d1,d2⟩:=d
     simp only at q0 q1
     obtain ⟨v,hv⟩:∃ v,v=wr.alloc (.cells #[.int .u64 d1,.int .u64 d2] 41):=⟨_,rfl⟩
     have hbv:Below wr.heap.size wr v:=by rw [hv]; exact (Below.refl _ _).alloc (Nat.le_refl _) _
     have HEv:=hid (HE.out.trans (hbv.mono HE.out.size))
     have hlook:=(HM4.out.below HEv.out).look hokd
     rw [hv] at hlook
     have HVV:=hid hv
     clear hv hbv HE HJ HAx
     cases hin:decide ((d1,d2) ∈ ta ++ tb) with
     | true=>
      rw [hin] at hlook
      have HJ3:=hid (HJ2.out (HKK.out.1 (by simpa using hin)))
      clear hin HJ2
      go_wp2_with fail
      rw [<-HVV.out]
      go_roundw
      case rel=>exact ⟨k + 1,by omega,by go_num,HJ3,HEv⟩
      case measure=>simp [intOf] <;> omega
     | false=>
      rw [hin] at hlook
      have HR3:Hid (R=([],8)):=hid (by
       rw [HR2.out,if_pos]
       intro h
       have h2:=HKK.out.2 (h _ HMM.out)
       simp only [decide_eq_false_iff_not] at hin
       exact hin h2)
      have HBv:=hid (HB4.out.trans (HEv.out.mono HB4.out.size))
      clear hin HJ2 HR2
      go_wp2_with fail
      rw [<-HVV.out]
      go_ret2
      rw [HR3.out]
      exact ⟨none,0,rfl,World.ownsRow_nil _ _ _ _,HBv.out⟩
    ·have hki:¬ (k:Int) < (nrb:Int):=by omega
     have hsub:∀ d ∈ rb,d ∈ tb:=fun d hd=>by
      obtain ⟨j,hj,rfl⟩:=List.getElem_of_mem hd
      exact HJ.out j hj (by have:=HNRB.out; omega)
     have HR3:Hid (R=(ra.filter fun d=>!decide (d ∈ ta),0)):=hid (by rw [HR2.out,if_neg (fun h=>h hsub)])
     obtain ⟨x1,hx1⟩:∃ x1,x1=wr:=⟨_,rfl⟩
     rw [<-hx1] at HE ⊢
     have HB5:=hid (HB4.out.trans (HE.out.mono HB4.out.size))
     have HP5:=hid (HP4.out.ahead HE.out)
     have HM5:=hid (HM4.out.below HE.out)
     clear hx1 hsub HR2 HJ HE HP4 HM4 HB4 HS4
     go_wp2_with fail
     go_loopw [19,70] (fun v i wr=>∃ (k m:Nat) (out:List (Int × Int)) (va:Option Addr) (vc:Nat),k<=nra/\v = .slice va m vc/\i = .int .i64 k/\m<=k/\Hid (m=out.length)/\Hid (out=(ra.take k).filter fun d=>!decide (d ∈ ta))/\Hid (wr.ownsRow x1.heap.size 41 2 (.slice va m vc) m (dcells out))/\Hid (Below x1.heap.size x1 wr)) (fun _ i _=>nra - (intOf i).toNat)
     case atStart=>exact ⟨0,0,[],none,0,by omega,rfl,rfl,by omega,hid rfl,hid (by simp),hid (World.ownsRow_nil _ _ _ _),hid (Below.refl _ _)⟩
     case round=>
      obtain ⟨k,m,out,va,vc,hk,rfl,rfl,hmk,HM,HOUT,HO,HE⟩:=hrel
      by_cases hkn:k < nra
      ·have hki:(k:Int) < (nra:Int):=by omega
       have h1:k < ra.length:=by have:=HNRA.out; omega
       obtain ⟨b0,of0,haa,hb0,q0,q1⟩:=(HP5.out.ahead HE.out) k h1
       have HAx:=HP5
       subst haa
       have hokd:=HFW.out.2.2.1 _ (List.getElem_mem h1)
       have HKK:=hid (HKN.out.2 _ (List.getElem_mem h1))
       have HF:=hid (filt_snoc (fun d=>!decide (d ∈ ta)) h1)
       rw [<-HOUT.out] at HF
       generalize ra[k]=d at q0 q1 hokd HKK HF
       obtain ⟨d1,d2⟩:=d
       simp only at q0 q1
       obtain ⟨v,hv⟩:∃ v,v=wr.alloc (.cells #[.int .u64 d1,.int .u64 d2] 41):=⟨_,rfl⟩
       have hbv:Below wr.heap.size wr v:=by rw [hv]; exact (Below.refl _ _).alloc (Nat.le_refl _) _
       have HEv:=hid (HE.out.trans (hbv.mono HE.out.size))
       have HOv:=hid (own_below HO.out hbv)
       have hlook:=(HM5.out.below HEv.out).look hokd
       rw [hv] at hlook
       have HVV:=hid hv
       clear hv hbv HE HOUT HO HAx
       cases hin:decide ((d1,d2) ∈ ta ++ tb) with
       | true=>
        rw [hin] at hlook
        have hmt:(d1,d2) ∈ ta:=HKK.out.1 (by simpa using hin)
        have HOUT3:Hid (out=(ra.take (k + 1)).filter fun d=>!decide (d ∈ ta)):=hid (by rw [HF.out]; simp [hmt])
        clear hin hmt HF
        go_wp2_with fail
        rw [<-HVV.out]
        go_roundw
        case rel=>exact ⟨k + 1,m,out,va,vc,by omega,rfl,by go_num,by omega,HM,HOUT3,HOv,HEv⟩
        case measure=>simp [intOf] <;> omega
       | false=>
        rw [hin] at hlook
        have hmt:(d1,d2) ∉ ta:=fun h=>by
         have:=HKK.out.2 h
         simp only [decide_eq_false_iff_not] at hin
         exact hin this
        have HOUT3:Hid (out ++ [(d1,d2)]=(ra.take (k + 1)).filter fun d=>!decide (d ∈ ta)):=hid (by rw [HF.out]; simp [hmt])
        have hov:=HOv.out
        rw [HM.out] at hov
        obtain ⟨v',W',hrun,hown,hgr,_⟩:=append_one hov d1 d2 (by rw [<-HM.out]; omega) HEv.out.size
        obtain ⟨va',vc',rfl,_⟩:=ownsRow_sliceN hown
        have hl:(out ++ [(d1,d2)]).length=m + 1:=by rw [List.length_append,<-HM.out]; rfl
        rw [hl,<-HM.out] at hrun
        rw [hl] at hown
        rw [<-HM.out] at hgr
        have HM3:Hid (m + 1=(out ++ [(d1,d2)]).length):=hid hl.symm
        have HO3:=hid hown
        have HE3:Hid (Below x1.heap.size x1 W'):=hid (below_own (HEv.out.alloc HEv.out.size _) (HOv.out.alloc _) hgr (Nat.le_refl _))
        rw [HVV.out,World.size_alloc] at hrun
        have HRUN:=hid hrun
        clear hin hmt HF hov hrun hown hgr hl HOv HEv HVV
        go_wp2_with (at_builtin; refine Lib.wpList_append_run _ rfl _ _ _ _ rfl _ _ rfl rfl _ _ HRUN.out ?_)
        go_roundw
        case rel=>exact ⟨k + 1,m + 1,out ++ [(d1,d2)],va',vc',by omega,rfl,by go_num,by omega,HM3,HOUT3,HO3,HE3⟩
        case measure=>simp [intOf] <;> omega
      ·have hki:¬ (k:Int) < (nra:Int):=by omega
       have htk:ra.take k=ra:=List.take_of_length_le (by have:=HNRA.out; omega)
       rw [htk] at HOUT
       have HX:Hid (R=(out,0)):=hid (by rw [HR3.out,<-HOUT.out])
       have HB6:=hid (HB5.out.trans (HE.out.mono HB5.out.size))
       clear htk HOUT HR3
       go_wp2_with fail
       go_ret2
       rw [HX.out]
       exact ⟨va,vc,by rw [<-HM.out]; rfl,by rw [<-HM.out]; exact own_le HO.out HB5.out.size,HB6.out⟩
end Go.Proofs.YtfdahmicigpnoaaGreat
