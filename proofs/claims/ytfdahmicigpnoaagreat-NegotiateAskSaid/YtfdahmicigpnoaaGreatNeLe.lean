/- negotiate.Learn. -/
import Derived.Test.YtfdahmicigpnoaaGreatNeVl
import Derived.Test.YtfdahmicigpnoaaGreatNeBx
set_option maxRecDepth 100000
set_option maxHeartbeats 16000000
open Go.Lib (hid)
namespace Go.Proofs.YtfdahmicigpnoaaGreat
open Go.RowKit Go.Shelf
set_option linter.unusedVariables false
theorem learn_any (a:Option Addr) (xs:List Itm) (c:Nat) (t:Tk) (A:TkA) (la:Option Addr) (com:List (Int × Int)) (lc:Nat) (v:Bool) (w:World) (hp:PoolIn w a xs c) (hA:Asc xs) (hac:AcyS xs) (hxl:(xs.length:Int)<=500) (ht:TkIn w t A) (hb:TkB t) (hv:v=true ↔ ValidT xs t) (hl:Digs w.heap.size w la com) (hlo:∀ d ∈ com,OkD d) (hll:(com.length:Int)<=45) (hal:((allS t.common com).length:Int)<=45) :
  Calls Tryz.prog 40 #[t.val A,.slice a xs.length c,.slice la com.length lc] w (GotT w A.wa none (learnS v xs t com)):=by
 have HVL:=hid (fun W (hW:Below w.heap.size w W)=>nvalid_any a xs c t A W (hp.below hW) hA hac hxl (ht.ahead hW) hb)
 have HBE:=hid (fun W sa sc (hW:Below w.heap.size w W) (hd:Digs W.heap.size W sa (allS t.common com))=>below_any a xs c sa (allS t.common com) sc W (hp.below hW) hA hac hxl hd hal)
 have HLF:=hid (fun (h1:ValidT xs t) (h2:∀ d ∈ com,d ∈ t.asked)=>learn_facts hac h1 h2)
 have HOA:Hid (∀ d ∈ allS t.common com,OkD d):=hid (fun d hd=>by
  rcases ((allS_law t.common com).2 d).1 hd with h | h
  ·exact hb.co d h
  ·exact hlo d h)
 have HSO:=hid (fun W sa sc (hd:Digs W.heap.size W sa (t.common ++ com))=>sortedN_any sa sc (t.common ++ com) (by have:=hb.cl; rw [List.length_append]; omega) W hd)
 have hRd:learnS v xs t com=if v=false then (tk0,1) else if t.asked=[] then (tk0,18) else if ¬ (∀ d ∈ com,d ∈ t.asked) then (tk0,8) else (learnT xs t com,0):=rfl
 obtain ⟨R,hR⟩:∃ R,R=learnS v xs t com:=⟨_,rfl⟩
 rw [<-hR]
 rw [<-hR] at hRd
 have HR:=hid hRd
 change Hid (∀ W sa sc,Digs W.heap.size W sa (t.common ++ com)->Calls Tryz.prog 81 #[.slice sa (t.common ++ com).length sc] W (GotDs W (allS t.common com))) at HSO
 generalize allS t.common com=all at HBE HLF HOA HSO hal
 obtain ⟨nl,hnl⟩:∃ n,n=all.length:=⟨_,rfl⟩
 rw [<-hnl] at HBE hal
 have HNL:=hid hnl
 have hvv:=hv
 have HV:=hid hvv
 generalize hVT:ValidT xs t=VT at HVL HV HLF
 generalize learnT xs t com=LT at HR HLF
 have HIN:=hid ht
 have HTB:=hid hb
 obtain ⟨want,queue,asked,common,done⟩:=t
 obtain ⟨wa,wc,qa,qc,aa,ac,ca,cc⟩:=A
 simp only [Tk.val,Tk.arr] at HVL HBE HLF HSO HR ⊢
 obtain ⟨⟨i1,i2,i3,i4,_,_,_,_⟩⟩:Nonempty (TkIn w ⟨want,queue,asked,common,done⟩ ⟨wa,wc,qa,qc,aa,ac,ca,cc⟩):=⟨HIN.out⟩
 simp only at i1 i2 i3 i4
 have HDW:=hid i1
 have HDQ:=hid i2
 have HDA:=hid i3
 have HDC:=hid i4
 have HDL:=hid hl
 have HWC:Hid (want.length<=wc/\queue.length<=qc):=hid ⟨HIN.out.wl,HIN.out.ql⟩
 have l1:=HTB.out.wl
 have l2:=HTB.out.ql
 have l3:=HTB.out.al
 have l4:=HTB.out.cl
 have HO2:=hid HTB.out.qo
 have HO3:=hid HTB.out.ao
 have HO4:=hid HTB.out.co
 have HOL:=hid hlo
 simp only at l1 l2 l3 l4 HO2 HO3 HO4
 have HCL:Hid (((common ++ com).length:Int)<=90):=hid (by rw [List.length_append]; omega)
 obtain ⟨nw,hnw⟩:∃ n,n=want.length:=⟨_,rfl⟩
 obtain ⟨nq,hnq⟩:∃ n,n=queue.length:=⟨_,rfl⟩
 obtain ⟨na,hna⟩:∃ n,n=asked.length:=⟨_,rfl⟩
 obtain ⟨nc,hnc⟩:∃ n,n=common.length:=⟨_,rfl⟩
 obtain ⟨nm,hnm⟩:∃ n,n=com.length:=⟨_,rfl⟩
 rw [<-hnw] at l1 HVL ⊢
 rw [<-hnq] at l2 HVL ⊢
 rw [<-hna] at l3 HVL ⊢
 rw [<-hnc] at l4 HVL ⊢
 rw [<-hnm] at hll ⊢
 have HNW:=hid hnw
 have HNQ:=hid hnq
 have HNA:=hid hna
 have HNC:=hid hnc
 have HNM:=hid hnm
 obtain ⟨w0,hw0⟩:∃ w0,w0=(w.alloc (.cells #[.slice wa nw wc,.slice qa nq qc,.slice aa na ac,.slice ca nc cc,.bool done] 67)).alloc (.cells #[.slice none 0 0,.slice none 0 0,.slice none 0 0,.slice none 0 0,.bool false] 67):=⟨_,rfl⟩
 have HBX:Hid (BK w.heap.size #[.slice wa nw wc,.slice qa nq qc,.slice aa na ac,.slice ca nc cc,.bool done] 67 w0/\BK (w.heap.size + 1) #[.slice none 0 0,.slice none 0 0,.slice none 0 0,.slice none 0 0,.bool false] 67 w0/\Below w.heap.size w w0):=hid (by rw [hw0]; exact box2)
 have HT0:=hid HBX.out.1
 have HK0:=hid HBX.out.2.1
 have HB0:=hid HBX.out.2.2
 have HC1:=hid (HVL.out w0 HB0.out)
 rw [hw0] at HC1
 have HW0:=hid hw0
 generalize xs.length=nx at HC1 HBE ⊢
 clear hw0 HBX HVL hnw hnq hna hnc hnm hnl hR hRd hp hA hac hxl ht hb hv hvv hl hlo HIN HTB i1 i2 i3 i4
 go_enter Tryz.func40,Tryz.ntmps40
 go_wp2_with fail
 (with_reducible refine (HC1.out).mono ?_)
 rintro e u1 ⟨b,rfl,hbi,hb⟩
 rw [<-HW0.out] at hb
 have HB1:=hid (HB0.out.trans (hb.mono HB0.out.size))
 have HT1:=hid (HT0.out.below hb)
 have HK1:=hid (HK0.out.below hb)
 have hz1:w.heap.size + 2<=u1.heap.size:=HK1.out.lt
 have HBI:=hid hbi
 clear hb hbi HC1 HW0 HB0 HT0 HK0
 cases b with
 | false=>
  have hvf:v=false:=by
   cases hh:v with
   | false=>rfl
   | true=>have:=HBI.out.2 (HV.out.1 hh); cases this
  have HX:Hid (R=(tk0,1)):=hid (by rw [HR.out,if_pos hvf])
  clear hvf HR HBI HV HLF HBE HSO
  have hts:=talk_set (HK1.out) (.slice none 0 0) (.slice none 0 0) (.slice none 0 0) (.slice none 0 0) (.bool false)
  obtain ⟨W5,hW5⟩:∃ W5,W5=((((u1.setCell ⟨w.heap.size + 1,0,none⟩ (.slice none 0 0)).setCell ⟨w.heap.size + 1,1,none⟩ (.slice none 0 0)).setCell ⟨w.heap.size + 1,2,none⟩ (.slice none 0 0)).setCell ⟨w.heap.size + 1,3,none⟩ (.slice none 0 0)).setCell ⟨w.heap.size + 1,4,none⟩ (.bool false):=⟨_,rfl⟩
  rw [<-hW5] at hts
  have HB5:=hid ((HB1.out).grown hts.2 (HB1.out).size (fun k e=>by cases e; omega))
  have HG5:=hid hts.2
  have HK5:=hid hts.1
  obtain ⟨g0,g1,g2,g3,g4⟩:=BK.c5 (show BK _ #[.slice none 0 0,.slice none 0 0,.slice none 0 0,.slice none 0 0,.bool false] _ _ from HK5.out)
  obtain ⟨z0,z1,z2,z3,z4⟩:=BK.c5 (show BK _ #[.slice none 0 0,.slice none 0 0,.slice none 0 0,.slice none 0 0,.bool false] _ _ from HK1.out)
  obtain ⟨fz0,fz1,fz2,fz3,fz4⟩:=BK.f5 (HK1.out)
  have HW5:=hid hW5
  clear hts hW5
  go_wp2_with fail
  rw [<-HW5.out]
  refine bodyPost_ret (v:=.tuple #[.agg #[.slice none 0 0,.slice none 0 0,.slice none 0 0,.slice none 0 0,.bool false],.int .i64 1]) (by simp [results,Tryz.results40,go_sem,g0,g1,g2,g3,g4]) rfl ?_
  rw [HX.out]
  exact GotT.bad 1 HB5.out
 | true=>
  have hVT1:=HBI.out.1 rfl
  have hvt:v=true:=HV.out.2 hVT1
  have HR1:Hid (R=if asked=[] then (tk0,18) else if ¬ (∀ d ∈ com,d ∈ asked) then (tk0,8) else (LT,0)):=hid (by rw [HR.out,if_neg (by rw [hvt]; simp)])
  have HLF1:=hid (HLF.out hVT1)
  clear hVT1 hvt HR HBI HV HLF hVT
  obtain ⟨k0,k1,k2,k3,k4⟩:=BK.c5 (show BK _ #[.slice wa nw wc,.slice qa nq qc,.slice aa na ac,.slice ca nc cc,.bool done] _ _ from HT1.out)
  by_cases hn0:na=0
  ·subst hn0
   have hak:asked=[]:=List.length_eq_zero_iff.1 HNA.out.symm
   have HX:Hid (R=(tk0,18)):=hid (by rw [HR1.out,if_pos hak])
   clear hak HR1 HLF1 HBE HSO
   have hts:=talk_set (HK1.out) (.slice none 0 0) (.slice none 0 0) (.slice none 0 0) (.slice none 0 0) (.bool false)
   obtain ⟨W5,hW5⟩:∃ W5,W5=((((u1.setCell ⟨w.heap.size + 1,0,none⟩ (.slice none 0 0)).setCell ⟨w.heap.size + 1,1,none⟩ (.slice none 0 0)).setCell ⟨w.heap.size + 1,2,none⟩ (.slice none 0 0)).setCell ⟨w.heap.size + 1,3,none⟩ (.slice none 0 0)).setCell ⟨w.heap.size + 1,4,none⟩ (.bool false):=⟨_,rfl⟩
   rw [<-hW5] at hts
   have HB5:=hid ((HB1.out).grown hts.2 (HB1.out).size (fun k e=>by cases e; omega))
   have HG5:=hid hts.2
   have HK5:=hid hts.1
   obtain ⟨g0,g1,g2,g3,g4⟩:=BK.c5 (show BK _ #[.slice none 0 0,.slice none 0 0,.slice none 0 0,.slice none 0 0,.bool false] _ _ from HK5.out)
   obtain ⟨z0,z1,z2,z3,z4⟩:=BK.c5 (show BK _ #[.slice none 0 0,.slice none 0 0,.slice none 0 0,.slice none 0 0,.bool false] _ _ from HK1.out)
   obtain ⟨fz0,fz1,fz2,fz3,fz4⟩:=BK.f5 (HK1.out)
   have HW5:=hid hW5
   clear hts hW5
   go_wp2_with fail
   rw [<-HW5.out]
   refine bodyPost_ret (v:=.tuple #[.agg #[.slice none 0 0,.slice none 0 0,.slice none 0 0,.slice none 0 0,.bool false],.int .i64 18]) (by simp [results,Tryz.results40,go_sem,g0,g1,g2,g3,g4]) rfl ?_
   rw [HX.out]
   exact GotT.bad 18 HB5.out
  ·have hnb:((na:Int) == 0)=false:=by simpa using hn0
   have hak:asked ≠ []:=fun e=>hn0 (by rw [HNA.out,e]; rfl)
   have HR2:Hid (R=if ¬ (∀ d ∈ com,d ∈ asked) then (tk0,8) else (LT,0)):=hid (by rw [HR1.out,if_neg hak])
   obtain ⟨v1,hv1⟩:∃ v1,v1=u1.alloc (.cells #[.slice aa na ac] 24):=⟨_,rfl⟩
   have hbv:Below u1.heap.size u1 v1:=by rw [hv1]; exact (Below.refl _ _).alloc (Nat.le_refl _) _
   have HBv:=hid (HB1.out.trans (hbv.mono HB1.out.size))
   have HTv:=hid (HT1.out.below hbv)
   have HKv:=hid (HK1.out.below hbv)
   have hall:allD [⟨aa,asked,ac⟩]=asked:=by simp [allD]
   have HTS:=hid (toSet_any u1.heap.size 1 [⟨aa,asked,ac⟩] v1 (slsD_one (by rw [hv1,<-HNA.out]; exact BK.new _ _ _) (HDA.out.ahead HBv.out)) (by rw [hall]; exact HO3.out) (by rw [hall,<-HNA.out]; omega) (by simp))
   rw [hall,hv1] at HTS
   simp only [List.length_cons,List.length_nil,Nat.zero_add] at HTS
   have HV1:=hid hv1
   clear hbv hv1 hall hak hn0 HR1 HB1 HT1 HK1
   go_wp2_with fail
   (with_reducible refine (HTS.out).mono ?_)
   rintro e u2 ⟨mb,rfl,hs,hmb,hb⟩
   rw [<-HV1.out] at hmb hb
   have HB2:=hid (HBv.out.trans (hb.mono HBv.out.size))
   have HT2:=hid (HTv.out.below hb)
   have HK2:=hid (HKv.out.below hb)
   have HS2:=hid hs
   have hz2:w.heap.size + 2<=u2.heap.size:=HK2.out.lt
   clear hs hb hmb HTS HV1 HBv HTv HKv k0 k1 k2 k3 k4
   go_wp2_with fail
   go_loopw [37] (fun i wr=>∃ k:Nat,k<=nm/\i = .int .i64 k/\Hid (∀ j (h:j < com.length),j < k->com[j] ∈ asked)/\Hid (Below u2.heap.size u2 wr)) (fun i _=>nm - (intOf i).toNat)
   case atStart=>exact ⟨0,by omega,rfl,hid (fun j h hj=>by omega),hid (Below.refl _ _)⟩
   case round=>
    obtain ⟨k,hk,rfl,HJ,HE⟩:=hrel
    have HB:=hid (HB2.out.trans (HE.out.mono HB2.out.size))
    by_cases hkn:k < nm
    ·have hki:(k:Int) < (nm:Int):=by omega
     have h1:k < com.length:=by have:=HNM.out; omega
     obtain ⟨b0,of0,haa,hb0,q0,q1⟩:=(HDL.out.ahead HB.out) k h1
     have HDLx:=HDL
     subst haa
     have hokd:=HOL.out _ (List.getElem_mem h1)
     have HMM:Hid (com[k] ∈ com):=hid (List.getElem_mem h1)
     have HJ2:Hid (com[k] ∈ asked->∀ j (h:j < com.length),j < k + 1->com[j] ∈ asked):=hid (fun hno j h hj=>by
      by_cases e:j < k
      ·exact HJ.out j h e
      ·obtain rfl:j=k:=by omega
       exact hno)
     generalize com[k]=d at q0 q1 hokd HMM HJ2
     obtain ⟨d1,d2⟩:=d
     simp only at q0 q1
     obtain ⟨v,hv⟩:∃ v,v=wr.alloc (.cells #[.int .u64 d1,.int .u64 d2] 41):=⟨_,rfl⟩
     have hbv:Below wr.heap.size wr v:=by rw [hv]; exact (Below.refl _ _).alloc (Nat.le_refl _) _
     have HEv:=hid (HE.out.trans (hbv.mono HE.out.size))
     have hlook:=(HS2.out.below HEv.out).look hokd
     rw [hv] at hlook
     have HVV:=hid hv
     clear hv hbv HE HB HJ HDLx
     cases hin:decide ((d1,d2) ∈ asked) with
     | true=>
      rw [hin] at hlook
      have HJ3:=hid (HJ2.out (by simpa using hin))
      clear hin HJ2
      go_wp2_with fail
      rw [<-HVV.out]
      go_roundw
      case rel=>exact ⟨k + 1,by omega,by go_num,HJ3,HEv⟩
      case measure=>simp [intOf] <;> omega
     | false=>
      rw [hin] at hlook
      have HX:Hid (R=(tk0,8)):=hid (by
       rw [HR2.out,if_pos]
       intro h
       have:=h _ HMM.out
       simp [this] at hin)
      have HBv:=hid (HB2.out.trans (HEv.out.mono HB2.out.size))
      have HKv:=hid (HK2.out.below HEv.out)
      clear hin HJ2 HR2 HLF1 HBE HSO
      have hts:=talk_set (HKv.out) (.slice none 0 0) (.slice none 0 0) (.slice none 0 0) (.slice none 0 0) (.bool false)
      obtain ⟨W5,hW5⟩:∃ W5,W5=((((v.setCell ⟨w.heap.size + 1,0,none⟩ (.slice none 0 0)).setCell ⟨w.heap.size + 1,1,none⟩ (.slice none 0 0)).setCell ⟨w.heap.size + 1,2,none⟩ (.slice none 0 0)).setCell ⟨w.heap.size + 1,3,none⟩ (.slice none 0 0)).setCell ⟨w.heap.size + 1,4,none⟩ (.bool false):=⟨_,rfl⟩
      rw [<-hW5] at hts
      have HB5:=hid ((HBv.out).grown hts.2 (HBv.out).size (fun k e=>by cases e; omega))
      have HG5:=hid hts.2
      have HK5:=hid hts.1
      obtain ⟨g0,g1,g2,g3,g4⟩:=BK.c5 (show BK _ #[.slice none 0 0,.slice none 0 0,.slice none 0 0,.slice none 0 0,.bool false] _ _ from HK5.out)
      obtain ⟨z0,z1,z2,z3,z4⟩:=BK.c5 (show BK _ #[.slice none 0 0,.slice none 0 0,.slice none 0 0,.slice none 0 0,.bool false] _ _ from HKv.out)
      obtain ⟨fz0,fz1,fz2,fz3,fz4⟩:=BK.f5 (HKv.out)
      rw [HVV.out] at hW5 z0 z1 z2 z3 z4 fz0 fz1 fz2 fz3 fz4
      have HW5:=hid hW5
      clear hts hW5
      go_wp2_with fail
      rw [<-HW5.out]
      refine bodyPost_ret (v:=.tuple #[.agg #[.slice none 0 0,.slice none 0 0,.slice none 0 0,.slice none 0 0,.bool false],.int .i64 8]) (by simp [results,Tryz.results40,go_sem,g0,g1,g2,g3,g4]) rfl ?_
      rw [HX.out]
      exact GotT.bad 8 HB5.out
    ·have hki:¬ (k:Int) < (nm:Int):=by omega
     have hcom:∀ d ∈ com,d ∈ asked:=fun d hd=>by
      obtain ⟨j,hj,rfl⟩:=List.getElem_of_mem hd
      exact HJ.out j hj (by have:=HNM.out; omega)
     have HR3:Hid (R=(LT,0)):=hid (by rw [HR2.out,if_neg (fun h=>h hcom)])
     have HKN:=hid (HLF1.out hcom).1
     have HLT:=hid (HLF1.out hcom).2
     have HT3:=hid (HT2.out.below HE.out)
     have HK3:=hid (HK2.out.below HE.out)
     have hz3:w.heap.size + 2<=wr.heap.size:=HK3.out.lt
     obtain ⟨x0,hx0⟩:∃ x0,x0=wr:=⟨_,rfl⟩
     rw [<-hx0] at HB HT3 HK3 hz3 ⊢
     clear hx0 hcom HJ HE HR2 HLF1 HS2 HB2 HT2 HK2 HO3 HDA
     have HNMX:=HNM
     clear HNM
     obtain ⟨k0,k1,k2,k3,k4⟩:=BK.c5 (show BK _ #[.slice wa nw wc,.slice qa nq qc,.slice aa na ac,.slice ca nc cc,.bool done] _ _ from HT3.out)
     obtain ⟨v3,hv3⟩:∃ v3,v3=x0.alloc (.cells #[.slice ca nc cc,.slice la nm lc] 24):=⟨_,rfl⟩
     have hbv:Below x0.heap.size x0 v3:=by rw [hv3]; exact (Below.refl _ _).alloc (Nat.le_refl _) _
     have HBv:=hid (HB.out.trans (hbv.mono HB.out.size))
     have HTv:=hid (HT3.out.below hbv)
     have HKv:=hid (HK3.out.below hbv)
     have hall:allD [⟨ca,common,cc⟩,⟨la,com,lc⟩]=common ++ com:=by simp [allD]
     have HCC:=hid (concatD_any x0.heap.size 2 [⟨ca,common,cc⟩,⟨la,com,lc⟩] v3 (slsD_two (by rw [hv3,<-HNC.out,<-HNMX.out]; exact BK.new _ _ _) (HDC.out.ahead HBv.out) (HDL.out.ahead HBv.out)) (by rw [hall]; have:=HCL.out; omega) (by simp))
     rw [hall,hv3] at HCC
     simp only [List.length_cons,List.length_nil,Nat.zero_add,Nat.reduceAdd] at HCC
     have HV3:=hid hv3
     clear hbv hv3 hall HB HT3 HK3 HDC
     generalize common ++ com=cm at HCC HSO HCL
     obtain ⟨n9,hn9⟩:∃ n,n=cm.length:=⟨_,rfl⟩
     rw [<-hn9] at HSO
     have HN9:=hid hn9
     clear hn9
     go_wp2_with fail
     (with_reducible refine (HCC.out).mono ?_)
     rintro e u3 ⟨va,vc,rfl,hown,hb⟩
     rw [<-HV3.out] at hb
     rw [<-HN9.out] at hown ⊢
     have HB3:=hid (HBv.out.trans (hb.mono HBv.out.size))
     have HT4:=hid (HTv.out.below hb)
     have HK4:=hid (HKv.out.below hb)
     have HC4:=hid (HSO.out u3 va vc (own_digs HN9.out hown))
     clear hown hb HCC HV3 HBv HTv HKv HSO k0 k1 k2 k3 k4
     go_wp2_with fail
     (with_reducible refine (HC4.out).mono ?_)
     rintro e u4 ⟨da,dc,rfl,hown,hb⟩
     rw [<-HNL.out] at hown ⊢
     have HB4:=hid (HB3.out.trans (hb.mono HB3.out.size))
     have HT5:=hid (HT4.out.below hb)
     have HK5:=hid (HK4.out.below hb)
     have HA4:=hid (own_digs HNL.out hown)
     have hz4:w.heap.size + 2<=u4.heap.size:=HK5.out.lt
     have HC5:=hid (HBE.out u4 da dc HB4.out HA4.out)
     have HTQ:=HT5
     have HKQ2:=HK5
     clear hown hb HC4 HB3 HT4 HK4 HBE HN9 HCL
     go_wp2_with fail
     (with_reducible refine (HC5.out).mono ?_)
     rintro e u5 ⟨bv,b,rfl,hbi,hbt,hb⟩
     obtain rfl:b=true:=hbi.2 HKN.out
     obtain ⟨mb2,ds,rfl,hs,hds,hmb,hdl⟩:=hbt rfl
     have HE5:=hid hb
     have HB5:=hid (HB4.out.trans (hb.mono HB4.out.size))
     have HT6:=hid (HT5.out.below hb)
     have HK6:=hid (HK5.out.below hb)
     have HS5:=hid hs
     have HLT2:=hid (HLT.out ds hds)
     have hz5:u4.heap.size<=u5.heap.size:=hb.size
     have hmb5:mb2 < u5.heap.size:=hs.lt
     obtain ⟨k0,k1,k2,k3,k4⟩:=BK.c5 (show BK _ #[.slice wa nw wc,.slice qa nq qc,.slice aa na ac,.slice ca nc cc,.bool done] _ _ from HT6.out)
     obtain ⟨y0,hy0⟩:∃ y0,y0=u5.alloc (.cells #[.slice wa nw wc,.slice none 0 0,.slice none 0 0,.slice none 0 0,.bool false] 67):=⟨_,rfl⟩
     have hby:Below u5.heap.size u5 y0:=by rw [hy0]; exact (Below.refl _ _).alloc (Nat.le_refl _) _
     have HN0:Hid (BK u5.heap.size #[.slice wa nw wc,.slice none 0 0,.slice none 0 0,.slice none 0 0,.bool false] 67 y0):=hid (by rw [hy0]; exact BK.new _ _ _)
     have HE6:=hid (HE5.out.trans (hby.mono HE5.out.size))
     have HS6:=hid (HS5.out.below hby)
     have hzy:u5.heap.size + 1=y0.heap.size:=by rw [hy0]; simp
     have HZY:=hid hzy
     have HY0:=hid hy0
     clear hb hbi hbt hs hds hby hy0 hzy HC5 HT5 HK5 HS5 HE5 HLT HKN HB5 HT6 HK6
     go_wp2_with fail
     rw [<-HY0.out]
     clear HY0 k0 k1 k2 k3 k4
     have hzz:u5.heap.size < y0.heap.size:=by have:=HZY.out; omega
     go_loopw [64] (fun i wr=>∃ (k m:Nat) (out:List (Int × Int)) (va:Option Addr) (vc:Nat),k<=nl/\i = .int .i64 k/\m<=k/\m<=vc/\Hid (m=out.length)/\Hid (out=(all.take k).filter fun d=>!decide (d ∈ ds))/\Hid (BK u5.heap.size #[.slice wa nw wc,.slice none 0 0,.slice none 0 0,.slice va m vc,.bool false] 67 wr)/\Hid (wr.ownsRow y0.heap.size 41 2 (.slice va m vc) m (dcells out))/\Hid (y0.grownBy wr (some u5.heap.size))) (fun i _=>nl - (intOf i).toNat)
     case atStart=>exact ⟨0,0,[],none,0,by omega,rfl,by omega,by omega,hid rfl,hid (by simp),HN0,hid (World.ownsRow_nil _ _ _ _),hid (grefl _ _)⟩
     case round=>
      clear HN0
      obtain ⟨k,m,out,va,vc,hk,rfl,hmk,hmc,HM,HOUT,HT,HO,HG⟩:=hrel
      have HE:Hid (Below u4.heap.size u4 wr):=hid (HE6.out.grown HG.out HE6.out.size (fun j e=>by cases e; omega))
      by_cases hkn:k < nl
      ·have hki:(k:Int) < (nl:Int):=by omega
       have h1:k < all.length:=by have:=HNL.out; omega
       obtain ⟨b0,of0,haa,hb0,q0,q1⟩:=(HA4.out.ahead HE.out) k h1
       have HAx:=HA4
       subst haa
       have hokd:=HOA.out _ (List.getElem_mem h1)
       have HF:=hid (filt_snoc (fun d=>!decide (d ∈ ds)) h1)
       rw [<-HOUT.out] at HF
       generalize all[k]=d at q0 q1 HF hokd
       obtain ⟨d1,d2⟩:=d
       simp only at q0 q1
       obtain ⟨v,hv⟩:∃ v,v=wr.alloc (.cells #[.int .u64 d1,.int .u64 d2] 41):=⟨_,rfl⟩
       have hbv:Below wr.heap.size wr v:=by rw [hv]; exact (Below.refl _ _).alloc (Nat.le_refl _) _
       have HD:Hid (BK wr.heap.size #[.int .u64 d1,.int .u64 d2] 41 v):=hid (by rw [hv]; exact BK.new _ _ _)
       have HTv:=hid (HT.out.below hbv)
       have HOv:=hid (own_below HO.out hbv)
       have HGv:=hid (gbel HG.out hbv)
       have hlook:=((HS6.out.kept HG.out (fun e=>by cases e; omega)).below hbv).look hokd
       rw [hv] at hlook
       have HV:=hid hv
       clear hbv HT HO HG HE HOUT HAx
       cases hin:decide ((d1,d2) ∈ ds) with
       | true=>
        rw [hin] at hlook
        have HOUT3:Hid (out=(all.take (k + 1)).filter fun d=>!decide (d ∈ ds)):=hid (by rw [HF.out,hin]; simp)
        clear HF HD hin hv
        go_wp2_with fail
        rw [<-HV.out]
        go_roundw
        case rel=>exact ⟨k + 1,m,out,va,vc,by omega,by go_num,by omega,hmc,HM,HOUT3,HTv,HOv,HGv⟩
        case measure=>simp [intOf] <;> omega
       | false=>
        rw [hin] at hlook
        have HOUT3:Hid (out ++ [(d1,d2)]=(all.take (k + 1)).filter fun d=>!decide (d ∈ ds)):=hid (by rw [HF.out,hin]; simp)
        obtain ⟨va',vc',W',HRUN,hk4,hk5,ho5,hg5⟩:=box_push (j:=3) HM.out HTv.out HOv.out (by omega) HGv.out d1 d2 (by omega)
        have hmc5:m + 1<=vc':=by obtain ⟨_,_,e,h⟩:=ownsRow_sliceN ho5; cases e; exact h
        have HM5:Hid (m + 1=(out ++ [(d1,d2)]).length):=hid (by rw [List.length_append,<-HM.out]; rfl)
        obtain ⟨t0,t1,t2,t3,t4⟩:=BK.c5 (show BK _ #[.slice wa nw wc,.slice none 0 0,.slice none 0 0,.slice va m vc,.bool false] _ _ from HTv.out)
        obtain ⟨e0,e1⟩:=BK.c2 (show BK _ #[.int .u64 d1,.int .u64 d2] _ _ from HD.out)
        obtain ⟨r0,r1,r2,r3,r4⟩:=BK.c5 (show BK _ #[.slice wa nw wc,.slice none 0 0,.slice none 0 0,.slice va m vc,.bool false] _ _ from hk4)
        obtain ⟨fr0,fr1,fr2,fr3,fr4⟩:=BK.f5 (hk4)
        rw [hv] at t0 t1 t2 t3 t4 e0 e1
        have hr2:=HRUN.out
        rw [hv,World.size_alloc] at hr2
        have HRUN2:=hid hr2
        have HK5:=hid hk5
        have HO5:=hid ho5
        have HG5:=hid hg5
        clear HF HD hk4 hk5 ho5 hg5 HTv HOv HGv hin hv HRUN hr2
        go_wp2_with (at_builtin; refine Lib.wpList_append_run _ rfl _ _ _ _ rfl _ _ rfl rfl _ _ HRUN2.out ?_)
        go_roundw
        case rel=>exact ⟨k + 1,m + 1,out ++ [(d1,d2)],va',vc',by omega,by go_num,by omega,hmc5,HM5,HOUT3,HK5,HO5,HG5⟩
        case measure=>simp [intOf] <;> omega
      ·have hki:¬ (k:Int) < (nl:Int):=by omega
       have hkn2:all.take k=all:=List.take_of_length_le (by have:=HNL.out; omega)
       rw [hkn2] at HOUT
       obtain ⟨z0,hz0⟩:∃ z0,z0=wr:=⟨_,rfl⟩
       have HS7:=hid (HS6.out.kept HG.out (fun e=>by cases e; omega))
       have hgz:y0.heap.size<=wr.heap.size:=HG.out.size
       rw [<-hz0] at HT HO HE HS7 hgz ⊢
       have HSA:Hid (SetV mb2 (ds ++ all.take 0) z0):=hid (HS7.out.eq (by simp))
       clear hz0 HG HS6 HE6 HS7
       go_wp2_with fail
       go_loopw [81] (fun i wr=>∃ j:Nat,j<=nl/\i = .int .i64 j/\Hid (SetV mb2 (ds ++ all.take j) wr)/\Hid (z0.grownBy wr (some mb2))) (fun i _=>nl - (intOf i).toNat)
       case atStart=>exact ⟨0,by omega,rfl,HSA,hid (grefl _ _)⟩
       case round=>
        clear HSA
        obtain ⟨j,hj,rfl,HS,HG⟩:=hrel
        by_cases hjn:j < nl
        ·have hji:(j:Int) < (nl:Int):=by omega
         have h1:j < all.length:=by have:=HNL.out; omega
         have HEj:Hid (Below u4.heap.size u4 wr):=hid (HE.out.grown HG.out HE.out.size (fun j e=>by cases e; omega))
         obtain ⟨b0,of0,haa,hb0,q0,q1⟩:=(HA4.out.ahead HEj.out) j h1
         have HAx:=HA4
         subst haa
         have hokd:=HOA.out _ (List.getElem_mem h1)
         have HTA:Hid (all.take (j + 1)=all.take j ++ [all[j]]):=hid (List.take_succ_eq_append_getElem h1)
         generalize all[j]=d at q0 q1 HTA hokd
         obtain ⟨d1,d2⟩:=d
         simp only at q0 q1
         obtain ⟨v,hv⟩:∃ v,v=wr.alloc (.cells #[.int .u64 d1,.int .u64 d2] 41):=⟨_,rfl⟩
         have hbv:Below wr.heap.size wr v:=by rw [hv]; exact (Below.refl _ _).alloc (Nat.le_refl _) _
         obtain ⟨u6,hup,hs6,hg6,_⟩:=(HS.out.below hbv).put hokd (by rw [List.length_append,List.length_take]; omega)
         have HS6:Hid (SetV mb2 (ds ++ all.take (j + 1)) u6):=hid (hs6.eq (by rw [HTA.out,List.append_assoc]))
         have HG6:=hid (gtrans (gbel HG.out hbv) hg6)
         rw [hv] at hup
         clear hv hbv hs6 hg6 HS HG HEj HAx HTA
         go_wp2_with fail
         go_roundw
         case rel=>exact ⟨j + 1,by omega,by go_num,HS6,HG6⟩
         case measure=>simp [intOf] <;> omega
        ·have hji:¬ (j:Int) < (nl:Int):=by omega
         have htk:all.take j=all:=List.take_of_length_le (by have:=HNL.out; omega)
         rw [htk] at HS
         have HEj:Hid (Below u4.heap.size u4 wr):=hid (HE.out.grown HG.out HE.out.size (fun j e=>by cases e; omega))
         have HTj:=hid (HT.out.grow1 HG.out (by omega))
         have HOj:=hid (own_kept HO.out HG.out (by omega))
         obtain ⟨z1,hz1'⟩:∃ z1,z1=wr:=⟨_,rfl⟩
         have hgz1:z0.heap.size<=wr.heap.size:=HG.out.size
         rw [<-hz1'] at HEj HTj HOj HS hgz1 ⊢
         have HBj:=hid (HB4.out.trans (HEj.out.mono HB4.out.size))
         have HDQ4:=hid (HDQ.out.ahead HBj.out)
         have HTT:Hid (BK w.heap.size #[.slice wa nw wc,.slice qa nq qc,.slice aa na ac,.slice ca nc cc,.bool done] 67 z1):=hid (HTQ.out.below HEj.out)
         clear hz1' htk HG HT HO HE HA4 HNL HOA
         obtain ⟨k0,k1,k2,k3,k4⟩:=BK.c5 (show BK _ #[.slice wa nw wc,.slice qa nq qc,.slice aa na ac,.slice ca nc cc,.bool done] _ _ from HTT.out)
         clear HTT
         go_wp2_with fail
         clear k0 k1 k2 k3 k4
         go_loopw [91] (fun i wr=>∃ (k q:Nat) (qout:List (Int × Int)) (qb:Option Addr) (qd:Nat),k<=nq/\i = .int .i64 k/\q<=k/\q<=qd/\Hid (q=qout.length)/\Hid (qout=(queue.take k).filter fun d=>!decide (d ∈ ds ++ all))/\Hid (BK u5.heap.size #[.slice wa nw wc,.slice qb q qd,.slice none 0 0,.slice va m vc,.bool false] 67 wr)/\Hid (wr.ownsRow z1.heap.size 41 2 (.slice qb q qd) q (dcells qout))/\Hid (z1.grownBy wr (some u5.heap.size))) (fun i _=>nq - (intOf i).toNat)
         case atStart=>exact ⟨0,0,[],none,0,by omega,rfl,by omega,by omega,hid rfl,hid (by simp),HTj,hid (World.ownsRow_nil _ _ _ _),hid (grefl _ _)⟩
         case round=>
          clear HTj
          obtain ⟨k,q,qout,qb,qd,hk,rfl,hqk,hqd,HQ,HQO,HT,HO,HG⟩:=hrel
          by_cases hkn:k < nq
          ·have hki:(k:Int) < (nq:Int):=by omega
           have h1:k < queue.length:=by have:=HNQ.out; omega
           have HE:Hid (Below w.heap.size w wr):=hid (HBj.out.grown HG.out HBj.out.size (fun j e=>by cases e; omega))
           obtain ⟨b0,of0,haa,hb0,q0,q1⟩:=(HDQ.out.ahead HE.out) k h1
           have HAx:=HDQ
           have HAy:=HDQ4
           subst haa
           have hokd:=HO2.out _ (List.getElem_mem h1)
           have HF:=hid (filt_snoc (fun d=>!decide (d ∈ ds ++ all)) h1)
           rw [<-HQO.out] at HF
           generalize queue[k]=d at q0 q1 HF hokd
           obtain ⟨d1,d2⟩:=d
           simp only at q0 q1
           obtain ⟨v,hv⟩:∃ v,v=wr.alloc (.cells #[.int .u64 d1,.int .u64 d2] 41):=⟨_,rfl⟩
           have hbv:Below wr.heap.size wr v:=by rw [hv]; exact (Below.refl _ _).alloc (Nat.le_refl _) _
           have HD:Hid (BK wr.heap.size #[.int .u64 d1,.int .u64 d2] 41 v):=hid (by rw [hv]; exact BK.new _ _ _)
           have HTv:=hid (HT.out.below hbv)
           have HOv:=hid (own_below HO.out hbv)
           have HGv:=hid (gbel HG.out hbv)
           have hlook:=((HS.out.kept HG.out (fun e=>by cases e; omega)).below hbv).look hokd
           rw [hv] at hlook
           have HV:=hid hv
           clear hbv HT HO HG HE HQO HAx HAy
           cases hin:decide ((d1,d2) ∈ ds ++ all) with
           | true=>
            rw [hin] at hlook
            have HOUT3:Hid (qout=(queue.take (k + 1)).filter fun d=>!decide (d ∈ ds ++ all)):=hid (by rw [HF.out,hin]; simp)
            clear HF HD hin hv
            go_wp2_with fail
            rw [<-HV.out]
            go_roundw
            case rel=>exact ⟨k + 1,q,qout,qb,qd,by omega,by go_num,by omega,hqd,HQ,HOUT3,HTv,HOv,HGv⟩
            case measure=>simp [intOf] <;> omega
           | false=>
            rw [hin] at hlook
            have HOUT3:Hid (qout ++ [(d1,d2)]=(queue.take (k + 1)).filter fun d=>!decide (d ∈ ds ++ all)):=hid (by rw [HF.out,hin]; simp)
            obtain ⟨va',vc',W',HRUN,hk4,hk5,ho5,hg5⟩:=box_push (j:=1) HQ.out HTv.out HOv.out (by omega) HGv.out d1 d2 (by omega)
            have hmc5:q + 1<=vc':=by obtain ⟨_,_,e,h⟩:=ownsRow_sliceN ho5; cases e; exact h
            have HM5:Hid (q + 1=(qout ++ [(d1,d2)]).length):=hid (by rw [List.length_append,<-HQ.out]; rfl)
            obtain ⟨t0,t1,t2,t3,t4⟩:=BK.c5 (show BK _ #[.slice wa nw wc,.slice qb q qd,.slice none 0 0,.slice va m vc,.bool false] _ _ from HTv.out)
            obtain ⟨e0,e1⟩:=BK.c2 (show BK _ #[.int .u64 d1,.int .u64 d2] _ _ from HD.out)
            obtain ⟨r0,r1,r2,r3,r4⟩:=BK.c5 (show BK _ #[.slice wa nw wc,.slice qb q qd,.slice none 0 0,.slice va m vc,.bool false] _ _ from hk4)
            obtain ⟨fr0,fr1,fr2,fr3,fr4⟩:=BK.f5 (hk4)
            rw [hv] at t0 t1 t2 t3 t4 e0 e1
            have hr2:=HRUN.out
            rw [hv,World.size_alloc] at hr2
            have HRUN2:=hid hr2
            have HK5:=hid hk5
            have HO5:=hid ho5
            have HG5:=hid hg5
            clear HF HD hk4 hk5 ho5 hg5 HTv HOv HGv hin hv HRUN hr2
            go_wp2_with (at_builtin; refine Lib.wpList_append_run _ rfl _ _ _ _ rfl _ _ rfl rfl _ _ HRUN2.out ?_)
            go_roundw
            case rel=>exact ⟨k + 1,q + 1,qout ++ [(d1,d2)],va',vc',by omega,by go_num,by omega,hmc5,HM5,HOUT3,HK5,HO5,HG5⟩
            case measure=>simp [intOf] <;> omega
          ·have hki:¬ (k:Int) < (nq:Int):=by omega
           have hkn2:queue.take k=queue:=List.take_of_length_le (by have:=HNQ.out; omega)
           rw [hkn2] at HQO
           have HX:Hid (R=(⟨want,qout,[],out,decide (qout=[])⟩,0)):=hid (by rw [HR3.out,HLT2.out,<-HOUT.out,<-HQO.out])
           have HE:Hid (Below w.heap.size w wr):=hid (HBj.out.grown HG.out HBj.out.size (fun j e=>by cases e; omega))
           have HE4:Hid (Below u4.heap.size u4 wr):=hid (HEj.out.grown HG.out HEj.out.size (fun j e=>by cases e; omega))
           have HOc:=hid (own_kept HOj.out HG.out (by omega))
           have HKr:=hid (HKQ2.out.below HE4.out)
           clear hkn2 HQO HOUT HR3 HLT2 HG HOj HDQ4 HEj HBj HS
           obtain ⟨bb,hbb⟩:∃ bb,bb=((q:Int) == 0):=⟨_,rfl⟩
           have HBB:Hid (decide (qout=[])=bb):=hid (by rw [hbb,HQ.out]; cases qout <;> simp <;> omega)
           obtain ⟨t0,t1,t2,t3,t4⟩:=BK.c5 (show BK _ #[.slice wa nw wc,.slice qb q qd,.slice none 0 0,.slice va m vc,.bool false] _ _ from HT.out)
           obtain ⟨ft0,ft1,ft2,ft3,ft4⟩:=BK.f5 (HT.out)
           obtain ⟨x1,hx1⟩:∃ x1,x1=wr.setCell ⟨u5.heap.size,4,none⟩ (.bool bb):=⟨_,rfl⟩
           have hk1:BK u5.heap.size #[.slice wa nw wc,.slice qb q qd,.slice none 0 0,.slice va m vc,.bool bb] 67 x1:=by rw [hx1]; exact HT.out.set 4 (.bool bb)
           have hg1:wr.grownBy x1 (some u5.heap.size):=by rw [hx1]; exact gset _ _ _ _
           have HBx:Hid (Below w.heap.size w x1):=hid (HE.out.grown hg1 HE.out.size (fun j e=>by cases e; omega))
           have HKx:Hid (BK (w.heap.size + 1) #[.slice none 0 0,.slice none 0 0,.slice none 0 0,.slice none 0 0,.bool false] 67 x1):=hid (HKr.out.grow1 hg1 (by omega))
           have HOx:=hid (own_kept HO.out hg1 (by omega))
           have HCx:=hid (own_kept HOc.out hg1 (by omega))
           have hbn:((q:Int) == 0)=bb:=hbb.symm
           obtain ⟨y0,y1,y2,y3,y4⟩:=BK.c5 (show BK _ #[.slice wa nw wc,.slice qb q qd,.slice none 0 0,.slice va m vc,.bool bb] _ _ from hk1)
           clear HT hg1 hk1 HO HOc HE HE4 HKr hbb
           have hts:=talk_set (HKx.out) (.slice wa nw wc) (.slice qb q qd) (.slice none 0 0) (.slice va m vc) (.bool bb)
           obtain ⟨W5,hW5⟩:∃ W5,W5=((((x1.setCell ⟨w.heap.size + 1,0,none⟩ (.slice wa nw wc)).setCell ⟨w.heap.size + 1,1,none⟩ (.slice qb q qd)).setCell ⟨w.heap.size + 1,2,none⟩ (.slice none 0 0)).setCell ⟨w.heap.size + 1,3,none⟩ (.slice va m vc)).setCell ⟨w.heap.size + 1,4,none⟩ (.bool bb):=⟨_,rfl⟩
           rw [<-hW5] at hts
           have HB5:=hid ((HBx.out).grown hts.2 (HBx.out).size (fun k e=>by cases e; omega))
           have HG5:=hid hts.2
           have HK5:=hid hts.1
           obtain ⟨g0,g1,g2,g3,g4⟩:=BK.c5 (show BK _ #[.slice wa nw wc,.slice qb q qd,.slice none 0 0,.slice va m vc,.bool bb] _ _ from HK5.out)
           obtain ⟨z0,z1,z2,z3,z4⟩:=BK.c5 (show BK _ #[.slice none 0 0,.slice none 0 0,.slice none 0 0,.slice none 0 0,.bool false] _ _ from HKx.out)
           obtain ⟨fz0,fz1,fz2,fz3,fz4⟩:=BK.f5 (HKx.out)
           rw [hx1] at hW5 z0 z1 z2 z3 z4 fz0 fz1 fz2 fz3 fz4 y0 y1 y2 y3 y4
           have HW5:=hid hW5
           clear hts hW5
           go_wp2_with fail
           rw [<-HW5.out]
           refine bodyPost_ret (v:=.tuple #[.agg #[.slice wa nw wc,.slice qb q qd,.slice none 0 0,.slice va m vc,.bool bb],.int .i64 0]) (by simp [results,Tryz.results40,go_sem,g0,g1,g2,g3,g4]) rfl ?_
           rw [HX.out]
           refine ⟨⟨wa,wc,qb,qd,none,0,va,vc⟩,?_,⟨HDW.out.ahead HB5.out,own_digs HQ.out (own_kept HOx.out HG5.out (by omega)),Digs.nil _ _ _,own_digs HM.out (own_kept HCx.out HG5.out (by omega)),HWC.out.1,by rw [<-HQ.out]; exact hqd,Nat.le_refl _,by rw [<-HM.out]; exact hmc⟩,HB5.out,⟨.inl rfl,new_own HOx.out (by omega),New.none _,.inr (new_own HCx.out (by omega))⟩⟩
           simp only [Tk.val,Tk.arr,<-HQ.out,<-HM.out,<-HNW.out,HBB.out]
           rfl
end Go.Proofs.YtfdahmicigpnoaaGreat
