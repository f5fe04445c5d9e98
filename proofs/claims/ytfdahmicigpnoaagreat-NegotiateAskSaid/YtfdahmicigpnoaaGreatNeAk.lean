/- negotiate.Ask. -/
import Derived.Test.YtfdahmicigpnoaaGreatNeVl
import Derived.Test.YtfdahmicigpnoaaGreatNeBx
set_option maxRecDepth 100000
set_option maxHeartbeats 16000000
open Go.Lib (hid)
namespace Go.Proofs.YtfdahmicigpnoaaGreat
open Go.RowKit Go.Shelf
set_option linter.unusedVariables false
theorem pick_most (most:Int) (h:¬ (most < 1\/1000 < most)) (nq:Nat) (hq:(nq:Int)<=45):min most (nq:Int)=((min most.toNat nq:Nat):Int):=by omega
theorem ask_any (a:Option Addr) (xs:List Itm) (c:Nat) (t:Tk) (A:TkA) (most:Int) (v:Bool) (w:World) (hp:PoolIn w a xs c) (hA:Asc xs) (hac:AcyS xs) (hxl:(xs.length:Int)<=500) (ht:TkIn w t A) (hb:TkB t) (hv:v=true ↔ ValidT xs t) :
  Calls Tryz.prog 36 #[t.val A,.slice a xs.length c,.int .i64 most] w (GotTL w A.wa A.ca (askS v t most)):=by
 have HVL:=hid (fun W (hW:Below w.heap.size w W)=>nvalid_any a xs c t A W (hp.below hW) hA hac hxl (ht.ahead hW) hb)
 have hRd:askS v t most=if v=false then (tk0,[],1) else if most < 1\/1000 < most then (tk0,[],2) else if t.done=true\/t.asked ≠ [] then (tk0,[],18) else (askT t (min most.toNat t.queue.length),t.queue.take (min most.toNat t.queue.length),0):=rfl
 obtain ⟨R,hR⟩:∃ R,R=askS v t most:=⟨_,rfl⟩
 rw [<-hR]
 rw [<-hR] at hRd
 have HR:=hid hRd
 have HV:=hid hv
 generalize hVT:ValidT xs t=VT at HVL HV
 have HIN:=hid ht
 have HTB:=hid hb
 obtain ⟨want,queue,asked,common,done⟩:=t
 obtain ⟨wa,wc,qa,qc,aa,ac,ca,cc⟩:=A
 simp only [Tk.val,Tk.arr,askT] at HVL HR ⊢
 have HDW:=hid HIN.out.w
 have HDQ:=hid HIN.out.q
 have HDC:=hid HIN.out.c
 have HWC:Hid (want.length<=wc/\common.length<=cc):=hid ⟨HIN.out.wl,HIN.out.cl⟩
 have hqc:=HIN.out.ql
 have l2:=HTB.out.ql
 simp only at HDW HDQ HDC hqc l2
 obtain ⟨nw,hnw⟩:∃ n,n=want.length:=⟨_,rfl⟩
 obtain ⟨nq,hnq⟩:∃ n,n=queue.length:=⟨_,rfl⟩
 obtain ⟨na,hna⟩:∃ n,n=asked.length:=⟨_,rfl⟩
 obtain ⟨nc,hnc⟩:∃ n,n=common.length:=⟨_,rfl⟩
 rw [<-hnw] at HVL ⊢
 rw [<-hnq] at l2 hqc HVL HR ⊢
 rw [<-hna] at HVL ⊢
 rw [<-hnc] at HVL ⊢
 have HNW:=hid hnw
 have HNQ:=hid hnq
 have HNA:=hid hna
 have HNC:=hid hnc
 obtain ⟨w0,hw0⟩:∃ w0,w0=(w.alloc (.cells #[.slice wa nw wc,.slice qa nq qc,.slice aa na ac,.slice ca nc cc,.bool done] 67)).alloc (.cells #[.slice none 0 0,.slice none 0 0,.slice none 0 0,.slice none 0 0,.bool false] 67):=⟨_,rfl⟩
 have HBX:Hid (BK w.heap.size #[.slice wa nw wc,.slice qa nq qc,.slice aa na ac,.slice ca nc cc,.bool done] 67 w0/\BK (w.heap.size + 1) #[.slice none 0 0,.slice none 0 0,.slice none 0 0,.slice none 0 0,.bool false] 67 w0/\Below w.heap.size w w0):=hid (by rw [hw0]; exact box2)
 have HT0:=hid HBX.out.1
 have HK0:=hid HBX.out.2.1
 have HB0:=hid HBX.out.2.2
 have HC1:=hid (HVL.out w0 HB0.out)
 rw [hw0] at HC1
 have HW0:=hid hw0
 generalize xs.length=nx at HC1 ⊢
 clear hw0 HBX HVL hnw hnq hna hnc hR hRd hp hA hac hxl ht hb hv HIN HTB
 go_enter Tryz.func36,Tryz.ntmps36
 go_wp2_with fail
 (with_reducible refine (HC1.out).mono ?_)
 rintro e u1 ⟨b,rfl,hbi,hb⟩
 rw [<-HW0.out] at hb
 have HB1:=hid (HB0.out.trans (hb.mono HB0.out.size))
 have HT1:=hid (HT0.out.below hb)
 have HK1:=hid (HK0.out.below hb)
 have hz1:w.heap.size + 2<=u1.heap.size:=HK1.out.lt
 have HBI:=hid hbi
 clear hb hbi HC1 HW0 HB0 HT0 HK0
 cases b with
 | false=>
  have hvf:v=false:=by
   cases hh:v with
   | false=>rfl
   | true=>have:=HBI.out.2 (HV.out.1 hh); cases this
  have HX:Hid (R=(tk0,[],1)):=hid (by rw [HR.out,if_pos hvf])
  clear hvf HR HBI HV
  have hts:=talk_set (HK1.out) (.slice none 0 0) (.slice none 0 0) (.slice none 0 0) (.slice none 0 0) (.bool false)
  obtain ⟨W5,hW5⟩:∃ W5,W5=((((u1.setCell ⟨w.heap.size + 1,0,none⟩ (.slice none 0 0)).setCell ⟨w.heap.size + 1,1,none⟩ (.slice none 0 0)).setCell ⟨w.heap.size + 1,2,none⟩ (.slice none 0 0)).setCell ⟨w.heap.size + 1,3,none⟩ (.slice none 0 0)).setCell ⟨w.heap.size + 1,4,none⟩ (.bool false):=⟨_,rfl⟩
  rw [<-hW5] at hts
  have HB5:=hid ((HB1.out).grown hts.2 (HB1.out).size (fun k e=>by cases e; omega))
  have HG5:=hid hts.2
  have HK5:=hid hts.1
  obtain ⟨g0,g1,g2,g3,g4⟩:=BK.c5 (show BK _ #[.slice none 0 0,.slice none 0 0,.slice none 0 0,.slice none 0 0,.bool false] _ _ from HK5.out)
  obtain ⟨z0,z1,z2,z3,z4⟩:=BK.c5 (show BK _ #[.slice none 0 0,.slice none 0 0,.slice none 0 0,.slice none 0 0,.bool false] _ _ from HK1.out)
  obtain ⟨fz0,fz1,fz2,fz3,fz4⟩:=BK.f5 (HK1.out)
  have HW5:=hid hW5
  clear hts hW5
  go_wp2_with fail
  rw [<-HW5.out]
  refine bodyPost_ret (v:=.tuple #[.agg #[.slice none 0 0,.slice none 0 0,.slice none 0 0,.slice none 0 0,.bool false],.slice none 0 0,.int .i64 1]) (by simp [results,Tryz.results36,go_sem,g0,g1,g2,g3,g4]) rfl ?_
  rw [HX.out]
  exact GotTL.bad 1 HB5.out
 | true=>
  have hVT1:=HBI.out.1 rfl
  have hvt:v=true:=HV.out.2 hVT1
  have HR1:Hid (R=if most < 1\/1000 < most then (tk0,[],2) else if done=true\/asked ≠ [] then (tk0,[],18) else (⟨want,queue.drop (min most.toNat nq),queue.take (min most.toNat nq),common,done⟩,queue.take (min most.toNat nq),0)):=hid (by rw [HR.out,if_neg (by rw [hvt]; simp)])
  clear hVT1 hvt HR HBI HV hVT
  obtain ⟨k0,k1,k2,k3,k4⟩:=BK.c5 (show BK _ #[.slice wa nw wc,.slice qa nq qc,.slice aa na ac,.slice ca nc cc,.bool done] _ _ from HT1.out)
  obtain ⟨fk0,fk1,fk2,fk3,fk4⟩:=BK.f5 (HT1.out)
  by_cases hm1:most < 1
  ·have HX:Hid (R=(tk0,[],2)):=hid (by rw [HR1.out,if_pos (.inl hm1)])
   clear HR1
   have hts:=talk_set (HK1.out) (.slice none 0 0) (.slice none 0 0) (.slice none 0 0) (.slice none 0 0) (.bool false)
   obtain ⟨W5,hW5⟩:∃ W5,W5=((((u1.setCell ⟨w.heap.size + 1,0,none⟩ (.slice none 0 0)).setCell ⟨w.heap.size + 1,1,none⟩ (.slice none 0 0)).setCell ⟨w.heap.size + 1,2,none⟩ (.slice none 0 0)).setCell ⟨w.heap.size + 1,3,none⟩ (.slice none 0 0)).setCell ⟨w.heap.size + 1,4,none⟩ (.bool false):=⟨_,rfl⟩
   rw [<-hW5] at hts
   have HB5:=hid ((HB1.out).grown hts.2 (HB1.out).size (fun k e=>by cases e; omega))
   have HG5:=hid hts.2
   have HK5:=hid hts.1
   obtain ⟨g0,g1,g2,g3,g4⟩:=BK.c5 (show BK _ #[.slice none 0 0,.slice none 0 0,.slice none 0 0,.slice none 0 0,.bool false] _ _ from HK5.out)
   obtain ⟨z0,z1,z2,z3,z4⟩:=BK.c5 (show BK _ #[.slice none 0 0,.slice none 0 0,.slice none 0 0,.slice none 0 0,.bool false] _ _ from HK1.out)
   obtain ⟨fz0,fz1,fz2,fz3,fz4⟩:=BK.f5 (HK1.out)
   have HW5:=hid hW5
   clear hts hW5
   go_wp2_with fail
   rw [<-HW5.out]
   refine bodyPost_ret (v:=.tuple #[.agg #[.slice none 0 0,.slice none 0 0,.slice none 0 0,.slice none 0 0,.bool false],.slice none 0 0,.int .i64 2]) (by simp [results,Tryz.results36,go_sem,g0,g1,g2,g3,g4]) rfl ?_
   rw [HX.out]
   exact GotTL.bad 2 HB5.out
  ·by_cases hm2:1000 < most
   ·have HX:Hid (R=(tk0,[],2)):=hid (by rw [HR1.out,if_pos (.inr hm2)])
    clear HR1
    have hts:=talk_set (HK1.out) (.slice none 0 0) (.slice none 0 0) (.slice none 0 0) (.slice none 0 0) (.bool false)
    obtain ⟨W5,hW5⟩:∃ W5,W5=((((u1.setCell ⟨w.heap.size + 1,0,none⟩ (.slice none 0 0)).setCell ⟨w.heap.size + 1,1,none⟩ (.slice none 0 0)).setCell ⟨w.heap.size + 1,2,none⟩ (.slice none 0 0)).setCell ⟨w.heap.size + 1,3,none⟩ (.slice none 0 0)).setCell ⟨w.heap.size + 1,4,none⟩ (.bool false):=⟨_,rfl⟩
    rw [<-hW5] at hts
    have HB5:=hid ((HB1.out).grown hts.2 (HB1.out).size (fun k e=>by cases e; omega))
    have HG5:=hid hts.2
    have HK5:=hid hts.1
    obtain ⟨g0,g1,g2,g3,g4⟩:=BK.c5 (show BK _ #[.slice none 0 0,.slice none 0 0,.slice none 0 0,.slice none 0 0,.bool false] _ _ from HK5.out)
    obtain ⟨z0,z1,z2,z3,z4⟩:=BK.c5 (show BK _ #[.slice none 0 0,.slice none 0 0,.slice none 0 0,.slice none 0 0,.bool false] _ _ from HK1.out)
    obtain ⟨fz0,fz1,fz2,fz3,fz4⟩:=BK.f5 (HK1.out)
    have HW5:=hid hW5
    clear hts hW5
    go_wp2_with fail
    rw [<-HW5.out]
    refine bodyPost_ret (v:=.tuple #[.agg #[.slice none 0 0,.slice none 0 0,.slice none 0 0,.slice none 0 0,.bool false],.slice none 0 0,.int .i64 2]) (by simp [results,Tryz.results36,go_sem,g0,g1,g2,g3,g4]) rfl ?_
    rw [HX.out]
    exact GotTL.bad 2 HB5.out
   ·have hmm:¬ (most < 1\/1000 < most):=by omega
    have HR2:Hid (R=if done=true\/asked ≠ [] then (tk0,[],18) else (⟨want,queue.drop (min most.toNat nq),queue.take (min most.toNat nq),common,done⟩,queue.take (min most.toNat nq),0)):=hid (by rw [HR1.out,if_neg hmm])
    clear HR1
    cases done with
    | true=>
     have HX:Hid (R=(tk0,[],18)):=hid (by rw [HR2.out,if_pos (.inl rfl)])
     clear HR2
     have hts:=talk_set (HK1.out) (.slice none 0 0) (.slice none 0 0) (.slice none 0 0) (.slice none 0 0) (.bool false)
     obtain ⟨W5,hW5⟩:∃ W5,W5=((((u1.setCell ⟨w.heap.size + 1,0,none⟩ (.slice none 0 0)).setCell ⟨w.heap.size + 1,1,none⟩ (.slice none 0 0)).setCell ⟨w.heap.size + 1,2,none⟩ (.slice none 0 0)).setCell ⟨w.heap.size + 1,3,none⟩ (.slice none 0 0)).setCell ⟨w.heap.size + 1,4,none⟩ (.bool false):=⟨_,rfl⟩
     rw [<-hW5] at hts
     have HB5:=hid ((HB1.out).grown hts.2 (HB1.out).size (fun k e=>by cases e; omega))
     have HG5:=hid hts.2
     have HK5:=hid hts.1
     obtain ⟨g0,g1,g2,g3,g4⟩:=BK.c5 (show BK _ #[.slice none 0 0,.slice none 0 0,.slice none 0 0,.slice none 0 0,.bool false] _ _ from HK5.out)
     obtain ⟨z0,z1,z2,z3,z4⟩:=BK.c5 (show BK _ #[.slice none 0 0,.slice none 0 0,.slice none 0 0,.slice none 0 0,.bool false] _ _ from HK1.out)
     obtain ⟨fz0,fz1,fz2,fz3,fz4⟩:=BK.f5 (HK1.out)
     have HW5:=hid hW5
     clear hts hW5
     go_wp2_with fail
     rw [<-HW5.out]
     refine bodyPost_ret (v:=.tuple #[.agg #[.slice none 0 0,.slice none 0 0,.slice none 0 0,.slice none 0 0,.bool false],.slice none 0 0,.int .i64 18]) (by simp [results,Tryz.results36,go_sem,g0,g1,g2,g3,g4]) rfl ?_
     rw [HX.out]
     exact GotTL.bad 18 HB5.out
    | false=>
     by_cases hna0:0 < na
     ·have hnai:(0:Int) < (na:Int):=by omega
      have hane:asked ≠ []:=fun e=>by
       have:=HNA.out
       rw [e,List.length_nil] at this
       omega
      have HX:Hid (R=(tk0,[],18)):=hid (by rw [HR2.out,if_pos (.inr hane)])
      clear hane
      clear HR2
      have hts:=talk_set (HK1.out) (.slice none 0 0) (.slice none 0 0) (.slice none 0 0) (.slice none 0 0) (.bool false)
      obtain ⟨W5,hW5⟩:∃ W5,W5=((((u1.setCell ⟨w.heap.size + 1,0,none⟩ (.slice none 0 0)).setCell ⟨w.heap.size + 1,1,none⟩ (.slice none 0 0)).setCell ⟨w.heap.size + 1,2,none⟩ (.slice none 0 0)).setCell ⟨w.heap.size + 1,3,none⟩ (.slice none 0 0)).setCell ⟨w.heap.size + 1,4,none⟩ (.bool false):=⟨_,rfl⟩
      rw [<-hW5] at hts
      have HB5:=hid ((HB1.out).grown hts.2 (HB1.out).size (fun k e=>by cases e; omega))
      have HG5:=hid hts.2
      have HK5:=hid hts.1
      obtain ⟨g0,g1,g2,g3,g4⟩:=BK.c5 (show BK _ #[.slice none 0 0,.slice none 0 0,.slice none 0 0,.slice none 0 0,.bool false] _ _ from HK5.out)
      obtain ⟨z0,z1,z2,z3,z4⟩:=BK.c5 (show BK _ #[.slice none 0 0,.slice none 0 0,.slice none 0 0,.slice none 0 0,.bool false] _ _ from HK1.out)
      obtain ⟨fz0,fz1,fz2,fz3,fz4⟩:=BK.f5 (HK1.out)
      have HW5:=hid hW5
      clear hts hW5
      go_wp2_with fail
      rw [<-HW5.out]
      refine bodyPost_ret (v:=.tuple #[.agg #[.slice none 0 0,.slice none 0 0,.slice none 0 0,.slice none 0 0,.bool false],.slice none 0 0,.int .i64 18]) (by simp [results,Tryz.results36,go_sem,g0,g1,g2,g3,g4]) rfl ?_
      rw [HX.out]
      exact GotTL.bad 18 HB5.out
     ·obtain rfl:na=0:=by omega
      obtain ⟨k,hk⟩:∃ k,k=min most.toNat nq:=⟨_,rfl⟩
      have hkq:k<=nq:=by omega
      have hmin:min most (nq:Int)=(k:Int):=by rw [hk]; exact pick_most most hmm nq l2
      have HR3:Hid (R=(⟨want,queue.drop k,queue.take k,common,false⟩,queue.take k,0)):=hid (by
       rw [HR2.out,if_neg ?_,<-hk]
       rintro (h | h)
       ·cases h
       ·exact h (List.length_eq_zero_iff.1 HNA.out.symm))
      obtain ⟨A1,c1,hds1,hsl1⟩:=dslice_hi qa nq qc k (by omega)
      obtain ⟨m,hm⟩:∃ m,m=nq - k:=⟨_,rfl⟩
      obtain ⟨A2,c2,hds2,hsl2⟩:=dslice_lo qa nq qc k m hkq hqc hm
      have htl:(queue.take k).length=k:=by rw [List.length_take,<-HNQ.out]; omega
      have hdl:(queue.drop k).length=m:=by rw [List.length_drop,<-HNQ.out]; omega
      have HC2:=hid (cloneD_any A1 (queue.take k) c1 u1 (hds1 _ _ _ (HDQ.out.ahead HB1.out)) (by rw [htl]; omega))
      have HCL:=hid (fun W (hW:Below w.heap.size w W)=>cloneD_any A2 (queue.drop k) c2 W (hds2 _ _ _ HNQ.out.symm (HDQ.out.ahead hW)) (by rw [hdl]; omega))
      rw [htl] at HC2
      rw [hdl] at HCL
      have HTL:=hid htl
      have HDL:=hid hdl
      clear HR2 hk hds1 hds2 htl hdl hm hmm hna0
      go_wp2_with fail
      (with_reducible refine (HC2.out).mono ?_)
      rintro e u2 ⟨ra,rc,rfl,hown,hb⟩
      rw [HTL.out] at hown ⊢
      have HB2:=hid (HB1.out.trans (hb.mono HB1.out.size))
      have HT2:=hid (HT1.out.below hb)
      have HK2:=hid (HK1.out.below hb)
      have HRA:=hid hown
      clear hown hb HC2 HB1 HT1 HK1 k0 k1 k2 k3 k4 fk0 fk1 fk2 fk3 fk4
      obtain ⟨k0,k1,k2,k3,k4⟩:=BK.c5 (show BK _ #[.slice wa nw wc,.slice qa nq qc,.slice aa 0 ac,.slice ca nc cc,.bool false] _ _ from HT2.out)
      obtain ⟨fk0,fk1,fk2,fk3,fk4⟩:=BK.f5 (HT2.out)
      obtain ⟨x2,hx2⟩:∃ x2,x2=u2.setCell ⟨w.heap.size,2,none⟩ (.slice ra k rc):=⟨_,rfl⟩
      have hg2:u2.grownBy x2 (some w.heap.size):=by rw [hx2]; exact gset _ _ _ _
      have HTx:Hid (BK w.heap.size #[.slice wa nw wc,.slice qa nq qc,.slice ra k rc,.slice ca nc cc,.bool false] 67 x2):=hid (by rw [hx2]; exact HT2.out.set 2 (.slice ra k rc))
      have HBx:Hid (Below w.heap.size w x2):=hid (HB2.out.grown hg2 HB2.out.size (fun j e=>by cases e; omega))
      have HKx:Hid (BK (w.heap.size + 1) #[.slice none 0 0,.slice none 0 0,.slice none 0 0,.slice none 0 0,.bool false] 67 x2):=hid (HK2.out.grow1 hg2 (by omega))
      have HRx:=hid (own_kept HRA.out hg2 (by omega))
      have HC3:=hid (HCL.out x2 HBx.out)
      obtain ⟨q0,q1,q2,q3,q4⟩:=BK.c5 (show BK _ #[.slice wa nw wc,.slice qa nq qc,.slice ra k rc,.slice ca nc cc,.bool false] _ _ from HTx.out)
      obtain ⟨fq0,fq1,fq2,fq3,fq4⟩:=BK.f5 (HTx.out)
      rw [hx2] at HC3 q0 q1 q2 q3 q4 fq0 fq1 fq2 fq3 fq4
      have HX2:=hid hx2
      clear hx2 hg2 HB2 HT2 HK2 HRA HCL
      go_wp2_with fail
      (with_reducible refine (HC3.out).mono ?_)
      rintro e u3 ⟨sa,sc,rfl,hown,hb⟩
      rw [<-HX2.out] at hown hb
      rw [HDL.out] at hown ⊢
      have HB3:=hid (HBx.out.trans (hb.mono HBx.out.size))
      have HT3:=hid (HTx.out.below hb)
      have HK3:=hid (HKx.out.below hb)
      have HR4:=hid (own_below HRx.out hb)
      have hbs:w.heap.size + 2<=x2.heap.size:=HKx.out.lt
      have HS4:=hid (own_le hown hbs)
      clear hown hb HC3 HX2 HBx HTx HKx HRx hsl1 hsl2 k0 k1 k2 k3 k4 fk0 fk1 fk2 fk3 fk4 q0 q1 q2 q3 q4 fq0 fq1 fq2 fq3 fq4
      obtain ⟨k0,k1,k2,k3,k4⟩:=BK.c5 (show BK _ #[.slice wa nw wc,.slice qa nq qc,.slice ra k rc,.slice ca nc cc,.bool false] _ _ from HT3.out)
      obtain ⟨fk0,fk1,fk2,fk3,fk4⟩:=BK.f5 (HT3.out)
      obtain ⟨x3,hx3⟩:∃ x3,x3=u3.setCell ⟨w.heap.size,1,none⟩ (.slice sa m sc):=⟨_,rfl⟩
      have hg3:u3.grownBy x3 (some w.heap.size):=by rw [hx3]; exact gset _ _ _ _
      have HTy:Hid (BK w.heap.size #[.slice wa nw wc,.slice sa m sc,.slice ra k rc,.slice ca nc cc,.bool false] 67 x3):=hid (by rw [hx3]; exact HT3.out.set 1 (.slice sa m sc))
      have HBy:Hid (Below w.heap.size w x3):=hid (HB3.out.grown hg3 HB3.out.size (fun j e=>by cases e; omega))
      have HKy:Hid (BK (w.heap.size + 1) #[.slice none 0 0,.slice none 0 0,.slice none 0 0,.slice none 0 0,.bool false] 67 x3):=hid (HK3.out.grow1 hg3 (by omega))
      have HRy:=hid (own_kept HR4.out hg3 (by omega))
      have HSy:=hid (own_kept HS4.out hg3 (by omega))
      have hzx:w.heap.size + 2<=x3.heap.size:=HKy.out.lt
      have HX3:=hid hx3
      clear hx3 hg3 HB3 HT3 HK3 HR4 HS4
      go_upto_region 11 with (fail)
      rw [<-HX3.out]
      clear HX3 k0 k1 k2 k3 k4 fk0 fk1 fk2 fk3 fk4
      have HST:Hid (∀ u,Below x3.heap.size x3 u->BK (w.heap.size + 1) #[.slice wa nw wc,.slice sa m sc,.slice ra k rc,.slice ca nc cc,.bool false] 67 (((((u.setCell ⟨w.heap.size + 1,0,none⟩ (.slice wa nw wc)).setCell ⟨w.heap.size + 1,1,none⟩ (.slice sa m sc)).setCell ⟨w.heap.size + 1,2,none⟩ (.slice ra k rc)).setCell ⟨w.heap.size + 1,3,none⟩ (.slice ca nc cc)).setCell ⟨w.heap.size + 1,4,none⟩ (.bool false))/\u.grownBy (((((u.setCell ⟨w.heap.size + 1,0,none⟩ (.slice wa nw wc)).setCell ⟨w.heap.size + 1,1,none⟩ (.slice sa m sc)).setCell ⟨w.heap.size + 1,2,none⟩ (.slice ra k rc)).setCell ⟨w.heap.size + 1,3,none⟩ (.slice ca nc cc)).setCell ⟨w.heap.size + 1,4,none⟩ (.bool false)) (some (w.heap.size + 1))):=hid (fun u hu=>talk_set (HKy.out.below hu) _ _ _ _ _)
      have HGA:Hid (∀ u,Below x3.heap.size x3 u->(((((u.setCell ⟨w.heap.size + 1,0,none⟩ (.slice wa nw wc)).setCell ⟨w.heap.size + 1,1,none⟩ (.slice sa m sc)).setCell ⟨w.heap.size + 1,2,none⟩ (.slice ra k rc)).setCell ⟨w.heap.size + 1,3,none⟩ (.slice ca nc cc)).setCell ⟨w.heap.size + 1,4,none⟩ (.bool false)).cell? ⟨w.heap.size + 1,0,none⟩=some (.slice wa nw wc)/\(((((u.setCell ⟨w.heap.size + 1,0,none⟩ (.slice wa nw wc)).setCell ⟨w.heap.size + 1,1,none⟩ (.slice sa m sc)).setCell ⟨w.heap.size + 1,2,none⟩ (.slice ra k rc)).setCell ⟨w.heap.size + 1,3,none⟩ (.slice ca nc cc)).setCell ⟨w.heap.size + 1,4,none⟩ (.bool false)).cell? ⟨w.heap.size + 1,1,none⟩=some (.slice sa m sc)/\(((((u.setCell ⟨w.heap.size + 1,0,none⟩ (.slice wa nw wc)).setCell ⟨w.heap.size + 1,1,none⟩ (.slice sa m sc)).setCell ⟨w.heap.size + 1,2,none⟩ (.slice ra k rc)).setCell ⟨w.heap.size + 1,3,none⟩ (.slice ca nc cc)).setCell ⟨w.heap.size + 1,4,none⟩ (.bool false)).cell? ⟨w.heap.size + 1,2,none⟩=some (.slice ra k rc)/\(((((u.setCell ⟨w.heap.size + 1,0,none⟩ (.slice wa nw wc)).setCell ⟨w.heap.size + 1,1,none⟩ (.slice sa m sc)).setCell ⟨w.heap.size + 1,2,none⟩ (.slice ra k rc)).setCell ⟨w.heap.size + 1,3,none⟩ (.slice ca nc cc)).setCell ⟨w.heap.size + 1,4,none⟩ (.bool false)).cell? ⟨w.heap.size + 1,3,none⟩=some (.slice ca nc cc)/\(((((u.setCell ⟨w.heap.size + 1,0,none⟩ (.slice wa nw wc)).setCell ⟨w.heap.size + 1,1,none⟩ (.slice sa m sc)).setCell ⟨w.heap.size + 1,2,none⟩ (.slice ra k rc)).setCell ⟨w.heap.size + 1,3,none⟩ (.slice ca nc cc)).setCell ⟨w.heap.size + 1,4,none⟩ (.bool false)).cell? ⟨w.heap.size + 1,4,none⟩=some (.bool false)):=hid (fun u hu=>by
       have hk:=(HST.out u hu).1
       refine ⟨?_,?_,?_,?_,?_⟩ <;> (rw [hk.cell]; rfl))
      have HRB:Hid (∀ u oa oc W',W'.ownsRow x3.heap.size 41 2 (.slice oa k oc) k (dcells (queue.take k))->k<=oc->Below x3.heap.size x3 u->u.grownBy W' (some (w.heap.size + 1))->GotTL w wa ca R (.returned (.tuple #[.agg #[.slice wa nw wc,.slice sa m sc,.slice ra k rc,.slice ca nc cc,.bool false],.slice oa k oc,.int .i64 0])) W'):=hid (fun u oa oc W' ho hoc hu hg=>by
       rw [HR3.out]
       have hbu:=HBy.out.trans (hu.mono HBy.out.size)
       have hW:Below w.heap.size w W':=hbu.grown hg hbu.size (fun j e=>by cases e; omega)
       have hrt:=own_kept (own_below HRy.out hu) hg (by omega)
       have hst:=own_kept (own_below HSy.out hu) hg (by omega)
       refine ⟨⟨wa,wc,sa,sc,ra,rc,ca,cc⟩,oa,oc,?_,⟨HDW.out.ahead hW,own_digs HDL.out.symm hst,own_digs HTL.out.symm hrt,HDC.out.ahead hW,HWC.out.1,?_,?_,HWC.out.2⟩,own_digs HTL.out.symm ho,by show (queue.take k).length<=oc; rw [HTL.out]; exact hoc,hW,⟨.inl rfl,new_own hst (by omega),new_own hrt (by omega),.inl rfl⟩⟩
       ·simp only [Tk.val,Tk.arr,HDL.out,HTL.out,<-HNW.out,<-HNC.out]
       ·show (queue.drop k).length<=sc
        rw [HDL.out]; obtain ⟨_,_,e,h⟩:=ownsRow_sliceN hst; cases e; exact h
       ·show (queue.take k).length<=rc
        rw [HTL.out]; obtain ⟨_,_,e,h⟩:=ownsRow_sliceN hrt; cases e; exact h)
      have HDR:=hid (own_digs HTL.out.symm HRy.out)
      have hd3:Below x3.heap.size x3 x3.drew:=(Below.refl _ _).drew
      have HCA:=hid (cloneD_any ra (queue.take k) rc x3.drew (HDR.out.ahead hd3) (by rw [HTL.out]; omega))
      obtain ⟨W5,hW5⟩:∃ W5,W5=((((x3.setCell ⟨w.heap.size + 1,0,none⟩ (.slice wa nw wc)).setCell ⟨w.heap.size + 1,1,none⟩ (.slice sa m sc)).setCell ⟨w.heap.size + 1,2,none⟩ (.slice ra k rc)).setCell ⟨w.heap.size + 1,3,none⟩ (.slice ca nc cc)).setCell ⟨w.heap.size + 1,4,none⟩ (.bool false):=⟨_,rfl⟩
      have hg5:x3.grownBy W5 (some (w.heap.size + 1)):=by rw [hW5]; exact (HST.out x3 (Below.refl _ _)).2
      have hk5:BK (w.heap.size + 1) #[.slice wa nw wc,.slice sa m sc,.slice ra k rc,.slice ca nc cc,.bool false] 67 W5:=by rw [hW5]; exact (HST.out x3 (Below.refl _ _)).1
      have HG5:=hid hg5
      have HK5:=hid hk5
      have HDW5:Hid (Digs W5.heap.size W5 ra (queue.take k)):=hid (own_digs HTL.out.symm (own_kept HRy.out hg5 (by omega)))
      have hd5:Below W5.heap.size W5 W5.drew:=(Below.refl _ _).drew
      have HCB:=hid (cloneD_any ra (queue.take k) rc W5.drew (HDW5.out.ahead hd5) (by rw [HTL.out]; omega))
      rw [HTL.out] at HCA HCB
      have HTA:Hid (∀ u,Below x3.heap.size x3 u->u.cell? ⟨w.heap.size,0,none⟩=some (.slice wa nw wc)/\u.cell? ⟨w.heap.size,1,none⟩=some (.slice sa m sc)/\u.cell? ⟨w.heap.size,2,none⟩=some (.slice ra k rc)/\u.cell? ⟨w.heap.size,3,none⟩=some (.slice ca nc cc)/\u.cell? ⟨w.heap.size,4,none⟩=some (.bool false)):=hid (fun u hu=>by
       have hk:=HTy.out.below hu
       refine ⟨?_,?_,?_,?_,?_⟩ <;> (rw [hk.cell]; rfl))
      have HZA:Hid (∀ u,Below x3.heap.size x3 u->u.cell? ⟨w.heap.size + 1,0,none⟩=some (.slice none 0 0)/\u.cell? ⟨w.heap.size + 1,1,none⟩=some (.slice none 0 0)/\u.cell? ⟨w.heap.size + 1,2,none⟩=some (.slice none 0 0)/\u.cell? ⟨w.heap.size + 1,3,none⟩=some (.slice none 0 0)/\u.cell? ⟨w.heap.size + 1,4,none⟩=some (.bool false)):=hid (fun u hu=>by
       have hk:=HKy.out.below hu
       refine ⟨?_,?_,?_,?_,?_⟩ <;> (rw [hk.cell]; rfl))
      have HFA:Hid (∀ u,Below x3.heap.size x3 u->u.frozen? ⟨w.heap.size + 1,0,none⟩=false/\u.frozen? ⟨w.heap.size + 1,1,none⟩=false/\u.frozen? ⟨w.heap.size + 1,2,none⟩=false/\u.frozen? ⟨w.heap.size + 1,3,none⟩=false/\u.frozen? ⟨w.heap.size + 1,4,none⟩=false):=hid (fun u hu=>by
       have hk:=HKy.out.below hu
       exact ⟨hk.frozen 0,hk.frozen 1,hk.frozen 2,hk.frozen 3,hk.frozen 4⟩)
      obtain ⟨q0,q1,q2,q3,q4⟩:=HTA.out x3 (Below.refl _ _)
      obtain ⟨fz0,fz1,fz2,fz3,fz4⟩:=HFA.out x3 (Below.refl _ _)
      obtain ⟨z0,z1,z2,z3,z4⟩:=HZA.out x3 (Below.refl _ _)
      rw [hW5] at HCB
      have HW5:=hid hW5
      clear hW5 hg5 hk5 hd3 hd5 HDR HDW5 HRy HSy HBy HKy HTy
      go_region_law
       (first
       | (go_simp; (with_reducible refine (HCA.out).mono ?_); rintro e u6 ⟨oa,oc,rfl,hown6,hb6⟩; (have hb6':Below x3.heap.size x3 u6:=((Below.refl _ _).drew).trans (hb6.mono (Nat.le_refl _))); (rw [HTL.out] at hown6 ⊢); (have HRET:=hid (HRB.out u6 oa oc)); (obtain ⟨y0,y1,y2,y3,y4⟩:=HTA.out u6 hb6'); (obtain ⟨fy0,fy1,fy2,fy3,fy4⟩:=HFA.out u6 hb6'); (obtain ⟨zy0,zy1,zy2,zy3,zy4⟩:=HZA.out u6 hb6'))
       | (go_simp; (with_reducible refine (HCB.out).mono ?_); rintro e u7 ⟨oa,oc,rfl,hown7,hb7⟩; (rw [HTL.out] at hown7 ⊢))
       | fail)
      all_goals
       go_wp2_with fail
       first
       | (
         obtain ⟨g0,g1,g2,g3,g4⟩:=HGA.out u6 hb6'
         refine bodyPost_ret (v:=.tuple #[.agg #[.slice wa nw wc,.slice sa m sc,.slice ra k rc,.slice ca nc cc,.bool false],.slice oa k oc,.int .i64 0]) (by simp [results,Tryz.results36,go_sem,g0,g1,g2,g3,g4]) rfl ?_
         have hg6:=(HST.out u6 hb6').2
         exact HRET.out _ (own_kept hown6 hg6 (by show w.heap.size + 1 < x3.heap.size; omega)) (by obtain ⟨_,_,e,h⟩:=ownsRow_sliceN hown6; cases e; exact h) hb6' hg6)
       | (
         rw [<-HW5.out] at hown7 hb7
         have hb7':Below W5.heap.size W5 u7:=((Below.refl _ _).drew).trans (hb7.mono (Nat.le_refl _))
         have hk7:=HK5.out.below hb7'
         have g0:u7.cell? ⟨w.heap.size + 1,0,none⟩=some (.slice wa nw wc):=by rw [hk7.cell]; rfl
         have g1:u7.cell? ⟨w.heap.size + 1,1,none⟩=some (.slice sa m sc):=by rw [hk7.cell]; rfl
         have g2:u7.cell? ⟨w.heap.size + 1,2,none⟩=some (.slice ra k rc):=by rw [hk7.cell]; rfl
         have g3:u7.cell? ⟨w.heap.size + 1,3,none⟩=some (.slice ca nc cc):=by rw [hk7.cell]; rfl
         have g4:u7.cell? ⟨w.heap.size + 1,4,none⟩=some (.bool false):=by rw [hk7.cell]; rfl
         refine bodyPost_ret (v:=.tuple #[.agg #[.slice wa nw wc,.slice sa m sc,.slice ra k rc,.slice ca nc cc,.bool false],.slice oa k oc,.int .i64 0]) (by simp [results,Tryz.results36,go_sem,g0,g1,g2,g3,g4]) rfl ?_
         exact HRB.out x3 oa oc u7 (own_le hown7 (by have:=HG5.out.size; exact this)) (by obtain ⟨_,_,e,h⟩:=ownsRow_sliceN hown7; cases e; exact h) (Below.refl _ _) (gbel HG5.out hb7'))
end Go.Proofs.YtfdahmicigpnoaaGreat
