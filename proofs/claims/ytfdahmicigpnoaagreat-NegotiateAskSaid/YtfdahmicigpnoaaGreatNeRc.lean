/- The reference: Ask, Learn. -/
import Derived.Test.YtfdahmicigpnoaaGreatNeRb
import Derived.Test.YtfdahmicigpnoaaGreatNeVl
import Derived.Test.YtfdahmicigpnoaaGreatNeAk
import Derived.Test.YtfdahmicigpnoaaGreatNeRt
set_option maxRecDepth 100000
set_option maxHeartbeats 16000000
open Go.Lib (hid)
namespace Go.Proofs.YtfdahmicigpnoaaGreat
open Go.RowKit Go.Shelf
set_option linter.unusedVariables false
def GotRTL (w:World) (r:Tk × List (Int × Int) × Int) (e:Ending) (w':World):Prop:=∃ A la lc,e = .returned (.tuple #[r.1.val A,.slice la r.2.1.length lc,.int .i64 r.2.2])/\TkDg w' r.1 A/\Digs w'.heap.size w' la r.2.1/\Below w.heap.size w w'
theorem GotRTL.bad {w w':World} (la:Option Addr) (er:Int) (h:Below w.heap.size w w'):GotRTL w (tk0,[],er) (.returned (.tuple #[.agg #[.slice none 0 0,.slice none 0 0,.slice none 0 0,.slice none 0 0,.bool false],.slice la 0 0,.int .i64 er])) w':=⟨TkA0,la,0,rfl,TkDg.zero _ _,Digs.nil _ _ _,h⟩
theorem rask_any (a:Option Addr) (xs:List Itm) (c:Nat) (t:Tk) (A:TkA) (most:Int) (v:Bool) (w:World) (hp:Its w.heap.size w a xs) (hA:Asc xs) (hac:AcyS xs) (hn:(xs.length:Int)<=500) (hd:∀ x ∈ xs,(x.data.length:Int)<=1000000) (ht:TkIn w t A) (hb:TkB t) (hv:v=true ↔ ValidT xs t) :
  Calls Tryz.prog 37 #[t.val A,.slice a xs.length c,.int .i64 most] w (GotRTL w (askS v t most)):=by
 have HVL:=hid (fun W (hW:Below w.heap.size w W)=>tvalid_any a xs c t A W (hp.ahead hW) hA hac hn hd (ht.ahead hW) hb)
 have hRd:askS v t most=if v=false then (tk0,[],1) else if most < 1\/1000 < most then (tk0,[],2) else if t.done=true\/t.asked ≠ [] then (tk0,[],18) else (askT t (min most.toNat t.queue.length),t.queue.take (min most.toNat t.queue.length),0):=rfl
 obtain ⟨R,hR⟩:∃ R,R=askS v t most:=⟨_,rfl⟩
 rw [<-hR]
 rw [<-hR] at hRd
 have HR:=hid hRd
 have HV:=hid hv
 generalize hVT:ValidT xs t=VT at HVL HV
 simp only [askT] at HR
 obtain ⟨want,queue,asked,common,done⟩:=t
 obtain ⟨wa,wc,qa,qc,aa,ac,ca,cc⟩:=A
 simp only [Tk.val,Tk.arr] at HVL HR ⊢
 have HDW:=hid ht.w
 have HDQ:=hid ht.q
 have HDA:=hid ht.a
 have HDC:=hid ht.c
 have hqc:=ht.ql
 have l1:=hb.wl
 have l2:=hb.ql
 have l3:=hb.al
 have l4:=hb.cl
 have HOC:=hid hb.co
 have HOA:=hid hb.ao
 simp only at HDW HDQ HDA HDC hqc l1 l2 l3 l4 HOC HOA
 obtain ⟨nw,hnw⟩:∃ n,n=want.length:=⟨_,rfl⟩
 obtain ⟨nq,hnq⟩:∃ n,n=queue.length:=⟨_,rfl⟩
 obtain ⟨na,hna⟩:∃ n,n=asked.length:=⟨_,rfl⟩
 obtain ⟨nc,hnc⟩:∃ n,n=common.length:=⟨_,rfl⟩
 rw [<-hnw] at l1 HVL ⊢
 rw [<-hnq] at l2 hqc HVL HR ⊢
 rw [<-hna] at l3 HVL ⊢
 rw [<-hnc] at l4 HVL ⊢
 have HNW:=hid hnw
 have HNQ:=hid hnq
 have HNA:=hid hna
 have HNC:=hid hnc
 obtain ⟨w0,hw0⟩:∃ w0,w0=(w.alloc (.cells #[.slice wa nw wc,.slice qa nq qc,.slice aa na ac,.slice ca nc cc,.bool done] 67)).alloc (.cells #[.slice none 0 0,.slice none 0 0,.slice none 0 0,.slice none 0 0,.bool false] 67):=⟨_,rfl⟩
 have HBX:Hid (BK w.heap.size #[.slice wa nw wc,.slice qa nq qc,.slice aa na ac,.slice ca nc cc,.bool done] 67 w0/\BK (w.heap.size + 1) #[.slice none 0 0,.slice none 0 0,.slice none 0 0,.slice none 0 0,.bool false] 67 w0/\Below w.heap.size w w0):=hid (by rw [hw0]; exact box2)
 have HT0:=hid HBX.out.1
 have HK0:=hid HBX.out.2.1
 have HB0:=hid HBX.out.2.2
 have HC1:=hid (HVL.out w0 HB0.out)
 rw [hw0] at HC1
 have HW0:=hid hw0
 generalize xs.length=nx at HC1 ⊢
 clear hw0 HBX HVL hnw hnq hna hnc hR hRd hp hA hac hn hd ht hb hv HOC HOA
 go_enter Tryz.func37,Tryz.ntmps37
 go_wp2_with fail
 (with_reducible refine (HC1.out).mono ?_)
 rintro e u1 ⟨b,rfl,hbi,hb⟩
 rw [<-HW0.out] at hb
 have HB1:=hid (HB0.out.trans (hb.mono HB0.out.size))
 have HT1:=hid (HT0.out.below hb)
 have HK1:=hid (HK0.out.below hb)
 have hz1:w.heap.size + 2<=u1.heap.size:=HK1.out.lt
 have HBI:=hid hbi
 clear hb hbi HC1 HW0 HB0 HT0 HK0
 cases b with
 | false=>
  have hvf:v=false:=by
   cases hh:v with
   | false=>rfl
   | true=>have:=HBI.out.2 (HV.out.1 hh); cases this
  have HX:Hid (R=(tk0,[],1)):=hid (by rw [HR.out,if_pos hvf])
  clear hvf HR HBI HV
  obtain ⟨v1,hv1⟩:∃ v1,v1=u1.alloc (.cells #[] 41):=⟨_,rfl⟩
  have HBv:Hid (Below w.heap.size w v1):=hid (by rw [hv1]; exact HB1.out.alloc HB1.out.size _)
  have HKv:Hid (BK (w.heap.size + 1) #[.slice none 0 0,.slice none 0 0,.slice none 0 0,.slice none 0 0,.bool false] 67 v1):=hid (by rw [hv1]; exact HK1.out.alloc _)
  have hts:=talk_set (HKv.out) (.slice none 0 0) (.slice none 0 0) (.slice none 0 0) (.slice none 0 0) (.bool false)
  obtain ⟨W5,hW5⟩:∃ W5,W5=((((v1.setCell ⟨w.heap.size + 1,0,none⟩ (.slice none 0 0)).setCell ⟨w.heap.size + 1,1,none⟩ (.slice none 0 0)).setCell ⟨w.heap.size + 1,2,none⟩ (.slice none 0 0)).setCell ⟨w.heap.size + 1,3,none⟩ (.slice none 0 0)).setCell ⟨w.heap.size + 1,4,none⟩ (.bool false):=⟨_,rfl⟩
  rw [<-hW5] at hts
  have HB5:=hid ((HBv.out).grown hts.2 (HBv.out).size (fun k e=>by cases e; omega))
  have HG5:=hid hts.2
  have HK5:=hid hts.1
  obtain ⟨g0,g1,g2,g3,g4⟩:=BK.c5 (show BK _ #[.slice none 0 0,.slice none 0 0,.slice none 0 0,.slice none 0 0,.bool false] _ _ from HK5.out)
  obtain ⟨z0,z1,z2,z3,z4⟩:=BK.c5 (show BK _ #[.slice none 0 0,.slice none 0 0,.slice none 0 0,.slice none 0 0,.bool false] _ _ from HKv.out)
  obtain ⟨fz0,fz1,fz2,fz3,fz4⟩:=BK.f5 (HKv.out)
  rw [hv1] at hW5 z0 z1 z2 z3 z4 fz0 fz1 fz2 fz3 fz4
  have HW5:=hid hW5
  clear hts hW5
  clear hv1
  go_wp2_with fail
  rw [<-HW5.out]
  refine bodyPost_ret (v:=.tuple #[.agg #[.slice none 0 0,.slice none 0 0,.slice none 0 0,.slice none 0 0,.bool false],.slice (some ⟨u1.heap.size,0,none⟩) 0 0,.int .i64 1]) (by simp [results,Tryz.results37,go_sem,g0,g1,g2,g3,g4]) rfl ?_
  rw [HX.out]
  exact GotRTL.bad _ 1 HB5.out
 | true=>
  have hVT1:=HBI.out.1 rfl
  have hvt:v=true:=HV.out.2 hVT1
  have HR1:Hid (R=if most < 1\/1000 < most then (tk0,[],2) else if done=true\/asked ≠ [] then (tk0,[],18) else (⟨want,queue.drop (min most.toNat nq),queue.take (min most.toNat nq),common,done⟩,queue.take (min most.toNat nq),0)):=hid (by rw [HR.out,if_neg (by rw [hvt]; simp)])
  clear hVT1 hvt HR HBI HV hVT
  obtain ⟨k0,k1,k2,k3,k4⟩:=BK.c5 (show BK _ #[.slice wa nw wc,.slice qa nq qc,.slice aa na ac,.slice ca nc cc,.bool done] _ _ from HT1.out)
  obtain ⟨fk0,fk1,fk2,fk3,fk4⟩:=BK.f5 (HT1.out)
  by_cases hm1:most < 1
  ·have HX:Hid (R=(tk0,[],2)):=hid (by rw [HR1.out,if_pos (.inl hm1)])
   clear HR1
   obtain ⟨v1,hv1⟩:∃ v1,v1=u1.alloc (.cells #[] 41):=⟨_,rfl⟩
   have HBv:Hid (Below w.heap.size w v1):=hid (by rw [hv1]; exact HB1.out.alloc HB1.out.size _)
   have HKv:Hid (BK (w.heap.size + 1) #[.slice none 0 0,.slice none 0 0,.slice none 0 0,.slice none 0 0,.bool false] 67 v1):=hid (by rw [hv1]; exact HK1.out.alloc _)
   have hts:=talk_set (HKv.out) (.slice none 0 0) (.slice none 0 0) (.slice none 0 0) (.slice none 0 0) (.bool false)
   obtain ⟨W5,hW5⟩:∃ W5,W5=((((v1.setCell ⟨w.heap.size + 1,0,none⟩ (.slice none 0 0)).setCell ⟨w.heap.size + 1,1,none⟩ (.slice none 0 0)).setCell ⟨w.heap.size + 1,2,none⟩ (.slice none 0 0)).setCell ⟨w.heap.size + 1,3,none⟩ (.slice none 0 0)).setCell ⟨w.heap.size + 1,4,none⟩ (.bool false):=⟨_,rfl⟩
   rw [<-hW5] at hts
   have HB5:=hid ((HBv.out).grown hts.2 (HBv.out).size (fun k e=>by cases e; omega))
   have HG5:=hid hts.2
   have HK5:=hid hts.1
   obtain ⟨g0,g1,g2,g3,g4⟩:=BK.c5 (show BK _ #[.slice none 0 0,.slice none 0 0,.slice none 0 0,.slice none 0 0,.bool false] _ _ from HK5.out)
   obtain ⟨z0,z1,z2,z3,z4⟩:=BK.c5 (show BK _ #[.slice none 0 0,.slice none 0 0,.slice none 0 0,.slice none 0 0,.bool false] _ _ from HKv.out)
   obtain ⟨fz0,fz1,fz2,fz3,fz4⟩:=BK.f5 (HKv.out)
   rw [hv1] at hW5 z0 z1 z2 z3 z4 fz0 fz1 fz2 fz3 fz4
   have HW5:=hid hW5
   clear hts hW5
   clear hv1
   go_wp2_with fail
   rw [<-HW5.out]
   refine bodyPost_ret (v:=.tuple #[.agg #[.slice none 0 0,.slice none 0 0,.slice none 0 0,.slice none 0 0,.bool false],.slice (some ⟨u1.heap.size,0,none⟩) 0 0,.int .i64 2]) (by simp [results,Tryz.results37,go_sem,g0,g1,g2,g3,g4]) rfl ?_
   rw [HX.out]
   exact GotRTL.bad _ 2 HB5.out
  ·by_cases hm2:1000 < most
   ·have HX:Hid (R=(tk0,[],2)):=hid (by rw [HR1.out,if_pos (.inr hm2)])
    clear HR1
    obtain ⟨v1,hv1⟩:∃ v1,v1=u1.alloc (.cells #[] 41):=⟨_,rfl⟩
    have HBv:Hid (Below w.heap.size w v1):=hid (by rw [hv1]; exact HB1.out.alloc HB1.out.size _)
    have HKv:Hid (BK (w.heap.size + 1) #[.slice none 0 0,.slice none 0 0,.slice none 0 0,.slice none 0 0,.bool false] 67 v1):=hid (by rw [hv1]; exact HK1.out.alloc _)
    have hts:=talk_set (HKv.out) (.slice none 0 0) (.slice none 0 0) (.slice none 0 0) (.slice none 0 0) (.bool false)
    obtain ⟨W5,hW5⟩:∃ W5,W5=((((v1.setCell ⟨w.heap.size + 1,0,none⟩ (.slice none 0 0)).setCell ⟨w.heap.size + 1,1,none⟩ (.slice none 0 0)).setCell ⟨w.heap.size + 1,2,none⟩ (.slice none 0 0)).setCell ⟨w.heap.size + 1,3,none⟩ (.slice none 0 0)).setCell ⟨w.heap.size + 1,4,none⟩ (.bool false):=⟨_,rfl⟩
    rw [<-hW5] at hts
    have HB5:=hid ((HBv.out).grown hts.2 (HBv.out).size (fun k e=>by cases e; omega))
    have HG5:=hid hts.2
    have HK5:=hid hts.1
    obtain ⟨g0,g1,g2,g3,g4⟩:=BK.c5 (show BK _ #[.slice none 0 0,.slice none 0 0,.slice none 0 0,.slice none 0 0,.bool false] _ _ from HK5.out)
    obtain ⟨z0,z1,z2,z3,z4⟩:=BK.c5 (show BK _ #[.slice none 0 0,.slice none 0 0,.slice none 0 0,.slice none 0 0,.bool false] _ _ from HKv.out)
    obtain ⟨fz0,fz1,fz2,fz3,fz4⟩:=BK.f5 (HKv.out)
    rw [hv1] at hW5 z0 z1 z2 z3 z4 fz0 fz1 fz2 fz3 fz4
    have HW5:=hid hW5
    clear hts hW5
    clear hv1
    go_wp2_with fail
    rw [<-HW5.out]
    refine bodyPost_ret (v:=.tuple #[.agg #[.slice none 0 0,.slice none 0 0,.slice none 0 0,.slice none 0 0,.bool false],.slice (some ⟨u1.heap.size,0,none⟩) 0 0,.int .i64 2]) (by simp [results,Tryz.results37,go_sem,g0,g1,g2,g3,g4]) rfl ?_
    rw [HX.out]
    exact GotRTL.bad _ 2 HB5.out
   ·have hmm:¬ (most < 1\/1000 < most):=by omega
    have HR2:Hid (R=if done=true\/asked ≠ [] then (tk0,[],18) else (⟨want,queue.drop (min most.toNat nq),queue.take (min most.toNat nq),common,done⟩,queue.take (min most.toNat nq),0)):=hid (by rw [HR1.out,if_neg hmm])
    clear HR1
    cases done with
    | true=>
     have HX:Hid (R=(tk0,[],18)):=hid (by rw [HR2.out,if_pos (.inl rfl)])
     clear HR2 hmm
     obtain ⟨v1,hv1⟩:∃ v1,v1=u1.alloc (.cells #[] 41):=⟨_,rfl⟩
     have HBv:Hid (Below w.heap.size w v1):=hid (by rw [hv1]; exact HB1.out.alloc HB1.out.size _)
     have HKv:Hid (BK (w.heap.size + 1) #[.slice none 0 0,.slice none 0 0,.slice none 0 0,.slice none 0 0,.bool false] 67 v1):=hid (by rw [hv1]; exact HK1.out.alloc _)
     have hts:=talk_set (HKv.out) (.slice none 0 0) (.slice none 0 0) (.slice none 0 0) (.slice none 0 0) (.bool false)
     obtain ⟨W5,hW5⟩:∃ W5,W5=((((v1.setCell ⟨w.heap.size + 1,0,none⟩ (.slice none 0 0)).setCell ⟨w.heap.size + 1,1,none⟩ (.slice none 0 0)).setCell ⟨w.heap.size + 1,2,none⟩ (.slice none 0 0)).setCell ⟨w.heap.size + 1,3,none⟩ (.slice none 0 0)).setCell ⟨w.heap.size + 1,4,none⟩ (.bool false):=⟨_,rfl⟩
     rw [<-hW5] at hts
     have HB5:=hid ((HBv.out).grown hts.2 (HBv.out).size (fun k e=>by cases e; omega))
     have HG5:=hid hts.2
     have HK5:=hid hts.1
     obtain ⟨g0,g1,g2,g3,g4⟩:=BK.c5 (show BK _ #[.slice none 0 0,.slice none 0 0,.slice none 0 0,.slice none 0 0,.bool false] _ _ from HK5.out)
     obtain ⟨z0,z1,z2,z3,z4⟩:=BK.c5 (show BK _ #[.slice none 0 0,.slice none 0 0,.slice none 0 0,.slice none 0 0,.bool false] _ _ from HKv.out)
     obtain ⟨fz0,fz1,fz2,fz3,fz4⟩:=BK.f5 (HKv.out)
     rw [hv1] at hW5 z0 z1 z2 z3 z4 fz0 fz1 fz2 fz3 fz4
     have HW5:=hid hW5
     clear hts hW5
     clear hv1
     go_wp2_with fail
     rw [<-HW5.out]
     refine bodyPost_ret (v:=.tuple #[.agg #[.slice none 0 0,.slice none 0 0,.slice none 0 0,.slice none 0 0,.bool false],.slice (some ⟨u1.heap.size,0,none⟩) 0 0,.int .i64 18]) (by simp [results,Tryz.results37,go_sem,g0,g1,g2,g3,g4]) rfl ?_
     rw [HX.out]
     exact GotRTL.bad _ 18 HB5.out
    | false=>
     by_cases hna0:0 < na
     ·have hnai:(0:Int) < (na:Int):=by omega
      have HX:Hid (R=(tk0,[],18)):=hid (by
       rw [HR2.out]
       exact if_pos (.inr (fun e=>by
        have:=HNA.out
        rw [e] at this
        simp only [List.length_nil] at this
        omega)))
      clear HR2 hna0 hmm
      obtain ⟨v1,hv1⟩:∃ v1,v1=u1.alloc (.cells #[] 41):=⟨_,rfl⟩
      have HBv:Hid (Below w.heap.size w v1):=hid (by rw [hv1]; exact HB1.out.alloc HB1.out.size _)
      have HKv:Hid (BK (w.heap.size + 1) #[.slice none 0 0,.slice none 0 0,.slice none 0 0,.slice none 0 0,.bool false] 67 v1):=hid (by rw [hv1]; exact HK1.out.alloc _)
      have hts:=talk_set (HKv.out) (.slice none 0 0) (.slice none 0 0) (.slice none 0 0) (.slice none 0 0) (.bool false)
      obtain ⟨W5,hW5⟩:∃ W5,W5=((((v1.setCell ⟨w.heap.size + 1,0,none⟩ (.slice none 0 0)).setCell ⟨w.heap.size + 1,1,none⟩ (.slice none 0 0)).setCell ⟨w.heap.size + 1,2,none⟩ (.slice none 0 0)).setCell ⟨w.heap.size + 1,3,none⟩ (.slice none 0 0)).setCell ⟨w.heap.size + 1,4,none⟩ (.bool false):=⟨_,rfl⟩
      rw [<-hW5] at hts
      have HB5:=hid ((HBv.out).grown hts.2 (HBv.out).size (fun k e=>by cases e; omega))
      have HG5:=hid hts.2
      have HK5:=hid hts.1
      obtain ⟨g0,g1,g2,g3,g4⟩:=BK.c5 (show BK _ #[.slice none 0 0,.slice none 0 0,.slice none 0 0,.slice none 0 0,.bool false] _ _ from HK5.out)
      obtain ⟨z0,z1,z2,z3,z4⟩:=BK.c5 (show BK _ #[.slice none 0 0,.slice none 0 0,.slice none 0 0,.slice none 0 0,.bool false] _ _ from HKv.out)
      obtain ⟨fz0,fz1,fz2,fz3,fz4⟩:=BK.f5 (HKv.out)
      rw [hv1] at hW5 z0 z1 z2 z3 z4 fz0 fz1 fz2 fz3 fz4
      have HW5:=hid hW5
      clear hts hW5
      clear hv1
      go_wp2_with fail
      rw [<-HW5.out]
      refine bodyPost_ret (v:=.tuple #[.agg #[.slice none 0 0,.slice none 0 0,.slice none 0 0,.slice none 0 0,.bool false],.slice (some ⟨u1.heap.size,0,none⟩) 0 0,.int .i64 18]) (by simp [results,Tryz.results37,go_sem,g0,g1,g2,g3,g4]) rfl ?_
      rw [HX.out]
      exact GotRTL.bad _ 18 HB5.out
     ·obtain rfl:na=0:=by omega
      obtain ⟨k,hk⟩:∃ k,k=min most.toNat nq:=⟨_,rfl⟩
      have hkq:k<=nq:=by omega
      have hmin:min most (nq:Int)=(k:Int):=by rw [hk]; exact pick_most most hmm nq l2
      have HR3:Hid (R=(⟨want,queue.drop k,queue.take k,common,false⟩,queue.take k,0)):=hid (by
       rw [HR2.out,if_neg ?_,<-hk]
       rintro (h | h)
       ·cases h
       ·exact h (List.length_eq_zero_iff.1 HNA.out.symm))
      obtain ⟨A1,c1,hds1,hsl1⟩:=dslice_hi qa nq qc k (by omega)
      obtain ⟨m,hm⟩:∃ m,m=nq - k:=⟨_,rfl⟩
      obtain ⟨A2,c2,hds2,hsl2⟩:=dslice_lo qa nq qc k m hkq hqc hm
      have htl:(queue.take k).length=k:=by rw [List.length_take,<-HNQ.out]; omega
      have hdl:(queue.drop k).length=m:=by rw [List.length_drop,<-HNQ.out]; omega
      have HD1:=hid (hds1 _ _ _ (HDQ.out.ahead HB1.out))
      have HD2:=hid (hds2 _ _ _ HNQ.out.symm (HDQ.out.ahead HB1.out))
      have HTL:=hid htl
      have HDL:=hid hdl
      have HDW1:=hid (HDW.out.ahead HB1.out)
      have HDC1:=hid (HDC.out.ahead HB1.out)
      obtain ⟨x2,hx2⟩:∃ x2,x2=u1.setCell ⟨w.heap.size,2,none⟩ (.slice A1 k c1):=⟨_,rfl⟩
      have hg2:u1.grownBy x2 (some w.heap.size):=by rw [hx2]; exact gset _ _ _ _
      have hk2:BK w.heap.size #[.slice wa nw wc,.slice qa nq qc,.slice A1 k c1,.slice ca nc cc,.bool false] 67 x2:=by rw [hx2]; exact HT1.out.set 2 (.slice A1 k c1)
      obtain ⟨q0,q1,q2,q3,q4⟩:=BK.c5 (show BK _ #[.slice wa nw wc,.slice qa nq qc,.slice A1 k c1,.slice ca nc cc,.bool false] _ _ from hk2)
      obtain ⟨fq0,fq1,fq2,fq3,fq4⟩:=BK.f5 (hk2)
      obtain ⟨x3,hx3⟩:∃ x3,x3=x2.setCell ⟨w.heap.size,1,none⟩ (.slice A2 m c2):=⟨_,rfl⟩
      have hg3:u1.grownBy x3 (some w.heap.size):=by rw [hx3]; exact gtrans hg2 (gset _ _ _ _)
      have HT3:Hid (BK w.heap.size #[.slice wa nw wc,.slice A2 m c2,.slice A1 k c1,.slice ca nc cc,.bool false] 67 x3):=hid (by rw [hx3]; exact hk2.set 1 (.slice A2 m c2))
      have HK3:Hid (BK (w.heap.size + 1) #[.slice none 0 0,.slice none 0 0,.slice none 0 0,.slice none 0 0,.bool false] 67 x3):=hid (HK1.out.grow1 hg3 (by omega))
      have HB3:Hid (Below w.heap.size w x3):=hid (HB1.out.grown hg3 HB1.out.size (fun j e=>by cases e; omega))
      have HS:Hid (∀ ds ad,Digs u1.heap.size u1 ad ds->Digs x3.heap.size x3 ad ds):=hid (fun ds ad h=>digs_store h HT1.out (noint5 _ _ _ _ _ _ _ _ _ _ _ _ _) hg3)
      rw [hx2] at q0 q1 q2 q3 q4 fq0 fq1 fq2 fq3 fq4
      have hx3':=hx3
      rw [hx2] at hx3'
      have HX3:=hid hx3'
      clear HR2 hk hds1 hds2 htl hdl hm hmm hna0 hx2 hx3 hx3' hg2 hg3 hk2 HB1
      go_upto_region 11 with (fail)
      rw [<-HX3.out]
      clear HX3 q0 q1 q2 q3 q4 fq0 fq1 fq2 fq3 fq4 k0 k1 k2 k3 k4 fk0 fk1 fk2 fk3 fk4
      obtain ⟨q0,q1,q2,q3,q4⟩:=BK.c5 (show BK _ #[.slice wa nw wc,.slice A2 m c2,.slice A1 k c1,.slice ca nc cc,.bool false] _ _ from HT3.out)
      obtain ⟨z0,z1,z2,z3,z4⟩:=BK.c5 (show BK _ #[.slice none 0 0,.slice none 0 0,.slice none 0 0,.slice none 0 0,.bool false] _ _ from HK3.out)
      obtain ⟨fz0,fz1,fz2,fz3,fz4⟩:=BK.f5 (HK3.out)
      have hbd:Below x3.heap.size x3 x3.drew:=(Below.refl _ _).drew
      have hts0:=talk_set HK3.out (.slice wa nw wc) (.slice A2 m c2) (.slice A1 k c1) (.slice ca nc cc) (.bool false)
      have hgd:∀ W:World,W.grownBy W.drew (some (w.heap.size + 1)):=fun W=>⟨rfl,rfl,rfl,Nat.le_refl _,fun k _ _=>rfl⟩
      obtain ⟨W5,hW5⟩:∃ W5,W5=(((((x3.setCell ⟨w.heap.size + 1,0,none⟩ (.slice wa nw wc)).setCell ⟨w.heap.size + 1,1,none⟩ (.slice A2 m c2)).setCell ⟨w.heap.size + 1,2,none⟩ (.slice A1 k c1)).setCell ⟨w.heap.size + 1,3,none⟩ (.slice ca nc cc)).setCell ⟨w.heap.size + 1,4,none⟩ (.bool false)).drew:=⟨_,rfl⟩
      have hts:=And.intro (hts0.1.below ((Below.refl _ _).drew)) (gtrans hts0.2 (hgd _))
      have hts2:=HT3.out.grow1 hts.2 (by omega)
      rw [<-hW5] at hts hts2
      clear hts0 hgd
      obtain ⟨g0,g1,g2,g3,g4⟩:=BK.c5 (show BK _ #[.slice wa nw wc,.slice A2 m c2,.slice A1 k c1,.slice ca nc cc,.bool false] _ _ from hts.1)
      obtain ⟨y0,y1,y2,y3,y4⟩:=BK.c5 (show BK _ #[.slice wa nw wc,.slice A2 m c2,.slice A1 k c1,.slice ca nc cc,.bool false] _ _ from hts2)
      rw [hW5] at y0 y1 y2 y3 y4
      have HW5:=hid hW5
      have HB5:Hid (Below w.heap.size w W5):=hid (HB3.out.grown hts.2 HB3.out.size (fun j e=>by cases e; omega))
      have HS5:Hid (∀ ds ad,Digs x3.heap.size x3 ad ds->Digs W5.heap.size W5 ad ds):=hid (fun ds ad h=>digs_store h HK3.out (noint5 _ _ _ _ _ _ _ _ _ _ _ _ _) hts.2)
      clear hW5 hts hts2 hbd
      go_region_law (fail)
      all_goals
       go_wp2_with fail
       rw [<-HW5.out]
       refine bodyPost_ret (v:=.tuple #[.agg #[.slice wa nw wc,.slice A2 m c2,.slice A1 k c1,.slice ca nc cc,.bool false],.slice A1 k c1,.int .i64 0]) (by simp [results,Tryz.results37,go_sem,g0,g1,g2,g3,g4]) rfl ?_
       rw [HR3.out]
       refine ⟨⟨wa,wc,A2,c2,A1,c1,ca,cc⟩,A1,c1,?_,⟨HS5.out _ _ (HS.out _ _ HDW1.out),HS5.out _ _ (HS.out _ _ HD2.out),HS5.out _ _ (HS.out _ _ HD1.out),HS5.out _ _ (HS.out _ _ HDC1.out)⟩,HS5.out _ _ (HS.out _ _ HD1.out),HB5.out⟩
       simp only [Tk.val,Tk.arr,HDL.out,HTL.out,<-HNW.out,<-HNC.out]
end Go.Proofs.YtfdahmicigpnoaaGreat
