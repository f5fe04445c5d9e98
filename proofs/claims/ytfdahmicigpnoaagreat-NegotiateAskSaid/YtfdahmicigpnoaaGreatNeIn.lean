/- Talks in memory; negotiate.inOrder and separate. -/
import Derived.Test.YtfdahmicigpnoaaGreatNeBl
import Derived.Test.YtfdahmicigpnoaaGreatNeAs
set_option maxRecDepth 100000
set_option maxHeartbeats 16000000
open Go.Lib (hid)
namespace Go.Proofs.YtfdahmicigpnoaaGreat
open Go.RowKit Go.Shelf
set_option linter.unusedVariables false
structure TkA where
 wa:Option Addr
 wc:Nat
 qa:Option Addr
 qc:Nat
 aa:Option Addr
 ac:Nat
 ca:Option Addr
 cc:Nat
structure TkIn (W:World) (t:Tk) (A:TkA):Prop where
 w:Digs W.heap.size W A.wa t.want
 q:Digs W.heap.size W A.qa t.queue
 a:Digs W.heap.size W A.aa t.asked
 c:Digs W.heap.size W A.ca t.common
 wl:t.want.length<=A.wc
 ql:t.queue.length<=A.qc
 al:t.asked.length<=A.ac
 cl:t.common.length<=A.cc
theorem TkIn.ahead {w W:World} {t:Tk} {A:TkA} (h:TkIn w t A) (hb:Below w.heap.size w W):TkIn W t A:=
 ⟨h.w.ahead hb,h.q.ahead hb,h.a.ahead hb,h.c.ahead hb,h.wl,h.ql,h.al,h.cl⟩
structure TkB (t:Tk):Prop where
 wl:(t.want.length:Int)<=45
 ql:(t.queue.length:Int)<=45
 al:(t.asked.length:Int)<=45
 cl:(t.common.length:Int)<=45
 wo:∀ d ∈ t.want,OkD d
 qo:∀ d ∈ t.queue,OkD d
 ao:∀ d ∈ t.asked,OkD d
 co:∀ d ∈ t.common,OkD d
def Tk.arr (t:Tk) (A:TkA):Array Value:=#[.slice A.wa t.want.length A.wc,.slice A.qa t.queue.length A.qc,.slice A.aa t.asked.length A.ac,.slice A.ca t.common.length A.cc,.bool t.done]
def Tk.val (t:Tk) (A:TkA):Value:=.agg (t.arr A)
def GotIO (xs:List Itm) (P:Prop) (w:World) (e:Ending) (w':World):Prop:=∃ b,e = .returned (.bool b)/\(b=true ↔ P)/\Below w.heap.size w w'
theorem GotIO.no {xs:List Itm} {P:Prop} {w w':World} (h:¬ P) (hb:Below w.heap.size w w'):GotIO xs P w (.returned (.bool false)) w':=⟨false,rfl,⟨fun e=>(by cases e),fun e=>absurd e h⟩,hb⟩
theorem GotIO.yes {xs:List Itm} {P:Prop} {w w':World} (h:P) (hb:Below w.heap.size w w'):GotIO xs P w (.returned (.bool true)) w':=⟨true,rfl,⟨fun _=>h,fun _=>rfl⟩,hb⟩
theorem separate_any (a:Option Addr) (xs:List Itm) (c:Nat) (t:Tk) (A:TkA) (w:World) (hp:PoolIn w a xs c) (hA:Asc xs) (hac:AcyS xs) (hxl:(xs.length:Int)<=500) (ht:TkIn w t A) (hb:TkB t) :
  Calls Tryz.prog 150 #[.slice a xs.length c,t.val A] w (GotIO xs (Sep xs t) w):=by
 have HBE:=hid (fun W (hW:Below w.heap.size w W)=>below_any a xs c A.ca t.common A.cc W (hp.below hW) hA hac hxl (ht.c.ahead hW) hb.cl)
 obtain ⟨want,queue,asked,common,done⟩:=t
 obtain ⟨wa,wc,qa,qc,aa,ac,ca,cc⟩:=A
 obtain ⟨h1,h2,h3,h4,_,_,_,_⟩:=ht
 obtain ⟨l1,l2,l3,l4,o1,o2,o3,o4⟩:=hb
 simp only [Tk.val,Tk.arr] at *
 have HQ:=hid h2
 have HA:=hid h3
 have HC:=hid h4
 have HOC:=hid o4
 obtain ⟨nw,hnw⟩:∃ n,n=want.length:=⟨_,rfl⟩
 obtain ⟨nq,hnq⟩:∃ n,n=queue.length:=⟨_,rfl⟩
 obtain ⟨na,hna⟩:∃ n,n=asked.length:=⟨_,rfl⟩
 obtain ⟨nc,hnc⟩:∃ n,n=common.length:=⟨_,rfl⟩
 rw [<-hnw] at l1 ⊢
 rw [<-hnq] at l2 ⊢
 rw [<-hna] at l3 ⊢
 rw [<-hnc] at l4 HBE ⊢
 have HNQ:=hid hnq
 have HNA:=hid hna
 have HNC:=hid hnc
 have HOQ:Hid (∀ d ∈ queue ++ asked,OkD d):=hid (fun d hd=>by
  rcases List.mem_append.1 hd with h | h
  ·exact o2 d h
  ·exact o3 d h)
 generalize xs.length=nx at HBE ⊢
 obtain ⟨w0,hw0⟩:∃ w0,w0=w.alloc (.cells #[.slice wa nw wc,.slice qa nq qc,.slice aa na ac,.slice ca nc cc,.bool done] 67):=⟨_,rfl⟩
 have HB0:Hid (Below w.heap.size w w0):=hid (by rw [hw0]; exact (Below.refl _ _).alloc (Nat.le_refl _) _)
 have HK0:Hid (BK w.heap.size #[.slice wa nw wc,.slice qa nq qc,.slice aa na ac,.slice ca nc cc,.bool done] 67 w0):=hid (by rw [hw0]; exact BK.new _ _ _)
 have HW0:=hid hw0
 have HZ0:Hid (w0.heap.size=w.heap.size + 1):=hid (by rw [hw0]; simp)
 have HC1:=hid (HBE.out w0 HB0.out)
 rw [hw0] at HC1
 clear hw0 h1 h2 h3 h4 o1 o2 o3 o4 hnw hnq hna hnc hp hA hac hxl HBE
 go_enter Tryz.func150,Tryz.ntmps150
 go_wp2_with fail
 (with_reducible refine (HC1.out).mono ?_)
 rintro e u ⟨v,b,rfl,hbi,hbt,hb⟩
 rw [<-HW0.out] at hbt hb
 have HB1:=hid (HB0.out.trans (hb.mono HB0.out.size))
 have HK1:=hid (HK0.out.below hb)
 clear hb HC1 HW0 HB0 HK0
 cases b with
 | false=>
  have HNO:Hid (¬ Sep xs ⟨want,queue,asked,common,done⟩):=hid (fun h=>by have:=hbi.2 h.1; cases this)
  clear hbi hbt
  go_wp2_with fail
  go_ret
  exact GotIO.no HNO.out HB1.out
 | true=>
  have HKN:=hid (hbi.1 rfl)
  obtain ⟨mb,ds,rfl,hs,hds,hmb,hdl⟩:=hbt rfl
  have HDS:=hid hds
  have HS1:Hid (SetV mb (ds ++ common.take 0) u):=hid (hs.eq (by simp))
  have HJ1:Hid (∀ j (h:j < common.length),j < 0->common[j] ∉ ds ++ common.take j):=hid (fun j h hj=>by omega)
  have hmw:w.heap.size + 1<=mb:=by have:=HZ0.out; omega
  obtain ⟨k0,k1,k2,k3,k4⟩:=BK.c5 (show BK _ #[.slice wa nw wc,.slice qa nq qc,.slice aa na ac,.slice ca nc cc,.bool done] _ _ from HK1.out)
  clear hbi hbt hds hs hmb
  go_wp2_with fail
  go_loopw [23] (fun i wr=>∃ k:Nat,k<=nc/\i = .int .i64 k/\Hid (SetV mb (ds ++ common.take k) wr)/\Hid (∀ j (h:j < common.length),j < k->common[j] ∉ ds ++ common.take j)/\Hid (BK w.heap.size #[.slice wa nw wc,.slice qa nq qc,.slice aa na ac,.slice ca nc cc,.bool done] 67 wr)/\Hid (Below w.heap.size w wr)) (fun i _=>nc - (intOf i).toNat)
  case atStart=>exact ⟨0,by omega,rfl,HS1,HJ1,HK1,HB1⟩
  case round=>
   clear HS1 HJ1 HK1 HB1 k0 k1 k2 k3 k4
   obtain ⟨k,hk,rfl,HS,HJ,HK,HB⟩:=hrel
   by_cases hkn:k < nc
   ·have hki:(k:Int) < (nc:Int):=by omega
    have h1:k < common.length:=by have:=HNC.out; omega
    obtain ⟨b0,of0,haa,hb0,q0,q1⟩:=(HC.out.ahead HB.out) k h1
    have HCx:=HC
    subst haa
    have hokd:=HOC.out _ (List.getElem_mem h1)
    have HTK:Hid (common.take (k + 1)=common.take k ++ [common[k]]):=hid (List.take_succ_eq_append_getElem h1)
    have HJ2:Hid (common[k] ∉ ds ++ common.take k->∀ j (h:j < common.length),j < k + 1->common[j] ∉ ds ++ common.take j):=hid (fun hno j h hj=>by
     by_cases e:j < k
     ·exact HJ.out j h e
     ·obtain rfl:j=k:=by omega
      exact hno)
    have HNO:Hid (common[k] ∈ ds ++ common.take k->¬ Sep xs ⟨want,queue,asked,common,done⟩):=hid (fun hin hsep=>by
     rcases List.mem_append.1 hin with h | h
     ·exact hsep.2.1 _ (List.getElem_mem h1) ((HDS.out _).1 h)
     ·have hnd:=hsep.2.2.1
      obtain ⟨j,hj,he⟩:=List.mem_iff_getElem.1 h
      rw [List.length_take] at hj
      rw [List.getElem_take] at he
      exact absurd ((List.getElem_inj hnd).1 he) (by omega))
    generalize common[k]=d at q0 q1 hokd HTK HJ2 HNO
    obtain ⟨d1,d2⟩:=d
    simp only at q0 q1
    obtain ⟨v,hv⟩:∃ v,v=wr.alloc (.cells #[.int .u64 d1,.int .u64 d2] 41):=⟨_,rfl⟩
    have HSv:Hid (SetV mb (ds ++ common.take k) v):=hid (by rw [hv]; exact HS.out.alloc _)
    have HKv:=hid (HK.out.alloc (.cells #[.int .u64 d1,.int .u64 d2] 41))
    rw [<-hv] at HKv
    have HBv:Hid (Below w.heap.size w v):=hid (by rw [hv]; exact HB.out.alloc HB.out.size _)
    have hlook:=HSv.out.look hokd
    obtain ⟨u1,hup,hs1,hgu,hz1⟩:=HSv.out.put hokd (by rw [List.length_append,List.length_take]; omega)
    have HS3:Hid (SetV mb (ds ++ common.take (k + 1)) u1):=hid (hs1.eq (by rw [HTK.out,List.append_assoc]))
    have HK3:=hid (HKv.out.grow1 hgu (by omega))
    have HB3:Hid (Below w.heap.size w u1):=hid (below_put HBv.out hgu (by omega))
    rw [hv] at hlook hup
    have HV:=hid hv
    clear hv hs1 hgu hz1 HS HK HB HJ HTK
    cases hin:decide ((d1,d2) ∈ ds ++ common.take k) with
    | true=>
     rw [hin] at hlook
     have HNS:=hid (HNO.out (by simpa using hin))
     clear hin HNO HJ2 hup
     go_wp2_with fail
     go_ret
     rw [<-HV.out]
     exact GotIO.no HNS.out HBv.out
    | false=>
     rw [hin] at hlook
     have HJ3:=hid (HJ2.out (by simpa using hin))
     clear hin HNO HJ2
     go_wp2_with fail
     go_roundw
     case rel=>exact ⟨k + 1,by omega,by go_num,HS3,HJ3,HK3,HB3⟩
     case measure=>simp [intOf] <;> omega
   ·have hki:¬ (k:Int) < (nc:Int):=by omega
    have hkc:k=common.length:=by have:=HNC.out; omega
    have HS2:Hid (SetV mb (ds ++ common) wr):=hid (HS.out.eq (by rw [hkc,List.take_length]))
    have HF2:Hid ((∀ d ∈ common,¬ Bel xs common d)/\common.Nodup):=hid (by
     have hj:∀ j (h:j < common.length),common[j] ∉ ds ++ common.take j:=fun j h=>HJ.out j h (by omega)
     refine ⟨fun d hd hb=>?_,?_⟩
     ·obtain ⟨j,hj2,rfl⟩:=List.getElem_of_mem hd
      exact hj j hj2 (List.mem_append.2 (.inl ((HDS.out _).2 hb)))
     ·rw [List.nodup_iff_pairwise_ne,List.pairwise_iff_getElem]
      intro i j hi hj2 hij e
      refine hj j hj2 (List.mem_append.2 (.inr ?_))
      rw [<-e]
      exact List.mem_iff_getElem.2 ⟨i,by rw [List.length_take]; omega,by rw [List.getElem_take]⟩)
    obtain ⟨k0,k1,k2,k3,k4⟩:=BK.c5 (show BK _ #[.slice wa nw wc,.slice qa nq qc,.slice aa na ac,.slice ca nc cc,.bool done] _ _ from HK.out)
    obtain ⟨x0,hx0⟩:∃ x0,x0=wr:=⟨_,rfl⟩
    rw [<-hx0] at HS2 HB k0 k1 k2 k3 k4 ⊢
    obtain ⟨v,hv⟩:∃ v,v=x0.alloc (.cells #[.slice qa nq qc,.slice aa na ac] 24):=⟨_,rfl⟩
    have hbv:Below x0.heap.size x0 v:=by rw [hv]; exact (Below.refl _ _).alloc (Nat.le_refl _) _
    have HBv:=hid (HB.out.trans (hbv.mono HB.out.size))
    have HSv:=hid (HS2.out.below hbv)
    have hall:allD [⟨qa,queue,qc⟩,⟨aa,asked,ac⟩]=queue ++ asked:=by simp [allD]
    have HCC:=hid (concatD_any x0.heap.size 2 [⟨qa,queue,qc⟩,⟨aa,asked,ac⟩] v (slsD_two (by rw [hv,<-HNQ.out,<-HNA.out]; exact BK.new _ _ _) (HQ.out.ahead HBv.out) (HA.out.ahead HBv.out)) (by rw [hall,List.length_append,<-HNQ.out,<-HNA.out]; omega) (by simp))
    rw [hall,hv] at HCC
    simp only [List.length_cons,List.length_nil,Nat.zero_add,Nat.reduceAdd] at HCC
    have HV:=hid hv
    have HQL:Hid ((queue ++ asked).length<=90):=hid (by rw [List.length_append,<-HNQ.out,<-HNA.out]; omega)
    have HSP:Hid ((∀ d ∈ queue ++ asked,d ∉ ds ++ common) ↔ Sep xs ⟨want,queue,asked,common,done⟩):=hid (by
     constructor
     ·intro h
      exact ⟨HKN.out,HF2.out.1,HF2.out.2,fun d hd hor=>h d hd (by
       rcases hor with h2 | h2
       ·exact List.mem_append.2 (.inl ((HDS.out d).2 h2))
       ·exact List.mem_append.2 (.inr h2))⟩
     ·intro h d hd hin
      refine h.2.2.2 d hd ?_
      rcases List.mem_append.1 hin with h2 | h2
      ·exact .inl ((HDS.out d).1 h2)
      ·exact .inr h2)
    clear hv hbv hall hx0 HS HJ HK HB HS2 HF2 HC HQ HA HKN
    generalize queue ++ asked=qs at HCC HQL HSP HOQ
    obtain ⟨nn,hnn⟩:∃ n,n=qs.length:=⟨_,rfl⟩
    have HNN:=hid hnn
    clear hnn
    go_wp2_with fail
    (with_reducible refine (HCC.out).mono ?_)
    rintro e u2 ⟨va,vc,rfl,hown,hb⟩
    rw [<-HV.out] at hb
    rw [<-HNN.out]
    have HB4:=hid (HBv.out.trans (hb.mono HBv.out.size))
    have HS4:=hid (HSv.out.below hb)
    have HD4:=hid (ownsRow_digs hown)
    have hnn9:nn<=90:=by have:=HNN.out; have:=HQL.out; omega
    have HJ4:Hid (∀ j (h:j < qs.length),j < 0->qs[j] ∉ ds ++ common):=hid (fun j h hj=>by omega)
    clear hown hb HCC HBv HSv HV k0 k1 k2 k3 k4
    go_wp2_with fail
    go_loopw [40] (fun i wr=>∃ k:Nat,k<=nn/\i = .int .i64 k/\Hid (SetV mb (ds ++ common) wr)/\Hid (∀ j (h:j < qs.length),j < k->qs[j] ∉ ds ++ common)/\Hid (Digs wr.heap.size wr va qs)/\Hid (Below w.heap.size w wr)) (fun i _=>nn - (intOf i).toNat)
    case atStart=>exact ⟨0,by omega,rfl,HS4,HJ4,HD4,HB4⟩
    case round=>
     clear HS4 HJ4 HD4 HB4
     obtain ⟨k,hk,rfl,HS,HJ,HD,HB⟩:=hrel
     by_cases hkn:k < nn
     ·have hki:(k:Int) < (nn:Int):=by omega
      have h1:k < qs.length:=by have:=HNN.out; omega
      obtain ⟨b0,of0,haa,hb0,q0,q1⟩:=HD.out k h1
      have HDx:=HD
      subst haa
      have hokd:=HOQ.out _ (List.getElem_mem h1)
      have HMM:Hid (qs[k] ∈ qs):=hid (List.getElem_mem h1)
      have HJ2:Hid (qs[k] ∉ ds ++ common->∀ j (h:j < qs.length),j < k + 1->qs[j] ∉ ds ++ common):=hid (fun hno j h hj=>by
       by_cases e:j < k
       ·exact HJ.out j h e
       ·obtain rfl:j=k:=by omega
        exact hno)
      generalize qs[k]=d at q0 q1 hokd HMM HJ2
      obtain ⟨d1,d2⟩:=d
      simp only at q0 q1
      obtain ⟨v,hv⟩:∃ v,v=wr.alloc (.cells #[.int .u64 d1,.int .u64 d2] 41):=⟨_,rfl⟩
      have hbv:Below wr.heap.size wr v:=by rw [hv]; exact (Below.refl _ _).alloc (Nat.le_refl _) _
      have HSv:=hid (HS.out.below hbv)
      have HDv:=hid (HDx.out.ahead hbv)
      have HBv:=hid (HB.out.trans (hbv.mono HB.out.size))
      have hlook:=HSv.out.look hokd
      rw [hv] at hlook
      have HV:=hid hv
      clear hv hbv HS HD HDx HB HJ
      cases hin:decide ((d1,d2) ∈ ds ++ common) with
      | true=>
       rw [hin] at hlook
       have HNS:Hid (¬ Sep xs ⟨want,queue,asked,common,done⟩):=hid (fun h=>HSP.out.2 h _ HMM.out (by simpa using hin))
       clear hin HJ2
       go_wp2_with fail
       go_ret
       rw [<-HV.out]
       exact GotIO.no HNS.out HBv.out
      | false=>
       rw [hin] at hlook
       have HJ3:=hid (HJ2.out (by simpa using hin))
       clear hin HJ2
       go_wp2_with fail
       rw [<-HV.out]
       go_roundw
       case rel=>exact ⟨k + 1,by omega,by go_num,HSv,HJ3,HDv,HBv⟩
       case measure=>simp [intOf] <;> omega
     ·have hki:¬ (k:Int) < (nn:Int):=by omega
      have HYS:Hid (Sep xs ⟨want,queue,asked,common,done⟩):=hid (HSP.out.1 (fun d hd=>by
       obtain ⟨j,hj,rfl⟩:=List.getElem_of_mem hd
       exact HJ.out j hj (by have:=HNN.out; omega)))
      clear HJ
      go_wp2_with fail
      go_ret
      exact GotIO.yes HYS.out HB.out
theorem zeroInt (W:World):(zeroValue 3).run Tryz.prog W = .ok (.int .i64 0) W:=by kernel_rfl
def plF (an:List (Int × Int)) (k:Nat) (d:Int × Int):Option Value:=if d ∈ an.take k then some (.int .i64 ((an.idxOf d:Nat):Int)) else none
theorem plF_put {an:List (Int × Int)} (hn:an.Nodup) {k:Nat} (h:k < an.length) (d:Int × Int):(if d=an[k] then some (.int .i64 (k:Int)) else plF an k d)=plF an (k + 1) d:=by
 have hm:d ∈ an.take (k + 1) ↔ d ∈ an.take k\/d=an[k]:=by
  rw [List.take_succ_eq_append_getElem h,List.mem_append,List.mem_singleton]
 unfold plF
 by_cases e:d=an[k]
 ·subst e
  rw [if_pos rfl,if_pos (hm.2 (.inr rfl)),List.Nodup.idxOf_getElem hn k h]
 ·rw [if_neg e]
  by_cases e2:d ∈ an.take k
  ·rw [if_pos e2,if_pos (hm.2 (.inl e2))]
  ·rw [if_neg e2,if_neg (fun h2=>(hm.1 h2).elim e2 e)]
theorem plF_all {an:List (Int × Int)} {d:Int × Int} (h:d ∈ an):plF an an.length d=some (.int .i64 ((an.idxOf d:Nat):Int)):=by
 unfold plF; rw [List.take_length,if_pos h]
theorem inOrder_any (a:Option Addr) (xs:List Itm) (c:Nat) (t:Tk) (A:TkA) (w:World) (hp:PoolIn w a xs c) (hA:Asc xs) (hac:AcyS xs) (hxl:(xs.length:Int)<=500) (ht:TkIn w t A) (hb:TkB t) :
  Calls Tryz.prog 147 #[.slice a xs.length c,t.val A] w (GotIO xs (InOrd xs t) w):=by
 have hmm:=@run_makeMap Tryz.prog
 obtain ⟨want,queue,asked,common,done⟩:=t
 obtain ⟨wa,wc,qa,qc,aa,ac,ca,cc⟩:=A
 obtain ⟨h1,h2,h3,h4,_,_,_,_⟩:=ht
 obtain ⟨l1,l2,l3,l4,o1,o2,o3,o4⟩:=hb
 simp only [Tk.val,Tk.arr] at *
 have HQ:=hid h2
 have HA:=hid h3
 have HC:=hid h4
 obtain ⟨nw,hnw⟩:∃ n,n=want.length:=⟨_,rfl⟩
 obtain ⟨nq,hnq⟩:∃ n,n=queue.length:=⟨_,rfl⟩
 obtain ⟨na,hna⟩:∃ n,n=asked.length:=⟨_,rfl⟩
 obtain ⟨nc,hnc⟩:∃ n,n=common.length:=⟨_,rfl⟩
 rw [<-hnw] at l1 ⊢
 rw [<-hnq] at l2 ⊢
 rw [<-hna] at l3 ⊢
 rw [<-hnc] at l4 ⊢
 have HNQ:=hid hnq
 have HNA:=hid hna
 have HNC:=hid hnc
 have hoq:∀ d ∈ queue ++ asked ++ common,OkD d:=fun d hd=>by
  rcases List.mem_append.1 hd with h | h
  ·rcases List.mem_append.1 h with h | h
   ·exact o2 d h
   ·exact o3 d h
  ·exact o4 d h
 have hql:(queue ++ asked ++ common).length<=135:=by rw [List.length_append,List.length_append]; omega
 have HAN:=hid (fun W va vc (hW:Below w.heap.size w W) (hd:Digs W.heap.size W va (queue ++ asked ++ common))=>ancestors_any a xs c va (queue ++ asked ++ common) vc W (hp.below hW) hA hac hd hoq hxl (by omega))
 have HIN:Hid ((ancS xs (queue ++ asked ++ common)).2 ≠ 0->¬ InOrd xs ⟨want,queue,asked,common,done⟩):=hid (fun h hi=>h (anc_knE.2 hi.1))
 have HIY:Hid ((ancS xs (queue ++ asked ++ common)).2=0->AscH (depS xs) (ancS xs (queue ++ asked ++ common)).1/\((ancS xs (queue ++ asked ++ common)).1.length:Int)<=500/\(∀ d ∈ (ancS xs (queue ++ asked ++ common)).1,OkD d)/\(∀ d ∈ queue,d ∈ (ancS xs (queue ++ asked ++ common)).1)/\(∀ d ∈ asked,d ∈ (ancS xs (queue ++ asked ++ common)).1)/\(InOrd xs ⟨want,queue,asked,common,done⟩ ↔ AscH (depS xs) queue/\AscH (depS xs) asked)):=hid (fun h=>by
  have hk:=anc_knE.1 h
  have hf:=vis_facts (kn_all.2 hk) hoq
  have e:(ancS xs (queue ++ asked ++ common)).1=sortH (depS xs) (visS xs (queue ++ asked ++ common) []).1:=by unfold ancS; rw [if_neg (by simpa using kn_all.2 hk)]
  refine ⟨anc_ascH hk,by rw [e,(sortH_perm _ _).length_eq]; have:=hf.le; omega,fun d hd=>hf.ok d ((sortH_perm _ _).mem_iff.1 (by rw [<-e]; exact hd)),fun d hd=>((anc_kn hk).2 d).2 ⟨d,by simp [hd],.refl d⟩,fun d hd=>((anc_kn hk).2 d).2 ⟨d,by simp [hd],.refl d⟩,?_⟩
  exact ⟨fun hi=>⟨hi.2.1,hi.2.2⟩,fun hi=>⟨hk,hi.1,hi.2⟩⟩)
 obtain ⟨w0,hw0⟩:∃ w0,w0=w.alloc (.cells #[.slice wa nw wc,.slice qa nq qc,.slice aa na ac,.slice ca nc cc,.bool done] 67):=⟨_,rfl⟩
 have hb0:Below w.heap.size w w0:=by rw [hw0]; exact (Below.refl _ _).alloc (Nat.le_refl _) _
 have HK0:Hid (BK w.heap.size #[.slice wa nw wc,.slice qa nq qc,.slice aa na ac,.slice ca nc cc,.bool done] 67 w0):=hid (by rw [hw0]; exact BK.new _ _ _)
 obtain ⟨v0,hv0⟩:∃ v0,v0=w0.alloc (.cells #[.slice qa nq qc,.slice aa na ac,.slice ca nc cc] 24):=⟨_,rfl⟩
 have hbv:Below w0.heap.size w0 v0:=by rw [hv0]; exact (Below.refl _ _).alloc (Nat.le_refl _) _
 have hz0:w0.heap.size=w.heap.size + 1:=by rw [hw0]; simp
 have HBv:=hid (hb0.trans (hbv.mono hb0.size))
 have HKv:=hid (HK0.out.below hbv)
 have hall:allD [⟨qa,queue,qc⟩,⟨aa,asked,ac⟩,⟨ca,common,cc⟩]=queue ++ asked ++ common:=by simp [allD]
 have HCC:=hid (concatD_any w0.heap.size 3 [⟨qa,queue,qc⟩,⟨aa,asked,ac⟩,⟨ca,common,cc⟩] v0 (slsD_three (by rw [hv0,<-HNQ.out,<-HNA.out,<-HNC.out]; exact BK.new _ _ _) (HQ.out.ahead HBv.out) (HA.out.ahead HBv.out) (HC.out.ahead HBv.out)) (by rw [hall]; omega) (by simp))
 rw [hall,hz0,hv0,hw0] at HCC
 simp only [List.length_cons,List.length_nil,Nat.zero_add,Nat.reduceAdd] at HCC
 have HV0:Hid (v0=(w.alloc (.cells #[.slice wa nw wc,.slice qa nq qc,.slice aa na ac,.slice ca nc cc,.bool done] 67)).alloc (.cells #[.slice qa nq qc,.slice aa na ac,.slice ca nc cc] 24)):=hid (by rw [hv0,hw0])
 generalize xs.length=nx at HAN ⊢
 clear hw0 hv0 hb0 hbv hz0 hall h1 h2 h3 h4 o1 o2 o3 o4 hnw hnq hna hnc hp hA hac hxl hoq hql HK0
 generalize queue ++ asked ++ common=q3 at HAN HIN HIY HCC
 generalize hARR:ancS xs q3=AR at HAN HIN HIY
 clear hARR
 obtain ⟨an,ea⟩:=AR
 simp only at HIN HIY
 go_enter Tryz.func147,Tryz.ntmps147
 go_wp2_with fail
 (with_reducible refine (HCC.out).mono ?_)
 rintro e u ⟨va,vc,rfl,hown,hb⟩
 rw [<-HV0.out] at hb
 have HB1:=hid (HBv.out.trans (hb.mono HBv.out.size))
 have HK1:=hid (HKv.out.below hb)
 have HC2:=hid (HAN.out u va vc HB1.out (ownsRow_digs hown))
 clear hown hb HCC HV0 HBv HKv HAN
 generalize q3.length=l3n at HC2 ⊢
 go_wp2_with fail
 (with_reducible refine (HC2.out).mono ?_)
 rintro e u2 ⟨sa,sc,rfl,hown,hb⟩
 simp only at hown ⊢
 have HB2:=hid (HB1.out.trans (hb.mono HB1.out.size))
 have HK2:=hid (HK1.out.below hb)
 have HD2:=hid (ownsRow_digs hown)
 obtain ⟨nn,hnn⟩:∃ n,n=an.length:=⟨_,rfl⟩
 rw [<-hnn]
 have HNN:=hid hnn
 clear hown hb HC2 HB1 HK1 hnn
 by_cases hea:ea=0
 ·subst hea
  obtain ⟨y1,y2,y3,y4,y5,y6⟩:=HIY.out rfl
  have HAS:=hid y1
  have HOA:=hid y3
  have HY4:=hid y4
  have HY5:=hid y5
  have HY6:=hid y6
  have HND:=hid (ascH_nodup y1)
  rw [<-HNN.out] at y2
  clear y1 y3 y4 y5 y6 HIN HIY
  have HM0:Hid (MapV u2.heap.size 0 (plF an 0) (u2.alloc (.map #[] 0))):=hid ((MapV.made u2).eq (fun d=>by simp [plF]))
  have HB0:Hid (Below u2.heap.size u2 (u2.alloc (.map #[] 0))):=hid ((Below.refl _ _).alloc (Nat.le_refl _) (.map #[] 0))
  have hpw:w.heap.size + 1<=u2.heap.size:=by have:=HK2.out.lt; omega
  go_wp2_with fail
  go_loopw [31] (fun i wr=>∃ k:Nat,k<=nn/\i = .int .i64 k/\Hid (MapV u2.heap.size k (plF an k) wr)/\Hid (Below u2.heap.size u2 wr)) (fun i _=>nn - (intOf i).toNat)
  case atStart=>exact ⟨0,by omega,rfl,HM0,HB0⟩
  case round=>
   clear HM0 HB0
   obtain ⟨k,hk,rfl,HM,HB⟩:=hrel
   by_cases hkn:k < nn
   ·have hki:(k:Int) < (nn:Int):=by omega
    have h1:k < an.length:=by have:=HNN.out; omega
    obtain ⟨b0,of0,haa,hb0,q0,q1⟩:=(HD2.out.ahead HB.out) k h1
    have HDx:=HD2
    subst haa
    have hokd:=HOA.out _ (List.getElem_mem h1)
    have HPF:=hid (fun d=>plF_put HND.out h1 d)
    generalize an[k]=d at q0 q1 hokd HPF
    obtain ⟨d1,d2⟩:=d
    simp only at q0 q1
    obtain ⟨v,hv⟩:∃ v,v=wr.alloc (.cells #[.int .u64 d1,.int .u64 d2] 41):=⟨_,rfl⟩
    have HMv:Hid (MapV u2.heap.size k (plF an k) v):=hid (by rw [hv]; exact HM.out.alloc _)
    have HBv:Hid (Below u2.heap.size u2 v):=hid (by rw [hv]; exact HB.out.alloc HB.out.size _)
    obtain ⟨u1,hup,hm1,hg1,hz1⟩:=HMv.out.put Tryz.underlying105 hokd (by omega) (.int .i64 (k:Int))
    have HM3:Hid (MapV u2.heap.size (k + 1) (plF an (k + 1)) u1):=hid (hm1.eq HPF.out)
    have HB3:Hid (Below u2.heap.size u2 u1):=hid (below_put HBv.out hg1 (Nat.le_refl _))
    rw [hv] at hup
    clear hv HMv HBv hm1 hg1 hz1 HM HB HPF
    go_wp2_with fail
    go_roundw
    case rel=>exact ⟨k + 1,by omega,by go_num,HM3,HB3⟩
    case measure=>simp [intOf] <;> omega
   ·have hki:¬ (k:Int) < (nn:Int):=by omega
    have hkc:k=an.length:=by have:=HNN.out; omega
    rw [hkc] at HM
    have HBw:=hid (HB2.out.trans (HB.out.mono HB2.out.size))
    have HKr:=hid (HK2.out.below HB.out)
    obtain ⟨k0,k1,k2,k3,k4⟩:=BK.c5 (show BK _ #[.slice wa nw wc,.slice qa nq qc,.slice aa na ac,.slice ca nc cc,.bool done] _ _ from HKr.out)
    obtain ⟨x0,hx0⟩:∃ x0,x0=wr:=⟨_,rfl⟩
    rw [<-hx0] at HM HBw k0 k1 k2 k3 k4 ⊢
    obtain ⟨v,hv⟩:∃ v,v=x0.alloc (.cells #[.slice qa nq qc,.slice aa na ac] 24):=⟨_,rfl⟩
    have hbv:Below x0.heap.size x0 v:=by rw [hv]; exact (Below.refl _ _).alloc (Nat.le_refl _) _
    have HBv:=hid (HBw.out.trans (hbv.mono HBw.out.size))
    have HMv:=hid (HM.out.below hbv)
    have HSv:Hid (SlsD v.heap.size v x0.heap.size [⟨qa,queue,qc⟩,⟨aa,asked,ac⟩]):=hid (slsD_two (by rw [hv,<-HNQ.out,<-HNA.out]; exact BK.new _ _ _) (HQ.out.ahead HBv.out) (HA.out.ahead HBv.out))
    have HV:=hid hv
    have HLX:Hid (∀ i (h:i < [SlD.mk qa queue qc,SlD.mk aa asked ac].length),(∀ d ∈ [SlD.mk qa queue qc,SlD.mk aa asked ac][i].ds,d ∈ an)/\[SlD.mk qa queue qc,SlD.mk aa asked ac][i].ds.length<=45):=hid (fun i h=>by
     match i,h with
     | 0,_=>exact ⟨HY4.out,by simp only [List.getElem_cons_zero]; have:=HNQ.out; omega⟩
     | 1,_=>exact ⟨HY5.out,by simp only [List.getElem_cons_succ,List.getElem_cons_zero]; have:=HNA.out; omega⟩)
    have HSO:Hid ((∀ i (h:i < [SlD.mk qa queue qc,SlD.mk aa asked ac].length),AscH (depS xs) [SlD.mk qa queue qc,SlD.mk aa asked ac][i].ds) ↔ InOrd xs ⟨want,queue,asked,common,done⟩):=hid (by
     rw [HY6.out]
     constructor
     ·intro h; exact ⟨h 0 (by simp),h 1 (by simp)⟩
     ·intro h i hi
      match i,hi with
      | 0,_=>exact h.1
      | 1,_=>exact h.2)
    generalize hLL:[SlD.mk qa queue qc,SlD.mk aa asked ac]=L at HSv HLX HSO
    have HL2:Hid (L.length=2):=hid (by rw [<-hLL]; rfl)
    have HS0:Hid (∀ i (h:i < L.length),i < 0->AscH (depS xs) L[i].ds):=hid (fun i h hi=>by omega)
    have HB0:Hid (Below v.heap.size v v):=hid (Below.refl _ _)
    clear hv hbv hx0 hLL HM HB HBw HKr HB2 HK2 HY4 HY5 HY6 HQ HA HC HNQ HNA HNC
    go_wp2_with fail
    rw [<-HV.out]
    go_loopw [46] (fun i wr=>∃ k:Nat,k<=2/\i = .int .i64 k/\Hid (∀ i (h:i < L.length),i < k->AscH (depS xs) L[i].ds)/\Hid (Below v.heap.size v wr)) (fun i _=>2 - (intOf i).toNat)
    case atStart=>exact ⟨0,by omega,rfl,HS0,HB0⟩
    case round=>
     clear HS0 HB0 k0 k1 k2 k3 k4
     obtain ⟨k,hk,rfl,HS,HB⟩:=hrel
     by_cases hkn:k < 2
     ·have hki:(k:Int) < 2:=by omega
      have h1:k < L.length:=by have:=HL2.out; omega
      have c0:=(HSv.out.ahead HB.out).cell k h1
      have HDL:=hid (HSv.out.dig k h1)
      have HLK:=hid (HLX.out k h1)
      have HS2:Hid (AscH (depS xs) L[k].ds->∀ i (h:i < L.length),i < k + 1->AscH (depS xs) L[i].ds):=hid (fun hno j h hj=>by
       by_cases e:j < k
       ·exact HS.out j h e
       ·obtain rfl:j=k:=by omega
        exact hno)
      have HNO:Hid (¬ AscH (depS xs) L[k].ds->¬ InOrd xs ⟨want,queue,asked,common,done⟩):=hid (fun h h2=>h (HSO.out.2 h2 k h1))
      generalize L[k]=S at c0 HDL HLK HS2 HNO
      obtain ⟨la,l,lc⟩:=S
      simp only at c0 HDL HLK HS2 HNO
      obtain ⟨ln,hln⟩:∃ n,n=l.length:=⟨_,rfl⟩
      rw [<-hln] at c0
      have hl45:ln<=45:=by have:=HLK.out.2; omega
      have HLN:=hid hln
      have HP:Hid ((∀ i (hi:i + 1 < l.length),an.idxOf l[i] < an.idxOf l[i + 1]) ↔ AscH (depS xs) l):=hid (ascH_places HAS.out (P:=fun d=>an.idxOf d) (fun i hi=>List.Nodup.idxOf_getElem HND.out i hi) HLK.out.1)
      have HJ0:Hid (∀ i (h:i + 1 < l.length),i + 1 < 1->an.idxOf l[i] < an.idxOf l[i + 1]):=hid (fun i h hi=>by omega)
      clear hln HS
      go_wp2_with fail
      go_loopw [12] (fun i wr=>∃ m:Nat,1<=m/\m<=46/\i = .int .i64 m/\Hid (∀ i (h:i + 1 < l.length),i + 1 < m->an.idxOf l[i] < an.idxOf l[i + 1])/\Hid (Below v.heap.size v wr)) (fun i _=>ln - (intOf i).toNat)
      case atStart=>exact ⟨1,by omega,by omega,rfl,HJ0,HB⟩
      case round=>
       clear HJ0 HB c0
       obtain ⟨m,hm1,hm46,rfl,HJ,HB⟩:=hrel
       by_cases hmn:m < ln
       ·have hmi:(m:Int) < (ln:Int):=by omega
        obtain ⟨j,hj⟩:∃ j,j=m - 1:=⟨_,rfl⟩
        have hje:(m:Int) - 1=(j:Int):=by omega
        have h3:m < l.length:=by have:=HLN.out; omega
        have h4:j < l.length:=by omega
        have hd:=HDL.out.ahead HB.out
        obtain ⟨b0,of0,haa,hb0,q0,q1⟩:=hd m h3
        obtain ⟨b1,of1,haa1,hb1,r0,r1⟩:=hd j h4
        rw [haa] at haa1
        injection haa1 with haa1
        injection haa1 with e1 e2
        subst e1 e2
        clear hd
        subst haa
        have o3:=HOA.out _ (HLK.out.1 _ (List.getElem_mem h3))
        have o4:=HOA.out _ (HLK.out.1 _ (List.getElem_mem h4))
        have p3:=plF_all (HLK.out.1 _ (List.getElem_mem h3))
        have p4:=plF_all (HLK.out.1 _ (List.getElem_mem h4))
        have HJ2:Hid (an.idxOf l[j] < an.idxOf l[m]->∀ i (h:i + 1 < l.length),i + 1 < m + 1->an.idxOf l[i] < an.idxOf l[i + 1]):=hid (fun hlt i h hi=>by
         by_cases e:i + 1 < m
         ·exact HJ.out i h e
         ·obtain rfl:i=j:=by omega
          have:m=i + 1:=by omega
          subst this
          exact hlt)
        have HNO2:Hid (¬ an.idxOf l[j] < an.idxOf l[m]->¬ InOrd xs ⟨want,queue,asked,common,done⟩):=hid (fun h=>HNO.out (fun h2=>h (by
         have:=HP.out.2 h2 j (by omega)
         have e:j + 1=m:=by omega
         subst e
         exact this)))
        generalize l[m]=dm at q0 q1 o3 p3 HJ2 HNO2
        generalize l[j]=dj at r0 r1 o4 p4 HJ2 HNO2
        obtain ⟨x1,y1⟩:=dm
        obtain ⟨x0,y0⟩:=dj
        simp only at q0 q1 r0 r1
        have HL1:=fun W (hW:Below v.heap.size v W)=>(HMv.out.below hW).look Tryz.underlying105 (zeroInt W) o3
        have HL2x:=fun W (hW:Below v.heap.size v W)=>(HMv.out.below hW).look Tryz.underlying105 (zeroInt W) o4
        rw [p3] at HL1
        rw [p4] at HL2x
        simp only [Option.getD_some] at HL1 HL2x
        generalize an.idxOf (x1,y1)=P1 at HL1 HJ2 HNO2
        generalize an.idxOf (x0,y0)=P0 at HL2x HJ2 HNO2
        have L1:=fun d os=>HL1 _ (HB.out.trans ((below_regrown wr d os).mono HB.out.size))
        have L2:=fun d os=>HL2x _ (HB.out.trans ((below_regrown wr d os).mono HB.out.size))
        have L3:=HL1 _ HB.out
        have L4:=HL2x _ HB.out
        have f0:=cell_regrown q0
        have f1:=cell_regrown q1
        have f2:=cell_regrown r0
        have f3:=cell_regrown r1
        clear HL1 HL2x p3 p4 o3 o4 hj HJ
        by_cases hc:P0 < P1
        ·have dc:decide ((P1:Int)<=(P0:Int))=false:=by simp; omega
         have HJ3:=hid (HJ2.out hc)
         clear HJ2 HNO2
         go_wp2_with fail
         refine wp_region_quiet_below (by kernel_rfl) (by kernel_rfl) ?_
         repeat (any_goals (first | go_big_quiet_step (fail) | quiet_step (fail)))
         refine wpQuiet_nil ?_
         intro w2 hw2
         have hbq:=below_rg hw2
         have HB5:=hid (HB.out.trans (hbq.mono HB.out.size))
         clear hbq hw2 HB L1 L2 L3 L4 f0 f1 f2 f3 q0 q1 r0 r1
         go_wp2_with fail
         go_roundw
         case rel=>exact ⟨m + 1,by omega,by omega,by go_num,HJ3,HB5⟩
         case measure=>simp [intOf] <;> omega
        ·have dc:decide ((P1:Int)<=(P0:Int))=true:=by simp; omega
         have HNI:=hid (HNO2.out hc)
         clear HJ2 HNO2
         go_wp2_with fail
         refine wp_region_quiet_below (by kernel_rfl) (by kernel_rfl) ?_
         repeat (any_goals (first | go_big_quiet_step (fail) | quiet_step (fail)))
         refine wpQuiet_nil ?_
         intro w2 hw2
         have hbq:=below_rg hw2
         have HB5:=hid (HBv.out.trans ((HB.out.trans (hbq.mono HB.out.size)).mono HBv.out.size))
         clear hbq hw2 HB L1 L2 L3 L4 f0 f1 f2 f3 q0 q1 r0 r1
         go_wp2_with fail
         go_ret
         exact GotIO.no HNI.out HB5.out
       ·have hmi:¬ (m:Int) < (ln:Int):=by omega
        have HS3:=hid (HS2.out (HP.out.1 (fun i hi=>HJ.out i hi (by have:=HLN.out; omega))))
        clear HS2 HNO HJ
        go_wp2_with fail
        go_roundw
        case rel=>exact ⟨k + 1,by omega,by go_num,HS3,HB⟩
        case measure=>simp [intOf] <;> omega
     ·have hki:¬ (k:Int) < 2:=by omega
      have HYS:Hid (InOrd xs ⟨want,queue,asked,common,done⟩):=hid (HSO.out.1 (fun i h=>HS.out i h (by have:=HL2.out; omega)))
      have HBB:=hid (HBv.out.trans (HB.out.mono HBv.out.size))
      clear HS HB
      go_wp2_with fail
      go_ret
      exact GotIO.yes HYS.out HBB.out
 ·have HNI:=hid (HIN.out hea)
  clear HIN HIY
  go_wp2_with fail
  go_ret
  exact GotIO.no HNI.out HB2.out
end Go.Proofs.YtfdahmicigpnoaaGreat
