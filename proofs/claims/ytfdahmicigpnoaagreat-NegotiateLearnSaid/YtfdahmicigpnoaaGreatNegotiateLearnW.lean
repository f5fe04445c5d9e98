/- The walk of the statement NegotiateLearn. -/
import Derived.Test.YtfdahmicigpnoaaGreatNeRd
import Derived.Test.YtfdahmicigpnoaaGreatNeAw
import Derived.Test.YtfdahmicigpnoaaGreatNeLv
import Derived.Test.YtfdahmicigpnoaaGreatNeOp
import Derived.Test.YtfdahmicigpnoaaGreatNeLe
set_option maxRecDepth 100000
set_option maxHeartbeats 16000000
open Go.Lib (hid)
namespace Go.Proofs.YtfdahmicigpnoaaGreat.negotiateLearn
open Go.RowKit Go.Shelf
set_option linter.unusedVariables false
theorem learn_len {v:Bool} {xs:List Itm} {t:Tk} {com:List (Int × Int)} (ha:((allS t.common com).length:Int)<=45) (h1:t.want.length<=20) (h2:t.queue.length<=20):((learnS v xs t com).1.want.length:Int)<=1000000/\((learnS v xs t com).1.queue.length:Int)<=1000000/\((learnS v xs t com).1.asked.length:Int)<=1000000/\((learnS v xs t com).1.common.length:Int)<=1000000:=by
 unfold learnS
 split
 ·simp [tk0]
 ·split
  ·simp [tk0]
  ·split
   ·simp [tk0]
   ·unfold learnT
    have h3:=List.length_filter_le (fun d=>!undB xs (allS t.common com) d) t.queue
    have h4:=List.length_filter_le (topB xs (allS t.common com)) (allS t.common com)
    refine ⟨?_,?_,?_,?_⟩
    ·show (t.want.length:Int)<=1000000
     omega
    ·show ((t.queue.filter fun d=>!undB xs (allS t.common com) d).length:Int)<=1000000
     omega
    ·show (([]:List (Int × Int)).length:Int)<=1000000
     simp
    ·show (((allS t.common com).filter (topB xs (allS t.common com))).length:Int)<=1000000
     omega
theorem walk (a:Option Addr) (xs:List Itm) (c:Nat) (t:Tk) (A:TkA) (la:Option Addr) (com:List (Int × Int)) (lc:Nat) (w:World) (hp:PoolCame w a xs c) (ht:TkCame w t A) (hl:Digs w.heap.size w la com) (hlc:com.length<=lc/\lc<=maxLen) (hlo:∀ d ∈ com,OkD d) :
  Calls Tryz.prog 11 #[.slice a xs.length c,t.val A,.slice la com.length lc] w fun e w'=>e = .returned (.bool true)/\Below w.heap.size w w':=by
 have hml:=hp.cap
 unfold maxLen at hml
 have hcap:xs.length<=c:=by omega
 obtain ⟨w0,hw0⟩:∃ w0,w0=w.alloc (.cells (t.arr A) 67):=⟨_,rfl⟩
 have hb0:Below w.heap.size w w0:=by rw [hw0]; exact (Below.refl _ _).alloc (Nat.le_refl _) _
 have HB0:=hid hb0
 have HX0:Hid (BK w.heap.size (t.arr A) 67 w0):=hid (by rw [hw0]; exact BK.new _ _ _)
 have HVA:=hid (valid15_any a xs c w0 (hp.its.ahead hb0) (by omega) (fun x hx=>by have:=(hp.dat x hx).2; unfold maxLen at this; omega))
 have htl:(t.want.length:Int)<=9223372036854775807/\(t.queue.length:Int)<=9223372036854775807/\(t.asked.length:Int)<=9223372036854775807/\(t.common.length:Int)<=9223372036854775807:=by
  have h1:=ht.w.cap
  have h2:=ht.q.cap
  have h3:=ht.a.cap
  have h4:=ht.c.cap
  unfold maxLen at h1 h2 h3 h4
  omega
 have HGR:=hid (fun W=>tgreat_any t A W htl)
 have HAW:=hid awake15_any
 have HTI:Hid (∀ W,Below w.heap.size w W->TkIn W t A):=hid (fun W hW=>⟨ht.w.dig.ahead hW,ht.q.dig.ahead hW,ht.a.dig.ahead hW,ht.c.dig.ahead hW,ht.w.cap.1,ht.q.cap.1,ht.a.cap.1,ht.c.cap.1⟩)
 have HTB:Hid (greatT t=false->TkB t/\t.want.length<=20/\t.queue.length<=20/\t.asked.length<=20/\t.common.length<=20):=hid (fun h=>by
  unfold greatT at h
  simp only [Bool.or_eq_false_iff,decide_eq_false_iff_not] at h
  exact ⟨⟨by omega,by omega,by omega,by omega,ht.w.ok,ht.q.ok,ht.a.ok,ht.c.ok⟩,by omega,by omega,by omega,by omega⟩)
 have HIT:Hid (∀ W,Below w.heap.size w W->Its W.heap.size W a xs):=hid (fun W hW=>hp.its.ahead hW)
 have HVT:=hid (validS_true (xs:=xs))
 have hlc2:=hlc.2
 unfold maxLen at hlc2
 have hcb:(com.length:Int)<=9223372036854775807:=by omega
 obtain ⟨v,hv⟩:∃ v:Bool,v=true ↔ ValidT xs t:=by classical exact ⟨decide (ValidT xs t),by simp⟩
 obtain ⟨R,hR⟩:∃ R,R=learnS v xs t com:=⟨_,rfl⟩
 have HMAIN:Hid (validS xs=true->greatT t=false->com.length<=20->(∀ W,Below w.heap.size w W->Calls Tryz.prog 40 #[.agg (t.arr A),.slice a xs.length c,.slice la com.length lc] W (GotT W A.wa none R))/\(∀ W,Below w.heap.size w W->Calls Tryz.prog 41 #[.agg (t.arr A),.slice a xs.length c,.slice la com.length lc] W (GotRT W R))/\((R.1.want.length:Int)<=1000000/\(R.1.queue.length:Int)<=1000000/\(R.1.asked.length:Int)<=1000000/\(R.1.common.length:Int)<=1000000)):=hid (fun h1 h2 h3=>by
  have hV:=HVT.out h1
  obtain ⟨hb,m1,m2,m3,m4⟩:=HTB.out h2
  have hle:=hV.le
  have hal:((allS t.common com).length:Int)<=45:=by
   have h:=fold_len (t.common ++ com) []
   unfold allS
   simp only [List.length_append,List.length_nil] at h
   omega
  refine ⟨fun W hW=>?_,fun W hW=>?_,?_⟩
  ·rw [hR]
   exact learn_any a xs c t A la com lc v W (hV.pin (W:=W) (a:=a) (c:=c) (HIT.out W hW) hcap) hV.asc hV.acy (by omega) (HTI.out W hW) hb hv (hl.ahead hW) hlo (by omega) hal
  ·rw [hR]
   exact rlearn_any a xs c t A la com lc v W (HIT.out W hW) hV.asc hV.acy (by omega) (fun x hx=>by have:=hV.dat x hx; omega) (HTI.out W hW) hb hv (hl.ahead hW) hlo (by omega)
  ·rw [hR]
   exact learn_len hal m1 m2)
 clear hl hlc hlo hR hv hlc2 HTI HTB HIT HVT hcap
 clear hb0 htl hp ht hml
 unfold Tk.val at HGR ⊢
 obtain ⟨want,queue,asked,common,done⟩:=t
 obtain ⟨wa,wc,qa,qc,aa,ac,ca,cc⟩:=A
 simp only [Tk.arr] at HX0 hw0 HGR HMAIN ⊢
 obtain ⟨nl,hnl⟩:∃ n,n=com.length:=⟨_,rfl⟩
 rw [<-hnl] at HMAIN hcb ⊢
 generalize xs.length=nx at HVA HMAIN ⊢
 clear hnl
 obtain ⟨nw,hnw⟩:∃ n,n=want.length:=⟨_,rfl⟩
 obtain ⟨nq,hnq⟩:∃ n,n=queue.length:=⟨_,rfl⟩
 obtain ⟨na,hna⟩:∃ n,n=asked.length:=⟨_,rfl⟩
 obtain ⟨nc,hnc⟩:∃ n,n=common.length:=⟨_,rfl⟩
 rw [<-hnw,<-hnq,<-hna,<-hnc] at HX0 hw0 HGR HMAIN ⊢
 clear hnw hnq hna hnc
 rw [hw0] at HVA
 have HW0:=hid hw0
 clear hw0
 go_enter Tryz.func11,Tryz.ntmps11
 go_wp2_with fail
 (with_reducible refine (HVA.out).mono ?_)
 rintro e u1 ⟨rfl,hb⟩
 rw [<-HW0.out] at hb
 have HB1:=hid (HB0.out.trans (hb.mono HB0.out.size))
 have HX1:=hid (HX0.out.below hb)
 clear hb HVA HW0 HB0 HX0
 cases hv:validS xs with
 | false=>
  clear HMAIN
  have HC9:=hid (HAW.out u1)
  go_wp2_with fail
  (with_reducible refine (HC9.out).mono ?_)
  rintro e u9 ⟨rfl,hb⟩
  have HB9:=hid (HB1.out.trans (hb.mono HB1.out.size))
  clear hb HC9
  go_wp2_with fail
  go_ret
  exact ⟨rfl,HB9.out⟩
 | true=>
  by_cases hl0:20 < nl
  case pos=>
   have hi0:(20:Int) < (nl:Int):=by omega
   clear HMAIN
   have HC9:=hid (HAW.out u1)
   go_wp2_with fail
   (with_reducible refine (HC9.out).mono ?_)
   rintro e u9 ⟨rfl,hb⟩
   have HB9:=hid (HB1.out.trans (hb.mono HB1.out.size))
   clear hb HC9
   go_wp2_with fail
   go_ret
   exact ⟨rfl,HB9.out⟩
  have hi0:¬ (20:Int) < (nl:Int):=by omega
  have HC2:=hid (HGR.out u1)
  obtain ⟨k0,k1,k2,k3,k4⟩:=BK.c5 (show BK _ #[.slice wa nw wc,.slice qa nq qc,.slice aa na ac,.slice ca nc cc,.bool done] _ _ from HX1.out)
  go_wp2_with fail
  (with_reducible refine (HC2.out).mono ?_)
  rintro e u2 ⟨rfl,hb⟩
  have HB2:=hid (HB1.out.trans (hb.mono HB1.out.size))
  have HX2:=hid (HX1.out.below hb)
  clear hb HC2 HB1 HX1 k0 k1 k2 k3 k4 HGR
  cases hg:greatT ⟨want,queue,asked,common,done⟩ with
  | true=>
   clear HMAIN
   have HC9:=hid (HAW.out u2)
   go_wp2_with fail
   (with_reducible refine (HC9.out).mono ?_)
   rintro e u9 ⟨rfl,hb⟩
   have HB9:=hid (HB2.out.trans (hb.mono HB2.out.size))
   clear hb HC9
   go_wp2_with fail
   go_ret
   exact ⟨rfl,HB9.out⟩
  | false=>
   obtain ⟨HP,HQ,hl1,hl2,hl3,hl4⟩:=HMAIN.out hv hg (by omega)
   obtain ⟨⟨Rw,Rq,Ra,Rc,Rd⟩,re⟩:=R
   simp only at hl1 hl2 hl3 hl4
   have HC3:=hid (HP u2 HB2.out)
   have HQ1:=hid HQ
   obtain ⟨k0,k1,k2,k3,k4⟩:=BK.c5 (show BK _ #[.slice wa nw wc,.slice qa nq qc,.slice aa na ac,.slice ca nc cc,.bool done] _ _ from HX2.out)
   clear HMAIN HP HQ
   go_wp2_with fail
   (with_reducible refine (HC3.out).mono ?_)
   rintro e u3 ⟨⟨xwa,xwc,xqa,xqc,xaa,xac,xca,xcc⟩,rfl,hin,hb,_⟩
   simp only [Tk.val,Tk.arr]
   obtain ⟨mw,hmw⟩:∃ n,n=Rw.length:=⟨_,rfl⟩
   obtain ⟨mq,hmq⟩:∃ n,n=Rq.length:=⟨_,rfl⟩
   obtain ⟨ma,hma⟩:∃ n,n=Ra.length:=⟨_,rfl⟩
   obtain ⟨mc,hmc⟩:∃ n,n=Rc.length:=⟨_,rfl⟩
   rw [<-hmw,<-hmq,<-hma,<-hmc]
   have HMW:=hid hmw
   have HMQ:=hid hmq
   have HMA:=hid hma
   have HMC:=hid hmc
   clear hmw hmq hma hmc
   have HB3:=hid (HB2.out.trans (hb.mono HB2.out.size))
   have HX3:=hid (HX2.out.below hb)
   obtain ⟨v3,hv3⟩:∃ v,v=u3.alloc (.cells #[.slice xwa mw xwc,.slice xqa mq xqc,.slice xaa ma xac,.slice xca mc xcc,.bool Rd] 67):=⟨_,rfl⟩
   have hbv:Below u3.heap.size u3 v3:=by rw [hv3]; exact (Below.refl _ _).alloc (Nat.le_refl _) _
   have HBv:=hid (HB3.out.trans (hbv.mono HB3.out.size))
   have HXv:=hid (HX3.out.below hbv)
   have HYv:Hid (BK u3.heap.size #[.slice xwa mw xwc,.slice xqa mq xqc,.slice xaa ma xac,.slice xca mc xcc,.bool Rd] 67 v3):=hid (by rw [hv3]; exact BK.new _ _ _)
   have HIv:=hid (hin.dg.ahead hbv)
   have HC4:=hid (HQ1.out v3 HBv.out)
   clear k0 k1 k2 k3 k4
   obtain ⟨k0,k1,k2,k3,k4⟩:=BK.c5 (show BK _ #[.slice wa nw wc,.slice qa nq qc,.slice aa na ac,.slice ca nc cc,.bool done] _ _ from HXv.out)
   rw [hv3] at HC4 k0 k1 k2 k3 k4
   obtain ⟨j0,j1,j2,j3,j4⟩:=BK.c5 (show BK _ #[.slice wa nw wc,.slice qa nq qc,.slice aa na ac,.slice ca nc cc,.bool done] _ _ from HX3.out)
   have hlt3:=HX3.out.lt
   have HV3:=hid hv3
   clear hin hb hbv hv3 HC3 HB2 HX2 HB3 HX3 HQ1
   go_wp2_with fail
   (with_reducible refine (HC4.out).mono ?_)
   rintro e u4 ⟨⟨ywa,ywc,yqa,yqc,yaa,yac,yca,ycc⟩,rfl,hdg,hb⟩
   rw [<-HV3.out] at hb
   simp only [Tk.val,Tk.arr]
   rw [<-HMW.out,<-HMQ.out,<-HMA.out,<-HMC.out]
   have HB4:=hid (HBv.out.trans (hb.mono HBv.out.size))
   have HY4:=hid (HYv.out.below hb)
   obtain ⟨v4,hv4⟩:∃ v,v=u4.alloc (.cells #[.slice ywa mw ywc,.slice yqa mq yqc,.slice yaa ma yac,.slice yca mc ycc,.bool Rd] 67):=⟨_,rfl⟩
   have hbv:Below u4.heap.size u4 v4:=by rw [hv4]; exact (Below.refl _ _).alloc (Nat.le_refl _) _
   have HBx:=hid (HB4.out.trans (hbv.mono HB4.out.size))
   have HYx:=hid (HY4.out.below hbv)
   have hzx:BK u4.heap.size #[.slice ywa mw ywc,.slice yqa mq yqc,.slice yaa ma yac,.slice yca mc ycc,.bool Rd] 67 v4:=by rw [hv4]; exact BK.new _ _ _
   have HC5:=hid (tsame_any ⟨Rw,Rq,Ra,Rc,Rd⟩ ⟨xwa,xwc,xqa,xqc,xaa,xac,xca,xcc⟩ ⟨ywa,ywc,yqa,yqc,yaa,yac,yca,ycc⟩ v4 ((HIv.out.ahead hb).ahead hbv) (hdg.ahead hbv) ⟨hl1,hl2,hl3,hl4⟩)
   simp only [Tk.val,Tk.arr] at HC5
   rw [<-HMW.out,<-HMQ.out,<-HMA.out,<-HMC.out] at HC5
   clear k0 k1 k2 k3 k4
   obtain ⟨k0,k1,k2,k3,k4⟩:=BK.c5 (show BK _ #[.slice xwa mw xwc,.slice xqa mq xqc,.slice xaa ma xac,.slice xca mc xcc,.bool Rd] _ _ from HYx.out)
   obtain ⟨l0,l1,l2,l3,l4⟩:=BK.c5 (show BK _ #[.slice ywa mw ywc,.slice yqa mq yqc,.slice yaa ma yac,.slice yca mc ycc,.bool Rd] _ _ from hzx)
   rw [hv4] at HC5 k0 k1 k2 k3 k4 l0 l1 l2 l3 l4
   have HV4:=hid hv4
   clear hdg hb hbv hv4 hzx HC4 HBv HXv HYv HIv HV3 HB4 HY4 HMW HMQ HMA HMC hl1 hl2 hl3 hl4
   go_wp2_with fail
   (with_reducible refine (HC5.out).mono ?_)
   rintro e u5 ⟨rfl,hb⟩
   rw [<-HV4.out] at hb
   have HB5:=hid (HBx.out.trans (hb.mono HBx.out.size))
   clear hb HC5 HBx HYx HV4 k0 k1 k2 k3 k4 l0 l1 l2 l3 l4
   have HC9:=hid (HAW.out u5)
   go_wp2_with fail
   (with_reducible refine (HC9.out).mono ?_)
   rintro e u9 ⟨rfl,hb⟩
   have HB9:=hid (HB5.out.trans (hb.mono HB5.out.size))
   clear hb HC9
   go_wp2_with fail
   go_ret
   exact ⟨rfl,HB9.out⟩
end Go.Proofs.YtfdahmicigpnoaaGreat.negotiateLearn
