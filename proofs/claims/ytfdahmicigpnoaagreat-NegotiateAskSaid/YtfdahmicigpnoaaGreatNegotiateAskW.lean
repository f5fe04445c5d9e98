/- The walk of the statement NegotiateAsk. -/
import Derived.Test.YtfdahmicigpnoaaGreatNeRd
import Derived.Test.YtfdahmicigpnoaaGreatNeAw
import Derived.Test.YtfdahmicigpnoaaGreatNeLv
import Derived.Test.YtfdahmicigpnoaaGreatNeOp
import Derived.Test.YtfdahmicigpnoaaGreatNeBg
import Derived.Test.YtfdahmicigpnoaaGreatNeAk
set_option maxRecDepth 100000
set_option maxHeartbeats 16000000
open Go.Lib (hid)
namespace Go.Proofs.YtfdahmicigpnoaaGreat.negotiateAsk
open Go.RowKit Go.Shelf
set_option linter.unusedVariables false
theorem anc_small {xs:List Itm} {l:List (Int × Int)} (hx:xs.length<=500) (hok:∀ d ∈ l,OkD d):((ancS xs l).1.length:Int)<=500:=by
 by_cases h:(visS xs l []).2=0
 ·have hf:=vis_facts h hok
  have e:(ancS xs l).1=sortH (depS xs) (visS xs l []).1:=by unfold ancS; rw [if_neg (by simpa using h)]
  rw [e,(sortH_perm _ _).length_eq]
  have:=hf.le
  omega
 ·rw [ancS_err h]; simp
theorem begin_len {xs:List Itm} {hs ws:List (Int × Int)} (hx:xs.length<=500) (hok:∀ d ∈ hs,OkD d) (h1:ws.length<=20):((beginS xs hs ws).1.want.length:Int)<=1000000/\((beginS xs hs ws).1.queue.length:Int)<=1000000/\((beginS xs hs ws).1.asked.length:Int)<=1000000/\((beginS xs hs ws).1.common.length:Int)<=1000000:=by
 have h2:=wantS_len xs ws
 have h3:=anc_small hx hok
 unfold beginS
 split
 ·simp [tk0]
 ·refine ⟨?_,?_,?_,?_⟩
  ·simp only; omega
  ·simp only; split
   ·simp
   ·omega
  ·simp
  ·simp
theorem ask_len {v:Bool} {t:Tk} {most:Int} (h1:t.want.length<=20) (h2:t.queue.length<=20) (h3:t.common.length<=20):(((askS v t most).1.want.length:Int)<=1000000/\((askS v t most).1.queue.length:Int)<=1000000/\((askS v t most).1.asked.length:Int)<=1000000/\((askS v t most).1.common.length:Int)<=1000000)/\((askS v t most).2.1.length:Int)<=1000000:=by
 have h4:=List.length_take_le (min most.toNat t.queue.length) t.queue
 unfold askS
 split
 ·simp [tk0]
 ·split
  ·simp [tk0]
  ·split
   ·simp [tk0]
   ·unfold askT
    simp only [List.length_take,List.length_drop]
    omega
theorem walk (a:Option Addr) (xs:List Itm) (c:Nat) (ha:Option Addr) (heads:List (Int × Int)) (hc:Nat) (ga:Option Addr) (want0:List (Int × Int)) (gc:Nat) (t:Tk) (A:TkA) (most:Int) (hmw:(Lit.int .i64 most).wf=true) (w:World) (hp:PoolCame w a xs c) (hh:Digs w.heap.size w ha heads) (hhc:heads.length<=hc/\hc<=maxLen) (hho:∀ d ∈ heads,OkD d) (hg:Digs w.heap.size w ga want0) (hgc:want0.length<=gc/\gc<=maxLen) (hgo:∀ d ∈ want0,OkD d) (ht:TkCame w t A) :
  Calls Tryz.prog 10 #[.slice a xs.length c,.slice ha heads.length hc,.slice ga want0.length gc,t.val A,.int .i64 most] w fun e w'=>e = .returned (.bool true)/\Below w.heap.size w w':=by
 have hml:=hp.cap
 unfold maxLen at hml
 have hcap:xs.length<=c:=by omega
 obtain ⟨w0,hw0⟩:∃ w0,w0=w.alloc (.cells (t.arr A) 67):=⟨_,rfl⟩
 have hb0:Below w.heap.size w w0:=by rw [hw0]; exact (Below.refl _ _).alloc (Nat.le_refl _) _
 have HB0:=hid hb0
 have HX0:Hid (BK w.heap.size (t.arr A) 67 w0):=hid (by rw [hw0]; exact BK.new _ _ _)
 have HVA:=hid (valid15_any a xs c w0 (hp.its.ahead hb0) (by omega) (fun x hx=>by have:=(hp.dat x hx).2; unfold maxLen at this; omega))
 have htl:(t.want.length:Int)<=9223372036854775807/\(t.queue.length:Int)<=9223372036854775807/\(t.asked.length:Int)<=9223372036854775807/\(t.common.length:Int)<=9223372036854775807:=by
  have h1:=ht.w.cap
  have h2:=ht.q.cap
  have h3:=ht.a.cap
  have h4:=ht.c.cap
  unfold maxLen at h1 h2 h3 h4
  omega
 have HGR:=hid (fun W=>tgreat_any t A W htl)
 have HAW:=hid awake15_any
 have HTI:Hid (∀ W,Below w.heap.size w W->TkIn W t A):=hid (fun W hW=>⟨ht.w.dig.ahead hW,ht.q.dig.ahead hW,ht.a.dig.ahead hW,ht.c.dig.ahead hW,ht.w.cap.1,ht.q.cap.1,ht.a.cap.1,ht.c.cap.1⟩)
 have HTB:Hid (greatT t=false->TkB t/\t.want.length<=20/\t.queue.length<=20/\t.asked.length<=20/\t.common.length<=20):=hid (fun h=>by
  unfold greatT at h
  simp only [Bool.or_eq_false_iff,decide_eq_false_iff_not] at h
  exact ⟨⟨by omega,by omega,by omega,by omega,ht.w.ok,ht.q.ok,ht.a.ok,ht.c.ok⟩,by omega,by omega,by omega,by omega⟩)
 have HIT:Hid (∀ W,Below w.heap.size w W->Its W.heap.size W a xs):=hid (fun W hW=>hp.its.ahead hW)
 have HVT:=hid (validS_true (xs:=xs))
 have hlc2:=hhc.2
 have hlc3:=hgc.2
 unfold maxLen at hlc2 hlc3
 have hcb:(heads.length:Int)<=9223372036854775807/\(want0.length:Int)<=9223372036854775807:=by omega
 obtain ⟨v,hv⟩:∃ v:Bool,v=true ↔ ValidT xs t:=by classical exact ⟨decide (ValidT xs t),by simp⟩
 obtain ⟨R,hR⟩:∃ R,R=beginS xs heads want0:=⟨_,rfl⟩
 obtain ⟨K,hK⟩:∃ K,K=askS v t most:=⟨_,rfl⟩
 have HMAIN:Hid (validS xs=true->greatT t=false->heads.length<=20->want0.length<=20->(∀ W,Below w.heap.size w W->Calls Tryz.prog 34 #[.slice a xs.length c,.slice ha heads.length hc,.slice ga want0.length gc] W (GotT W none none R))/\(∀ W,Below w.heap.size w W->Calls Tryz.prog 35 #[.slice a xs.length c,.slice ha heads.length hc,.slice ga want0.length gc] W (GotRT W R))/\(∀ W,Below w.heap.size w W->Calls Tryz.prog 36 #[.agg (t.arr A),.slice a xs.length c,.int .i64 most] W (GotTL W A.wa A.ca K))/\(∀ W,Below w.heap.size w W->Calls Tryz.prog 37 #[.agg (t.arr A),.slice a xs.length c,.int .i64 most] W (GotRTL W K))/\((R.1.want.length:Int)<=1000000/\(R.1.queue.length:Int)<=1000000/\(R.1.asked.length:Int)<=1000000/\(R.1.common.length:Int)<=1000000)/\((K.1.want.length:Int)<=1000000/\(K.1.queue.length:Int)<=1000000/\(K.1.asked.length:Int)<=1000000/\(K.1.common.length:Int)<=1000000)/\(K.2.1.length:Int)<=1000000):=hid (fun h1 h2 h3 h4=>by
  have hV:=HVT.out h1
  obtain ⟨hb,m1,m2,m3,m4⟩:=HTB.out h2
  have hle:=hV.le
  obtain ⟨e1,e2⟩:=ask_len (v:=v) (most:=most) m1 m2 m4
  refine ⟨fun W hW=>?_,fun W hW=>?_,fun W hW=>?_,fun W hW=>?_,?_,?_,?_⟩
  ·rw [hR]
   exact begin_any a xs c ha heads hc ga want0 gc W (hV.pin (W:=W) (a:=a) (c:=c) (HIT.out W hW) hcap) hV.asc hV.acy (by omega) (hh.ahead hW) hho (by omega) (hg.ahead hW) (by omega)
  ·rw [hR]
   exact rbegin_any a xs c ha heads hc ga want0 gc W (HIT.out W hW) hV.asc hV.acy (by omega) (fun x hx=>by have:=hV.dat x hx; omega) (hh.ahead hW) (by omega) hho (hg.ahead hW) (by omega)
  ·rw [hK]
   exact ask_any a xs c t A most v W (hV.pin (W:=W) (a:=a) (c:=c) (HIT.out W hW) hcap) hV.asc hV.acy (by omega) (HTI.out W hW) hb hv
  ·rw [hK]
   exact rask_any a xs c t A most v W (HIT.out W hW) hV.asc hV.acy (by omega) (fun x hx=>by have:=hV.dat x hx; omega) (HTI.out W hW) hb hv
  ·rw [hR]
   exact begin_len (by omega) hho h4
  ·rw [hK]
   exact e1
  ·rw [hK]
   exact e2)
 clear hmw hh hhc hho hg hgc hgo hR hK hv hlc2 hlc3 HTI HTB HIT HVT hcap
 clear hb0 htl hp ht hml
 unfold Tk.val at HGR ⊢
 obtain ⟨want,queue,asked,common,done⟩:=t
 obtain ⟨wa,wc,qa,qc,aa,ac,ca,cc⟩:=A
 simp only [Tk.arr] at HX0 hw0 HGR HMAIN ⊢
 obtain ⟨nh,hnh⟩:∃ n,n=heads.length:=⟨_,rfl⟩
 obtain ⟨ng,hng⟩:∃ n,n=want0.length:=⟨_,rfl⟩
 rw [<-hnh,<-hng] at HMAIN hcb ⊢
 generalize xs.length=nx at HVA HMAIN ⊢
 clear hnh hng
 obtain ⟨nw,hnw⟩:∃ n,n=want.length:=⟨_,rfl⟩
 obtain ⟨nq,hnq⟩:∃ n,n=queue.length:=⟨_,rfl⟩
 obtain ⟨na,hna⟩:∃ n,n=asked.length:=⟨_,rfl⟩
 obtain ⟨nc,hnc⟩:∃ n,n=common.length:=⟨_,rfl⟩
 rw [<-hnw,<-hnq,<-hna,<-hnc] at HX0 hw0 HGR HMAIN ⊢
 clear hnw hnq hna hnc
 rw [hw0] at HVA
 have HW0:=hid hw0
 clear hw0
 go_enter Tryz.func10,Tryz.ntmps10
 go_wp2_with fail
 (with_reducible refine (HVA.out).mono ?_)
 rintro e u1 ⟨rfl,hb⟩
 rw [<-HW0.out] at hb
 have HB1:=hid (HB0.out.trans (hb.mono HB0.out.size))
 have HX1:=hid (HX0.out.below hb)
 clear hb HVA HW0 HB0 HX0
 cases hv:validS xs with
 | false=>
  clear HMAIN
  have HC9:=hid (HAW.out u1)
  go_wp2_with fail
  (with_reducible refine (HC9.out).mono ?_)
  rintro e u9 ⟨rfl,hb⟩
  have HB9:=hid (HB1.out.trans (hb.mono HB1.out.size))
  clear hb HC9
  go_wp2_with fail
  go_ret
  exact ⟨rfl,HB9.out⟩
 | true=>
  by_cases hl0:20 < nh
  case pos=>
   have hi0:(20:Int) < (nh:Int):=by omega
   clear HMAIN
   have HC9:=hid (HAW.out u1)
   go_wp2_with fail
   (with_reducible refine (HC9.out).mono ?_)
   rintro e u9 ⟨rfl,hb⟩
   have HB9:=hid (HB1.out.trans (hb.mono HB1.out.size))
   clear hb HC9
   go_wp2_with fail
   go_ret
   exact ⟨rfl,HB9.out⟩
  have hi0:¬ (20:Int) < (nh:Int):=by omega
  by_cases hl1:20 < ng
  case pos=>
   have hi1:(20:Int) < (ng:Int):=by omega
   clear HMAIN
   have HC9:=hid (HAW.out u1)
   go_wp2_with fail
   (with_reducible refine (HC9.out).mono ?_)
   rintro e u9 ⟨rfl,hb⟩
   have HB9:=hid (HB1.out.trans (hb.mono HB1.out.size))
   clear hb HC9
   go_wp2_with fail
   go_ret
   exact ⟨rfl,HB9.out⟩
  have hi1:¬ (20:Int) < (ng:Int):=by omega
  have HC2:=hid (HGR.out u1)
  obtain ⟨k0,k1,k2,k3,k4⟩:=BK.c5 (show BK _ #[.slice wa nw wc,.slice qa nq qc,.slice aa na ac,.slice ca nc cc,.bool done] _ _ from HX1.out)
  go_wp2_with fail
  (with_reducible refine (HC2.out).mono ?_)
  rintro e u2 ⟨rfl,hb⟩
  have HB2:=hid (HB1.out.trans (hb.mono HB1.out.size))
  have HX2:=hid (HX1.out.below hb)
  clear hb HC2 HB1 HX1 k0 k1 k2 k3 k4 HGR
  cases hg:greatT ⟨want,queue,asked,common,done⟩ with
  | true=>
   clear HMAIN
   have HC9:=hid (HAW.out u2)
   go_wp2_with fail
   (with_reducible refine (HC9.out).mono ?_)
   rintro e u9 ⟨rfl,hb⟩
   have HB9:=hid (HB2.out.trans (hb.mono HB2.out.size))
   clear hb HC9
   go_wp2_with fail
   go_ret
   exact ⟨rfl,HB9.out⟩
  | false=>
   obtain ⟨HP,HQ,HPK,HQK,⟨hl1,hl2,hl3,hl4⟩,⟨hm1,hm2,hm3,hm4⟩,hm5⟩:=HMAIN.out hv hg (by omega) (by omega)
   obtain ⟨⟨Bw,Bq,Bs,Bk,Bd⟩,re⟩:=R
   obtain ⟨⟨Fw,Fq,Fs,Fk,Fd⟩,L,ke⟩:=K
   simp only at hl1 hl2 hl3 hl4 hm1 hm2 hm3 hm4 hm5
   have HPB:=hid HP
   have HQB:=hid HQ
   have HPA:=hid HPK
   have HQA:=hid HQK
   have HLB:=hid (And.intro hl1 (And.intro hl2 (And.intro hl3 hl4)))
   have HLK:=hid (And.intro hm1 (And.intro hm2 (And.intro hm3 hm4)))
   have HLL:=hid hm5
   obtain ⟨bw,hbw⟩:∃ n,n=Bw.length:=⟨_,rfl⟩
   have HNbw:=hid hbw
   obtain ⟨bq,hbq⟩:∃ n,n=Bq.length:=⟨_,rfl⟩
   have HNbq:=hid hbq
   obtain ⟨bs,hbs⟩:∃ n,n=Bs.length:=⟨_,rfl⟩
   have HNbs:=hid hbs
   obtain ⟨bk,hbk⟩:∃ n,n=Bk.length:=⟨_,rfl⟩
   have HNbk:=hid hbk
   obtain ⟨fw,hfw⟩:∃ n,n=Fw.length:=⟨_,rfl⟩
   have HNfw:=hid hfw
   obtain ⟨fq,hfq⟩:∃ n,n=Fq.length:=⟨_,rfl⟩
   have HNfq:=hid hfq
   obtain ⟨fs,hfs⟩:∃ n,n=Fs.length:=⟨_,rfl⟩
   have HNfs:=hid hfs
   obtain ⟨fk,hfk⟩:∃ n,n=Fk.length:=⟨_,rfl⟩
   have HNfk:=hid hfk
   obtain ⟨ln,hln⟩:∃ n,n=L.length:=⟨_,rfl⟩
   have HNL:=hid hln
   clear HP HQ HPK HQK hl1 hl2 hl3 hl4 hm1 hm2 hm3 hm4 hm5 HMAIN hbw hbq hbs hbk hfw hfq hfs hfk hln
   have HC:=hid (HPB.out u2 HB2.out)
   go_wp2_with fail
   (with_reducible refine (HC.out).mono ?_)
   rintro e u3 ⟨⟨xwa,xwc,xqa,xqc,xsa,xsc,xka,xkc⟩,rfl,hin,hb,_⟩
   simp only [Tk.val,Tk.arr]
   rw [<-HNbw.out,<-HNbq.out,<-HNbs.out,<-HNbk.out]
   have HB3:=hid (HB2.out.trans (hb.mono HB2.out.size))
   have HX3:=hid (HX2.out.below hb)
   clear HB2 HX2
   clear hb HC
   have HxT3:=hid (hin.dg)
   have HY:=HX3
   obtain ⟨v4,hv4⟩:∃ v,v=u3.alloc (.cells #[.slice xwa bw xwc,.slice xqa bq xqc,.slice xsa bs xsc,.slice xka bk xkc,.bool Bd] 67):=⟨_,rfl⟩
   have hb:Below u3.heap.size u3 v4:=by rw [hv4]; exact (Below.refl _ _).alloc (Nat.le_refl _) _
   have PXx4:Hid (BK u3.heap.size #[.slice xwa bw xwc,.slice xqa bq xqc,.slice xsa bs xsc,.slice xka bk xkc,.bool Bd] 67 v4):=hid (by rw [hv4]; exact BK.new _ _ _)
   have hu4:True:=trivial
   obtain ⟨u4,hu4⟩:∃ u,u=u3:=⟨_,rfl⟩
   have HB4:=hid (HB3.out.trans (hb.mono HB3.out.size))
   have HX4:=hid (HX3.out.below hb)
   have HxT4:=hid (HxT3.out.ahead hb)
   clear HB3 HX3 HxT3
   subst hu4
   clear hb
   have HC:=hid (HQB.out v4 HB4.out)
   rw [hv4] at HC
   have HV:=hid hv4
   clear hv4
   go_wp2_with fail
   (with_reducible refine (HC.out).mono ?_)
   rintro e u5 ⟨⟨ywa,ywc,yqa,yqc,ysa,ysc,yka,ykc⟩,rfl,hdg,hb⟩
   simp only [Tk.val,Tk.arr]
   rw [<-HV.out] at hb
   rw [<-HNbw.out,<-HNbq.out,<-HNbs.out,<-HNbk.out]
   have HB5:=hid (HB4.out.trans (hb.mono HB4.out.size))
   have HX5:=hid (HX4.out.below hb)
   have HxT5:=hid (HxT4.out.ahead hb)
   have PXx5:=hid (PXx4.out.below hb)
   clear HB4 HX4 HxT4 PXx4
   clear hb HC HV HY
   have HyT5:=hid (hdg)
   have HY:=HX5
   obtain ⟨v6,hv6⟩:∃ v,v=u5.alloc (.cells #[.slice ywa bw ywc,.slice yqa bq yqc,.slice ysa bs ysc,.slice yka bk ykc,.bool Bd] 67):=⟨_,rfl⟩
   have hb:Below u5.heap.size u5 v6:=by rw [hv6]; exact (Below.refl _ _).alloc (Nat.le_refl _) _
   have PXy6:Hid (BK u5.heap.size #[.slice ywa bw ywc,.slice yqa bq yqc,.slice ysa bs ysc,.slice yka bk ykc,.bool Bd] 67 v6):=hid (by rw [hv6]; exact BK.new _ _ _)
   have hu6:True:=trivial
   obtain ⟨u6,hu6⟩:∃ u,u=u5:=⟨_,rfl⟩
   have HB6:=hid (HB5.out.trans (hb.mono HB5.out.size))
   have HX6:=hid (HX5.out.below hb)
   have HxT6:=hid (HxT5.out.ahead hb)
   have PXx6:=hid (PXx5.out.below hb)
   have HyT6:=hid (HyT5.out.ahead hb)
   clear HB5 HX5 HxT5 PXx5 HyT5
   subst hu6
   clear hb
   have HC:=hid (HPA.out v6 HB6.out)
   obtain ⟨k0,k1,k2,k3,k4⟩:=BK.c5 (show BK _ #[.slice wa nw wc,.slice qa nq qc,.slice aa na ac,.slice ca nc cc,.bool done] _ _ from HX6.out)
   obtain ⟨j0,j1,j2,j3,j4⟩:=BK.c5 (show BK _ #[.slice wa nw wc,.slice qa nq qc,.slice aa na ac,.slice ca nc cc,.bool done] _ _ from HY.out)
   have hlt:=HY.out.lt
   rw [hv6] at HC k0 k1 k2 k3 k4
   have HV:=hid hv6
   clear hv6
   go_wp2_with fail
   (with_reducible refine (HC.out).mono ?_)
   rintro e u7 ⟨⟨zwa,zwc,zqa,zqc,zsa,zsc,zka,zkc⟩,la,lc,rfl,hin2,hdl,_,hb,_⟩
   simp only [Tk.val,Tk.arr]
   rw [<-HV.out] at hb
   rw [<-HNfw.out,<-HNfq.out,<-HNfs.out,<-HNfk.out,<-HNL.out]
   have HB7:=hid (HB6.out.trans (hb.mono HB6.out.size))
   have HX7:=hid (HX6.out.below hb)
   have HxT7:=hid (HxT6.out.ahead hb)
   have PXx7:=hid (PXx6.out.below hb)
   have HyT7:=hid (HyT6.out.ahead hb)
   have PXy7:=hid (PXy6.out.below hb)
   clear HB6 HX6 HxT6 PXx6 HyT6 PXy6
   clear hb HC HV HY k0 k1 k2 k3 k4 j0 j1 j2 j3 j4 hlt
   have HzT7:=hid (hin2.dg)
   have HzL7:=hid (hdl)
   have HY:=HX7
   obtain ⟨v8,hv8⟩:∃ v,v=u7.alloc (.cells #[.slice zwa fw zwc,.slice zqa fq zqc,.slice zsa fs zsc,.slice zka fk zkc,.bool Fd] 67):=⟨_,rfl⟩
   have hb:Below u7.heap.size u7 v8:=by rw [hv8]; exact (Below.refl _ _).alloc (Nat.le_refl _) _
   have PXz8:Hid (BK u7.heap.size #[.slice zwa fw zwc,.slice zqa fq zqc,.slice zsa fs zsc,.slice zka fk zkc,.bool Fd] 67 v8):=hid (by rw [hv8]; exact BK.new _ _ _)
   have hu8:True:=trivial
   obtain ⟨u8,hu8⟩:∃ u,u=u7:=⟨_,rfl⟩
   have HB8:=hid (HB7.out.trans (hb.mono HB7.out.size))
   have HX8:=hid (HX7.out.below hb)
   have HxT8:=hid (HxT7.out.ahead hb)
   have PXx8:=hid (PXx7.out.below hb)
   have HyT8:=hid (HyT7.out.ahead hb)
   have PXy8:=hid (PXy7.out.below hb)
   have HzT8:=hid (HzT7.out.ahead hb)
   have HzL8:=hid (HzL7.out.ahead hb)
   clear HB7 HX7 HxT7 PXx7 HyT7 PXy7 HzT7 HzL7
   subst hu8
   clear hb
   have HC:=hid (HQA.out v8 HB8.out)
   obtain ⟨k0,k1,k2,k3,k4⟩:=BK.c5 (show BK _ #[.slice wa nw wc,.slice qa nq qc,.slice aa na ac,.slice ca nc cc,.bool done] _ _ from HX8.out)
   obtain ⟨j0,j1,j2,j3,j4⟩:=BK.c5 (show BK _ #[.slice wa nw wc,.slice qa nq qc,.slice aa na ac,.slice ca nc cc,.bool done] _ _ from HY.out)
   have hlt:=HY.out.lt
   rw [hv8] at HC k0 k1 k2 k3 k4
   have HV:=hid hv8
   clear hv8
   go_wp2_with fail
   (with_reducible refine (HC.out).mono ?_)
   rintro e u9 ⟨⟨vwa,vwc,vqa,vqc,vsa,vsc,vka,vkc⟩,ma,mc,rfl,hdg2,hdm,hb⟩
   simp only [Tk.val,Tk.arr]
   rw [<-HV.out] at hb
   rw [<-HNfw.out,<-HNfq.out,<-HNfs.out,<-HNfk.out,<-HNL.out]
   have HB9:=hid (HB8.out.trans (hb.mono HB8.out.size))
   have HX9:=hid (HX8.out.below hb)
   have HxT9:=hid (HxT8.out.ahead hb)
   have PXx9:=hid (PXx8.out.below hb)
   have HyT9:=hid (HyT8.out.ahead hb)
   have PXy9:=hid (PXy8.out.below hb)
   have HzT9:=hid (HzT8.out.ahead hb)
   have HzL9:=hid (HzL8.out.ahead hb)
   have PXz9:=hid (PXz8.out.below hb)
   clear HB8 HX8 HxT8 PXx8 HyT8 PXy8 HzT8 HzL8 PXz8
   clear hb HC HV HY k0 k1 k2 k3 k4 j0 j1 j2 j3 j4 hlt
   have HvT9:=hid (hdg2)
   have HvL9:=hid (hdm)
   have HY:=HX9
   obtain ⟨v10,hv10⟩:∃ v,v=u9.alloc (.cells #[.slice vwa fw vwc,.slice vqa fq vqc,.slice vsa fs vsc,.slice vka fk vkc,.bool Fd] 67):=⟨_,rfl⟩
   have hb:Below u9.heap.size u9 v10:=by rw [hv10]; exact (Below.refl _ _).alloc (Nat.le_refl _) _
   have PXv10:Hid (BK u9.heap.size #[.slice vwa fw vwc,.slice vqa fq vqc,.slice vsa fs vsc,.slice vka fk vkc,.bool Fd] 67 v10):=hid (by rw [hv10]; exact BK.new _ _ _)
   have hu10:True:=trivial
   obtain ⟨u10,hu10⟩:∃ u,u=u9:=⟨_,rfl⟩
   have HB10:=hid (HB9.out.trans (hb.mono HB9.out.size))
   have HX10:=hid (HX9.out.below hb)
   have HxT10:=hid (HxT9.out.ahead hb)
   have PXx10:=hid (PXx9.out.below hb)
   have HyT10:=hid (HyT9.out.ahead hb)
   have PXy10:=hid (PXy9.out.below hb)
   have HzT10:=hid (HzT9.out.ahead hb)
   have HzL10:=hid (HzL9.out.ahead hb)
   have PXz10:=hid (PXz9.out.below hb)
   have HvT10:=hid (HvT9.out.ahead hb)
   have HvL10:=hid (HvL9.out.ahead hb)
   clear HB9 HX9 HxT9 PXx9 HyT9 PXy9 HzT9 HzL9 PXz9 HvT9 HvL9
   subst hu10
   clear hb
   clear HY
   have HC:=hid (tsame_any ⟨Bw,Bq,Bs,Bk,Bd⟩ ⟨xwa,xwc,xqa,xqc,xsa,xsc,xka,xkc⟩ ⟨ywa,ywc,yqa,yqc,ysa,ysc,yka,ykc⟩ v10 HxT10.out HyT10.out HLB.out)
   simp only [Tk.val,Tk.arr] at HC
   rw [<-HNbw.out,<-HNbq.out,<-HNbs.out,<-HNbk.out] at HC
   obtain ⟨x0,x1,x2,x3,x4⟩:=BK.c5 (show BK _ #[.slice xwa bw xwc,.slice xqa bq xqc,.slice xsa bs xsc,.slice xka bk xkc,.bool Bd] _ _ from PXx10.out)
   obtain ⟨y0,y1,y2,y3,y4⟩:=BK.c5 (show BK _ #[.slice ywa bw ywc,.slice yqa bq yqc,.slice ysa bs ysc,.slice yka bk ykc,.bool Bd] _ _ from PXy10.out)
   rw [hv10] at HC x0 x1 x2 x3 x4 y0 y1 y2 y3 y4
   have HV:=hid hv10
   clear hv10
   go_wp2_with fail
   (with_reducible refine (HC.out).mono ?_)
   rintro e u11 ⟨rfl,hb⟩
   rw [<-HV.out] at hb
   have HB11:=hid (HB10.out.trans (hb.mono HB10.out.size))
   have HX11:=hid (HX10.out.below hb)
   have HxT11:=hid (HxT10.out.ahead hb)
   have PXx11:=hid (PXx10.out.below hb)
   have HyT11:=hid (HyT10.out.ahead hb)
   have PXy11:=hid (PXy10.out.below hb)
   have HzT11:=hid (HzT10.out.ahead hb)
   have HzL11:=hid (HzL10.out.ahead hb)
   have PXz11:=hid (PXz10.out.below hb)
   have HvT11:=hid (HvT10.out.ahead hb)
   have HvL11:=hid (HvL10.out.ahead hb)
   have PXv11:=hid (PXv10.out.below hb)
   clear HB10 HX10 HxT10 PXx10 HyT10 PXy10 HzT10 HzL10 PXz10 HvT10 HvL10 PXv10
   clear hb HC HV x0 x1 x2 x3 x4 y0 y1 y2 y3 y4
   have HC:=hid (tsame_any ⟨Fw,Fq,Fs,Fk,Fd⟩ ⟨zwa,zwc,zqa,zqc,zsa,zsc,zka,zkc⟩ ⟨vwa,vwc,vqa,vqc,vsa,vsc,vka,vkc⟩ u11 HzT11.out HvT11.out HLK.out)
   simp only [Tk.val,Tk.arr] at HC
   rw [<-HNfw.out,<-HNfq.out,<-HNfs.out,<-HNfk.out] at HC
   obtain ⟨x0,x1,x2,x3,x4⟩:=BK.c5 (show BK _ #[.slice zwa fw zwc,.slice zqa fq zqc,.slice zsa fs zsc,.slice zka fk zkc,.bool Fd] _ _ from PXz11.out)
   obtain ⟨y0,y1,y2,y3,y4⟩:=BK.c5 (show BK _ #[.slice vwa fw vwc,.slice vqa fq vqc,.slice vsa fs vsc,.slice vka fk vkc,.bool Fd] _ _ from PXv11.out)
   go_wp2_with fail
   (with_reducible refine (HC.out).mono ?_)
   rintro e u12 ⟨rfl,hb⟩
   have HB12:=hid (HB11.out.trans (hb.mono HB11.out.size))
   have HX12:=hid (HX11.out.below hb)
   have HxT12:=hid (HxT11.out.ahead hb)
   have PXx12:=hid (PXx11.out.below hb)
   have HyT12:=hid (HyT11.out.ahead hb)
   have PXy12:=hid (PXy11.out.below hb)
   have HzT12:=hid (HzT11.out.ahead hb)
   have HzL12:=hid (HzL11.out.ahead hb)
   have PXz12:=hid (PXz11.out.below hb)
   have HvT12:=hid (HvT11.out.ahead hb)
   have HvL12:=hid (HvL11.out.ahead hb)
   have PXv12:=hid (PXv11.out.below hb)
   clear HB11 HX11 HxT11 PXx11 HyT11 PXy11 HzT11 HzL11 PXz11 HvT11 HvL11 PXv11
   clear hb HC x0 x1 x2 x3 x4 y0 y1 y2 y3 y4
   have HC:=hid (same13_any la ma L L lc mc u12 HzL12.out HvL12.out (by have:=HLL.out; omega))
   rw [decide_eq_true rfl,<-HNL.out] at HC
   go_wp2_with fail
   (with_reducible refine (HC.out).mono ?_)
   rintro e u13 ⟨rfl,hb⟩
   have HB13:=hid (HB12.out.trans (hb.mono HB12.out.size))
   clear hb HC
   have HC9:=hid (HAW.out u13)
   go_wp2_with fail
   (with_reducible refine (HC9.out).mono ?_)
   rintro e u14 ⟨rfl,hb⟩
   have HB14:=hid (HB13.out.trans (hb.mono HB13.out.size))
   clear hb HC9
   go_wp2_with fail
   go_ret
   exact ⟨rfl,HB14.out⟩
end Go.Proofs.YtfdahmicigpnoaaGreat.negotiateAsk
