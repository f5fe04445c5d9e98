/- The walk of the statement NegotiateOnce. -/
import Derived.Test.YtdeggadmbjkpfaaGreatNeTw
import Derived.Test.YtdeggadmbjkpfaaGreatNeAw
set_option maxRecDepth 100000
set_option maxHeartbeats 16000000
namespace Go.Proofs.YtdeggadmbjkpfaaGreat.negotiateOnce
open Go.RowKit Go.Shelf Go.Sort
set_option linter.unusedVariables false
theorem quo_most {n mm nn:Nat} (h1:1 ≤ mm) (h:n ≤ (nn + mm - 1) / mm):(n:Int) ≤ ((nn:Int) + (mm:Int) - 1) / (mm:Int):=by
 have e:(nn:Int) + (mm:Int) - 1=((nn + mm - 1:Nat):Int):=by omega
 rw [e]
 have h2:(((nn + mm - 1) / mm:Nat):Int)=((nn + mm - 1:Nat):Int) / (mm:Int):=Int.natCast_ediv _ _
 omega
theorem walk (x:Tlk) (A:TlA) (w:World) (h:TlCame w x A) :
  Calls Tryz.prog 7 #[.agg (x.arr A)] w fun e w'=>e = .returned (.bool true) ∧ Below w.heap.size w w':=by
 obtain ⟨w0,hw0⟩:∃ w0,w0=w.alloc (.cells (x.arr A) 45):=⟨_,rfl⟩
 have hb0:Below w.heap.size w w0:=by rw [hw0]; exact (Below.refl _ _).alloc (Nat.le_refl _) _
 have hcame:∀ W,Below w.heap.size w W → TlCame W x A:=fun W hW=>⟨⟨h.cl.its.ahead hW,h.cl.cap,h.cl.dat⟩,⟨h.sv.its.ahead hW,h.sv.cap,h.sv.dat⟩,⟨h.hd.dig.ahead hW,h.hd.cap,h.hd.ok⟩,⟨h.wt.dig.ahead hW,h.wt.cap,h.wt.ok⟩,h.mo⟩
 have HFI:=Lib.hid (fine15_any x A w0 (hcame w0 hb0))
 have HTK:=Lib.hid (fun W (hW:Below w.heap.size w W) (hf:Fine x)=>talk_any x A W (hcame W hW) hf)
 have HAN:=Lib.hid (fun W (hW:Below w.heap.size w W) (hf:Fine x)=>rancestors_any A.ca x.cl A.cc A.ha x.hd A.hc W (h.cl.its.ahead hW) hf.cl.asc hf.cl.acy (by have:=hf.cl.le; omega) (fun y hy=>by have:=hf.cl.dat y hy; omega) (h.hd.dig.ahead hW) (by have:=hf.hl; omega) h.hd.ok)
 have HAL:=Lib.hid (fun (hf:Fine x)=>anc_le hf.cl h.hd.ok)
 have HAW:=Lib.hid awake15_any
 have HX0:Hid (BK w.heap.size (x.arr A) 45 w0):=Lib.hid (by rw [hw0]; exact BK.new _ _ _)
 have HB0:=Lib.hid hb0
 have HFT:=Lib.hid (fun (h:fineT x=true)=>fine_of h)
 obtain ⟨hm0,hm1,hm5⟩:=mostN_law h.mo
 have hmo:=h.mo
 unfold GotTk at HTK
 generalize mostN x=mm at HTK hm0 hm1 hm5
 generalize fineT x=b at HFI HFT
 generalize hAN:ancS x.cl x.hd=AR at HTK HAN HAL
 obtain ⟨AN,ea⟩:=AR
 generalize wantS x.cl x.wt=WS at HTK
 have HEA:Hid (Fine x → ea=0):=Lib.hid (fun hf=>by have:=hf.an; rw [hAN] at this; exact this)
 generalize hF:Fine x=F at HTK HAN HAL HFT HEA
 obtain ⟨cl,sv,hd,wt,mo⟩:=x
 obtain ⟨ca,cc,sa,sc,ha,hc,wa,wc⟩:=A
 simp only [Tlk.arr] at HFI HTK HAN HAL hw0 HX0 hm0 hmo ⊢
 rw [hw0] at HFI
 have HW0:=Lib.hid hw0
 generalize cl.length=ncl at HFI HTK HAN HW0 HX0 ⊢
 generalize sv.length=nsv at HFI HTK HW0 HX0 ⊢
 generalize hd.length=nh at HFI HTK HAN HW0 HX0 ⊢
 generalize wt.length=nt at HFI HTK HW0 HX0 ⊢
 clear hw0 hb0 hcame hAN hF h
 go_enter Tryz.func7,Tryz.ntmps7
 go_wp2_with fail
 (with_reducible refine (HFI.out).mono ?_)
 rintro e u ⟨rfl,hb⟩
 rw [← HW0.out] at hb
 have HB1:=Lib.hid (HB0.out.trans (hb.mono HB0.out.size))
 have HX1:=Lib.hid (HX0.out.below hb)
 clear hb HFI HW0 HB0 HX0
 cases b with
 | false=>
  have HC:=Lib.hid (HAW.out u)
  clear HTK HAN HAL HFT HEA
  go_wp2_with fail
  (with_reducible refine (HC.out).mono ?_)
  rintro e u2 ⟨rfl,hb⟩
  have HB2:=Lib.hid (HB1.out.trans (hb.mono HB1.out.size))
  clear hb HC
  go_wp2_with fail
  go_ret
  exact ⟨rfl,HB2.out⟩
 | true=>
  have hf:=HFT.out rfl
  have hea:=HEA.out hf
  subst hea
  have HC:=Lib.hid (HTK.out u HB1.out hf)
  have HAN2:=Lib.hid (fun W hW=>HAN.out W hW hf)
  have HA:=Lib.hid (HAL.out hf)
  obtain ⟨p0,p1,p2,p3,p4⟩:=BK.c5 (show BK _ #[.slice ca ncl cc,.slice sa nsv sc,.slice ha nh hc,.slice wa nt wc,.int .u8 mo] _ _ from HX1.out)
  clear HTK HAN HAL HFT HEA
  go_wp2_with fail
  (with_reducible refine (HC.out).mono ?_)
  rintro e u1 ⟨t,X,asked,n,aa,ac,rfl,hin,hdg,hac,hti,hdn,hb⟩
  simp only [Tk.val,Tk.arr]
  obtain ⟨m,hm⟩:∃ m,m=asked.length:=⟨_,rfl⟩
  rw [← hm] at hac ⊢
  have HM:=Lib.hid hm
  have HD1:=Lib.hid hdg
  have hle:asked.length ≤ 40:=Nat.le_trans (Nat.le_trans (Nat.le_add_right _ _) hti.len) HA.out.1
  have hml:(m:Int) ≤ 40:=by omega
  have HND:Hid (asked.Nodup):=Lib.hid (List.nodup_append.1 hti.nd).1
  have HSA:=Lib.hid hti.sa
  have HOK:Hid (∀ d ∈ asked,OkD d):=Lib.hid (fun d hd=>HA.out.2 d (hti.sa d hd))
  have hct:=hti.count hm1
  have HB2:=Lib.hid (HB1.out.trans (hb.mono HB1.out.size))
  have HX2:=Lib.hid (HX1.out.below hb)
  obtain ⟨v1,hv1⟩:∃ v1,v1=u1.alloc (.cells #[.slice X.wa t.want.length X.wc,.slice X.qa t.queue.length X.qc,.slice X.aa t.asked.length X.ac,.slice X.ca t.common.length X.cc,.bool t.done] 26):=⟨_,rfl⟩
  have hbv:Below u1.heap.size u1 v1:=by rw [hv1]; exact (Below.refl _ _).alloc (Nat.le_refl _) _
  have HB3:=Lib.hid (HB2.out.trans (hbv.mono HB2.out.size))
  have HX3:=Lib.hid (HX2.out.below hbv)
  have HD3:=Lib.hid (HD1.out.ahead hbv)
  have HC2:=Lib.hid (HAN2.out v1 HB3.out)
  rw [hv1] at HC2
  have HV1:=Lib.hid hv1
  obtain ⟨r0,r1,r2,r3,r4⟩:=BK.c5 (show BK _ #[.slice ca ncl cc,.slice sa nsv sc,.slice ha nh hc,.slice wa nt wc,.int .u8 mo] _ _ from HX3.out)
  rw [hv1] at r0 r1 r2 r3 r4
  clear hin hdg hti hdn hb hv1 hbv hm hle HC HB1 HX1 HB2 HX2 HD1 HAN2 p0 p1 p2 p3 p4
  go_wp2_with fail
  (with_reducible refine (HC2.out).mono ?_)
  rintro e u2 ⟨na,nc,rfl,hdg,hnc,hb⟩
  rw [← HV1.out] at hb
  simp only at hdg hnc ⊢
  obtain ⟨nn,hnn⟩:∃ n,n=AN.length:=⟨_,rfl⟩
  have hnn40:nn ≤ 40:=by rw [hnn]; exact HA.out.1
  rw [← hnn] at hnc hct ⊢
  have HNN:=Lib.hid hnn
  have HD4:=Lib.hid hdg
  have HB4:=Lib.hid (HB3.out.trans (hb.mono HB3.out.size))
  have HX4:=Lib.hid (HX3.out.below hb)
  have HL4:=Lib.hid (HD3.out.ahead hb)
  clear hb hdg hnn HC2 HV1 HB3 HX3 HD3 r0 r1 r2 r3 r4
  obtain ⟨p0,p1,p2,p3,p4⟩:=BK.c5 (show BK _ #[.slice ca ncl cc,.slice sa nsv sc,.slice ha nh hc,.slice wa nt wc,.int .u8 mo] _ _ from HX4.out)
  have hq:=quo_most hm1 hct
  rw [hm0] at hq
  clear hct
  go_wp2_with fail
  go_loopw [55] (fun i wr=>∃ k:Nat,k ≤ m ∧ i = .int .i64 k ∧ Hid (Below u2.heap.size u2 wr)) (fun i _=>m - (intOf i).toNat)
  case atStart=>exact ⟨0,by omega,rfl,Lib.hid (Below.refl _ _)⟩
  case round=>
   clear p0 p1 p2 p3 p4
   obtain ⟨k,hk,rfl,HE⟩:=hrel
   by_cases hkn:k < m
   ·have hki:(k:Int) < (m:Int):=by omega
    have h1:k < asked.length:=by have:=HM.out; omega
    obtain ⟨b0,of0,haa,hb0,q0,q1⟩:=(HL4.out.ahead HE.out) k h1
    have HLx:=HL4
    subst haa
    have HNI:Hid (asked[k] ∉ asked.take k):=Lib.hid (fun hin=>by
     obtain ⟨j,hj,he⟩:=List.mem_iff_getElem.1 hin
     rw [List.length_take] at hj
     rw [List.getElem_take] at he
     exact absurd ((List.getElem_inj HND.out).1 he) (by omega))
    have HIA:=Lib.hid (HSA.out _ (List.getElem_mem h1))
    have htl:(asked.take k).length=k:=by rw [List.length_take]; omega
    generalize asked[k]=d at q0 q1 HNI HIA
    obtain ⟨d1,d2⟩:=d
    simp only at q0 q1
    obtain ⟨v,hv⟩:∃ v,v=wr.alloc (.cells #[.int .u64 d1,.int .u64 d2] 52):=⟨_,rfl⟩
    have hbv:Below wr.heap.size wr v:=by rw [hv]; exact (Below.refl _ _).alloc (Nat.le_refl _) _
    have HEv:=Lib.hid (HE.out.trans (hbv.mono HE.out.size))
    have hd:BK wr.heap.size #[.int .u64 d1,.int .u64 d2] 52 v:=by rw [hv]; exact BK.new _ _ _
    obtain ⟨A1,c1,hds,hsl⟩:=dslice_hi (some ⟨b0,of0,none⟩) m ac k (by omega)
    have HI1:=Lib.hid (fun W (hW:Below v.heap.size v W)=>rin_any A1 (asked.take k) c1 d1 d2 W (hds _ _ _ (HLx.out.ahead (HEv.out.trans (hW.mono HEv.out.size)))) (by omega))
    have HI2:=Lib.hid (fun W (hW:Below v.heap.size v W)=>rin_any na AN nc d1 d2 W (HD4.out.ahead (HEv.out.trans (hW.mono HEv.out.size))) (by rw [← HNN.out]; omega))
    rw [decide_eq_false HNI.out,htl] at HI1
    rw [decide_eq_true HIA.out,← HNN.out] at HI2
    have HR1:=Lib.hid (fun d os=>Calls.regrown_of (w:=v) (d:=d) (os:=os) (HI1.out _ (below_regrown v d os)))
    have HR2:=Lib.hid (fun d os=>Calls.regrown_of (w:=v) (d:=d) (os:=os) (HI2.out _ (below_regrown v d os)))
    obtain ⟨e0,e1⟩:=BK.c2 (show BK _ #[.int .u64 d1,.int .u64 d2] _ _ from hd)
    have re0:=cell_regrown e0
    have re1:=cell_regrown e1
    have HV:=Lib.hid hv
    clear hv hbv hd hds htl HI1 HI2 HNI HIA HE e0 e1
    go_upto_region 11 with (fail)
    rw [← HV.out]
    refine wp_region_quiet_below (by kernel_rfl) (by kernel_rfl) ?_
    repeat (any_goals (first | go_big_quiet_step (first | (with_reducible exact HR1.out _ _) | (with_reducible exact HR2.out _ _)) | quiet_step (first | (with_reducible exact HR1.out _ _) | (with_reducible exact HR2.out _ _))))
    refine wpQuiet_nil ?_
    intro w3 hw3
    have hbq:=below_rg hw3
    have HE3:=Lib.hid (HEv.out.trans (hbq.mono HEv.out.size))
    clear hbq hw3 HEv HV HR1 HR2 re0 re1 hsl q0 q1
    go_wp2_with fail
    go_roundw
    case rel=>exact ⟨k + 1,by omega,by go_num,HE3⟩
    case measure=>simp [intOf] <;> omega
   ·have hki:¬ (k:Int) < (m:Int):=by omega
    have HC:=Lib.hid (HAW.out wr)
    have HB:=Lib.hid (HB4.out.trans (HE.out.mono HB4.out.size))
    go_wp2_with fail
    (with_reducible refine (HC.out).mono ?_)
    rintro e u3 ⟨rfl,hb⟩
    have HB5:=Lib.hid (HB.out.trans (hb.mono HB.out.size))
    clear hb HC
    go_wp2_with fail
    go_ret
    exact ⟨rfl,HB5.out⟩
end Go.Proofs.YtdeggadmbjkpfaaGreat.negotiateOnce
