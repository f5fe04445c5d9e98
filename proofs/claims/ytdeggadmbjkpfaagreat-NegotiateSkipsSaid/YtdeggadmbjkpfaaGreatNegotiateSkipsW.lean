/- The walk of the statement NegotiateSkips. -/
import Derived.Test.YtdeggadmbjkpfaaGreatNeTw
import Derived.Test.YtdeggadmbjkpfaaGreatNeAw
import Derived.Test.YtdeggadmbjkpfaaGreatK7
set_option maxRecDepth 100000
set_option maxHeartbeats 16000000
namespace Go.Proofs.YtdeggadmbjkpfaaGreat.negotiateSkips
open Go.RowKit Go.Shelf Go.Sort
set_option linter.unusedVariables false
theorem walk (x:Tlk) (A:TlA) (w:World) (h:TlCame w x A) :
  Calls Tryz.prog 8 #[.agg (x.arr A)] w fun e w'=>e = .returned (.bool true) ∧ Below w.heap.size w w':=by
 obtain ⟨w0,hw0⟩:∃ w0,w0=w.alloc (.cells (x.arr A) 45):=⟨_,rfl⟩
 have hb0:Below w.heap.size w w0:=by rw [hw0]; exact (Below.refl _ _).alloc (Nat.le_refl _) _
 have hcame:∀ W,Below w.heap.size w W → TlCame W x A:=fun W hW=>⟨⟨h.cl.its.ahead hW,h.cl.cap,h.cl.dat⟩,⟨h.sv.its.ahead hW,h.sv.cap,h.sv.dat⟩,⟨h.hd.dig.ahead hW,h.hd.cap,h.hd.ok⟩,⟨h.wt.dig.ahead hW,h.wt.cap,h.wt.ok⟩,h.mo⟩
 have HFI:=Lib.hid (fine15_any x A w0 (hcame w0 hb0))
 have HAW:=Lib.hid awake15_any
 have HXB:Hid (BK w.heap.size (x.arr A) 45 w0):=Lib.hid (by rw [hw0]; exact BK.new _ _ _)
 have HBW:=Lib.hid hb0
 clear hcame hb0
 cases hfb:fineT x with
 | false=>
  rw [hfb] at HFI
  obtain ⟨cl,sv,hd,wt,mo⟩:=x
  obtain ⟨ca,cc,sa,sc,ha,hc,wa,wc⟩:=A
  simp only [Tlk.arr] at HFI hw0 ⊢
  rw [hw0] at HFI
  have HW0:=Lib.hid hw0
  generalize cl.length=ncl at HFI HW0 ⊢
  generalize sv.length=nsv at HFI HW0 ⊢
  generalize hd.length=nh at HFI HW0 ⊢
  generalize wt.length=nt at HFI HW0 ⊢
  clear hw0 hfb h HXB
  go_enter Tryz.func8,Tryz.ntmps8
  go_wp2_with fail
  (with_reducible refine (HFI.out).mono ?_)
  rintro e u ⟨rfl,hb⟩
  rw [← HW0.out] at hb
  have HB1:=Lib.hid (HBW.out.trans (hb.mono HBW.out.size))
  have HC:=Lib.hid (HAW.out u)
  clear hb HFI HW0 HBW
  go_wp2_with fail
  (with_reducible refine (HC.out).mono ?_)
  rintro e z2w ⟨rfl,hb⟩
  have HB2:=Lib.hid (HB1.out.trans (hb.mono HB1.out.size))
  clear hb HC
  go_wp2_with fail
  go_ret
  exact ⟨rfl,HB2.out⟩
 | true=>
  rw [hfb] at HFI
  have hf:=fine_of hfb
  clear hfb
  have hx1:=hf.cl.le
  have hx2:=hf.sv.le
  have h1l:=hf.hl
  have h2l:=hf.wl
  obtain ⟨hm0,hm1,hm5⟩:=mostN_law h.mo
  have hpin:∀ {W:World},Below w.heap.size w W → PoolIn W A.ca x.cl A.cc:=fun hW=>hf.cl.pin (h.cl.its.ahead hW) h.cl.cap.1
  have hqin:∀ {W:World},Below w.heap.size w W → PoolIn W A.sa x.sv A.sc:=fun hW=>hf.sv.pin (h.sv.its.ahead hW) h.sv.cap.1
  have HBG:=Lib.hid (fun W (hW:Below w.heap.size w W)=>begin_any A.ca x.cl A.cc A.ha x.hd A.hc A.wa x.wt A.wc W (hpin hW) hf.cl.asc hf.cl.acy (by omega) (h.hd.dig.ahead hW) h.hd.ok (by omega) (h.wt.dig.ahead hW) (by omega))
  have HAK:=Lib.hid (fun t X W (hW:Below w.heap.size w W) (ht:TkIn W t X) (hb:TkB t) (hv:ValidT x.cl t)=>ask_any A.ca x.cl A.cc t X (mostN x) true W (hpin hW) hf.cl.asc hf.cl.acy (by omega) ht hb ⟨fun _=>hv,fun _=>rfl⟩)
  have HAS:=Lib.hid (fun l la lc W (hW:Below w.heap.size w W) (hd:Digs W.heap.size W la l) (ho:∀ d ∈ l,OkD d) (hl:(l.length:Int) ≤ 45)=>(answer_any A.sa x.sv A.sc la l lc W (hqin hW) hf.sv.asc hf.sv.acy (by omega) hd ho hl).mono (R':=GotDs W (answS x.sv l)) (fun e w' h=>h.1))
  have HLN:=Lib.hid (fun t X com la lc W (hW:Below w.heap.size w W) (ht:TkIn W t X) (hb:TkB t) (hv:ValidT x.cl t) (hd:Digs W.heap.size W la com) (ho:∀ d ∈ com,OkD d) (hl:(com.length:Int) ≤ 45) (ha:((allS t.common com).length:Int) ≤ 45)=>learn_any A.ca x.cl A.cc t X la com lc true W (hpin hW) hf.cl.asc hf.cl.acy (by omega) ht hb ⟨fun _=>hv,fun _=>rfl⟩ hd ho hl ha)
  have HA:=Lib.hid (anc_le hf.cl h.hd.ok)
  have hwl:(wantS x.cl x.wt).length ≤ 20:=Nat.le_trans (wantS_len _ _) h2l
  have hwo:∀ d ∈ wantS x.cl x.wt,OkD d:=fun d hd=>h.wt.ok d (((wantS_law x.cl x.wt).2 d).1 hd).1
  have hb0:(beginS x.cl x.hd x.wt).2=0:=by unfold beginS; rw [if_neg (by simpa using hf.an)]
  have HST:=Lib.hid (TI.start (ys:=x.sv) (most:=mostN x) hb0)
  have HRD:=Lib.hid (fun t asked n (ht:TI x.cl x.sv (ancS x.cl x.hd).1 (wantS x.cl x.wt) (mostN x) t asked n) (hd:t.done=false)=>ht.rnd hf.cl.acy hd hm1 (by omega) HA.out.1 HA.out.2 hwl hwo)
  have HRN:=Lib.hid (fun t asked n (ht:TI x.cl x.sv (ancS x.cl x.hd).1 (wantS x.cl x.wt) (mostN x) t asked n) (hd:t.done=false)=>show n < 40 from Nat.lt_of_lt_of_le (ht.rounds hd hm1) HA.out.1)
  have HRC:=Lib.hid (fun c1 c2 d1 d2 W (hW:Below w.heap.size w W) (ho:OkD (c1,c2))=>rreaches_any A.ca x.cl A.cc c1 c2 d1 d2 W (h.cl.its.ahead hW) hf.cl.asc (by omega) (fun y hy=>by have:=hf.cl.dat y hy; omega) ho)
  have HRZ:Hid (∀ c d,Kn x.cl c → ¬ Anc x.cl c d → reachesS x.cl c d=(false,0)):=Lib.hid (fun c d hk hn=>by
   rw [reachesS_ok hk]
   congr 1
   rw [decide_eq_false_iff_not,vis_anc1 hk]
   exact hn)
  have hmo:=h.mo
  generalize mostN x=mm at HAK HST HRD HRN hm0 hm1 hm5
  obtain ⟨BR,hBR⟩:∃ BR,BR=beginS x.cl x.hd x.wt:=⟨_,rfl⟩
  rw [← hBR] at HST hb0
  have HBG2:=HBG
  rw [← hBR] at HBG2
  obtain ⟨t0,e0⟩:=BR
  simp only at HBG2 HST hb0
  subst hb0
  generalize (ancS x.cl x.hd).1=AN at HA HST HRD HRN
  generalize wantS x.cl x.wt=WS at HST HRD HRN
  obtain ⟨cl,sv,hd',wt,mo⟩:=x
  obtain ⟨ca,cc,sa,sc,ha,hc,wa,wc⟩:=A
  simp only [Tlk.arr] at HBG2 HFI hw0 HXB HAK HAS HLN HRD HRC HRZ hm0 hmo ⊢
  rw [hw0] at HFI
  have HW0:=Lib.hid hw0
  generalize cl.length=ncl at HFI HBG2 HW0 HXB HAK HLN HRC ⊢
  generalize sv.length=nsv at HFI HW0 HXB HAS ⊢
  generalize hd'.length=nh at HFI HBG2 HW0 HXB ⊢
  generalize wt.length=nt at HFI HBG2 HW0 HXB ⊢
  clear hw0 hBR hf h hpin hqin hx1 hx2 h1l h2l hwl hwo HBG
  go_enter Tryz.func8,Tryz.ntmps8
  go_wp2_with fail
  (with_reducible refine (HFI.out).mono ?_)
  rintro e u ⟨rfl,hb⟩
  rw [← HW0.out] at hb
  have HB0:=Lib.hid (HBW.out.trans (hb.mono HBW.out.size))
  have HX0:=Lib.hid (HXB.out.below hb)
  have HC1:=Lib.hid (HBG2.out u HB0.out)
  obtain ⟨p0,p1,p2,p3,p4⟩:=BK.c5 (show BK _ #[.slice ca ncl cc,.slice sa nsv sc,.slice ha nh hc,.slice wa nt wc,.int .u8 mo] _ _ from HX0.out)
  clear hb HFI HW0 HBW HXB HBG2
  go_wp2_with fail
  (with_reducible refine (HC1.out).mono ?_)
  rintro e z1w ⟨X0,rfl,hin,hb,_⟩
  simp only [Tk.val]
  have HI1:=Lib.hid hin
  have HB1:=Lib.hid (HB0.out.trans (hb.mono HB0.out.size))
  have HX1:=Lib.hid (HX0.out.below hb)
  have hz1:w.heap.size < z1w.heap.size:=HX1.out.lt
  obtain ⟨v1,hv1⟩:∃ v1,v1=z1w.alloc (.cells (t0.arr X0) 26):=⟨_,rfl⟩
  have hbv:Below z1w.heap.size z1w v1:=by rw [hv1]; exact (Below.refl _ _).alloc (Nat.le_refl _) _
  have HEv:=Lib.hid hbv
  have HTv:Hid (BK z1w.heap.size (t0.arr X0) 26 v1):=Lib.hid (by rw [hv1]; exact BK.new _ _ _)
  have HIv:=Lib.hid (HI1.out.ahead hbv)
  have HV1:=Lib.hid hv1
  simp only [Tk.arr] at HV1 ⊢
  clear hin hb hbv hv1 HC1 HB0 HX0 HI1 p0 p1 p2 p3 p4
  go_wp2_with fail
  rw [← HV1.out]
  clear HV1
  go_loopw [4,5] (fun e i wr=>∃ (n:Nat) (t:Tk) (X:TkA) (asked:List (Int × Int)),e = .int .i64 0 ∧ i = .int .i64 n ∧ n ≤ 60 ∧ Hid (TI cl sv AN WS mm t asked n) ∧ Hid (TkIn wr t X) ∧ Hid (BK z1w.heap.size (t.arr X) 26 wr) ∧ Hid (Below z1w.heap.size z1w wr)) (fun _ i _=>60 - (intOf i).toNat)
  case atStart=>exact ⟨0,t0,X0,[],rfl,rfl,by omega,HST,HIv,HTv,HEv⟩
  case round=>
   clear HST HIv HTv HEv
   obtain ⟨n,t,X,asked,rfl,rfl,hn60,HTI,HI,HT,HE⟩:=hrel
   have HB:=Lib.hid (HB1.out.trans (HE.out.mono HB1.out.size))
   have HXr:=Lib.hid (HX1.out.below HE.out)
   obtain ⟨k0,k1,k2,k3,k4⟩:=tk_cells HT.out
   cases hd:t.done with
   | true=>
    rw [hd] at k4
    have HC:=Lib.hid (HAW.out wr)
    clear HTI HI HT HXr HAK HAS HLN HRD HRN HRC HRZ hd k0 k1 k2 k3
    go_wp2_with fail
    (with_reducible refine (HC.out).mono ?_)
    rintro e z2w ⟨rfl,hb⟩
    have HB2:=Lib.hid (HB.out.trans (hb.mono HB.out.size))
    clear hb HC
    go_wp2_with fail
    go_ret
    exact ⟨rfl,HB2.out⟩
   | false=>
    rw [hd] at k4
    have hn40:=HRN.out t asked n HTI.out hd
    have hni:(n:Int) < 60:=by omega
    obtain ⟨t1,l,com,t2,hr⟩:=HRD.out t asked n HTI.out hd
    have HR:=Lib.hid hr
    have HCN:Hid (∀ c ∈ t.common,OkD c ∧ ∀ d ∈ l,reachesS cl c d=(false,0)):=Lib.hid (fun c hc=>⟨hr.b.co c hc,fun d hd2=>HRZ.out c d (hr.v.kn c (by simp [hc])) ((hr.lA d hd2).2 c hc)⟩)
    have hcml:(t.common.length:Int) ≤ 45:=hr.b.cl
    have HC1:=Lib.hid (HAK.out t X wr HB.out HI.out hr.b hr.v)
    rw [hr.ask] at HC1
    simp only [Tk.val,Tk.arr] at HC1
    rw [hd] at HC1
    obtain ⟨p0,p1,p2,p3,p4⟩:=BK.c5 (show BK _ #[.slice ca ncl cc,.slice sa nsv sc,.slice ha nh hc,.slice wa nt wc,.int .u8 mo] _ _ from HXr.out)
    rw [hm0] at HC1
    clear hr
    obtain ⟨nl,hnl⟩:∃ n,n=l.length:=⟨_,rfl⟩
    have HNL:=Lib.hid hnl
    go_wp2_with fail
    (with_reducible refine (HC1.out).mono ?_)
    rintro e z2w ⟨X1,la,lc,rfl,hin,hdg,hlc,hb,hnw1⟩
    simp only [Tk.val,Tk.arr] at hin hdg hlc ⊢
    rw [← hnl] at hlc ⊢
    have hnl45:(nl:Int) ≤ 45:=by have:=HR.out.lle; omega
    have HI2:=Lib.hid hin
    have HL2:=Lib.hid hdg
    have HDC2:=Lib.hid (HI.out.c.ahead hb)
    have HB2:=Lib.hid (HB.out.trans (hb.mono HB.out.size))
    have HE2:=Lib.hid (HE.out.trans (hb.mono HE.out.size))
    have HT2:=Lib.hid (HT.out.below hb)
    have HX2:=Lib.hid (HXr.out.below hb)
    have hz2:z1w.heap.size < z2w.heap.size:=HT2.out.lt
    obtain ⟨v2,hv2⟩:∃ v2,v2=z2w.alloc (.cells #[.slice X1.wa t1.want.length X1.wc,.slice X1.qa t1.queue.length X1.qc,.slice X1.aa t1.asked.length X1.ac,.slice X1.ca t1.common.length X1.cc,.bool t1.done] 26):=⟨_,rfl⟩
    have hbv:Below z2w.heap.size z2w v2:=by rw [hv2]; exact (Below.refl _ _).alloc (Nat.le_refl _) _
    have HN3:Hid (BK z2w.heap.size (t1.arr X1) 26 v2):=Lib.hid (by rw [hv2]; exact BK.new _ _ _)
    have HI3:=Lib.hid (HI2.out.ahead hbv)
    have HL3:=Lib.hid (HL2.out.ahead hbv)
    have HDC3:=Lib.hid (HDC2.out.ahead hbv)
    have HB3:=Lib.hid (HB2.out.trans (hbv.mono HB2.out.size))
    have HE3:=Lib.hid (HE2.out.trans (hbv.mono HE2.out.size))
    have HT3:=Lib.hid (HT2.out.below hbv)
    have HX3:=Lib.hid (HX2.out.below hbv)
    have HV2:=Lib.hid hv2
    obtain ⟨ncm,hncm⟩:∃ n,n=t.common.length:=⟨_,rfl⟩
    rw [← hncm] at hcml
    have HNC:=Lib.hid hncm
    obtain ⟨xca,hxca⟩:∃ a,X.ca=a:=⟨_,rfl⟩
    have HXC:=Lib.hid hxca
    rw [hxca] at HDC3
    clear hxca
    clear hin hdg hb hv2 hbv hnl hnw1 hncm HC1 HI HT HE HB HXr HI2 HL2 HDC2 HB2 HE2 HT2 HX2 k0 k1 k2 k3 k4 p0 p1 p2 p3 p4 HAK
    go_wp2_with fail
    rw [← HV2.out]
    clear HV2
    go_loopw [59] (fun i wr=>∃ k:Nat,k ≤ nl ∧ i = .int .i64 k ∧ Hid (Below v2.heap.size v2 wr)) (fun i _=>nl - (intOf i).toNat)
    case atStart=>exact ⟨0,by omega,rfl,Lib.hid (Below.refl _ _)⟩
    case round=>
     obtain ⟨k,hk,rfl,HF⟩:=hrel
     by_cases hkn:k < nl
     ·have hki:(k:Int) < (nl:Int):=by omega
      have h1:k < l.length:=by have:=HNL.out; omega
      obtain ⟨b0,of0,haa,hb0,q0,q1⟩:=(HL3.out.ahead HF.out) k h1
      have HLx:=HL3
      subst haa
      have HMM:Hid (l[k] ∈ l):=Lib.hid (List.getElem_mem h1)
      generalize l[k]=d at q0 q1 HMM
      obtain ⟨d1,d2⟩:=d
      simp only at q0 q1
      obtain ⟨v,hv⟩:∃ v,v=wr.alloc (.cells #[.int .u64 d1,.int .u64 d2] 52):=⟨_,rfl⟩
      have hbv:Below wr.heap.size wr v:=by rw [hv]; exact (Below.refl _ _).alloc (Nat.le_refl _) _
      have HFv:=Lib.hid (HF.out.trans (hbv.mono HF.out.size))
      have HDv:Hid (BK wr.heap.size #[.int .u64 d1,.int .u64 d2] 52 v):=Lib.hid (by rw [hv]; exact BK.new _ _ _)
      obtain ⟨db,hdb⟩:∃ db,db=wr.heap.size:=⟨_,rfl⟩
      rw [← hdb] at HDv
      have HDB:=Lib.hid hdb
      have hkt:=tk_cells (HT3.out.below HF.out)
      obtain ⟨k0,k1,k2,k3,k4⟩:=hkt
      rw [← HNC.out,HXC.out] at k3
      have k3a:=fun o=>cell_a1 k3 o
      have HV:=Lib.hid hv
      clear hv hbv hdb HF
      go_wp2_with fail
      rw [← HV.out]
      clear HV k0 k1 k2 k3 k4 k3a q0 q1
      go_loopw [66] (fun i wr=>∃ j:Nat,j ≤ ncm ∧ i = .int .i64 j ∧ Hid (Below v2.heap.size v2 wr) ∧ Hid (BK db #[.int .u64 d1,.int .u64 d2] 52 wr)) (fun i _=>ncm - (intOf i).toNat)
      case atStart=>exact ⟨0,by omega,rfl,HFv,HDv⟩
      case round=>
       clear HFv HDv
       obtain ⟨j,hj,rfl,HF,HD⟩:=hrel
       by_cases hjn:j < ncm
       ·have hji:(j:Int) < (ncm:Int):=by omega
        have h2:j < t.common.length:=by have:=HNC.out; omega
        obtain ⟨b1,of1,hab,hb1,r0,r1⟩:=(HDC3.out.ahead HF.out) j h2
        have HDx:=HDC3
        have HXx:=HXC
        subst hab
        obtain ⟨okc,hrc⟩:=HCN.out _ (List.getElem_mem h2)
        have hrc2:=hrc _ HMM.out
        generalize t.common[j]=c at r0 r1 okc hrc2
        clear hrc
        obtain ⟨c1,c2⟩:=c
        simp only at r0 r1
        have HBj:=Lib.hid (HB3.out.trans (HF.out.mono HB3.out.size))
        obtain ⟨v,hv⟩:∃ v,v=wr.alloc (.cells #[.int .u64 c1,.int .u64 c2] 52):=⟨_,rfl⟩
        have hbv:Below wr.heap.size wr v:=by rw [hv]; exact (Below.refl _ _).alloc (Nat.le_refl _) _
        have HC:=Lib.hid (HRC.out c1 c2 d1 d2 v (HBj.out.trans (hbv.mono HBj.out.size)) okc)
        rw [hrc2] at HC
        simp only at HC
        have HFv:=Lib.hid (HF.out.trans (hbv.mono HF.out.size))
        have HDv:=Lib.hid (HD.out.below hbv)
        have hx3:=HX3.out.below HFv.out
        obtain ⟨p0,p1,p2,p3,p4⟩:=BK.c5 (show BK _ #[.slice ca ncl cc,.slice sa nsv sc,.slice ha nh hc,.slice wa nt wc,.int .u8 mo] _ _ from hx3)
        obtain ⟨e0,e1⟩:=BK.c2 (show BK _ #[.int .u64 d1,.int .u64 d2] _ _ from HDv.out)
        rw [HDB.out] at e0 e1
        rw [hv] at HC p0 p1 p2 p3 p4 e0 e1
        have HV:=Lib.hid hv
        clear hv hbv hx3 HF HD hrc2
        go_wp2_with fail
        (with_reducible refine (HC.out).mono ?_)
        rintro e z4w ⟨rfl,hb⟩
        rw [← HV.out] at hb
        have HF4:=Lib.hid (HFv.out.trans (hb.mono HFv.out.size))
        have HD4:=Lib.hid (HDv.out.below hb)
        clear hb HC HV HFv HDv p0 p1 p2 p3 p4 e0 e1 r0 r1 HBj
        go_wp2_with fail
        go_roundw
        case rel=>exact ⟨j + 1,by omega,by go_num,HF4,HD4⟩
        case measure=>simp [intOf] <;> omega
       ·have hji:¬ (j:Int) < (ncm:Int):=by omega
        clear HD
        go_wp2_with fail
        go_roundw
        case rel=>exact ⟨k + 1,by omega,by go_num,HF⟩
        case measure=>simp [intOf] <;> omega
     ·have hki:¬ (k:Int) < (nl:Int):=by omega
      obtain ⟨x2,hx2⟩:∃ x2,x2=wr:=⟨_,rfl⟩
      rw [← hx2] at HF ⊢
      have HN4:=Lib.hid (HN3.out.below HF.out)
      have HI4:=Lib.hid (HI3.out.ahead HF.out)
      have HL4:=Lib.hid (HL3.out.ahead HF.out)
      have HB4:=Lib.hid (HB3.out.trans (HF.out.mono HB3.out.size))
      have HE4:=Lib.hid (HE3.out.trans (HF.out.mono HE3.out.size))
      have HT4:=Lib.hid (HT3.out.below HF.out)
      have HX4:=Lib.hid (HX3.out.below HF.out)
      clear hx2 HF HN3 HI3 HL3 HDC3 HB3 HE3 HT3 HX3 HCN
      go_upto_region 21 with (fail)
      have hd2:Below x2.heap.size x2 x2.drew:=(Below.refl _ _).drew
      have HAC:=Lib.hid (HAS.out l la lc x2.drew (HB4.out.trans (hd2.mono HB4.out.size)) (HL4.out.ahead hd2) HR.out.lok HR.out.lle)
      rw [HR.out.cme,← HNL.out] at HAC
      have HLC:=Lib.hid (fun z3w ya yc (hb:Below x2.heap.size x2 z3w) (hd:Digs z3w.heap.size z3w ya com)=>HLN.out t1 X1 com ya yc z3w (HB4.out.trans (hb.mono HB4.out.size)) (HI4.out.ahead hb) HR.out.b1 HR.out.v1 hd HR.out.cok HR.out.cle HR.out.all)
      rw [HR.out.lrn] at HLC
      simp only [Tk.val,Tk.arr] at HLC
      have HNC:=Lib.hid (fun z3w (hb:Below x2.heap.size x2 z3w)=>tk_cells (HN4.out.below hb))
      have HPC:Hid (∀ z3w,Below x2.heap.size x2 z3w → z3w.cell? ⟨w.heap.size,0,none⟩=some (.slice ca ncl cc) ∧ z3w.cell? ⟨w.heap.size,1,none⟩=some (.slice sa nsv sc)):=Lib.hid (fun z3w hb=>by
       have hk:=HX4.out.below hb
       exact ⟨by rw [hk.cell]; rfl,by rw [hk.cell]; rfl⟩)
      have HFZ:Hid (∀ z3w,Below x2.heap.size x2 z3w → (z3w.frozen? ⟨z1w.heap.size,0,none⟩=false ∧ z3w.frozen? ⟨z1w.heap.size,1,none⟩=false ∧ z3w.frozen? ⟨z1w.heap.size,2,none⟩=false ∧ z3w.frozen? ⟨z1w.heap.size,3,none⟩=false ∧ z3w.frozen? ⟨z1w.heap.size,4,none⟩=false) ∧ z3w.cell? ⟨z1w.heap.size,0,none⟩=some (.slice X.wa t.want.length X.wc) ∧ z3w.cell? ⟨z1w.heap.size,1,none⟩=some (.slice X.qa t.queue.length X.qc) ∧ z3w.cell? ⟨z1w.heap.size,2,none⟩=some (.slice X.aa t.asked.length X.ac) ∧ z3w.cell? ⟨z1w.heap.size,3,none⟩=some (.slice X.ca t.common.length X.cc) ∧ z3w.cell? ⟨z1w.heap.size,4,none⟩=some (.bool t.done)):=Lib.hid (fun z3w hb=>by
       have hk:=HT4.out.below hb
       exact ⟨⟨hk.frozen 0,hk.frozen 1,hk.frozen 2,hk.frozen 3,hk.frozen 4⟩,tk_cells hk⟩)
      obtain ⟨n0,n1,n2,n3,n4⟩:=HNC.out x2 (Below.refl _ _)
      obtain ⟨p0,p1⟩:=HPC.out x2 (Below.refl _ _)
      obtain ⟨nm,hnm⟩:∃ n,n=com.length:=⟨_,rfl⟩
      have HNM:=Lib.hid hnm
      rw [← hnm] at HLC
      clear hnm hd2 HLN HAS
      have HSK:Hid (∀ z3w:World,Below x2.heap.size x2 z3w → (z3w.cell? ⟨z2w.heap.size,0,none⟩=some (.slice X1.wa t1.want.length X1.wc) ∧ z3w.cell? ⟨z2w.heap.size,1,none⟩=some (.slice X1.qa t1.queue.length X1.qc) ∧ z3w.cell? ⟨z2w.heap.size,2,none⟩=some (.slice X1.aa t1.asked.length X1.ac) ∧ z3w.cell? ⟨z2w.heap.size,3,none⟩=some (.slice X1.ca t1.common.length X1.cc) ∧ z3w.cell? ⟨z2w.heap.size,4,none⟩=some (.bool t1.done)) ∧ z3w.cell? ⟨w.heap.size,0,none⟩=some (.slice ca ncl cc) ∧ z3w.cell? ⟨w.heap.size,1,none⟩=some (.slice sa nsv sc)):=Lib.hid (fun z3w hb=>⟨HNC.out z3w hb,HPC.out z3w hb⟩)
      have HSR:Hid (∀ (z3w:World) (s:Tk) (Y:TkA),Below x2.heap.size x2 z3w → ((talkW z3w z1w.heap.size s Y).cell? ⟨z2w.heap.size,0,none⟩=some (.slice X1.wa t1.want.length X1.wc) ∧ (talkW z3w z1w.heap.size s Y).cell? ⟨z2w.heap.size,1,none⟩=some (.slice X1.qa t1.queue.length X1.qc) ∧ (talkW z3w z1w.heap.size s Y).cell? ⟨z2w.heap.size,2,none⟩=some (.slice X1.aa t1.asked.length X1.ac) ∧ (talkW z3w z1w.heap.size s Y).cell? ⟨z2w.heap.size,3,none⟩=some (.slice X1.ca t1.common.length X1.cc) ∧ (talkW z3w z1w.heap.size s Y).cell? ⟨z2w.heap.size,4,none⟩=some (.bool t1.done)) ∧ (talkW z3w z1w.heap.size s Y).cell? ⟨w.heap.size,0,none⟩=some (.slice ca ncl cc) ∧ (talkW z3w z1w.heap.size s Y).cell? ⟨w.heap.size,1,none⟩=some (.slice sa nsv sc)):=Lib.hid (fun z3w s Y hb=>by
       have hg:=talkW_gr z3w z1w.heap.size s Y
       have h1:=(HN4.out.below hb).grow1 hg (by omega)
       have h2:=(HX4.out.below hb).grow1 hg (by omega)
       exact ⟨tk_cells h1,by rw [h2.cell]; rfl,by rw [h2.cell]; rfl⟩)
      have hs0:=HSK.out x2.drew ((Below.refl _ _).drew)
      simp only [talkW] at HSR
      go_region_held_law (fun z3w:World=>(z3w.cell? ⟨z2w.heap.size,0,none⟩=some (.slice X1.wa t1.want.length X1.wc) ∧ z3w.cell? ⟨z2w.heap.size,1,none⟩=some (.slice X1.qa t1.queue.length X1.qc) ∧ z3w.cell? ⟨z2w.heap.size,2,none⟩=some (.slice X1.aa t1.asked.length X1.ac) ∧ z3w.cell? ⟨z2w.heap.size,3,none⟩=some (.slice X1.ca t1.common.length X1.cc) ∧ z3w.cell? ⟨z2w.heap.size,4,none⟩=some (.bool t1.done)) ∧ z3w.cell? ⟨w.heap.size,0,none⟩=some (.slice ca ncl cc) ∧ z3w.cell? ⟨w.heap.size,1,none⟩=some (.slice sa nsv sc))
       (first | (with_reducible exact hs0) | (with_reducible exact hs1) | (with_reducible exact hs2) | (with_reducible exact hs3))
       (first
       | (go_simp; (with_reducible refine (HAC.out).mono ?_); rintro e z3w ⟨ya,yc,rfl,hown3,hb3⟩; (have hb3':Below x2.heap.size x2 z3w:=((Below.refl _ _).drew).trans (hb3.mono (Nat.le_refl _))); (have HC3:=HLC.out z3w ya yc hb3' (ownsRow_digs hown3)); (rw [← HNM.out]); (have hs1:=HSK.out z3w hb3'); clear hown3)
       | (go_simp; (with_reducible refine HC3.mono ?_); rintro e z4w ⟨X2,rfl,hin4,hb4,hnw4⟩; (have hb4':Below x2.heap.size x2 z4w:=hb3'.trans (hb4.mono hb3'.size)); (obtain ⟨⟨ff0,ff1,ff2,ff3,ff4⟩,f0,f1,f2,f3,f4⟩:=HFZ.out z4w hb4'); (have hs2:=HSK.out z4w hb4'); (have hs3:=HSR.out z4w t2 X2 hb4'); simp only [Tk.val,Tk.arr])
       | fail)
      all_goals
       obtain ⟨x4,hx4⟩:∃ x4,x4=talkW z4w z1w.heap.size t2 X2:=⟨_,rfl⟩
       have hk4:=HT4.out.below hb4'
       have hg4:z4w.grownBy x4 (some z1w.heap.size):=by rw [hx4]; exact talkW_gr _ _ _ _
       have HT5:Hid (BK z1w.heap.size (t2.arr X2) 26 x4):=Lib.hid (by rw [hx4]; exact talkW_bk hk4 _ _)
       have HI5:=Lib.hid (hin4.store hk4 (noint_tk t X) hg4)
       have HE5:=Lib.hid ((HE4.out.trans (hb4'.mono HE4.out.size)).grown hg4 (HE4.out.trans (hb4'.mono HE4.out.size)).size (fun j e=>by cases e; omega))
       have HTI5:=Lib.hid HR.out.nxt
       simp only [talkW] at hx4
       rw [← hx4]
       clear hx4 hk4 hg4 hin4 hb4 hb4' hnw4 hs0 hs1 hs2 hs3 hb3 hb3' HC3 f0 f1 f2 f3 f4 ff0 ff1 ff2 ff3 ff4 n0 n1 n2 n3 n4 p0 p1
       go_wp2_with fail
       go_roundw
       case rel=>exact ⟨n + 1,t2,X2,asked ++ l,rfl,by go_num,by omega,HTI5,HI5,HT5,HE5⟩
       case measure=>simp [intOf] <;> omega
end Go.Proofs.YtdeggadmbjkpfaaGreat.negotiateSkips
