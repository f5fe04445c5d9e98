/- The walk of the statement NegotiateFinds. -/
import Derived.Test.YtdeggadmbjkpfaaGreatNeTw
import Derived.Test.YtdeggadmbjkpfaaGreatNeAw
set_option maxRecDepth 100000
set_option maxHeartbeats 16000000
namespace Go.Proofs.YtdeggadmbjkpfaaGreat.negotiateFinds
open Go.RowKit Go.Shelf Go.Sort
set_option linter.unusedVariables false
theorem walk (x:Tlk) (A:TlA) (w:World) (h:TlCame w x A) :
  Calls Tryz.prog 6 #[.agg (x.arr A)] w fun e w'=>e = .returned (.bool true) ∧ Below w.heap.size w w':=by
 obtain ⟨w0,hw0⟩:∃ w0,w0=w.alloc (.cells (x.arr A) 45):=⟨_,rfl⟩
 have hb0:Below w.heap.size w w0:=by rw [hw0]; exact (Below.refl _ _).alloc (Nat.le_refl _) _
 have hcame:∀ W,Below w.heap.size w W → TlCame W x A:=fun W hW=>⟨⟨h.cl.its.ahead hW,h.cl.cap,h.cl.dat⟩,⟨h.sv.its.ahead hW,h.sv.cap,h.sv.dat⟩,⟨h.hd.dig.ahead hW,h.hd.cap,h.hd.ok⟩,⟨h.wt.dig.ahead hW,h.wt.cap,h.wt.ok⟩,h.mo⟩
 have HFI:=Lib.hid (fine15_any x A w0 (hcame w0 hb0))
 have HTK:=Lib.hid (fun W (hW:Below w.heap.size w W) (hf:Fine x)=>talk_any x A W (hcame W hW) hf)
 have HAN:=Lib.hid (fun W ha hs hc (hW:Below w.heap.size w W) (hf:Fine x) (hd:Digs W.heap.size W ha hs) (hl:(hs.length:Int) ≤ 1000) (ho:∀ d ∈ hs,OkD d)=>rancestors_any A.ca x.cl A.cc ha hs hc W (h.cl.its.ahead hW) hf.cl.asc hf.cl.acy (by have:=hf.cl.le; omega) (fun y hy=>by have:=hf.cl.dat y hy; omega) hd hl ho)
 have HAS:=Lib.hid (fun W q d1 d2 (hW:Below w.heap.size w W) (hf:Fine x) (hk:BK q #[.int .u64 d1,.int .u64 d2] 52 W) (ho:OkD (d1,d2))=>rancestors_any A.sa x.sv A.sc (some ⟨q,0,none⟩) [(d1,d2)] 1 W (h.sv.its.ahead hW) hf.sv.asc hf.sv.acy (by have:=hf.sv.le; omega) (fun y hy=>by have:=hf.sv.dat y hy; omega) (digs_one hk) (by simp) (by simp; exact ho))
 have HAL:=Lib.hid (fun hs (hf:Fine x) (ho:∀ d ∈ hs,OkD d)=>anc_le (hs:=hs) hf.cl ho)
 have HCON:=Lib.hid (fun (hf:Fine x)=>hf.con)
 have HHD:=Lib.hid h.hd
 have HAW:=Lib.hid awake15_any
 have HX0:Hid (BK w.heap.size (x.arr A) 45 w0):=Lib.hid (by rw [hw0]; exact BK.new _ _ _)
 have HB0:=Lib.hid hb0
 have HFT:=Lib.hid (fun (h:fineT x=true)=>fine_of h)
 obtain ⟨hm0,hm1,hm5⟩:=mostN_law h.mo
 unfold GotTk at HTK
 generalize mostN x=mm at HTK hm1
 generalize fineT x=b at HFI HFT
 have HAE:Hid (Fine x → (ancS x.cl x.hd).2=0):=Lib.hid (fun hf=>hf.an)
 have HHL:Hid (Fine x → x.hd.length ≤ 20):=Lib.hid (fun hf=>hf.hl)
 generalize wantS x.cl x.wt=WS at HTK
 generalize hF:Fine x=F at HTK HAN HAS HAL HFT HAE HHL HCON
 obtain ⟨cl,sv,hd,wt,mo⟩:=x
 obtain ⟨ca,cc,sa,sc,ha,hc,wa,wc⟩:=A
 simp only [Tlk.arr] at HFI HTK HAN HAS HAL HHD HAE HHL HCON hw0 HX0 ⊢
 rw [hw0] at HFI
 have HW0:=Lib.hid hw0
 generalize cl.length=ncl at HFI HTK HAN HW0 HX0 ⊢
 generalize sv.length=nsv at HFI HTK HAS HW0 HX0 ⊢
 obtain ⟨nh,hnh⟩:∃ n,n=hd.length:=⟨_,rfl⟩
 rw [← hnh] at HFI HTK HHL HW0 HX0 ⊢
 have HNH:=Lib.hid hnh
 generalize wt.length=nt at HFI HTK HW0 HX0 ⊢
 clear hw0 hb0 hcame hF h hnh hm0 hm5
 go_enter Tryz.func6,Tryz.ntmps6
 go_wp2_with fail
 (with_reducible refine (HFI.out).mono ?_)
 rintro e u ⟨rfl,hb⟩
 rw [← HW0.out] at hb
 have HB1:=Lib.hid (HB0.out.trans (hb.mono HB0.out.size))
 have HX1:=Lib.hid (HX0.out.below hb)
 clear hb HFI HW0 HB0 HX0
 cases b with
 | false=>
  have HC:=Lib.hid (HAW.out u)
  clear HTK HAN HAS HAL HFT HAE HHL HCON
  go_wp2_with fail
  (with_reducible refine (HC.out).mono ?_)
  rintro e u2 ⟨rfl,hb⟩
  have HB2:=Lib.hid (HB1.out.trans (hb.mono HB1.out.size))
  clear hb HC
  go_wp2_with fail
  go_ret
  exact ⟨rfl,HB2.out⟩
 | true=>
  have hf:=HFT.out rfl
  have HC:=Lib.hid (HTK.out u HB1.out hf)
  have HAN2:=Lib.hid (fun W a hs c hW=>HAN.out W a hs c hW hf)
  have HAS2:=Lib.hid (fun W q d1 d2 hW=>HAS.out W q d1 d2 hW hf)
  have HAL2:=Lib.hid (fun hs=>HAL.out hs hf)
  have hae:=HAE.out hf
  have hhl:=HHL.out hf
  have hcon:=HCON.out hf
  have HA:=Lib.hid (HAL.out hd hf HHD.out.ok)
  obtain ⟨p0,p1,p2,p3,p4⟩:=BK.c5 (show BK _ #[.slice ca ncl cc,.slice sa nsv sc,.slice ha nh hc,.slice wa nt wc,.int .u8 mo] _ _ from HX1.out)
  clear HTK HAN HAS HAL HFT HAE HHL HCON
  go_wp2_with fail
  (with_reducible refine (HC.out).mono ?_)
  rintro e u1 ⟨t,X,asked,n,aa,ac,rfl,hin,hdg,hac,hti,hdn,hb⟩
  simp only [Tk.val,Tk.arr]
  generalize asked.length=m
  have hw:=hti.w
  have HFIN:Hid (WS ≠ [] → ∀ d ∈ (ancS cl hd).1,Kn sv d ↔ ∃ c ∈ t.common,Anc cl c d):=Lib.hid (fun hne=>hti.fin hcon hdn hne)
  have HCE:Hid (WS=[] → t.common=[]):=Lib.hid hti.e
  have HCK:Hid (∀ c ∈ t.common,Kn cl c):=Lib.hid (fun c hc=>hti.v.kn c (by simp [hc]))
  have HCA:Hid (∀ c ∈ t.common,c ∈ (ancS cl hd).1):=Lib.hid (fun c hc=>(hti.cm c hc).1)
  have hcl:=hti.cle HA.out.1
  have HB2:=Lib.hid (HB1.out.trans (hb.mono HB1.out.size))
  have HX2:=Lib.hid (HX1.out.below hb)
  obtain ⟨v1,hv1⟩:∃ v1,v1=u1.alloc (.cells (t.arr X) 26):=⟨_,rfl⟩
  have hbv:Below u1.heap.size u1 v1:=by rw [hv1]; exact (Below.refl _ _).alloc (Nat.le_refl _) _
  have HB3:=Lib.hid (HB2.out.trans (hbv.mono HB2.out.size))
  have HX3:=Lib.hid (HX2.out.below hbv)
  have HI3:=Lib.hid (hin.ahead hbv)
  have HT3:Hid (BK u1.heap.size (t.arr X) 26 v1):=Lib.hid (by rw [hv1]; exact BK.new _ _ _)
  have HDC:=Lib.hid HI3.out.c
  obtain ⟨want,queue,asked',common,done⟩:=t
  obtain ⟨wa',wc',qa',qc',aa',ac',ca',cc'⟩:=X
  simp only [Tk.arr] at hw HFIN HCE HCK HCA hcl hv1 HT3 HDC ⊢
  subst hw
  obtain ⟨nw,hnw⟩:∃ n,n=want.length:=⟨_,rfl⟩
  obtain ⟨ncm,hncm⟩:∃ n,n=common.length:=⟨_,rfl⟩
  rw [← hnw] at hv1 HT3 ⊢
  rw [← hncm] at hcl hv1 HT3 ⊢
  generalize queue.length=nqu at hv1 HT3 ⊢
  generalize asked'.length=nas at hv1 HT3 ⊢
  have HNW:=Lib.hid hnw
  have HNC:=Lib.hid hncm
  have HV1:=Lib.hid hv1
  obtain ⟨k0,k1,k2,k3,k4⟩:=BK.c5 (show BK _ #[.slice wa' nw wc',.slice qa' nqu qc',.slice aa' nas ac',.slice ca' ncm cc',.bool done] _ _ from HT3.out)
  obtain ⟨r0,r1,r2,r3,r4⟩:=BK.c5 (show BK _ #[.slice ca ncl cc,.slice sa nsv sc,.slice ha nh hc,.slice wa nt wc,.int .u8 mo] _ _ from HX3.out)
  rw [hv1] at k0 k1 k2 k3 k4 r0 r1 r2 r3 r4
  clear hin hdg hti hdn hb hbv hnw hncm HC HB1 HX1 HB2 HX2 HI3 p0 p1 p2 p3 p4 hcon
  by_cases hn0:nw=0
  ·have hwn:want=[]:=List.length_eq_zero_iff.1 (by rw [← HNW.out]; exact hn0)
   have hc0:ncm=0:=by rw [HNC.out,HCE.out hwn]; rfl
   subst hn0 hc0
   have HC:=Lib.hid (HAW.out v1)
   rw [hv1] at HC
   clear hv1
   go_wp2_with fail
   (with_reducible refine (HC.out).mono ?_)
   rintro e u3 ⟨rfl,hb⟩
   rw [← HV1.out] at hb
   have HB5:=Lib.hid (HB3.out.trans (hb.mono HB3.out.size))
   clear hb HC
   go_wp2_with fail
   go_ret
   exact ⟨rfl,HB5.out⟩
  ·have hnb:((nw:Int) == 0)=false:=by simpa using hn0
   have hwn:want ≠ []:=fun e=>hn0 (by rw [HNW.out,e]; rfl)
   have HFN:=Lib.hid (HFIN.out hwn)
   have HCO:Hid (∀ c ∈ common,OkD c):=Lib.hid (fun c hc=>HA.out.2 c (HCA.out c hc))
   have hce:(ancS cl common).2=0:=anc_knE.2 HCK.out
   have HKM:Hid (∀ d,d ∈ (ancS cl common).1 ↔ ∃ c ∈ common,Anc cl c d):=Lib.hid (anc_kn HCK.out).2
   have HKS:Hid (∀ d ∈ (ancS cl common).1,d ∈ (ancS cl hd).1):=Lib.hid (fun d hd2=>by
    obtain ⟨c,hc,hcd⟩:=(HKM.out d).1 hd2
    have hh:=anc_kn (anc_knE.1 hae)
    obtain ⟨s,hs,hsc⟩:=(hh.2 c).1 (HCA.out c hc)
    exact (hh.2 d).2 ⟨s,hs,hsc.trans hcd⟩)
   have HKL:=Lib.hid (HAL2.out common HCO.out)
   have HC1:=Lib.hid (HAN2.out v1 ha hd hc HB3.out (HHD.out.dig.ahead HB3.out) (by have:=HNH.out; omega) HHD.out.ok)
   have HC2:=Lib.hid (fun W (hW:Below v1.heap.size v1 W)=>HAN2.out W ca' common cc' (HB3.out.trans (hW.mono HB3.out.size)) (HDC.out.ahead hW) (by have:=HNC.out; omega) HCO.out)
   rw [← HNH.out,hv1] at HC1
   rw [← HNC.out] at HC2
   generalize ancS cl hd=AR at HC1 hae HA HFN HKS HCA
   generalize ancS cl common=KR at HC2 hce HKM HKS HKL
   obtain ⟨AN,ea⟩:=AR
   obtain ⟨KN,ek⟩:=KR
   simp only at hae hce HC1 HC2 HA HFN HKS HCA HKM HKL
   subst hae hce
   clear hn0 hwn hv1 HFIN HCE HCK HAL2
   go_wp2_with fail
   (with_reducible refine (HC1.out).mono ?_)
   rintro e u2 ⟨na,nc,rfl,hdg,hnc,hb⟩
   rw [← HV1.out] at hb
   simp only at hdg hnc ⊢
   obtain ⟨nn,hnn⟩:∃ n,n=AN.length:=⟨_,rfl⟩
   have hnn40:nn ≤ 40:=by rw [hnn]; exact HA.out.1
   rw [← hnn] at hnc ⊢
   have HNN:=Lib.hid hnn
   have HB4:=Lib.hid (HB3.out.trans (hb.mono HB3.out.size))
   have HX4:=Lib.hid (HX3.out.below hb)
   have HT4:=Lib.hid (HT3.out.below hb)
   have HL4:=Lib.hid hdg
   have HC3:=Lib.hid (HC2.out u2 hb)
   clear hb hdg hnn HC1 HC2 HV1 HB3 HX3 HT3 HDC k0 k1 k2 k3 k4 r0 r1 r2 r3 r4
   obtain ⟨k0,k1,k2,k3,k4⟩:=BK.c5 (show BK _ #[.slice wa' nw wc',.slice qa' nqu qc',.slice aa' nas ac',.slice ca' ncm cc',.bool done] _ _ from HT4.out)
   obtain ⟨r0,r1,r2,r3,r4⟩:=BK.c5 (show BK _ #[.slice ca ncl cc,.slice sa nsv sc,.slice ha nh hc,.slice wa nt wc,.int .u8 mo] _ _ from HX4.out)
   go_wp2_with fail
   (with_reducible refine (HC3.out).mono ?_)
   rintro e u3 ⟨ka,kc,rfl,hdg,hkc,hb⟩
   simp only at hdg hkc ⊢
   obtain ⟨nk,hnk⟩:∃ n,n=KN.length:=⟨_,rfl⟩
   have hnk40:nk ≤ 40:=by rw [hnk]; exact HKL.out.1
   rw [← hnk] at hkc ⊢
   have HNK:=Lib.hid hnk
   have HB5:=Lib.hid (HB4.out.trans (hb.mono HB4.out.size))
   have HX5:=Lib.hid (HX4.out.below hb)
   have HL5:=Lib.hid (HL4.out.ahead hb)
   have HK5:=Lib.hid hdg
   clear hb hdg hnk HC3 HB4 HX4 HL4 HT4 k0 k1 k2 k3 k4 r0 r1 r2 r3 r4
   go_wp2_with fail
   go_loopw [65] (fun i wr=>∃ k:Nat,k ≤ nn ∧ i = .int .i64 k ∧ Hid (Below u3.heap.size u3 wr)) (fun i _=>nn - (intOf i).toNat)
   case atStart=>exact ⟨0,by omega,rfl,Lib.hid (Below.refl _ _)⟩
   case round=>
    obtain ⟨k,hk,rfl,HE⟩:=hrel
    by_cases hkn:k < nn
    ·have hki:(k:Int) < (nn:Int):=by omega
     have h1:k < AN.length:=by have:=HNN.out; omega
     obtain ⟨b0,of0,haa,hb0,q0,q1⟩:=(HL5.out.ahead HE.out) k h1
     have HLx:=HL5
     subst haa
     have hokd:=HA.out.2 _ (List.getElem_mem h1)
     have HIFF:=Lib.hid (HFN.out _ (List.getElem_mem h1))
     generalize AN[k]=d at q0 q1 hokd HIFF
     obtain ⟨d1,d2⟩:=d
     simp only at q0 q1
     have HBk:=Lib.hid (HB5.out.trans (HE.out.mono HB5.out.size))
     have HXk:=Lib.hid (HX5.out.below HE.out)
     obtain ⟨v,hv⟩:∃ v,v=(wr.alloc (.cells #[.int .u64 d1,.int .u64 d2] 52)).alloc (.cells #[.int .u64 d1,.int .u64 d2] 52):=⟨_,rfl⟩
     have hbv:Below wr.heap.size wr v:=by rw [hv]; exact ((Below.refl _ _).alloc (Nat.le_refl _) _).alloc (by simp) _
     have HEv:=Lib.hid (HE.out.trans (hbv.mono HE.out.size))
     have HDv:Hid (BK wr.heap.size #[.int .u64 d1,.int .u64 d2] 52 v):=Lib.hid (by rw [hv]; exact (BK.new _ _ _).alloc _)
     have HC:=Lib.hid (HAS2.out v (wr.heap.size + 1) d1 d2 (HBk.out.trans (hbv.mono HBk.out.size)) (by rw [hv]; exact BK.new2 _ _ _ _) hokd)
     have HEQ:Hid (decide ((ancS sv [(d1,d2)]).2=0)=decide ((d1,d2) ∈ KN)):=Lib.hid (by
      rw [Bool.eq_iff_iff,decide_eq_true_eq,decide_eq_true_eq,anc_knE,HKM.out,← HIFF.out]
      simp)
     generalize ancS sv [(d1,d2)]=SR at HC HEQ
     obtain ⟨sn,es⟩:=SR
     simp only [List.length_cons,List.length_nil,Nat.zero_add] at HC HEQ
     have hcx:=HXk.out.cell 1
     obtain ⟨r0,r1,r2,r3,r4⟩:=BK.c5 (show BK _ #[.slice ca ncl cc,.slice sa nsv sc,.slice ha nh hc,.slice wa nt wc,.int .u8 mo] _ _ from HXk.out)
     have r1a:=fun o=>cell_a1 r1 o
     rw [hv] at HC
     have HV:=Lib.hid hv
     clear hv hbv HE HBk HXk HIFF hcx
     go_wp2_with fail
     (with_reducible refine (HC.out).mono ?_)
     rintro e u4 ⟨xa,xc,rfl,hdg,hxc,hb⟩
     rw [← HV.out] at hb
     simp only at hdg hxc ⊢
     have HE4:=Lib.hid (HEv.out.trans (hb.mono HEv.out.size))
     have HD4:=Lib.hid (HDv.out.below hb)
     have HI4:=Lib.hid (rin_any ka KN kc d1 d2 u4 (HK5.out.ahead HE4.out) (by rw [← HNK.out]; omega))
     rw [← HNK.out,← HEQ.out] at HI4
     generalize sn.length=nsn
     obtain ⟨e0,e1⟩:=BK.c2 (show BK _ #[.int .u64 d1,.int .u64 d2] _ _ from HD4.out)
     clear hdg hxc hb HC HV HEv HDv HEQ q0 q1 r0 r1 r2 r3 r4 r1a
     by_cases hes:es=0
     ·subst hes
      rw [decide_eq_true rfl] at HI4
      go_wp2_with fail
      (with_reducible refine (HI4.out).mono ?_)
      rintro e u5 ⟨rfl,hb⟩
      have HE5:=Lib.hid (HE4.out.trans (hb.mono HE4.out.size))
      clear hb HI4 HE4 HD4 e0 e1
      go_wp2_with fail
      go_roundw
      case rel=>exact ⟨k + 1,by omega,by go_num,HE5⟩
      case measure=>simp [intOf] <;> omega
     ·have hee:(es == 0)=false:=by simpa using hes
      rw [decide_eq_false hes] at HI4
      clear hes
      go_wp2_with fail
      (with_reducible refine (HI4.out).mono ?_)
      rintro e u5 ⟨rfl,hb⟩
      have HE5:=Lib.hid (HE4.out.trans (hb.mono HE4.out.size))
      clear hb HI4 HE4 HD4 e0 e1
      go_wp2_with fail
      go_roundw
      case rel=>exact ⟨k + 1,by omega,by go_num,HE5⟩
      case measure=>simp [intOf] <;> omega
    ·have hki:¬ (k:Int) < (nn:Int):=by omega
     obtain ⟨x1,hx1⟩:∃ x1,x1=wr:=⟨_,rfl⟩
     rw [← hx1] at HE ⊢
     have HB6:=Lib.hid (HB5.out.trans (HE.out.mono HB5.out.size))
     have HL6:=Lib.hid (HL5.out.ahead HE.out)
     have HK6:=Lib.hid (HK5.out.ahead HE.out)
     clear hx1 HE HB5 HX5 HL5 HK5 HFN
     go_wp2_with fail
     go_loopw [86] (fun i wr=>∃ k:Nat,k ≤ nk ∧ i = .int .i64 k ∧ Hid (Below x1.heap.size x1 wr)) (fun i _=>nk - (intOf i).toNat)
     case atStart=>exact ⟨0,by omega,rfl,Lib.hid (Below.refl _ _)⟩
     case round=>
      obtain ⟨k,hk,rfl,HE⟩:=hrel
      by_cases hkn:k < nk
      ·have hki:(k:Int) < (nk:Int):=by omega
       have h1:k < KN.length:=by have:=HNK.out; omega
       obtain ⟨b0,of0,haa,hb0,q0,q1⟩:=(HK6.out.ahead HE.out) k h1
       have HLx:=HK6
       subst haa
       have HIA:=Lib.hid (HKS.out _ (List.getElem_mem h1))
       generalize KN[k]=d at q0 q1 HIA
       obtain ⟨d1,d2⟩:=d
       simp only at q0 q1
       obtain ⟨v,hv⟩:∃ v,v=wr.alloc (.cells #[.int .u64 d1,.int .u64 d2] 52):=⟨_,rfl⟩
       have hbv:Below wr.heap.size wr v:=by rw [hv]; exact (Below.refl _ _).alloc (Nat.le_refl _) _
       have HEv:=Lib.hid (HE.out.trans (hbv.mono HE.out.size))
       have HI:=Lib.hid (rin_any na AN nc d1 d2 v (HL6.out.ahead HEv.out) (by rw [← HNN.out]; omega))
       rw [decide_eq_true HIA.out,← HNN.out,hv] at HI
       have HV:=Lib.hid hv
       clear hv hbv HE HIA
       go_wp2_with fail
       (with_reducible refine (HI.out).mono ?_)
       rintro e u4 ⟨rfl,hb⟩
       rw [← HV.out] at hb
       have HE4:=Lib.hid (HEv.out.trans (hb.mono HEv.out.size))
       clear hb HI HV HEv q0 q1
       go_wp2_with fail
       go_roundw
       case rel=>exact ⟨k + 1,by omega,by go_num,HE4⟩
       case measure=>simp [intOf] <;> omega
      ·have hki:¬ (k:Int) < (nk:Int):=by omega
       have HC:=Lib.hid (HAW.out wr)
       have HB7:=Lib.hid (HB6.out.trans (HE.out.mono HB6.out.size))
       go_wp2_with fail
       (with_reducible refine (HC.out).mono ?_)
       rintro e u4 ⟨rfl,hb⟩
       have HB8:=Lib.hid (HB7.out.trans (hb.mono HB7.out.size))
       clear hb HC
       go_wp2_with fail
       go_ret
       exact ⟨rfl,HB8.out⟩
end Go.Proofs.YtdeggadmbjkpfaaGreat.negotiateFinds
