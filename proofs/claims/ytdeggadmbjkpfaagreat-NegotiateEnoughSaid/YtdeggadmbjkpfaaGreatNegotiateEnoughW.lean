/- The walk of the statement NegotiateEnough. -/
import Derived.Test.YtdeggadmbjkpfaaGreatNeTw
import Derived.Test.YtdeggadmbjkpfaaGreatNeAw
import Derived.Test.YtdeggadmbjkpfaaGreatNeEn
import Derived.Deep.RegionHeldLaw
set_option maxRecDepth 100000
set_option maxHeartbeats 16000000
namespace Go.Proofs.YtdeggadmbjkpfaaGreat.negotiateEnough
open Go.RowKit Go.Shelf Go.Sort
set_option linter.unusedVariables false
theorem asc_nodup {xs:List Itm} (h:Asc xs):xs.Nodup:=by
 rw [List.nodup_iff_pairwise_ne,List.pairwise_iff_getElem]
 intro i j hi hj hij e
 have h1:=h i j hi hj hij
 rw [e,cmpD_self] at h1
 omega
theorem sent {xs ys:List Itm} (hx:HV xs) (hy:HV ys) (hC:Con xs ys) (l:List (Int × Int)):∃ p,runS xs (keepS ys l)=(p,0) ∧ Asc p ∧ (∀ z,z ∈ p ↔ z ∈ xs ∨ z ∈ keepS ys l) ∧ p.length ≤ 80 ∧ ∀ x ∈ p,(x.data.length:Int) ≤ 1000000:=by
 have hsub:∀ z ∈ keepS ys l,z ∈ ys:=fun z hz=>by unfold keepS at hz; exact (List.mem_filter.1 hz).1
 have hkl:(keepS ys l).length ≤ ys.length:=by unfold keepS; exact List.length_filter_le _ _
 rcases runS_law (ys:=keepS ys l) hx.asc with ⟨_,hc⟩ | ⟨p,h1,h2⟩
 ·exfalso
  obtain ⟨z,y,hz,hy2,e,hne⟩:=hc
  rcases hz with hz | hz
  ·rcases hy2 with hy2 | hy2
   ·exact hne (asc_same hx.asc hz hy2 e)
   ·exact hne (hC z hz y (hsub y hy2) e)
  ·rcases hy2 with hy2 | hy2
   ·exact hne (hC y hy2 z (hsub z hz) e.symm).symm
   ·exact hne (asc_same hy.asc (hsub z hz) (hsub y hy2) e)
 ·refine ⟨p,h1,h2.asc,h2.mem,?_,fun x hxp=>?_⟩
  ·have h3:=(asc_nodup h2.asc).length_le_of_subset (l₂:=xs ++ keepS ys l) (fun z hz=>List.mem_append.2 ((h2.mem z).1 hz))
   rw [List.length_append] at h3
   have:=hx.le
   have:=hy.le
   omega
  ·rcases (h2.mem x).1 hxp with h3 | h3
   ·have:=hx.dat x h3; omega
   ·have:=hy.dat x (hsub x h3); omega
theorem walk (x:Tlk) (A:TlA) (w:World) (h:TlCame w x A) :
  Calls Tryz.prog 9 #[.agg (x.arr A)] w fun e w'=>e = .returned (.bool true) ∧ Below w.heap.size w w':=by
 obtain ⟨w0,hw0⟩:∃ w0,w0=w.alloc (.cells (x.arr A) 45):=⟨_,rfl⟩
 have hb0:Below w.heap.size w w0:=by rw [hw0]; exact (Below.refl _ _).alloc (Nat.le_refl _) _
 have hcame:∀ W,Below w.heap.size w W → TlCame W x A:=fun W hW=>⟨⟨h.cl.its.ahead hW,h.cl.cap,h.cl.dat⟩,⟨h.sv.its.ahead hW,h.sv.cap,h.sv.dat⟩,⟨h.hd.dig.ahead hW,h.hd.cap,h.hd.ok⟩,⟨h.wt.dig.ahead hW,h.wt.cap,h.wt.ok⟩,h.mo⟩
 have HFI:=Lib.hid (fine15_any x A w0 (hcame w0 hb0))
 have HTK:=Lib.hid (fun W (hW:Below w.heap.size w W) (hf:Fine x)=>talk_any x A W (hcame W hW) hf)
 have HSN:=Lib.hid (fun W wa want wc ca com cc (hW:Below w.heap.size w W) (hf:Fine x) (hw:Digs W.heap.size W wa want) (hwo:∀ d ∈ want,OkD d) (hwl:(want.length:Int) ≤ 45) (hc:Digs W.heap.size W ca com) (hco:∀ d ∈ com,OkD d) (hcl:(com.length:Int) ≤ 45)=>send_any A.sa x.sv A.sc wa want wc ca com cc W (hf.sv.pin (h.sv.its.ahead hW) h.sv.cap.1) hf.sv.asc hf.sv.le hw hwo hwl hc hco hcl)
 have HRE:=Lib.hid (fun W ca com cc (hW:Below w.heap.size w W) (hf:Fine x) (hc:Digs W.heap.size W ca com) (hcl:(com.length:Int) ≤ 10000)=>rreach_any A.ca x.cl A.cc ca com cc W (h.cl.its.ahead hW) hf.cl.asc hc (by have:=hf.cl.le; omega) hcl (fun y hy=>by have:=hf.cl.dat y hy; omega))
 have HKE:=Lib.hid (fun W la l lc (hW:Below w.heap.size w W) (hf:Fine x) (hl:Digs W.heap.size W la l) (hll:(l.length:Int) ≤ 1000000000)=>rkeep_any A.sa x.sv A.sc la l lc W (h.sv.its.ahead hW) hl (by have:=hf.sv.le; omega) hll)
 have HUN:=Lib.hid (fun W b ys c' (hW:Below w.heap.size w W) (hf:Fine x) (hq:Its W.heap.size W b ys) (hm:(ys.length:Int) ≤ 40000)=>runion_any A.ca b x.cl ys A.cc c' W (h.cl.its.ahead hW) hq h.cl.cap.1 hf.cl.asc (by have:=hf.cl.le; omega) hm)
 have HSE:=Lib.hid (fun (hf:Fine x) l=>sent hf.cl hf.sv hf.con l)
 have HEN:=Lib.hid (fun (hf:Fine x) p Cm l (hp:Asc p) (hS:sendS x.sv (wantS x.cl x.wt) Cm=(l,0)) (hl:(reachS x.cl Cm).2=[]) (hm:∀ z,z ∈ p ↔ z ∈ x.cl ∨ z ∈ keepS x.sv l)=>enough hf.cl.asc hf.sv.asc hp hf.con hS hl hm)
 have HRF:=Lib.hid (fun (hf:Fine x) W (hl:W.length ≤ 45) (hok:∀ d ∈ W,OkD d)=>reach_facts (xs:=x.sv) (l:=W) hf.sv.le hl hok)
 have HAL:=Lib.hid (fun (hf:Fine x)=>anc_le hf.cl h.hd.ok)
 have HWO:Hid ((∀ d ∈ wantS x.cl x.wt,OkD d) ∧ (Fine x → (wantS x.cl x.wt).length ≤ 20)):=Lib.hid ⟨fun d hd=>h.wt.ok d (((wantS_law x.cl x.wt).2 d).1 hd).1,fun hf=>Nat.le_trans (wantS_len _ _) hf.wl⟩
 have HAW:=Lib.hid awake15_any
 have HX0:Hid (BK w.heap.size (x.arr A) 45 w0):=Lib.hid (by rw [hw0]; exact BK.new _ _ _)
 have HB0:=Lib.hid hb0
 have HFT:=Lib.hid (fun (h:fineT x=true)=>fine_of h)
 have HSL:Hid (Fine x → x.sv.length ≤ 40):=Lib.hid (fun hf=>hf.sv.le)
 unfold GotTk at HTK
 generalize mostN x=mm at HTK
 generalize fineT x=b at HFI HFT
 generalize wantS x.cl x.wt=WS at HTK HEN HWO
 generalize (ancS x.cl x.hd).1=AN at HTK HAL
 generalize hF:Fine x=F at HTK HSN HRE HKE HUN HSE HEN HRF HAL HWO HFT HSL
 obtain ⟨cl,sv,hd,wt,mo⟩:=x
 obtain ⟨ca,cc,sa,sc,ha,hc,wa,wc⟩:=A
 simp only [Tlk.arr] at HFI HTK HSN HRE HKE HUN HSE HEN HRF HSL hw0 HX0 ⊢
 rw [hw0] at HFI
 have HW0:=Lib.hid hw0
 generalize cl.length=ncl at HFI HTK HRE HUN HW0 HX0 ⊢
 generalize hnsv:sv.length=nsv at HFI HTK HSN HKE HSL HW0 HX0 ⊢
 have HKL:Hid (∀ l,(keepS sv l).length ≤ nsv):=Lib.hid (fun l=>by rw [← hnsv]; unfold keepS; exact List.length_filter_le _ _)
 generalize hd.length=nh at HFI HTK HW0 HX0 ⊢
 generalize wt.length=nt at HFI HTK HW0 HX0 ⊢
 clear hw0 hb0 hcame hF h hnsv
 go_enter Tryz.func9,Tryz.ntmps9
 go_wp2_with fail
 (with_reducible refine (HFI.out).mono ?_)
 rintro e u ⟨rfl,hb⟩
 rw [← HW0.out] at hb
 have HB1:=Lib.hid (HB0.out.trans (hb.mono HB0.out.size))
 have HX1:=Lib.hid (HX0.out.below hb)
 clear hb HFI HW0 HB0 HX0
 cases b with
 | false=>
  have HC:=Lib.hid (HAW.out u)
  clear HTK HSN HRE HKE HUN HSE HEN HRF HAL HWO HFT
  go_wp2_with fail
  (with_reducible refine (HC.out).mono ?_)
  rintro e u2 ⟨rfl,hb⟩
  have HB2:=Lib.hid (HB1.out.trans (hb.mono HB1.out.size))
  clear hb HC
  go_wp2_with fail
  go_ret
  exact ⟨rfl,HB2.out⟩
 | true=>
  have hf:=HFT.out rfl
  have HC:=Lib.hid (HTK.out u HB1.out hf)
  have HA:=Lib.hid (HAL.out hf)
  have hwl:=HWO.out.2 hf
  have HWOK:=Lib.hid HWO.out.1
  have hsl:=HSL.out hf
  obtain ⟨p0,p1,p2,p3,p4⟩:=BK.c5 (show BK _ #[.slice ca ncl cc,.slice sa nsv sc,.slice ha nh hc,.slice wa nt wc,.int .u8 mo] _ _ from HX1.out)
  clear HTK HAL HFT HWO HSL
  go_wp2_with fail
  (with_reducible refine (HC.out).mono ?_)
  rintro e u1 ⟨t,X,asked,n,aa,ac,rfl,hin,hdg,hac,hti,hdn,hb⟩
  simp only [Tk.val,Tk.arr]
  generalize asked.length=m
  have hw:=hti.w
  have hcl:=hti.cle HA.out.1
  have HCO:Hid (∀ c ∈ t.common,OkD c):=Lib.hid (fun c hc=>HA.out.2 c (hti.cm c hc).1)
  have HB2:=Lib.hid (HB1.out.trans (hb.mono HB1.out.size))
  have HX2:=Lib.hid (HX1.out.below hb)
  obtain ⟨v1,hv1⟩:∃ v1,v1=u1.alloc (.cells (t.arr X) 26):=⟨_,rfl⟩
  have hbv:Below u1.heap.size u1 v1:=by rw [hv1]; exact (Below.refl _ _).alloc (Nat.le_refl _) _
  have HB3:=Lib.hid (HB2.out.trans (hbv.mono HB2.out.size))
  have HX3:=Lib.hid (HX2.out.below hbv)
  have HI3:=Lib.hid (hin.ahead hbv)
  have HT3:Hid (BK u1.heap.size (t.arr X) 26 v1):=Lib.hid (by rw [hv1]; exact BK.new _ _ _)
  have HDC:=Lib.hid HI3.out.c
  have HDW:=Lib.hid HI3.out.w
  obtain ⟨want,queue,asked',common,done⟩:=t
  obtain ⟨wa',wc',qa',qc',aa',ac',ca',cc'⟩:=X
  simp only [Tk.arr] at hw hcl HCO hv1 HT3 HDC HDW ⊢
  subst hw
  obtain ⟨nw,hnw⟩:∃ n,n=want.length:=⟨_,rfl⟩
  obtain ⟨ncm,hncm⟩:∃ n,n=common.length:=⟨_,rfl⟩
  have HC1:=Lib.hid (HSN.out v1 wa' want wc' ca' common cc' HB3.out hf HDW.out HWOK.out (by omega) HDC.out HCO.out (by omega))
  have HC2:=Lib.hid (fun W (hW:Below v1.heap.size v1 W)=>HRE.out W ca' common cc' (HB3.out.trans (hW.mono HB3.out.size)) hf (HDC.out.ahead hW) (by omega))
  rw [← hnw] at hwl hv1 HT3 HC1 ⊢
  rw [← hncm] at hcl hv1 HT3 HC1 HC2 ⊢
  generalize queue.length=nqu at hv1 HT3 ⊢
  generalize asked'.length=nas at hv1 HT3 ⊢
  have HNW:=Lib.hid hnw
  have HSW:Hid (∀ l e,sendS sv want common=(l,e) → e=0 → (l.length:Int) ≤ 100000):=Lib.hid (fun l e he h0=>by
   subst h0
   obtain ⟨_,_,h3⟩:=send_ok he
   have h4:=(HRF.out hf want (by omega) HWOK.out).1
   have h5:=List.length_filter_le (fun d=>!decide (d ∈ (reachS sv common).1)) (reachS sv want).1
   rw [← h3] at h5
   omega)
  have HEN2:=Lib.hid (fun p l hp hS hl hm=>HEN.out hf p common l hp hS hl hm)
  have HSE2:=Lib.hid (HSE.out hf)
  have HKE2:=Lib.hid (fun W la l lc hW hl hll=>HKE.out W la l lc hW hf hl hll)
  have HUN2:=Lib.hid (fun W b ys c' hW hq hm=>HUN.out W b ys c' hW hf hq hm)
  rw [hv1] at HC1
  generalize hSS:sendS sv want common=SS at HC1 HSW HEN2
  obtain ⟨l,es⟩:=SS
  generalize reachS cl common=RR at HC2 HEN2
  obtain ⟨rt,rl⟩:=RR
  simp only at HC1 HC2 HEN2
  have HV1:=Lib.hid hv1
  obtain ⟨k0,k1,k2,k3,k4⟩:=BK.c5 (show BK _ #[.slice wa' nw wc',.slice qa' nqu qc',.slice aa' nas ac',.slice ca' ncm cc',.bool done] _ _ from HT3.out)
  obtain ⟨r0,r1,r2,r3,r4⟩:=BK.c5 (show BK _ #[.slice ca ncl cc,.slice sa nsv sc,.slice ha nh hc,.slice wa nt wc,.int .u8 mo] _ _ from HX3.out)
  rw [hv1] at k0 k1 k2 k3 k4 r0 r1 r2 r3 r4
  clear hin hdg hti hdn hb hbv hnw hncm hv1 hSS HC HB1 HX1 HB2 HX2 HI3 p0 p1 p2 p3 p4 HSN HRE HKE HUN HSE HEN HRF HCO
  go_wp2_with fail
  (with_reducible refine (HC1.out).mono ?_)
  rintro e u2 ⟨la,lc,rfl,hown,hb⟩
  rw [← HV1.out] at hb
  simp only at hown ⊢
  obtain ⟨nl,hnl⟩:∃ n,n=l.length:=⟨_,rfl⟩
  rw [← hnl] at hown ⊢
  have HNL:=Lib.hid hnl
  have HL2:=Lib.hid (own_digs hnl hown)
  have HB4:=Lib.hid (HB3.out.trans (hb.mono HB3.out.size))
  have HX4:=Lib.hid (HX3.out.below hb)
  have HT4:=Lib.hid (HT3.out.below hb)
  have HDW4:=Lib.hid (HDW.out.ahead hb)
  have HC3:=Lib.hid (HC2.out u2 hb)
  clear hb hown hnl HC1 HC2 HV1 HB3 HX3 HT3 HDC HDW k0 k1 k2 k3 k4 r0 r1 r2 r3 r4
  obtain ⟨k0,k1,k2,k3,k4⟩:=BK.c5 (show BK _ #[.slice wa' nw wc',.slice qa' nqu qc',.slice aa' nas ac',.slice ca' ncm cc',.bool done] _ _ from HT4.out)
  obtain ⟨r0,r1,r2,r3,r4⟩:=BK.c5 (show BK _ #[.slice ca ncl cc,.slice sa nsv sc,.slice ha nh hc,.slice wa nt wc,.int .u8 mo] _ _ from HX4.out)
  go_wp2_with fail
  (with_reducible refine (HC3.out).mono ?_)
  rintro e u3 ⟨ta,tc,lo,lc',rfl,_,_,hb⟩
  simp only
  obtain ⟨nlo,hnlo⟩:∃ n,n=rl.length:=⟨_,rfl⟩
  rw [← hnlo] at ⊢
  generalize rt.length=nrt
  have HB5:=Lib.hid (HB4.out.trans (hb.mono HB4.out.size))
  have HX5:=Lib.hid (HX4.out.below hb)
  have HT5:=Lib.hid (HT4.out.below hb)
  have HDW5:=Lib.hid (HDW4.out.ahead hb)
  have HL5:=Lib.hid (HL2.out.ahead hb)
  have HRL:Hid (nlo=0 → rl=[]):=Lib.hid (fun h=>List.length_eq_zero_iff.1 (by rw [← hnlo]; exact h))
  clear hb hnlo HC3 HB4 HX4 HT4 HDW4 HL2 k0 k1 k2 k3 k4 r0 r1 r2 r3 r4
  by_cases hes:es=0
  ·subst hes
   by_cases hlo:nlo=0
   ·subst hlo
    have hrl:=HRL.out rfl
    obtain ⟨p,hp1,hp2,hp3,hp4,hp5⟩:=HSE2.out l
    have HEE:=Lib.hid (HEN2.out p l hp2 rfl hrl hp3)
    have hll:=HSW.out l 0 rfl rfl
    have hd3:Below u3.heap.size u3 u3.drew:=(Below.refl _ _).drew
    have HK:=Lib.hid (HKE2.out u3.drew la l lc (HB5.out.trans (hd3.mono HB5.out.size)) (HL5.out.ahead hd3) (by omega))
    have hkl:=HKL.out l
    have HU:=Lib.hid (fun u5 ka kc (hb:Below u3.heap.size u3 u5) (hi:Its u5.heap.size u5 ka (keepS sv l))=>HUN2.out u5 ka (keepS sv l) kc (HB5.out.trans (hb.mono HB5.out.size)) hi (by omega))
    rw [hp1] at HU
    have HR2:=Lib.hid (fun W pa pc (hb:Below u3.heap.size u3 W) (hi:Its W.heap.size W pa p)=>rreach_any pa p pc wa' want wc' W hi hp2 (HDW5.out.ahead hb) (by omega) (by have:=HNW.out; omega) hp5)
    generalize reachS p want=PR at HEE HR2
    obtain ⟨pt,pl⟩:=PR
    (try simp only at HEE)
    (try simp only at HU)
    (try simp only at HR2)
    have hpl:=HEE.out
    subst hpl
    rw [← HNW.out] at HR2
    rw [← HNL.out] at HK
    obtain ⟨nk,hnk⟩:∃ n,n=(keepS sv l).length:=⟨_,rfl⟩
    have HNK:=Lib.hid hnk
    rw [← hnk] at HU
    obtain ⟨nn,hnn⟩:∃ n,n=p.length:=⟨_,rfl⟩
    rw [← hnn] at HU HR2
    have HSK:Hid (∀ W:World,Below u3.heap.size u3 W → W.cell? ⟨w.heap.size,0,none⟩=some (.slice ca ncl cc) ∧ W.cell? ⟨w.heap.size,1,none⟩=some (.slice sa nsv sc)):=Lib.hid (fun W hb=>by
     have hk:=HX5.out.below hb
     exact ⟨by rw [hk.cell]; rfl,by rw [hk.cell]; rfl⟩)
    have hs0:=HSK.out u3.drew hd3
    clear hrl hp1 hp3 hp4 hp5 hp2 hll hd3 hnk hnn hkl HEN2 HSE2 HKE2 HUN2 HSW HRL HEE
    go_upto_region 10 with (fail)
    go_region_held_law (fun W:World=>W.cell? ⟨w.heap.size,0,none⟩=some (.slice ca ncl cc) ∧ W.cell? ⟨w.heap.size,1,none⟩=some (.slice sa nsv sc))
     (first | (with_reducible exact hs0) | (with_reducible exact hs1) | (with_reducible exact hs2))
     (first
     | (go_simp; (with_reducible refine (HK.out).mono ?_); rintro e u5 ⟨ka,kc,rfl,hits5,_,_,hb5⟩; (have hb5':Below u3.heap.size u3 u5:=((Below.refl _ _).drew).trans (hb5.mono (Nat.le_refl _))); (have HC4:=HU.out u5 ka kc hb5' hits5); (rw [← HNK.out]); (have hs1:=HSK.out u5 hb5'); clear hits5)
     | (go_simp; (with_reducible refine HC4.mono ?_); rintro e u6 ⟨xa,xc,rfl,hits6,hb6⟩; (have hb6':Below u3.heap.size u3 u6:=hb5'.trans (hb6.mono hb5'.size)); (have hs2:=HSK.out u6 hb6'))
     | fail)
    all_goals
     have HC5:=Lib.hid (HR2.out u6 xa xc hb6' hits6)
     have HB6:=Lib.hid (HB5.out.trans (hb6'.mono HB5.out.size))
     have hk6:=HT5.out.below hb6'
     obtain ⟨k0,k1,k2,k3,k4⟩:=BK.c5 (show BK _ #[.slice wa' nw wc',.slice qa' nqu qc',.slice aa' nas ac',.slice ca' ncm cc',.bool done] _ _ from hk6)
     clear hk6 hs0 hs1 hs2 hb5 hb5' hb6 hb6' hits6 HC4 HK HU HSK HX5 HT5 HDW5 HL5 HB5 HR2
     go_wp2_with fail
     (with_reducible refine (HC5.out).mono ?_)
     rintro e u7 ⟨ya,yc,za,zc,rfl,_,_,hb⟩
     simp only [List.length_nil]
     have HB7:=Lib.hid (HB6.out.trans (hb.mono HB6.out.size))
     clear hb HC5 HB6 k0 k1 k2 k3 k4
     have HC:=Lib.hid (HAW.out u7)
     go_wp2_with fail
     (with_reducible refine (HC.out).mono ?_)
     rintro e u9 ⟨rfl,hb⟩
     have HB9:=Lib.hid (HB7.out.trans (hb.mono HB7.out.size))
     clear hb HC
     go_wp2_with fail
     go_ret
     exact ⟨rfl,HB9.out⟩
   ·have hli:(0:Int) < (nlo:Int):=by omega
    clear HEN2 HSE2 HKE2 HUN2 HSW HRL
    have HC:=Lib.hid (HAW.out u3)
    go_wp2_with fail
    (with_reducible refine (HC.out).mono ?_)
    rintro e u9 ⟨rfl,hb⟩
    have HB9:=Lib.hid (HB5.out.trans (hb.mono HB5.out.size))
    clear hb HC
    go_wp2_with fail
    go_ret
    exact ⟨rfl,HB9.out⟩
  ·have hee:(es != 0)=true:=by simpa using hes
   clear HEN2 HSE2 HKE2 HUN2 HSW HRL hes
   have HC:=Lib.hid (HAW.out u3)
   go_wp2_with fail
   (with_reducible refine (HC.out).mono ?_)
   rintro e u9 ⟨rfl,hb⟩
   have HB9:=Lib.hid (HB5.out.trans (hb.mono HB5.out.size))
   clear hb HC
   go_wp2_with fail
   go_ret
   exact ⟨rfl,HB9.out⟩
end Go.Proofs.YtdeggadmbjkpfaaGreat.negotiateEnough
