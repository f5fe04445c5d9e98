/- The reference: Valid. -/
import Derived.Test.YtfdahmicigpnoaaGreatNeRo
import Derived.Test.YtfdahmicigpnoaaGreatNeAs
import Derived.Deep.RegionHeldLaw
set_option maxRecDepth 100000
set_option maxHeartbeats 16000000
open Go.Lib (hid)
namespace Go.Proofs.YtfdahmicigpnoaaGreat
open Go.RowKit Go.Shelf
set_option linter.unusedVariables false
theorem bel_next {u x y:World} (h:Below u.heap.size u x) (g:Below x.heap.size x y):Below u.heap.size u y:=h.trans (g.mono h.size)
theorem maxS_len (xs:List Itm) (l:List (Int × Int)):(maxS xs l).length<=l.length:=by
 have h1:=fold_len (l.filter (topB xs l)) []
 have h2:=List.length_filter_le (topB xs l) l
 unfold maxS
 simp only [List.length_nil] at h1
 omega
theorem tvalid_any (a:Option Addr) (xs:List Itm) (c:Nat) (t:Tk) (A:TkA) (w:World) (hp:Its w.heap.size w a xs) (hA:Asc xs) (hac:AcyS xs) (hn:(xs.length:Int)<=500) (hd:∀ x ∈ xs,(x.data.length:Int)<=1000000) (ht:TkIn w t A) (hb:TkB t) :
  Calls Tryz.prog 86 #[t.val A,.slice a xs.length c] w (GotIO xs (ValidT xs t) w):=by
 have HVR:=hid (valid_ref (xs:=xs) t)
 have HAL:Hid (((ancS xs t.common).1.length:Int)<=500):=hid (by
  by_cases h:(visS xs t.common []).2=0
  ·have hf:=vis_facts h hb.co
   have e:(ancS xs t.common).1=sortH (depS xs) (visS xs t.common []).1:=by unfold ancS; rw [if_neg (by simpa using h)]
   rw [e,(sortH_perm _ _).length_eq]
   have:=hf.le
   omega
  ·rw [ancS_err h]; simp)
 obtain ⟨want,queue,asked,common,done⟩:=t
 obtain ⟨wa,wc,qa,qc,aa,ac,ca,cc⟩:=A
 obtain ⟨h1,h2,h3,h4,_,_,_,_⟩:=ht
 obtain ⟨l1,l2,l3,l4,o1,o2,o3,o4⟩:=hb
 simp only [Tk.val,Tk.arr] at *
 have HDQ:=hid h2
 have HDA:=hid h3
 have HDC:=hid h4
 have HC1:=hid (fun W (hW:Below w.heap.size w W)=>(show Calls _ _ _ W (GotIO xs (AscD want) W) from rasc_any wa want wc W (h1.ahead hW) (by omega)))
 have HC2:=hid (fun W (hW:Below w.heap.size w W)=>(show Calls _ _ _ W (GotIO xs (AscD common) W) from rasc_any ca common cc W (h4.ahead hW) (by omega)))
 have HC3:=hid (fun W (hW:Below w.heap.size w W)=>ordered_any a xs c qa queue qc W (hp.ahead hW) hA hac hn hd (h2.ahead hW) (by omega) o2)
 have HC4:=hid (fun W (hW:Below w.heap.size w W)=>ordered_any a xs c aa asked ac W (hp.ahead hW) hA hac hn hd (h3.ahead hW) (by omega) o3)
 have HC5:=hid (fun W (hW:Below w.heap.size w W)=>within_any qa queue qc aa asked ac W (h2.ahead hW) (h3.ahead hW) (by omega) (by omega))
 have HC6:=hid (fun W (hW:Below w.heap.size w W)=>rancestors_any a xs c ca common cc W (hp.ahead hW) hA hac hn hd (h4.ahead hW) (by omega) o4)
 have HC7:=hid (fun W (hW:Below w.heap.size w W)=>maximal_any a xs c ca common cc W (hp.ahead hW) hA hn hd (h4.ahead hW) (by omega) o4)
 have HML:=hid (maxS_len xs common)
 have HI:Idle ⟨want,queue,asked,common,done⟩=decide (queue.length + asked.length=0):=by
  unfold Idle
  rw [Bool.eq_iff_iff]
  simp
 rw [HI] at HVR
 have hwn:decide (want=[])=decide (want.length=0):=by cases want <;> simp
 rw [hwn] at HVR
 clear HI hwn
 generalize ancS xs common=AR at HC6 HVR HAL
 obtain ⟨an,ea⟩:=AR
 generalize maxS xs common=MX at HC7 HVR HML
 simp only at HVR HAL
 obtain ⟨nw,hnw⟩:∃ n,n=want.length:=⟨_,rfl⟩
 obtain ⟨nq,hnq⟩:∃ n,n=queue.length:=⟨_,rfl⟩
 obtain ⟨na,hna⟩:∃ n,n=asked.length:=⟨_,rfl⟩
 obtain ⟨nc,hnc⟩:∃ n,n=common.length:=⟨_,rfl⟩
 rw [<-hnw] at l1 HC1 HVR ⊢
 rw [<-hnq] at l2 HC3 HC5 HVR ⊢
 rw [<-hna] at l3 HC4 HC5 HVR ⊢
 rw [<-hnc] at l4 HC2 HC6 HC7 HML ⊢
 have HNQ:=hid hnq
 have HNA:=hid hna
 have HNC:=hid hnc
 generalize hP1:AscD want=P1 at HC1 HVR
 generalize hP2:AscD common=P2 at HC2 HVR
 generalize hP3:((∀ d ∈ queue,Kn xs d)/\AscH (depS xs) queue)=P3 at HC3 HVR
 generalize hP4:((∀ d ∈ asked,Kn xs d)/\AscH (depS xs) asked)=P4 at HC4 HVR
 generalize hF5:(queue.filter fun d=>decide (d ∈ asked))=F5 at HC5 HVR
 generalize ValidT xs ⟨want,queue,asked,common,done⟩=VT at HVR ⊢
 obtain ⟨b1,hb1⟩:∃ b,b=decide (nw=0):=⟨_,rfl⟩
 obtain ⟨nn,hnn⟩:∃ n,n=nq + na:=⟨_,rfl⟩
 rw [<-hnn] at HVR
 obtain ⟨b2,hb2⟩:∃ b,b=decide (nn=0):=⟨_,rfl⟩
 rw [<-hb1,<-hb2] at HVR
 have hn1:((nw:Int) == 0)=b1:=by rw [hb1,Bool.eq_iff_iff]; simp
 have hn2:((nn:Int) == 0)=b2:=by rw [hb2,Bool.eq_iff_iff]; simp
 have hn3:decide ((0:Int) < (nw:Int)) = !b1:=by rw [hb1,Bool.eq_iff_iff]; simp; omega
 have hwr:IntKind.i64.wrap ((nq:Int) + (na:Int))=(nn:Int):=by rw [wrap_i64 (by omega) (by omega)]; omega
 clear hnn
 obtain ⟨w0,hw0⟩:∃ w0,w0=w.alloc (.cells #[.slice wa nw wc,.slice qa nq qc,.slice aa na ac,.slice ca nc cc,.bool done] 67):=⟨_,rfl⟩
 have hb0:Below w.heap.size w w0:=by rw [hw0]; exact (Below.refl _ _).alloc (Nat.le_refl _) _
 have HB0:=hid hb0
 have HK0:Hid (BK w.heap.size #[.slice wa nw wc,.slice qa nq qc,.slice aa na ac,.slice ca nc cc,.bool done] 67 w0):=hid (by rw [hw0]; exact BK.new _ _ _)
 have HX1:=hid (HC1.out w0 HB0.out)
 rw [hw0] at HX1
 have HW0:=hid hw0
 generalize xs.length=nx at HC3 HC4 HC6 HC7 ⊢
 clear hw0 hb0 hb1 hb2 hnw hnq hna hnc hP1 hP2 hP3 hP4 hF5 h1 h2 h3 h4 o1 o2 o3 o4 hp hA hac hd HC1
 go_enter Tryz.func86,Tryz.ntmps86
 go_wp2_with fail
 (with_reducible refine (HX1.out).mono ?_)
 rintro e u ⟨b,rfl,hbi,hb⟩
 rw [<-HW0.out] at hb
 have HB1:=hid (bel_next HB0.out hb)
 have HK1:=hid (HK0.out.below hb)
 have HBI:=hid hbi
 clear hb hbi HX1 HW0 HB0 HK0
 cases b with
 | false=>
  have HNO:Hid (¬ VT):=hid (fun h=>by have:=HBI.out.2 (HVR.out.1 h).1; cases this)
  clear HVR HBI hn1 hn2 hn3 hwr
  go_wp2_with fail
  go_ret
  exact GotIO.no HNO.out HB1.out
 | true=>
 have hv1:=HBI.out.1 rfl
 have HV1:Hid (VT ↔ _):=hid (HVR.out.trans (and_iff_right hv1))
 clear hv1 HBI HVR
 have HX2:=hid (HC2.out u HB1.out)
 obtain ⟨k0,k1,k2,k3,k4⟩:=BK.c5 (show BK _ #[.slice wa nw wc,.slice qa nq qc,.slice aa na ac,.slice ca nc cc,.bool done] _ _ from HK1.out)
 clear HC2
 go_wp2_with fail
 (with_reducible refine (HX2.out).mono ?_)
 rintro e u2 ⟨b,rfl,hbi,hb⟩
 have HB2:=hid (bel_next HB1.out hb)
 have HK2:=hid (HK1.out.below hb)
 have HBI:=hid hbi
 clear hb hbi HX2 HB1 HK1 k0 k1 k2 k3 k4
 cases b with
 | false=>
  have HNO:Hid (¬ VT):=hid (fun h=>by have:=HBI.out.2 (HV1.out.1 h).1; cases this)
  clear HV1 HBI hn1 hn2 hn3 hwr
  go_wp2_with fail
  go_ret
  exact GotIO.no HNO.out HB2.out
 | true=>
 have hv1:=HBI.out.1 rfl
 have HV2:Hid (VT ↔ _):=hid (HV1.out.trans (and_iff_right hv1))
 clear hv1 HBI HV1
 have HX3:=hid (HC3.out u2 HB2.out)
 obtain ⟨k0,k1,k2,k3,k4⟩:=BK.c5 (show BK _ #[.slice wa nw wc,.slice qa nq qc,.slice aa na ac,.slice ca nc cc,.bool done] _ _ from HK2.out)
 clear HC3
 go_wp2_with fail
 (with_reducible refine (HX3.out).mono ?_)
 rintro e u3 ⟨b,rfl,hbi,hb⟩
 have HB3:=hid (bel_next HB2.out hb)
 have HK3:=hid (HK2.out.below hb)
 have HBI:=hid hbi
 clear hb hbi HX3 HB2 HK2 k0 k1 k2 k3 k4
 cases b with
 | false=>
  have HNO:Hid (¬ VT):=hid (fun h=>by have:=HBI.out.2 (HV2.out.1 h).1; cases this)
  clear HV2 HBI hn1 hn2 hn3 hwr
  go_wp2_with fail
  go_ret
  exact GotIO.no HNO.out HB3.out
 | true=>
 have hv1:=HBI.out.1 rfl
 have HV3:Hid (VT ↔ _):=hid (HV2.out.trans (and_iff_right hv1))
 clear hv1 HBI HV2
 have HX4:=hid (HC4.out u3 HB3.out)
 obtain ⟨k0,k1,k2,k3,k4⟩:=BK.c5 (show BK _ #[.slice wa nw wc,.slice qa nq qc,.slice aa na ac,.slice ca nc cc,.bool done] _ _ from HK3.out)
 clear HC4
 go_wp2_with fail
 (with_reducible refine (HX4.out).mono ?_)
 rintro e u4 ⟨b,rfl,hbi,hb⟩
 have HB4:=hid (bel_next HB3.out hb)
 have HK4:=hid (HK3.out.below hb)
 have HBI:=hid hbi
 clear hb hbi HX4 HB3 HK3 k0 k1 k2 k3 k4
 cases b with
 | false=>
  have HNO:Hid (¬ VT):=hid (fun h=>by have:=HBI.out.2 (HV3.out.1 h).1; cases this)
  clear HV3 HBI hn1 hn2 hn3 hwr
  go_wp2_with fail
  go_ret
  exact GotIO.no HNO.out HB4.out
 | true=>
 have hv1:=HBI.out.1 rfl
 have HV4:Hid (VT ↔ _):=hid (HV3.out.trans (and_iff_right hv1))
 clear hv1 HBI HV3
 have HX5:=hid (HC5.out u4 HB4.out)
 obtain ⟨k0,k1,k2,k3,k4⟩:=BK.c5 (show BK _ #[.slice wa nw wc,.slice qa nq qc,.slice aa na ac,.slice ca nc cc,.bool done] _ _ from HK4.out)
 clear HC5
 go_wp2_with fail
 (with_reducible refine (HX5.out).mono ?_)
 rintro e u5 ⟨ra,rc,rfl,hown,hb⟩
 have HB5:=hid (bel_next HB4.out hb)
 have HK5:=hid (HK4.out.below hb)
 obtain ⟨n5,hn5⟩:∃ n,n=F5.length:=⟨_,rfl⟩
 rw [<-hn5]
 have HN5:=hid hn5
 clear hb hown hn5 HX5 HB4 HK4 k0 k1 k2 k3 k4
 by_cases h5:0 < n5
 ·have h5i:(0:Int) < (n5:Int):=by omega
  have HNO:Hid (¬ VT):=hid (fun h=>by
   have h6:=(HV4.out.1 h).1
   have h7:=HN5.out
   rw [h6] at h7
   simp only [List.length_nil] at h7
   omega)
  clear HV4 h5 hn1 hn2 hn3 hwr
  go_wp2_with fail
  go_ret
  exact GotIO.no HNO.out HB5.out
 have h5i:¬ (0:Int) < (n5:Int):=by omega
 have hv1:F5=[]:=List.length_eq_zero_iff.1 (by have:=HN5.out; omega)
 have HV5:Hid (VT ↔ _):=hid (HV4.out.trans (and_iff_right hv1))
 clear hv1 HN5 HV4
 have HX6:=hid (HC6.out u5 HB5.out)
 obtain ⟨k0,k1,k2,k3,k4⟩:=BK.c5 (show BK _ #[.slice wa nw wc,.slice qa nq qc,.slice aa na ac,.slice ca nc cc,.bool done] _ _ from HK5.out)
 clear HC6 h5
 go_wp2_with fail
 (with_reducible refine (HX6.out).mono ?_)
 rintro e u6 ⟨ka,kc,rfl,hdk,hkc,hb⟩
 simp only at hdk hkc ⊢
 obtain ⟨nk,hnk⟩:∃ n,n=an.length:=⟨_,rfl⟩
 rw [<-hnk] at hkc HAL ⊢
 have HB6:=hid (bel_next HB5.out hb)
 have HK6:=hid (HK5.out.below hb)
 have HDK:=hid hdk
 have HNK:=hid hnk
 have hal:=HAL.out
 clear hb hdk hnk HX6 HB5 HK5 HAL k0 k1 k2 k3 k4 h5i
 by_cases he:ea=0
 case neg=>
  have hee:(ea != 0)=true:=by simpa using he
  have HNO:Hid (¬ VT):=hid (fun h=>he (HV5.out.1 h).1)
  clear HV5 he hn1 hn2 hn3 hwr
  go_wp2_with fail
  refine wp_region_quiet_below (by kernel_rfl) (by kernel_rfl) ?_
  repeat (any_goals (first | go_big_quiet_step (fail) | quiet_step (fail)))
  refine wpQuiet_nil ?_
  intro w7 hw7
  have hb7:=below_rg hw7
  have HB7:=hid (bel_next HB6.out hb7)
  clear hw7 hb7 HB6
  go_wp2_with fail
  go_ret
  exact GotIO.no HNO.out HB7.out
 case pos=>
 subst he
 have HV6:Hid (VT ↔ _):=hid (HV5.out.trans (and_iff_right rfl))
 clear HV5
 obtain ⟨nm,hnm⟩:∃ n,n=MX.length:=⟨_,rfl⟩
 rw [<-hnm] at HML
 have HNM:=hid hnm
 obtain ⟨mb,hmb⟩:∃ b,b=decide (MX=common):=⟨_,rfl⟩
 have HMB:Hid (mb=true ↔ MX=common):=hid (by rw [hmb]; simp)
 have HSM:=hid (fun W A C (hW:Below u6.heap.size u6 W) (hm:Digs W.heap.size W A MX)=>same13_any A ca MX common C cc W hm (HDC.out.ahead (HB6.out.trans (hW.mono HB6.out.size))) (by have:=HML.out; omega))
 rw [<-hnm,<-hmb,<-HNC.out] at HSM
 have HWQ:=hid (fun W (hW:Below u6.heap.size u6 W)=>within_any ka an kc qa queue qc W (HDK.out.ahead hW) (HDQ.out.ahead (HB6.out.trans (hW.mono HB6.out.size))) (by have:=HNK.out; omega) (by have:=HNQ.out; omega))
 have HWA:=hid (fun W (hW:Below u6.heap.size u6 W)=>within_any ka an kc aa asked ac W (HDK.out.ahead hW) (HDA.out.ahead (HB6.out.trans (hW.mono HB6.out.size))) (by have:=HNK.out; omega) (by have:=HNA.out; omega))
 rw [<-HNK.out,<-HNQ.out] at HWQ
 rw [<-HNK.out,<-HNA.out] at HWA
 have hbq:(an.filter fun d=>decide (d ∈ queue)).length<=500:=by have h1:=List.length_filter_le (fun d=>decide (d ∈ queue)) an; have h2:=HNK.out; omega
 have hba:(an.filter fun d=>decide (d ∈ asked)).length<=500:=by have h1:=List.length_filter_le (fun d=>decide (d ∈ asked)) an; have h2:=HNK.out; omega
 generalize (an.filter fun d=>decide (d ∈ queue))=FQ at HWQ HV6 hbq
 generalize (an.filter fun d=>decide (d ∈ asked))=FA at HWA HV6 hba
 obtain ⟨nfq,hnfq⟩:∃ n,n=FQ.length:=⟨_,rfl⟩
 obtain ⟨nfa,hnfa⟩:∃ n,n=FA.length:=⟨_,rfl⟩
 rw [<-hnfq] at hbq
 rw [<-hnfa] at hba
 have HNFQ:=hid hnfq
 have HNFA:=hid hnfa
 have HMX:=hid (HC7.out u6.drew (HB6.out.trans ((Below.refl _ _).drew.mono HB6.out.size)))
 have HALL:Hid (∀ W,Below u6.heap.size u6 W->Below u6.heap.size u6 W/\W.cell? ⟨w.heap.size,0,none⟩=some (.slice wa nw wc)/\W.cell? ⟨w.heap.size,1,none⟩=some (.slice qa nq qc)/\W.cell? ⟨w.heap.size,2,none⟩=some (.slice aa na ac)/\W.cell? ⟨w.heap.size,3,none⟩=some (.slice ca nc cc)/\W.cell? ⟨w.heap.size,4,none⟩=some (.bool done)):=hid (fun W hW=>by
  have h:=HK6.out.below hW
  exact ⟨hW,by rw [h.cell]; rfl,by rw [h.cell]; rfl,by rw [h.cell]; rfl,by rw [h.cell]; rfl,by rw [h.cell]; rfl⟩)
 obtain ⟨_,q0,q1,q2,q3,q4⟩:=HALL.out u6 (Below.refl _ _)
 have hs0:=HALL.out u6.drew ((Below.refl _ _).drew)
 clear hmb hnm hnfq hnfa HC7 HK6 HML HDK HDQ HDA HDC HNK HNQ HNA HNC
 cases mb with
 | false=>
  have HNO:Hid (¬ VT):=hid (fun h=>by have:=HMB.out.2 (HV6.out.1 h).1; cases this)
  clear HV6 HMB HWQ HWA hn1 hn2 hn3 hwr
  go_wp2_with fail
  refine wp_region_held_drew (S:=(fun W=>Below u6.heap.size u6 W/\W.cell? ⟨w.heap.size,0,none⟩=some (.slice wa nw wc)/\W.cell? ⟨w.heap.size,1,none⟩=some (.slice qa nq qc)/\W.cell? ⟨w.heap.size,2,none⟩=some (.slice aa na ac)/\W.cell? ⟨w.heap.size,3,none⟩=some (.slice ca nc cc)/\W.cell? ⟨w.heap.size,4,none⟩=some (.bool done))) (by kernel_rfl) hs0 (fun hHeld=>?_)
  refine wpAnyH_take (i:=0) (v:=?vv1) rfl (by kernel_rfl) (by kernel_rfl) (by kernel_rfl) (fun _ _ _ h=>h) (Or.inl ⟨by rfl,?hy1⟩) (by assumption) ?rest1
  case hy1=>(intro wx hSw; (try dsimp only at hSw); go_simp; try (with_reducible rfl))
  simp only [Act.put,List.getElem_toArray,List.getElem_cons_zero,List.setIfInBounds_toArray,List.set_cons_zero,List.set_cons_succ]
  refine wpAnyH_take (i:=1) (v:=?vv2) rfl (by kernel_rfl) (by kernel_rfl) (by kernel_rfl) (fun _ _ _ h=>h) (Or.inl ⟨by rfl,?hy2⟩) (by assumption) ?rest2
  case hy2=>(intro wx hSw; (try dsimp only at hSw); go_simp; try (with_reducible rfl))
  simp only [Act.put,List.getElem_toArray,List.getElem_cons_succ,List.getElem_cons_zero,List.setIfInBounds_toArray,List.set_cons_zero,List.set_cons_succ]
  refine wpAnyH_take (i:=2) (v:=?vv3) rfl (by kernel_rfl) (by kernel_rfl) (by kernel_rfl) (fun _ _ _ h=>h) (Or.inl ⟨by rfl,?hy3⟩) (by assumption) ?rest3
  case hy3=>(intro wx hSw; (try dsimp only at hSw); go_simp; try (with_reducible rfl))
  simp only [Act.put,List.getElem_toArray,List.getElem_cons_succ,List.getElem_cons_zero,List.setIfInBounds_toArray,List.set_cons_zero,List.set_cons_succ]
  refine wpAnyH_take (i:=3) (v:=?vv4) rfl (by kernel_rfl) (by kernel_rfl) (by kernel_rfl) (fun _ _ _ h=>h) (Or.inl ⟨by rfl,?hy4⟩) (by assumption) ?rest4
  case hy4=>(intro wx hSw; (try dsimp only at hSw); go_simp; try (with_reducible rfl))
  simp only [Act.put,List.getElem_toArray,List.getElem_cons_succ,List.getElem_cons_zero,List.setIfInBounds_toArray,List.set_cons_zero,List.set_cons_succ]
  refine wpAnyH_take (i:=4) (v:=?vv5) rfl (by kernel_rfl) (by kernel_rfl) (by kernel_rfl) (fun _ _ _ h=>h) (Or.inl ⟨by rfl,?hy5⟩) (by assumption) ?rest5
  case hy5=>(intro wx hSw; (try dsimp only at hSw); go_simp; try (with_reducible rfl))
  simp only [Act.put,List.getElem_toArray,List.getElem_cons_succ,List.getElem_cons_zero,List.setIfInBounds_toArray,List.set_cons_zero,List.set_cons_succ]
  refine wpAnyH_take (i:=5) (v:=?vv6) rfl (by kernel_rfl) (by kernel_rfl) (by kernel_rfl) (fun _ _ _ h=>h) (Or.inl ⟨by rfl,?hy6⟩) (by assumption) ?rest6
  case hy6=>(intro wx hSw; (try dsimp only at hSw); go_simp; try (with_reducible rfl))
  simp only [Act.put,List.getElem_toArray,List.getElem_cons_succ,List.getElem_cons_zero,List.setIfInBounds_toArray,List.set_cons_zero,List.set_cons_succ]
  refine wpAnyH_take (i:=7) (v:=?vv7) rfl (by kernel_rfl) (by kernel_rfl) (by kernel_rfl) (fun _ _ _ h=>h) (Or.inl ⟨by rfl,?hy7⟩) (by assumption) ?rest7
  case hy7=>(intro wx hSw; (try dsimp only at hSw); go_simp; try (with_reducible rfl))
  simp only [Act.put,List.getElem_toArray,List.getElem_cons_succ,List.getElem_cons_zero,List.setIfInBounds_toArray,List.set_cons_zero,List.set_cons_succ]
  refine wpAnyH_take (i:=8) (v:=?vv8) rfl (by kernel_rfl) (by kernel_rfl) (by kernel_rfl) (fun _ _ _ h=>h) (Or.inl ⟨by rfl,?hy8⟩) (by assumption) ?rest8
  case hy8=>(intro wx hSw; (try dsimp only at hSw); go_simp; try (with_reducible rfl))
  simp only [Act.put,List.getElem_toArray,List.getElem_cons_succ,List.getElem_cons_zero,List.setIfInBounds_toArray,List.set_cons_zero,List.set_cons_succ]
  refine wpAnyH_ready (rs:=[6]) (by kernel_rfl) (by simp) ?_
  refine AllReadyH.cons rfl (fun K hK=>?_) AllReadyH.nil
  go_simp
  (with_reducible refine (HMX.out).mono ?_)
  rintro e uz ⟨ma,mc,rfl,hdm,hmc,hb⟩
  have hbz:=bel_next hs0.1 hb
  rw [<-HNM.out]
  have hsz:=HALL.out uz hbz
  clear hb hmc
  refine hK.out _ _ (hsz) (fun hHeld=>?_)
  clear hK K
  refine wpAnyH_ready (rs:=[9]) (by kernel_rfl) (by simp) ?_
  refine AllReadyH.cons rfl (fun K hK=>?_) AllReadyH.nil
  go_simp
  (with_reducible refine (HSM.out _ ma mc hbz hdm).mono ?_)
  rintro e uy ⟨rfl,hb⟩
  have hby:=bel_next hbz hb
  have hsy:=HALL.out uy hby
  clear hb
  refine hK.out _ _ (hsy) (fun hHeld=>?_)
  clear hK K
  refine wpAnyH_take (i:=10) (v:=?vv9) rfl (by kernel_rfl) (by kernel_rfl) (by kernel_rfl) (fun _ _ _ h=>h) (Or.inl ⟨by rfl,?hy9⟩) (by assumption) ?rest9
  case hy9=>(intro wx hSw; (try dsimp only at hSw); go_simp; try (with_reducible rfl))
  simp only [Act.put,List.getElem_toArray,List.getElem_cons_succ,List.getElem_cons_zero,List.setIfInBounds_toArray,List.set_cons_zero,List.set_cons_succ]
  refine wpAnyH_take (i:=11) (v:=?vv10) rfl (by kernel_rfl) (by kernel_rfl) (by kernel_rfl) (fun _ _ _ h=>h) (Or.inl ⟨by rfl,?hy10⟩) (by assumption) ?rest10
  case hy10=>(intro wx hSw; (try dsimp only at hSw); go_simp; try (with_reducible rfl))
  simp only [Act.put,List.getElem_toArray,List.getElem_cons_succ,List.getElem_cons_zero,List.setIfInBounds_toArray,List.set_cons_zero,List.set_cons_succ]
  refine wpAnyH_take (i:=12) (v:=?vv11) rfl (by kernel_rfl) (by kernel_rfl) (by kernel_rfl) (fun _ _ _ h=>h) (Or.inl ⟨by rfl,?hy11⟩) (by assumption) ?rest11
  case hy11=>(intro wx hSw; (try dsimp only at hSw); go_simp; try (with_reducible rfl))
  simp only [Act.put,List.getElem_toArray,List.getElem_cons_succ,List.getElem_cons_zero,List.setIfInBounds_toArray,List.set_cons_zero,List.set_cons_succ]
  refine wpAnyH_take (i:=13) rfl (by kernel_rfl) (by kernel_rfl) (by kernel_rfl) (fun _ _ _ h=>h) (Or.inr ⟨by rfl,rfl⟩) (by assumption) ?_
  simp only [Act.put,List.getElem_toArray,List.getElem_cons_succ,List.getElem_cons_zero,List.setIfInBounds_toArray,List.set_cons_zero,List.set_cons_succ]
  refine wpAnyH_take (i:=14) rfl (by kernel_rfl) (by kernel_rfl) (by kernel_rfl) (fun _ _ _ h=>h) (Or.inr ⟨by rfl,rfl⟩) (by assumption) ?_
  simp only [Act.put,List.getElem_toArray,List.getElem_cons_succ,List.getElem_cons_zero,List.setIfInBounds_toArray,List.set_cons_zero,List.set_cons_succ]
  refine wpAnyH_take (i:=15) rfl (by kernel_rfl) (by kernel_rfl) (by kernel_rfl) (fun _ _ _ h=>h) (Or.inr ⟨by rfl,rfl⟩) (by assumption) ?_
  simp only [Act.put,List.getElem_toArray,List.getElem_cons_succ,List.getElem_cons_zero,List.setIfInBounds_toArray,List.set_cons_zero,List.set_cons_succ]
  refine wpAnyH_take (i:=18) rfl (by kernel_rfl) (by kernel_rfl) (by kernel_rfl) (fun _ _ _ h=>h) (Or.inr ⟨by rfl,rfl⟩) (by assumption) ?_
  simp only [Act.put,List.getElem_toArray,List.getElem_cons_succ,List.getElem_cons_zero,List.setIfInBounds_toArray,List.set_cons_zero,List.set_cons_succ]
  refine wpAnyH_take (i:=19) rfl (by kernel_rfl) (by kernel_rfl) (by kernel_rfl) (fun _ _ _ h=>h) (Or.inr ⟨by rfl,rfl⟩) (by assumption) ?_
  simp only [Act.put,List.getElem_toArray,List.getElem_cons_succ,List.getElem_cons_zero,List.setIfInBounds_toArray,List.set_cons_zero,List.set_cons_succ]
  refine wpAnyH_take (i:=20) rfl (by kernel_rfl) (by kernel_rfl) (by kernel_rfl) (fun _ _ _ h=>h) (Or.inr ⟨by rfl,rfl⟩) (by assumption) ?_
  simp only [Act.put,List.getElem_toArray,List.getElem_cons_succ,List.getElem_cons_zero,List.setIfInBounds_toArray,List.set_cons_zero,List.set_cons_succ]
  refine wpAnyH_take (i:=16) rfl (by kernel_rfl) (by kernel_rfl) (by kernel_rfl) (fun _ _ _ h=>h) (Or.inr ⟨by rfl,rfl⟩) (by assumption) ?_
  simp only [Act.put,List.getElem_toArray,List.getElem_cons_succ,List.getElem_cons_zero,List.setIfInBounds_toArray,List.set_cons_zero,List.set_cons_succ]
  refine wpAnyH_take (i:=17) rfl (by kernel_rfl) (by kernel_rfl) (by kernel_rfl) (fun _ _ _ h=>h) (Or.inr ⟨by rfl,rfl⟩) (by assumption) ?_
  simp only [Act.put,List.getElem_toArray,List.getElem_cons_succ,List.getElem_cons_zero,List.setIfInBounds_toArray,List.set_cons_zero,List.set_cons_succ]
  refine wpAnyH_take (i:=21) rfl (by kernel_rfl) (by kernel_rfl) (by kernel_rfl) (fun _ _ _ h=>h) (Or.inr ⟨by rfl,rfl⟩) (by assumption) ?_
  simp only [Act.put,List.getElem_toArray,List.getElem_cons_succ,List.getElem_cons_zero,List.setIfInBounds_toArray,List.set_cons_zero,List.set_cons_succ]
  refine wpAnyH_take (i:=22) rfl (by kernel_rfl) (by kernel_rfl) (by kernel_rfl) (fun _ _ _ h=>h) (Or.inr ⟨by rfl,rfl⟩) (by assumption) ?_
  simp only [Act.put,List.getElem_toArray,List.getElem_cons_succ,List.getElem_cons_zero,List.setIfInBounds_toArray,List.set_cons_zero,List.set_cons_succ]
  refine wpAnyH_take (i:=23) rfl (by kernel_rfl) (by kernel_rfl) (by kernel_rfl) (fun _ _ _ h=>h) (Or.inr ⟨by rfl,rfl⟩) (by assumption) ?_
  simp only [Act.put,List.getElem_toArray,List.getElem_cons_succ,List.getElem_cons_zero,List.setIfInBounds_toArray,List.set_cons_zero,List.set_cons_succ]
  refine wpAnyH_take (i:=24) rfl (by kernel_rfl) (by kernel_rfl) (by kernel_rfl) (fun _ _ _ h=>h) (Or.inr ⟨by rfl,rfl⟩) (by assumption) ?_
  simp only [Act.put,List.getElem_toArray,List.getElem_cons_succ,List.getElem_cons_zero,List.setIfInBounds_toArray,List.set_cons_zero,List.set_cons_succ]
  refine wpAnyH_take (i:=25) (v:=?vv24) rfl (by kernel_rfl) (by kernel_rfl) (by kernel_rfl) (fun _ _ _ h=>h) (Or.inl ⟨by rfl,?hy24⟩) (by assumption) ?rest24
  case hy24=>(intro wx hSw; (try dsimp only at hSw); go_simp; try (with_reducible rfl))
  simp only [Act.put,List.getElem_toArray,List.getElem_cons_succ,List.getElem_cons_zero,List.setIfInBounds_toArray,List.set_cons_zero,List.set_cons_succ]
  refine wpAnyH_done (by kernel_rfl) ?_ _
  all_goals
   go_wp2_with fail
   go_ret
   exact GotIO.no HNO.out (HB6.out.trans (hby.mono HB6.out.size))
 | true=>
 have hv1:=HMB.out.1 rfl
 have HV7:Hid (VT ↔ _):=hid (HV6.out.trans (and_iff_right hv1))
 clear hv1 HMB HV6
 obtain ⟨nz,hnz⟩:∃ n,n=nfq + nfa:=⟨_,rfl⟩
 have HNZ:=hid hnz
 have hwz:IntKind.i64.wrap ((nfq:Int) + (nfa:Int))=(nz:Int):=by rw [wrap_i64 (by omega) (by omega)]; omega
 clear hnz
 by_cases hz:0 < nz
 case pos=>
  have hzi:(0:Int) < (nz:Int):=by omega
  have HNO:Hid (¬ VT):=hid (fun h=>by
   have h1:=(HV7.out.1 h).1
   have h2:=HNFQ.out
   have h3:=HNFA.out
   rw [h1.1] at h2
   rw [h1.2] at h3
   simp only [List.length_nil] at h2 h3
   have h4:=HNZ.out
   omega)
  clear HV7 hz hn1 hn2 hn3 hwr
  go_wp2_with fail
  refine wp_region_held_drew (S:=(fun W=>Below u6.heap.size u6 W/\W.cell? ⟨w.heap.size,0,none⟩=some (.slice wa nw wc)/\W.cell? ⟨w.heap.size,1,none⟩=some (.slice qa nq qc)/\W.cell? ⟨w.heap.size,2,none⟩=some (.slice aa na ac)/\W.cell? ⟨w.heap.size,3,none⟩=some (.slice ca nc cc)/\W.cell? ⟨w.heap.size,4,none⟩=some (.bool done))) (by kernel_rfl) hs0 (fun hHeld=>?_)
  refine wpAnyH_take (i:=0) (v:=?vv25) rfl (by kernel_rfl) (by kernel_rfl) (by kernel_rfl) (fun _ _ _ h=>h) (Or.inl ⟨by rfl,?hy25⟩) (by assumption) ?rest25
  case hy25=>(intro wx hSw; (try dsimp only at hSw); go_simp; try (with_reducible rfl))
  simp only [Act.put,List.getElem_toArray,List.getElem_cons_zero,List.setIfInBounds_toArray,List.set_cons_zero,List.set_cons_succ]
  refine wpAnyH_take (i:=1) (v:=?vv26) rfl (by kernel_rfl) (by kernel_rfl) (by kernel_rfl) (fun _ _ _ h=>h) (Or.inl ⟨by rfl,?hy26⟩) (by assumption) ?rest26
  case hy26=>(intro wx hSw; (try dsimp only at hSw); go_simp; try (with_reducible rfl))
  simp only [Act.put,List.getElem_toArray,List.getElem_cons_succ,List.getElem_cons_zero,List.setIfInBounds_toArray,List.set_cons_zero,List.set_cons_succ]
  refine wpAnyH_take (i:=2) (v:=?vv27) rfl (by kernel_rfl) (by kernel_rfl) (by kernel_rfl) (fun _ _ _ h=>h) (Or.inl ⟨by rfl,?hy27⟩) (by assumption) ?rest27
  case hy27=>(intro wx hSw; (try dsimp only at hSw); go_simp; try (with_reducible rfl))
  simp only [Act.put,List.getElem_toArray,List.getElem_cons_succ,List.getElem_cons_zero,List.setIfInBounds_toArray,List.set_cons_zero,List.set_cons_succ]
  refine wpAnyH_take (i:=3) (v:=?vv28) rfl (by kernel_rfl) (by kernel_rfl) (by kernel_rfl) (fun _ _ _ h=>h) (Or.inl ⟨by rfl,?hy28⟩) (by assumption) ?rest28
  case hy28=>(intro wx hSw; (try dsimp only at hSw); go_simp; try (with_reducible rfl))
  simp only [Act.put,List.getElem_toArray,List.getElem_cons_succ,List.getElem_cons_zero,List.setIfInBounds_toArray,List.set_cons_zero,List.set_cons_succ]
  refine wpAnyH_take (i:=4) (v:=?vv29) rfl (by kernel_rfl) (by kernel_rfl) (by kernel_rfl) (fun _ _ _ h=>h) (Or.inl ⟨by rfl,?hy29⟩) (by assumption) ?rest29
  case hy29=>(intro wx hSw; (try dsimp only at hSw); go_simp; try (with_reducible rfl))
  simp only [Act.put,List.getElem_toArray,List.getElem_cons_succ,List.getElem_cons_zero,List.setIfInBounds_toArray,List.set_cons_zero,List.set_cons_succ]
  refine wpAnyH_take (i:=5) (v:=?vv30) rfl (by kernel_rfl) (by kernel_rfl) (by kernel_rfl) (fun _ _ _ h=>h) (Or.inl ⟨by rfl,?hy30⟩) (by assumption) ?rest30
  case hy30=>(intro wx hSw; (try dsimp only at hSw); go_simp; try (with_reducible rfl))
  simp only [Act.put,List.getElem_toArray,List.getElem_cons_succ,List.getElem_cons_zero,List.setIfInBounds_toArray,List.set_cons_zero,List.set_cons_succ]
  refine wpAnyH_take (i:=7) (v:=?vv31) rfl (by kernel_rfl) (by kernel_rfl) (by kernel_rfl) (fun _ _ _ h=>h) (Or.inl ⟨by rfl,?hy31⟩) (by assumption) ?rest31
  case hy31=>(intro wx hSw; (try dsimp only at hSw); go_simp; try (with_reducible rfl))
  simp only [Act.put,List.getElem_toArray,List.getElem_cons_succ,List.getElem_cons_zero,List.setIfInBounds_toArray,List.set_cons_zero,List.set_cons_succ]
  refine wpAnyH_take (i:=8) (v:=?vv32) rfl (by kernel_rfl) (by kernel_rfl) (by kernel_rfl) (fun _ _ _ h=>h) (Or.inl ⟨by rfl,?hy32⟩) (by assumption) ?rest32
  case hy32=>(intro wx hSw; (try dsimp only at hSw); go_simp; try (with_reducible rfl))
  simp only [Act.put,List.getElem_toArray,List.getElem_cons_succ,List.getElem_cons_zero,List.setIfInBounds_toArray,List.set_cons_zero,List.set_cons_succ]
  refine wpAnyH_ready (rs:=[6]) (by kernel_rfl) (by simp) ?_
  refine AllReadyH.cons rfl (fun K hK=>?_) AllReadyH.nil
  go_simp
  (with_reducible refine (HMX.out).mono ?_)
  rintro e uz ⟨ma,mc,rfl,hdm,hmc,hb⟩
  have hbz:=bel_next hs0.1 hb
  rw [<-HNM.out]
  have hsz:=HALL.out uz hbz
  clear hb hmc
  refine hK.out _ _ (hsz) (fun hHeld=>?_)
  clear hK K
  refine wpAnyH_ready (rs:=[9]) (by kernel_rfl) (by simp) ?_
  refine AllReadyH.cons rfl (fun K hK=>?_) AllReadyH.nil
  go_simp
  (with_reducible refine (HSM.out _ ma mc hbz hdm).mono ?_)
  rintro e uy ⟨rfl,hb⟩
  have hby:=bel_next hbz hb
  have hsy:=HALL.out uy hby
  clear hb
  refine hK.out _ _ (hsy) (fun hHeld=>?_)
  clear hK K
  refine wpAnyH_take (i:=10) (v:=?vv33) rfl (by kernel_rfl) (by kernel_rfl) (by kernel_rfl) (fun _ _ _ h=>h) (Or.inl ⟨by rfl,?hy33⟩) (by assumption) ?rest33
  case hy33=>(intro wx hSw; (try dsimp only at hSw); go_simp; try (with_reducible rfl))
  simp only [Act.put,List.getElem_toArray,List.getElem_cons_succ,List.getElem_cons_zero,List.setIfInBounds_toArray,List.set_cons_zero,List.set_cons_succ]
  refine wpAnyH_take (i:=11) (v:=?vv34) rfl (by kernel_rfl) (by kernel_rfl) (by kernel_rfl) (fun _ _ _ h=>h) (Or.inl ⟨by rfl,?hy34⟩) (by assumption) ?rest34
  case hy34=>(intro wx hSw; (try dsimp only at hSw); go_simp; try (with_reducible rfl))
  simp only [Act.put,List.getElem_toArray,List.getElem_cons_succ,List.getElem_cons_zero,List.setIfInBounds_toArray,List.set_cons_zero,List.set_cons_succ]
  refine wpAnyH_take (i:=12) (v:=?vv35) rfl (by kernel_rfl) (by kernel_rfl) (by kernel_rfl) (fun _ _ _ h=>h) (Or.inl ⟨by rfl,?hy35⟩) (by assumption) ?rest35
  case hy35=>(intro wx hSw; (try dsimp only at hSw); go_simp; try (with_reducible rfl))
  simp only [Act.put,List.getElem_toArray,List.getElem_cons_succ,List.getElem_cons_zero,List.setIfInBounds_toArray,List.set_cons_zero,List.set_cons_succ]
  refine wpAnyH_take (i:=13) (v:=?vv36) rfl (by kernel_rfl) (by kernel_rfl) (by kernel_rfl) (fun _ _ _ h=>h) (Or.inl ⟨by rfl,?hy36⟩) (by assumption) ?rest36
  case hy36=>(intro wx hSw; (try dsimp only at hSw); go_simp; try (with_reducible rfl))
  simp only [Act.put,List.getElem_toArray,List.getElem_cons_succ,List.getElem_cons_zero,List.setIfInBounds_toArray,List.set_cons_zero,List.set_cons_succ]
  refine wpAnyH_take (i:=14) (v:=?vv37) rfl (by kernel_rfl) (by kernel_rfl) (by kernel_rfl) (fun _ _ _ h=>h) (Or.inl ⟨by rfl,?hy37⟩) (by assumption) ?rest37
  case hy37=>(intro wx hSw; (try dsimp only at hSw); go_simp; try (with_reducible rfl))
  simp only [Act.put,List.getElem_toArray,List.getElem_cons_succ,List.getElem_cons_zero,List.setIfInBounds_toArray,List.set_cons_zero,List.set_cons_succ]
  refine wpAnyH_take (i:=15) (v:=?vv38) rfl (by kernel_rfl) (by kernel_rfl) (by kernel_rfl) (fun _ _ _ h=>h) (Or.inl ⟨by rfl,?hy38⟩) (by assumption) ?rest38
  case hy38=>(intro wx hSw; (try dsimp only at hSw); go_simp; try (with_reducible rfl))
  simp only [Act.put,List.getElem_toArray,List.getElem_cons_succ,List.getElem_cons_zero,List.setIfInBounds_toArray,List.set_cons_zero,List.set_cons_succ]
  refine wpAnyH_take (i:=18) (v:=?vv39) rfl (by kernel_rfl) (by kernel_rfl) (by kernel_rfl) (fun _ _ _ h=>h) (Or.inl ⟨by rfl,?hy39⟩) (by assumption) ?rest39
  case hy39=>(intro wx hSw; (try dsimp only at hSw); go_simp; try (with_reducible rfl))
  simp only [Act.put,List.getElem_toArray,List.getElem_cons_succ,List.getElem_cons_zero,List.setIfInBounds_toArray,List.set_cons_zero,List.set_cons_succ]
  refine wpAnyH_take (i:=19) (v:=?vv40) rfl (by kernel_rfl) (by kernel_rfl) (by kernel_rfl) (fun _ _ _ h=>h) (Or.inl ⟨by rfl,?hy40⟩) (by assumption) ?rest40
  case hy40=>(intro wx hSw; (try dsimp only at hSw); go_simp; try (with_reducible rfl))
  simp only [Act.put,List.getElem_toArray,List.getElem_cons_succ,List.getElem_cons_zero,List.setIfInBounds_toArray,List.set_cons_zero,List.set_cons_succ]
  refine wpAnyH_take (i:=20) (v:=?vv41) rfl (by kernel_rfl) (by kernel_rfl) (by kernel_rfl) (fun _ _ _ h=>h) (Or.inl ⟨by rfl,?hy41⟩) (by assumption) ?rest41
  case hy41=>(intro wx hSw; (try dsimp only at hSw); go_simp; try (with_reducible rfl))
  simp only [Act.put,List.getElem_toArray,List.getElem_cons_succ,List.getElem_cons_zero,List.setIfInBounds_toArray,List.set_cons_zero,List.set_cons_succ]
  refine wpAnyH_ready (rs:=[16]) (by kernel_rfl) (by simp) ?_
  refine AllReadyH.cons rfl (fun K hK=>?_) AllReadyH.nil
  go_simp
  (with_reducible refine (HWQ.out _ hby).mono ?_)
  rintro e ua ⟨fua,gua,rfl,hownua,hb⟩
  have hbua:=bel_next (u:=u6) hby hb
  rw [<-HNFQ.out]
  have hsua:=HALL.out ua hbua
  clear hb hownua
  refine hK.out _ _ (hsua) (fun hHeld=>?_)
  clear hK K
  refine wpAnyH_take (i:=17) (v:=?vv42) rfl (by kernel_rfl) (by kernel_rfl) (by kernel_rfl) (fun _ _ _ h=>h) (Or.inl ⟨by rfl,?hy42⟩) (by assumption) ?rest42
  case hy42=>(intro wx hSw; (try dsimp only at hSw); go_simp; try (with_reducible rfl))
  simp only [Act.put,List.getElem_toArray,List.getElem_cons_succ,List.getElem_cons_zero,List.setIfInBounds_toArray,List.set_cons_zero,List.set_cons_succ]
  refine wpAnyH_ready (rs:=[21]) (by kernel_rfl) (by simp) ?_
  refine AllReadyH.cons rfl (fun K hK=>?_) AllReadyH.nil
  go_simp
  (with_reducible refine (HWA.out _ hbua).mono ?_)
  rintro e ux ⟨fux,gux,rfl,hownux,hb⟩
  have hbux:=bel_next (u:=u6) hbua hb
  rw [<-HNFA.out]
  have hsux:=HALL.out ux hbux
  clear hb hownux
  refine hK.out _ _ (hsux) (fun hHeld=>?_)
  clear hK K
  refine wpAnyH_take (i:=22) (v:=?vv43) rfl (by kernel_rfl) (by kernel_rfl) (by kernel_rfl) (fun _ _ _ h=>h) (Or.inl ⟨by rfl,?hy43⟩) (by assumption) ?rest43
  case hy43=>(intro wx hSw; (try dsimp only at hSw); go_simp; try (with_reducible rfl))
  simp only [Act.put,List.getElem_toArray,List.getElem_cons_succ,List.getElem_cons_zero,List.setIfInBounds_toArray,List.set_cons_zero,List.set_cons_succ]
  refine wpAnyH_take (i:=23) (v:=?vv44) rfl (by kernel_rfl) (by kernel_rfl) (by kernel_rfl) (fun _ _ _ h=>h) (Or.inl ⟨by rfl,?hy44⟩) (by assumption) ?rest44
  case hy44=>(intro wx hSw; (try dsimp only at hSw); go_simp; try (with_reducible rfl))
  simp only [Act.put,List.getElem_toArray,List.getElem_cons_succ,List.getElem_cons_zero,List.setIfInBounds_toArray,List.set_cons_zero,List.set_cons_succ]
  refine wpAnyH_take (i:=24) (v:=?vv45) rfl (by kernel_rfl) (by kernel_rfl) (by kernel_rfl) (fun _ _ _ h=>h) (Or.inl ⟨by rfl,?hy45⟩) (by assumption) ?rest45
  case hy45=>(intro wx hSw; (try dsimp only at hSw); go_simp; try (with_reducible rfl))
  simp only [Act.put,List.getElem_toArray,List.getElem_cons_succ,List.getElem_cons_zero,List.setIfInBounds_toArray,List.set_cons_zero,List.set_cons_succ]
  refine wpAnyH_take (i:=25) (v:=?vv46) rfl (by kernel_rfl) (by kernel_rfl) (by kernel_rfl) (fun _ _ _ h=>h) (Or.inl ⟨by rfl,?hy46⟩) (by assumption) ?rest46
  case hy46=>(intro wx hSw; (try dsimp only at hSw); go_simp; try (with_reducible rfl))
  simp only [Act.put,List.getElem_toArray,List.getElem_cons_succ,List.getElem_cons_zero,List.setIfInBounds_toArray,List.set_cons_zero,List.set_cons_succ]
  refine wpAnyH_done (by kernel_rfl) ?_ _
  go_wp2_with fail
  go_ret
  exact GotIO.no HNO.out (HB6.out.trans (hbux.mono HB6.out.size))
 have hzi:¬ (0:Int) < (nz:Int):=by omega
 have HV8:Hid (VT ↔ _):=hid (HV7.out.trans (and_iff_right ⟨List.length_eq_zero_iff.1 (by have:=HNFQ.out; have:=HNZ.out; omega),List.length_eq_zero_iff.1 (by have:=HNFA.out; have:=HNZ.out; omega)⟩))
 clear HV7 hz
 go_wp2_with fail
 refine wp_region_held_drew (S:=(fun W=>Below u6.heap.size u6 W/\W.cell? ⟨w.heap.size,0,none⟩=some (.slice wa nw wc)/\W.cell? ⟨w.heap.size,1,none⟩=some (.slice qa nq qc)/\W.cell? ⟨w.heap.size,2,none⟩=some (.slice aa na ac)/\W.cell? ⟨w.heap.size,3,none⟩=some (.slice ca nc cc)/\W.cell? ⟨w.heap.size,4,none⟩=some (.bool done))) (by kernel_rfl) hs0 (fun hHeld=>?_)
 refine wpAnyH_take (i:=0) (v:=?vv47) rfl (by kernel_rfl) (by kernel_rfl) (by kernel_rfl) (fun _ _ _ h=>h) (Or.inl ⟨by rfl,?hy47⟩) (by assumption) ?rest47
 case hy47=>(intro wx hSw; (try dsimp only at hSw); go_simp; try (with_reducible rfl))
 simp only [Act.put,List.getElem_toArray,List.getElem_cons_zero,List.setIfInBounds_toArray,List.set_cons_zero,List.set_cons_succ]
 refine wpAnyH_take (i:=1) (v:=?vv48) rfl (by kernel_rfl) (by kernel_rfl) (by kernel_rfl) (fun _ _ _ h=>h) (Or.inl ⟨by rfl,?hy48⟩) (by assumption) ?rest48
 case hy48=>(intro wx hSw; (try dsimp only at hSw); go_simp; try (with_reducible rfl))
 simp only [Act.put,List.getElem_toArray,List.getElem_cons_succ,List.getElem_cons_zero,List.setIfInBounds_toArray,List.set_cons_zero,List.set_cons_succ]
 refine wpAnyH_take (i:=2) (v:=?vv49) rfl (by kernel_rfl) (by kernel_rfl) (by kernel_rfl) (fun _ _ _ h=>h) (Or.inl ⟨by rfl,?hy49⟩) (by assumption) ?rest49
 case hy49=>(intro wx hSw; (try dsimp only at hSw); go_simp; try (with_reducible rfl))
 simp only [Act.put,List.getElem_toArray,List.getElem_cons_succ,List.getElem_cons_zero,List.setIfInBounds_toArray,List.set_cons_zero,List.set_cons_succ]
 refine wpAnyH_take (i:=3) (v:=?vv50) rfl (by kernel_rfl) (by kernel_rfl) (by kernel_rfl) (fun _ _ _ h=>h) (Or.inl ⟨by rfl,?hy50⟩) (by assumption) ?rest50
 case hy50=>(intro wx hSw; (try dsimp only at hSw); go_simp; try (with_reducible rfl))
 simp only [Act.put,List.getElem_toArray,List.getElem_cons_succ,List.getElem_cons_zero,List.setIfInBounds_toArray,List.set_cons_zero,List.set_cons_succ]
 refine wpAnyH_take (i:=4) (v:=?vv51) rfl (by kernel_rfl) (by kernel_rfl) (by kernel_rfl) (fun _ _ _ h=>h) (Or.inl ⟨by rfl,?hy51⟩) (by assumption) ?rest51
 case hy51=>(intro wx hSw; (try dsimp only at hSw); go_simp; try (with_reducible rfl))
 simp only [Act.put,List.getElem_toArray,List.getElem_cons_succ,List.getElem_cons_zero,List.setIfInBounds_toArray,List.set_cons_zero,List.set_cons_succ]
 refine wpAnyH_take (i:=5) (v:=?vv52) rfl (by kernel_rfl) (by kernel_rfl) (by kernel_rfl) (fun _ _ _ h=>h) (Or.inl ⟨by rfl,?hy52⟩) (by assumption) ?rest52
 case hy52=>(intro wx hSw; (try dsimp only at hSw); go_simp; try (with_reducible rfl))
 simp only [Act.put,List.getElem_toArray,List.getElem_cons_succ,List.getElem_cons_zero,List.setIfInBounds_toArray,List.set_cons_zero,List.set_cons_succ]
 refine wpAnyH_take (i:=7) (v:=?vv53) rfl (by kernel_rfl) (by kernel_rfl) (by kernel_rfl) (fun _ _ _ h=>h) (Or.inl ⟨by rfl,?hy53⟩) (by assumption) ?rest53
 case hy53=>(intro wx hSw; (try dsimp only at hSw); go_simp; try (with_reducible rfl))
 simp only [Act.put,List.getElem_toArray,List.getElem_cons_succ,List.getElem_cons_zero,List.setIfInBounds_toArray,List.set_cons_zero,List.set_cons_succ]
 refine wpAnyH_take (i:=8) (v:=?vv54) rfl (by kernel_rfl) (by kernel_rfl) (by kernel_rfl) (fun _ _ _ h=>h) (Or.inl ⟨by rfl,?hy54⟩) (by assumption) ?rest54
 case hy54=>(intro wx hSw; (try dsimp only at hSw); go_simp; try (with_reducible rfl))
 simp only [Act.put,List.getElem_toArray,List.getElem_cons_succ,List.getElem_cons_zero,List.setIfInBounds_toArray,List.set_cons_zero,List.set_cons_succ]
 refine wpAnyH_ready (rs:=[6]) (by kernel_rfl) (by simp) ?_
 refine AllReadyH.cons rfl (fun K hK=>?_) AllReadyH.nil
 go_simp
 (with_reducible refine (HMX.out).mono ?_)
 rintro e uz ⟨ma,mc,rfl,hdm,hmc,hb⟩
 have hbz:=bel_next hs0.1 hb
 rw [<-HNM.out]
 have hsz:=HALL.out uz hbz
 clear hb hmc
 refine hK.out _ _ (hsz) (fun hHeld=>?_)
 clear hK K
 refine wpAnyH_ready (rs:=[9]) (by kernel_rfl) (by simp) ?_
 refine AllReadyH.cons rfl (fun K hK=>?_) AllReadyH.nil
 go_simp
 (with_reducible refine (HSM.out _ ma mc hbz hdm).mono ?_)
 rintro e uy ⟨rfl,hb⟩
 have hby:=bel_next hbz hb
 have hsy:=HALL.out uy hby
 clear hb
 refine hK.out _ _ (hsy) (fun hHeld=>?_)
 clear hK K
 refine wpAnyH_take (i:=10) (v:=?vv55) rfl (by kernel_rfl) (by kernel_rfl) (by kernel_rfl) (fun _ _ _ h=>h) (Or.inl ⟨by rfl,?hy55⟩) (by assumption) ?rest55
 case hy55=>(intro wx hSw; (try dsimp only at hSw); go_simp; try (with_reducible rfl))
 simp only [Act.put,List.getElem_toArray,List.getElem_cons_succ,List.getElem_cons_zero,List.setIfInBounds_toArray,List.set_cons_zero,List.set_cons_succ]
 refine wpAnyH_take (i:=11) (v:=?vv56) rfl (by kernel_rfl) (by kernel_rfl) (by kernel_rfl) (fun _ _ _ h=>h) (Or.inl ⟨by rfl,?hy56⟩) (by assumption) ?rest56
 case hy56=>(intro wx hSw; (try dsimp only at hSw); go_simp; try (with_reducible rfl))
 simp only [Act.put,List.getElem_toArray,List.getElem_cons_succ,List.getElem_cons_zero,List.setIfInBounds_toArray,List.set_cons_zero,List.set_cons_succ]
 refine wpAnyH_take (i:=12) (v:=?vv57) rfl (by kernel_rfl) (by kernel_rfl) (by kernel_rfl) (fun _ _ _ h=>h) (Or.inl ⟨by rfl,?hy57⟩) (by assumption) ?rest57
 case hy57=>(intro wx hSw; (try dsimp only at hSw); go_simp; try (with_reducible rfl))
 simp only [Act.put,List.getElem_toArray,List.getElem_cons_succ,List.getElem_cons_zero,List.setIfInBounds_toArray,List.set_cons_zero,List.set_cons_succ]
 refine wpAnyH_take (i:=13) (v:=?vv58) rfl (by kernel_rfl) (by kernel_rfl) (by kernel_rfl) (fun _ _ _ h=>h) (Or.inl ⟨by rfl,?hy58⟩) (by assumption) ?rest58
 case hy58=>(intro wx hSw; (try dsimp only at hSw); go_simp; try (with_reducible rfl))
 simp only [Act.put,List.getElem_toArray,List.getElem_cons_succ,List.getElem_cons_zero,List.setIfInBounds_toArray,List.set_cons_zero,List.set_cons_succ]
 refine wpAnyH_take (i:=14) (v:=?vv59) rfl (by kernel_rfl) (by kernel_rfl) (by kernel_rfl) (fun _ _ _ h=>h) (Or.inl ⟨by rfl,?hy59⟩) (by assumption) ?rest59
 case hy59=>(intro wx hSw; (try dsimp only at hSw); go_simp; try (with_reducible rfl))
 simp only [Act.put,List.getElem_toArray,List.getElem_cons_succ,List.getElem_cons_zero,List.setIfInBounds_toArray,List.set_cons_zero,List.set_cons_succ]
 refine wpAnyH_take (i:=15) (v:=?vv60) rfl (by kernel_rfl) (by kernel_rfl) (by kernel_rfl) (fun _ _ _ h=>h) (Or.inl ⟨by rfl,?hy60⟩) (by assumption) ?rest60
 case hy60=>(intro wx hSw; (try dsimp only at hSw); go_simp; try (with_reducible rfl))
 simp only [Act.put,List.getElem_toArray,List.getElem_cons_succ,List.getElem_cons_zero,List.setIfInBounds_toArray,List.set_cons_zero,List.set_cons_succ]
 refine wpAnyH_take (i:=18) (v:=?vv61) rfl (by kernel_rfl) (by kernel_rfl) (by kernel_rfl) (fun _ _ _ h=>h) (Or.inl ⟨by rfl,?hy61⟩) (by assumption) ?rest61
 case hy61=>(intro wx hSw; (try dsimp only at hSw); go_simp; try (with_reducible rfl))
 simp only [Act.put,List.getElem_toArray,List.getElem_cons_succ,List.getElem_cons_zero,List.setIfInBounds_toArray,List.set_cons_zero,List.set_cons_succ]
 refine wpAnyH_take (i:=19) (v:=?vv62) rfl (by kernel_rfl) (by kernel_rfl) (by kernel_rfl) (fun _ _ _ h=>h) (Or.inl ⟨by rfl,?hy62⟩) (by assumption) ?rest62
 case hy62=>(intro wx hSw; (try dsimp only at hSw); go_simp; try (with_reducible rfl))
 simp only [Act.put,List.getElem_toArray,List.getElem_cons_succ,List.getElem_cons_zero,List.setIfInBounds_toArray,List.set_cons_zero,List.set_cons_succ]
 refine wpAnyH_take (i:=20) (v:=?vv63) rfl (by kernel_rfl) (by kernel_rfl) (by kernel_rfl) (fun _ _ _ h=>h) (Or.inl ⟨by rfl,?hy63⟩) (by assumption) ?rest63
 case hy63=>(intro wx hSw; (try dsimp only at hSw); go_simp; try (with_reducible rfl))
 simp only [Act.put,List.getElem_toArray,List.getElem_cons_succ,List.getElem_cons_zero,List.setIfInBounds_toArray,List.set_cons_zero,List.set_cons_succ]
 refine wpAnyH_ready (rs:=[16]) (by kernel_rfl) (by simp) ?_
 refine AllReadyH.cons rfl (fun K hK=>?_) AllReadyH.nil
 go_simp
 (with_reducible refine (HWQ.out _ hby).mono ?_)
 rintro e ua ⟨fua,gua,rfl,hownua,hb⟩
 have hbua:=bel_next (u:=u6) hby hb
 rw [<-HNFQ.out]
 have hsua:=HALL.out ua hbua
 clear hb hownua
 refine hK.out _ _ (hsua) (fun hHeld=>?_)
 clear hK K
 refine wpAnyH_take (i:=17) (v:=?vv64) rfl (by kernel_rfl) (by kernel_rfl) (by kernel_rfl) (fun _ _ _ h=>h) (Or.inl ⟨by rfl,?hy64⟩) (by assumption) ?rest64
 case hy64=>(intro wx hSw; (try dsimp only at hSw); go_simp; try (with_reducible rfl))
 simp only [Act.put,List.getElem_toArray,List.getElem_cons_succ,List.getElem_cons_zero,List.setIfInBounds_toArray,List.set_cons_zero,List.set_cons_succ]
 refine wpAnyH_ready (rs:=[21]) (by kernel_rfl) (by simp) ?_
 refine AllReadyH.cons rfl (fun K hK=>?_) AllReadyH.nil
 go_simp
 (with_reducible refine (HWA.out _ hbua).mono ?_)
 rintro e ux ⟨fux,gux,rfl,hownux,hb⟩
 have hbux:=bel_next (u:=u6) hbua hb
 rw [<-HNFA.out]
 have hsux:=HALL.out ux hbux
 clear hb hownux
 refine hK.out _ _ (hsux) (fun hHeld=>?_)
 clear hK K
 refine wpAnyH_take (i:=22) (v:=?vv65) rfl (by kernel_rfl) (by kernel_rfl) (by kernel_rfl) (fun _ _ _ h=>h) (Or.inl ⟨by rfl,?hy65⟩) (by assumption) ?rest65
 case hy65=>(intro wx hSw; (try dsimp only at hSw); go_simp; try (with_reducible rfl))
 simp only [Act.put,List.getElem_toArray,List.getElem_cons_succ,List.getElem_cons_zero,List.setIfInBounds_toArray,List.set_cons_zero,List.set_cons_succ]
 refine wpAnyH_take (i:=23) (v:=?vv66) rfl (by kernel_rfl) (by kernel_rfl) (by kernel_rfl) (fun _ _ _ h=>h) (Or.inl ⟨by rfl,?hy66⟩) (by assumption) ?rest66
 case hy66=>(intro wx hSw; (try dsimp only at hSw); go_simp; try (with_reducible rfl))
 simp only [Act.put,List.getElem_toArray,List.getElem_cons_succ,List.getElem_cons_zero,List.setIfInBounds_toArray,List.set_cons_zero,List.set_cons_succ]
 refine wpAnyH_take (i:=24) (v:=?vv67) rfl (by kernel_rfl) (by kernel_rfl) (by kernel_rfl) (fun _ _ _ h=>h) (Or.inl ⟨by rfl,?hy67⟩) (by assumption) ?rest67
 case hy67=>(intro wx hSw; (try dsimp only at hSw); go_simp; try (with_reducible rfl))
 simp only [Act.put,List.getElem_toArray,List.getElem_cons_succ,List.getElem_cons_zero,List.setIfInBounds_toArray,List.set_cons_zero,List.set_cons_succ]
 refine wpAnyH_take (i:=25) (v:=?vv68) rfl (by kernel_rfl) (by kernel_rfl) (by kernel_rfl) (fun _ _ _ h=>h) (Or.inl ⟨by rfl,?hy68⟩) (by assumption) ?rest68
 case hy68=>(intro wx hSw; (try dsimp only at hSw); go_simp; try (with_reducible rfl))
 simp only [Act.put,List.getElem_toArray,List.getElem_cons_succ,List.getElem_cons_zero,List.setIfInBounds_toArray,List.set_cons_zero,List.set_cons_succ]
 refine wpAnyH_done (by kernel_rfl) ?_ _
 obtain ⟨_,q0,q1,q2,q3,q4⟩:=hsux
 cases done <;> cases b1 <;> cases b2 <;> (
  have hn4:=hn3
  simp only [Bool.not_true,Bool.not_false,decide_eq_true_eq,decide_eq_false_iff_not] at hn4
  clear hn3
  go_wp2_with fail
  go_ret
  refine ⟨_,rfl,?_,HB6.out.trans (hbux.mono HB6.out.size)⟩
  rw [HV8.out]
  simp)
end Go.Proofs.YtfdahmicigpnoaaGreat
