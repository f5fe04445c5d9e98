/- The reference: Ask, Learn. -/
import Derived.Test.YtfdahmicigpnoaaGreatNeRb
import Derived.Test.YtfdahmicigpnoaaGreatNeVl
import Derived.Test.YtfdahmicigpnoaaGreatNeAk
import Derived.Test.YtfdahmicigpnoaaGreatNeRt
set_option maxRecDepth 100000
set_option maxHeartbeats 16000000
open Go.Lib (hid)
namespace Go.Proofs.YtfdahmicigpnoaaGreat
open Go.RowKit Go.Shelf
set_option linter.unusedVariables false
def GotRTL (w:World) (r:Tk × List (Int × Int) × Int) (e:Ending) (w':World):Prop:=∃ A la lc,e = .returned (.tuple #[r.1.val A,.slice la r.2.1.length lc,.int .i64 r.2.2])/\TkDg w' r.1 A/\Digs w'.heap.size w' la r.2.1/\Below w.heap.size w w'
theorem GotRTL.bad {w w':World} (la:Option Addr) (er:Int) (h:Below w.heap.size w w'):GotRTL w (tk0,[],er) (.returned (.tuple #[.agg #[.slice none 0 0,.slice none 0 0,.slice none 0 0,.slice none 0 0,.bool false],.slice la 0 0,.int .i64 er])) w':=⟨TkA0,la,0,rfl,TkDg.zero _ _,Digs.nil _ _ _,h⟩
theorem rlearn_any (a:Option Addr) (xs:List Itm) (c:Nat) (t:Tk) (A:TkA) (la:Option Addr) (com:List (Int × Int)) (lc:Nat) (v:Bool) (w:World) (hp:Its w.heap.size w a xs) (hA:Asc xs) (hac:AcyS xs) (hn:(xs.length:Int)<=500) (hd:∀ x ∈ xs,(x.data.length:Int)<=1000000) (ht:TkIn w t A) (hb:TkB t) (hv:v=true ↔ ValidT xs t) (hl:Digs w.heap.size w la com) (hlo:∀ d ∈ com,OkD d) (hll:(com.length:Int)<=45) :
  Calls Tryz.prog 41 #[t.val A,.slice a xs.length c,.slice la com.length lc] w (GotRT w (learnS v xs t com)):=by
 have HVL:=hid (fun W (hW:Below w.heap.size w W)=>tvalid_any a xs c t A W (hp.ahead hW) hA hac hn hd (ht.ahead hW) hb)
 have HLR:=hid (fun (hk:∀ c ∈ allS t.common com,Kn xs c)=>learn_ref hac (t:=t) (com:=com) hk)
 have HKN:=hid (fun (h:ValidT xs t)=>h.kn)
 have hRd:learnS v xs t com=if v=false then (tk0,1) else if t.asked=[] then (tk0,18) else if ¬ (∀ d ∈ com,d ∈ t.asked) then (tk0,8) else (learnT xs t com,0):=rfl
 obtain ⟨R,hR⟩:∃ R,R=learnS v xs t com:=⟨_,rfl⟩
 rw [<-hR]
 rw [<-hR] at hRd
 have HR:=hid hRd
 have HV:=hid hv
 generalize hVT:ValidT xs t=VT at HVL HV
 have HVT:=hid hVT
 obtain ⟨LT,hLT⟩:∃ LT,LT=learnT xs t com:=⟨_,rfl⟩
 rw [<-hLT] at HR HLR
 have HITS:=hid hp
 obtain ⟨want,queue,asked,common,done⟩:=t
 obtain ⟨wa,wc,qa,qc,aa,ac,ca,cc⟩:=A
 simp only [Tk.val,Tk.arr] at HVL HR ⊢
 have HDW:=hid ht.w
 have HDQ:=hid ht.q
 have HDA:=hid ht.a
 have HDC:=hid ht.c
 have hqc:=ht.ql
 have l1:=hb.wl
 have l2:=hb.ql
 have l3:=hb.al
 have l4:=hb.cl
 have HOC:=hid hb.co
 have HOA:=hid hb.ao
 simp only at HDW HDQ HDA HDC hqc l1 l2 l3 l4 HOC HOA
 obtain ⟨nw,hnw⟩:∃ n,n=want.length:=⟨_,rfl⟩
 obtain ⟨nq,hnq⟩:∃ n,n=queue.length:=⟨_,rfl⟩
 obtain ⟨na,hna⟩:∃ n,n=asked.length:=⟨_,rfl⟩
 obtain ⟨nc,hnc⟩:∃ n,n=common.length:=⟨_,rfl⟩
 rw [<-hnw] at l1 HVL ⊢
 rw [<-hnq] at l2 hqc HVL ⊢
 rw [<-hna] at l3 HVL ⊢
 rw [<-hnc] at l4 HVL ⊢
 have HNW:=hid hnw
 have HNQ:=hid hnq
 have HNA:=hid hna
 have HNC:=hid hnc
 obtain ⟨w0,hw0⟩:∃ w0,w0=(w.alloc (.cells #[.slice wa nw wc,.slice qa nq qc,.slice aa na ac,.slice ca nc cc,.bool done] 67)).alloc (.cells #[.slice none 0 0,.slice none 0 0,.slice none 0 0,.slice none 0 0,.bool false] 67):=⟨_,rfl⟩
 have HBX:Hid (BK w.heap.size #[.slice wa nw wc,.slice qa nq qc,.slice aa na ac,.slice ca nc cc,.bool done] 67 w0/\BK (w.heap.size + 1) #[.slice none 0 0,.slice none 0 0,.slice none 0 0,.slice none 0 0,.bool false] 67 w0/\Below w.heap.size w w0):=hid (by rw [hw0]; exact box2)
 have HT0:=hid HBX.out.1
 have HK0:=hid HBX.out.2.1
 have HB0:=hid HBX.out.2.2
 have HC1:=hid (HVL.out w0 HB0.out)
 rw [hw0] at HC1
 have HW0:=hid hw0
 have HDL:=hid hl
 have HMX:=hid (fun W A1 l c1 (hW:Below w.heap.size w W) (h:Digs W.heap.size W A1 l) (hn2:(l.length:Int)<=1000) (ho:∀ d ∈ l,OkD d)=>maximal_any a xs c A1 l c1 W (hp.ahead hW) hA hn hd h hn2 ho)
 have HAN:=hid (fun W A1 l c1 (hW:Below w.heap.size w W) (h:Digs W.heap.size W A1 l) (hn2:(l.length:Int)<=1000) (ho:∀ d ∈ l,OkD d)=>rancestors_any a xs c A1 l c1 W (hp.ahead hW) hA hac hn hd h hn2 ho)
 have HOM:Hid (∀ d ∈ maxS xs (common ++ com),OkD d):=hid (fun d hd=>by
  unfold maxS at hd
  have h:=((foldl_with ((common ++ com).filter (topB xs (common ++ com))) [] List.Pairwise.nil).2 d).1 hd
  simp only [List.not_mem_nil,false_or] at h
  rcases List.mem_append.1 (List.mem_filter.1 h).1 with g | g
  ·exact HOC.out d g
  ·exact hlo d g)
 have HOL:Hid (∀ d ∈ common ++ com,OkD d):=hid (fun d hd=>by
  rcases List.mem_append.1 hd with g | g
  ·exact HOC.out d g
  ·exact hlo d g)
 have hcl:((common ++ com).length:Int)<=90:=by rw [List.length_append]; omega
 have HML:=hid (maxS_len xs (common ++ com))
 have HAL:Hid (((ancS xs (maxS xs (common ++ com))).1.length:Int)<=500):=hid (by
  by_cases h:(visS xs (maxS xs (common ++ com)) []).2=0
  ·have hf:=vis_facts h HOM.out
   have e:(ancS xs (maxS xs (common ++ com))).1=sortH (depS xs) (visS xs (maxS xs (common ++ com)) []).1:=by unfold ancS; rw [if_neg (by simpa using h)]
   rw [e,(sortH_perm _ _).length_eq]
   have:=hf.le
   omega
  ·rw [ancS_err h]; simp)
 have HAM:Hid (∀ d,d ∈ allS common com ↔ d ∈ common\/d ∈ com):=hid (allS_law common com).2
 simp only at HLR HKN
 obtain ⟨ncm,hncm⟩:∃ n,n=com.length:=⟨_,rfl⟩
 rw [<-hncm] at hll ⊢
 have HNCM:=hid hncm
 generalize xs.length=nx at HC1 HMX HAN ⊢
 clear hw0 HBX HVL hnw hnq hna hnc hncm hR hRd hp hA hac hn hd ht hb hv HITS hLT
 go_enter Tryz.func41,Tryz.ntmps41
 go_wp2_with fail
 (with_reducible refine (HC1.out).mono ?_)
 rintro e u1 ⟨b,rfl,hbi,hb⟩
 rw [<-HW0.out] at hb
 have HB1:=hid (HB0.out.trans (hb.mono HB0.out.size))
 have HT1:=hid (HT0.out.below hb)
 have HK1:=hid (HK0.out.below hb)
 have hz1:w.heap.size + 2<=u1.heap.size:=HK1.out.lt
 have HBI:=hid hbi
 clear hb hbi HC1 HW0 HB0 HT0 HK0
 cases b with
 | false=>
  have hvf:v=false:=by
   cases hh:v with
   | false=>rfl
   | true=>have:=HBI.out.2 (HV.out.1 hh); cases this
  have HX:Hid (R=(tk0,1)):=hid (by rw [HR.out,if_pos hvf])
  clear hvf HR HBI HV
  have hts:=talk_set (HK1.out) (.slice none 0 0) (.slice none 0 0) (.slice none 0 0) (.slice none 0 0) (.bool false)
  obtain ⟨W5,hW5⟩:∃ W5,W5=((((u1.setCell ⟨w.heap.size + 1,0,none⟩ (.slice none 0 0)).setCell ⟨w.heap.size + 1,1,none⟩ (.slice none 0 0)).setCell ⟨w.heap.size + 1,2,none⟩ (.slice none 0 0)).setCell ⟨w.heap.size + 1,3,none⟩ (.slice none 0 0)).setCell ⟨w.heap.size + 1,4,none⟩ (.bool false):=⟨_,rfl⟩
  rw [<-hW5] at hts
  have HB5:=hid ((HB1.out).grown hts.2 (HB1.out).size (fun k e=>by cases e; omega))
  have HG5:=hid hts.2
  have HK5:=hid hts.1
  obtain ⟨g0,g1,g2,g3,g4⟩:=BK.c5 (show BK _ #[.slice none 0 0,.slice none 0 0,.slice none 0 0,.slice none 0 0,.bool false] _ _ from HK5.out)
  obtain ⟨z0,z1,z2,z3,z4⟩:=BK.c5 (show BK _ #[.slice none 0 0,.slice none 0 0,.slice none 0 0,.slice none 0 0,.bool false] _ _ from HK1.out)
  obtain ⟨fz0,fz1,fz2,fz3,fz4⟩:=BK.f5 (HK1.out)
  have HW5:=hid hW5
  clear hts hW5
  go_wp2_with fail
  rw [<-HW5.out]
  refine bodyPost_ret (v:=.tuple #[.agg #[.slice none 0 0,.slice none 0 0,.slice none 0 0,.slice none 0 0,.bool false],.int .i64 1]) (by simp [results,Tryz.results41,go_sem,g0,g1,g2,g3,g4]) rfl ?_
  rw [HX.out]
  exact GotRT.bad 1 HB5.out
 | true=>
  have hVT1:=HBI.out.1 rfl
  have hvt:v=true:=HV.out.2 hVT1
  have HR1:Hid (R=if asked=[] then (tk0,18) else if ¬ (∀ d ∈ com,d ∈ asked) then (tk0,8) else (LT,0)):=hid (by rw [HR.out,if_neg (by rw [hvt]; simp)])
  have hvt2:=hVT1
  rw [<-HVT.out] at hvt2
  have HKN1:=hid (HKN.out hvt2)
  clear hVT1 hvt hvt2 HR HBI HV HKN hVT
  obtain ⟨k0,k1,k2,k3,k4⟩:=BK.c5 (show BK _ #[.slice wa nw wc,.slice qa nq qc,.slice aa na ac,.slice ca nc cc,.bool done] _ _ from HT1.out)
  obtain ⟨fk0,fk1,fk2,fk3,fk4⟩:=BK.f5 (HT1.out)
  by_cases hna0:na=0
  ·subst hna0
   have HX:Hid (R=(tk0,18)):=hid (by rw [HR1.out,if_pos (List.length_eq_zero_iff.1 HNA.out.symm)])
   clear HR1
   have hts:=talk_set (HK1.out) (.slice none 0 0) (.slice none 0 0) (.slice none 0 0) (.slice none 0 0) (.bool false)
   obtain ⟨W5,hW5⟩:∃ W5,W5=((((u1.setCell ⟨w.heap.size + 1,0,none⟩ (.slice none 0 0)).setCell ⟨w.heap.size + 1,1,none⟩ (.slice none 0 0)).setCell ⟨w.heap.size + 1,2,none⟩ (.slice none 0 0)).setCell ⟨w.heap.size + 1,3,none⟩ (.slice none 0 0)).setCell ⟨w.heap.size + 1,4,none⟩ (.bool false):=⟨_,rfl⟩
   rw [<-hW5] at hts
   have HB5:=hid ((HB1.out).grown hts.2 (HB1.out).size (fun k e=>by cases e; omega))
   have HG5:=hid hts.2
   have HK5:=hid hts.1
   obtain ⟨g0,g1,g2,g3,g4⟩:=BK.c5 (show BK _ #[.slice none 0 0,.slice none 0 0,.slice none 0 0,.slice none 0 0,.bool false] _ _ from HK5.out)
   obtain ⟨z0,z1,z2,z3,z4⟩:=BK.c5 (show BK _ #[.slice none 0 0,.slice none 0 0,.slice none 0 0,.slice none 0 0,.bool false] _ _ from HK1.out)
   obtain ⟨fz0,fz1,fz2,fz3,fz4⟩:=BK.f5 (HK1.out)
   have HW5:=hid hW5
   clear hts hW5
   go_wp2_with fail
   rw [<-HW5.out]
   refine bodyPost_ret (v:=.tuple #[.agg #[.slice none 0 0,.slice none 0 0,.slice none 0 0,.slice none 0 0,.bool false],.int .i64 18]) (by simp [results,Tryz.results41,go_sem,g0,g1,g2,g3,g4]) rfl ?_
   rw [HX.out]
   exact GotRT.bad 18 HB5.out
  ·have hnai:((na:Int) == 0)=false:=by rw [beq_eq_false_iff_ne]; omega
   have HR2:Hid (R=if ¬ (∀ d ∈ com,d ∈ asked) then (tk0,8) else (LT,0)):=hid (by rw [HR1.out,if_neg (fun e=>hna0 (by have:=HNA.out; rw [e] at this; simpa using this))])
   clear HR1 hna0
   have HWN:Hid ((com.filter fun d=>!decide (d ∈ asked)).length=0 ↔ ∀ d ∈ com,d ∈ asked):=hid (by
    rw [List.length_eq_zero_iff,List.filter_eq_nil_iff]; simp)
   have HC2:=hid (without_any la com lc aa asked ac u1 (HDL.out.ahead HB1.out) (HDA.out.ahead HB1.out) (by rw [<-HNCM.out]; omega) (by rw [<-HNA.out]; omega))
   rw [<-HNCM.out,<-HNA.out] at HC2
   generalize (com.filter fun d=>!decide (d ∈ asked))=F at HC2 HWN
   go_wp2_with fail
   (with_reducible refine (HC2.out).mono ?_)
   rintro e u2 ⟨xa,xc,rfl,hown,hb⟩
   have HB2:=hid (HB1.out.trans (hb.mono HB1.out.size))
   have HT2:=hid (HT1.out.below hb)
   have HK2:=hid (HK1.out.below hb)
   generalize F.length=nf at HWN
   clear hown hb HC2 HB1 HT1 HK1 k0 k1 k2 k3 k4 fk0 fk1 fk2 fk3 fk4
   by_cases hnf:nf=0
   case neg=>
    have hnb:(0:Int) < (nf:Int):=by omega
    have HX:Hid (R=(tk0,8)):=hid (by rw [HR2.out,if_pos (fun h=>hnf (HWN.out.2 h))])
    clear HR2 HWN hnf
    have hts:=talk_set (HK2.out) (.slice none 0 0) (.slice none 0 0) (.slice none 0 0) (.slice none 0 0) (.bool false)
    obtain ⟨W5,hW5⟩:∃ W5,W5=((((u2.setCell ⟨w.heap.size + 1,0,none⟩ (.slice none 0 0)).setCell ⟨w.heap.size + 1,1,none⟩ (.slice none 0 0)).setCell ⟨w.heap.size + 1,2,none⟩ (.slice none 0 0)).setCell ⟨w.heap.size + 1,3,none⟩ (.slice none 0 0)).setCell ⟨w.heap.size + 1,4,none⟩ (.bool false):=⟨_,rfl⟩
    rw [<-hW5] at hts
    have HB5:=hid ((HB2.out).grown hts.2 (HB2.out).size (fun k e=>by cases e; omega))
    have HG5:=hid hts.2
    have HK5:=hid hts.1
    obtain ⟨g0,g1,g2,g3,g4⟩:=BK.c5 (show BK _ #[.slice none 0 0,.slice none 0 0,.slice none 0 0,.slice none 0 0,.bool false] _ _ from HK5.out)
    obtain ⟨z0,z1,z2,z3,z4⟩:=BK.c5 (show BK _ #[.slice none 0 0,.slice none 0 0,.slice none 0 0,.slice none 0 0,.bool false] _ _ from HK2.out)
    obtain ⟨fz0,fz1,fz2,fz3,fz4⟩:=BK.f5 (HK2.out)
    have HW5:=hid hW5
    clear hts hW5
    go_wp2_with fail
    rw [<-HW5.out]
    refine bodyPost_ret (v:=.tuple #[.agg #[.slice none 0 0,.slice none 0 0,.slice none 0 0,.slice none 0 0,.bool false],.int .i64 8]) (by simp [results,Tryz.results41,go_sem,g0,g1,g2,g3,g4]) rfl ?_
    rw [HX.out]
    exact GotRT.bad 8 HB5.out
   case pos=>
    subst hnf
    have hall:=HWN.out.1 rfl
    have HR3:Hid (R=(LT,0)):=hid (by rw [HR2.out,if_neg (fun h=>h hall)])
    have HLT:=hid (HLR.out (fun c hc=>by
     rcases (HAM.out c).1 hc with h | h
     ·exact HKN1.out c (by simp [h])
     ·exact HKN1.out c (by simp [hall c h])))
    obtain ⟨a1,c1,W1,a2,c2,W2,HRUN1,HRUN2,hown,hb2⟩:=append_two u2 ca common cc la com lc (HDC.out.ahead HB2.out) (HDL.out.ahead HB2.out) (by rw [<-List.length_append]; omega)
    have HB3:=hid (HB2.out.trans (hb2.mono HB2.out.size))
    have HT3:=hid (HT2.out.below hb2)
    have HK3:=hid (HK2.out.below hb2)
    have HC3:=hid (HMX.out W2 a2 (common ++ com) c2 HB3.out (ownsRow_digs hown) (by omega) HOL.out)
    obtain ⟨k0,k1,k2,k3,k4⟩:=BK.c5 (show BK _ #[.slice wa nw wc,.slice qa nq qc,.slice aa na ac,.slice ca nc cc,.bool done] _ _ from HT2.out)
    have hta:=HT2.out.alloc (.cells #[] 41)
    obtain ⟨j0,j1,j2,j3,j4⟩:=BK.c5 (show BK _ #[.slice wa nw wc,.slice qa nq qc,.slice aa na ac,.slice ca nc cc,.bool done] _ _ from hta)
    clear hta
    rw [<-HNC.out] at HRUN1 HRUN2
    rw [<-HNCM.out] at HRUN2
    generalize maxS xs (common ++ com)=MX at HC3 HOM HML HAL HLT
    generalize (common ++ com).length=ncc at HRUN2 HC3 HML hcl
    clear hall HWN HR2 HLR HAM HKN1 hown hb2 HMX HB2 HT2 HK2 HOL
    have tok1:True:=trivial
    go_wp2_with (at_builtin; first | (have _t:=tok1; refine Lib.wpList_append_run _ rfl _ _ _ _ rfl _ _ rfl rfl _ _ HRUN1.out ?_; clear _t tok1) | (refine Lib.wpList_append_run _ rfl _ _ _ _ rfl _ _ rfl rfl _ _ HRUN2.out ?_))
    clear HRUN1 HRUN2
    (with_reducible refine (HC3.out).mono ?_)
    rintro e u4 ⟨ma,mc,rfl,hdm,hmc,hb⟩
    obtain ⟨nm,hnm⟩:∃ n,n=MX.length:=⟨_,rfl⟩
    rw [<-hnm] at HML ⊢
    have HNM:=hid hnm
    have HB4:=hid (HB3.out.trans (hb.mono HB3.out.size))
    have HT4:=hid (HT3.out.below hb)
    have HK4:=hid (HK3.out.below hb)
    clear hmc hb hnm HC3 HB3 HT3 HK3 k0 k1 k2 k3 k4
    obtain ⟨x4,hx4⟩:∃ x4,x4=u4.setCell ⟨w.heap.size,3,none⟩ (.slice ma nm mc):=⟨_,rfl⟩
    have hg4:u4.grownBy x4 (some w.heap.size):=by rw [hx4]; exact gset _ _ _ _
    have HTx:Hid (BK w.heap.size #[.slice wa nw wc,.slice qa nq qc,.slice aa na ac,.slice ma nm mc,.bool done] 67 x4):=hid (by rw [hx4]; exact HT4.out.set 3 (.slice ma nm mc))
    have HKx:Hid (BK (w.heap.size + 1) #[.slice none 0 0,.slice none 0 0,.slice none 0 0,.slice none 0 0,.bool false] 67 x4):=hid (HK4.out.grow1 hg4 (by omega))
    have HBx:Hid (Below w.heap.size w x4):=hid (HB4.out.grown hg4 HB4.out.size (fun j e=>by cases e; omega))
    have HMd:=hid (digs_store hdm HT4.out (noint5 _ _ _ _ _ _ _ _ _ _ _ _ _) hg4)
    have HC4:=hid (HAN.out x4 ma MX mc HBx.out HMd.out (by rw [<-HNM.out]; have:=HML.out; omega) HOM.out)
    rw [<-HNM.out] at HC4
    obtain ⟨k0,k1,k2,k3,k4⟩:=BK.c5 (show BK _ #[.slice wa nw wc,.slice qa nq qc,.slice aa na ac,.slice ca nc cc,.bool done] _ _ from HT4.out)
    obtain ⟨fk0,fk1,fk2,fk3,fk4⟩:=BK.f5 (HT4.out)
    obtain ⟨q0,q1,q2,q3,q4⟩:=BK.c5 (show BK _ #[.slice wa nw wc,.slice qa nq qc,.slice aa na ac,.slice ma nm mc,.bool done] _ _ from HTx.out)
    rw [hx4] at HC4 q0 q1 q2 q3 q4
    have HX4:=hid hx4
    clear hx4 hg4 HB4 HT4 HK4 hdm
    generalize ancS xs MX=AR at HAL HLT HC4
    obtain ⟨an,ae⟩:=AR
    simp only at HLT HAL
    go_wp2_with fail
    (with_reducible refine (HC4.out).mono ?_)
    rintro e u5 ⟨ka,kc,rfl,hdk,hkc,hb⟩
    simp only at hdk hkc ⊢
    rw [<-HX4.out] at hb
    obtain ⟨nk,hnk⟩:∃ n,n=an.length:=⟨_,rfl⟩
    rw [<-hnk] at hkc HAL ⊢
    have HNK:=hid hnk
    have HB5:=hid (HBx.out.trans (hb.mono HBx.out.size))
    have HT5:=hid (HTx.out.below hb)
    have HK5:=hid (HKx.out.below hb)
    have HM5:=hid (HMd.out.ahead hb)
    have HC5:=hid (without_any qa queue qc ka an kc u5 (HDQ.out.ahead HB5.out) hdk (by rw [<-HNQ.out]; omega) (by rw [<-HNK.out]; have:=HAL.out; omega))
    rw [<-HNQ.out,<-HNK.out] at HC5
    have HFL:=hid (List.length_filter_le (fun d=>!decide (d ∈ an)) queue)
    rw [<-HNQ.out] at HFL
    generalize (queue.filter fun d=>!decide (d ∈ an))=FQ at HC5 HLT HFL
    clear hdk hkc hb hnk HC4 HX4 HBx HTx HKx HMd k0 k1 k2 k3 k4 fk0 fk1 fk2 fk3 fk4 q0 q1 q2 q3 q4
    obtain ⟨k0,k1,k2,k3,k4⟩:=BK.c5 (show BK _ #[.slice wa nw wc,.slice qa nq qc,.slice aa na ac,.slice ma nm mc,.bool done] _ _ from HT5.out)
    obtain ⟨fk0,fk1,fk2,fk3,fk4⟩:=BK.f5 (HT5.out)
    go_wp2_with fail
    (with_reducible refine (HC5.out).mono ?_)
    rintro e u6 ⟨ra,rc,rfl,hown,hb⟩
    obtain ⟨nf,hnf⟩:∃ n,n=FQ.length:=⟨_,rfl⟩
    rw [<-hnf] at HFL ⊢
    have HNF:=hid hnf
    have hfl:=HFL.out
    have HB6:=hid (HB5.out.trans (hb.mono HB5.out.size))
    have HT6:=hid (HT5.out.below hb)
    have HK6:=hid (HK5.out.below hb)
    have HM6:=hid (HM5.out.ahead hb)
    have HF6:=hid (ownsRow_digs hown)
    clear hown hb hnf HC5 HB5 HT5 HK5 HM5 k0 k1 k2 k3 k4 fk0 fk1 fk2 fk3 fk4 HFL
    obtain ⟨k0,k1,k2,k3,k4⟩:=BK.c5 (show BK _ #[.slice wa nw wc,.slice qa nq qc,.slice aa na ac,.slice ma nm mc,.bool done] _ _ from HT6.out)
    obtain ⟨fk0,fk1,fk2,fk3,fk4⟩:=BK.f5 (HT6.out)
    obtain ⟨x6,hx6⟩:∃ x6,x6=u6.setCell ⟨w.heap.size,1,none⟩ (.slice ra nf rc):=⟨_,rfl⟩
    have hg6:u6.grownBy x6 (some w.heap.size):=by rw [hx6]; exact gset _ _ _ _
    have hk6:BK w.heap.size #[.slice wa nw wc,.slice ra nf rc,.slice aa na ac,.slice ma nm mc,.bool done] 67 x6:=by rw [hx6]; exact HT6.out.set 1 (.slice ra nf rc)
    obtain ⟨m0,m1,m2,m3,m4⟩:=BK.c5 (show BK _ #[.slice wa nw wc,.slice ra nf rc,.slice aa na ac,.slice ma nm mc,.bool done] _ _ from hk6)
    obtain ⟨fm0,fm1,fm2,fm3,fm4⟩:=BK.f5 (hk6)
    obtain ⟨x7,hx7⟩:∃ x7,x7=x6.setCell ⟨w.heap.size,2,none⟩ (.slice none 0 0):=⟨_,rfl⟩
    have hg7:u6.grownBy x7 (some w.heap.size):=by rw [hx7]; exact gtrans hg6 (gset _ _ _ _)
    have hk7:BK w.heap.size #[.slice wa nw wc,.slice ra nf rc,.slice none 0 0,.slice ma nm mc,.bool done] 67 x7:=by rw [hx7]; exact hk6.set 2 (.slice none 0 0)
    obtain ⟨n0,n1,n2,n3,n4⟩:=BK.c5 (show BK _ #[.slice wa nw wc,.slice ra nf rc,.slice none 0 0,.slice ma nm mc,.bool done] _ _ from hk7)
    obtain ⟨fn0,fn1,fn2,fn3,fn4⟩:=BK.f5 (hk7)
    obtain ⟨bb,hbb⟩:∃ bb,bb=((nf:Int) == 0):=⟨_,rfl⟩
    have HBB:Hid (decide (FQ=[])=bb):=hid (by rw [hbb,HNF.out]; cases FQ <;> simp <;> omega)
    have hbn:((nf:Int) == 0)=bb:=hbb.symm
    obtain ⟨x8,hx8⟩:∃ x8,x8=x7.setCell ⟨w.heap.size,4,none⟩ (.bool bb):=⟨_,rfl⟩
    have hg8:u6.grownBy x8 (some w.heap.size):=by rw [hx8]; exact gtrans hg7 (gset _ _ _ _)
    have hk8:BK w.heap.size #[.slice wa nw wc,.slice ra nf rc,.slice none 0 0,.slice ma nm mc,.bool bb] 67 x8:=by rw [hx8]; exact hk7.set 4 (.bool bb)
    obtain ⟨y0,y1,y2,y3,y4⟩:=BK.c5 (show BK _ #[.slice wa nw wc,.slice ra nf rc,.slice none 0 0,.slice ma nm mc,.bool bb] _ _ from hk8)
    have HB8:Hid (Below w.heap.size w x8):=hid (HB6.out.grown hg8 HB6.out.size (fun j e=>by cases e; omega))
    have HK8:Hid (BK (w.heap.size + 1) #[.slice none 0 0,.slice none 0 0,.slice none 0 0,.slice none 0 0,.bool false] 67 x8):=hid (HK6.out.grow1 hg8 (by omega))
    have HS8:Hid (∀ ds ad,Digs u6.heap.size u6 ad ds->Digs x8.heap.size x8 ad ds):=hid (fun ds ad h=>digs_store h HT6.out (noint5 _ _ _ _ _ _ _ _ _ _ _ _ _) hg8)
    have HDW6:=hid (HDW.out.ahead HB6.out)
    rw [hx7,hx6] at n0 n1 n2 n3 n4 fn0 fn1 fn2 fn3 fn4
    rw [hx6] at m0 m1 m2 m3 m4 fm0 fm1 fm2 fm3 fm4
    clear hg6 hk6 hg7 hk7 hg8 hk8 hbb HB6 HT6 HK6
    have hts:=talk_set (HK8.out) (.slice wa nw wc) (.slice ra nf rc) (.slice none 0 0) (.slice ma nm mc) (.bool bb)
    obtain ⟨W5,hW5⟩:∃ W5,W5=((((x8.setCell ⟨w.heap.size + 1,0,none⟩ (.slice wa nw wc)).setCell ⟨w.heap.size + 1,1,none⟩ (.slice ra nf rc)).setCell ⟨w.heap.size + 1,2,none⟩ (.slice none 0 0)).setCell ⟨w.heap.size + 1,3,none⟩ (.slice ma nm mc)).setCell ⟨w.heap.size + 1,4,none⟩ (.bool bb):=⟨_,rfl⟩
    rw [<-hW5] at hts
    have HB5:=hid ((HB8.out).grown hts.2 (HB8.out).size (fun k e=>by cases e; omega))
    have HG5:=hid hts.2
    have HK5:=hid hts.1
    obtain ⟨g0,g1,g2,g3,g4⟩:=BK.c5 (show BK _ #[.slice wa nw wc,.slice ra nf rc,.slice none 0 0,.slice ma nm mc,.bool bb] _ _ from HK5.out)
    obtain ⟨z0,z1,z2,z3,z4⟩:=BK.c5 (show BK _ #[.slice none 0 0,.slice none 0 0,.slice none 0 0,.slice none 0 0,.bool false] _ _ from HK8.out)
    obtain ⟨fz0,fz1,fz2,fz3,fz4⟩:=BK.f5 (HK8.out)
    rw [hx8,hx7,hx6] at hW5 z0 z1 z2 z3 z4 fz0 fz1 fz2 fz3 fz4 y0 y1 y2 y3 y4
    have HW5:=hid hW5
    clear hts hW5
    go_wp2_with fail
    rw [<-HW5.out]
    refine bodyPost_ret (v:=.tuple #[.agg #[.slice wa nw wc,.slice ra nf rc,.slice none 0 0,.slice ma nm mc,.bool bb],.int .i64 0]) (by simp [results,Tryz.results41,go_sem,g0,g1,g2,g3,g4]) rfl ?_
    rw [HR3.out,HLT.out]
    refine ⟨⟨wa,wc,ra,rc,none,0,ma,mc⟩,?_,⟨digs_store (HS8.out _ _ HDW6.out) HK8.out (noint5 _ _ _ _ _ _ _ _ _ _ _ _ _) HG5.out,digs_store (HS8.out _ _ HF6.out) HK8.out (noint5 _ _ _ _ _ _ _ _ _ _ _ _ _) HG5.out,Digs.nil _ _ _,digs_store (HS8.out _ _ HM6.out) HK8.out (noint5 _ _ _ _ _ _ _ _ _ _ _ _ _) HG5.out⟩,HB5.out⟩
    simp only [Tk.val,Tk.arr,<-HNF.out,<-HNW.out,<-HNM.out,HBB.out]
    rfl
end Go.Proofs.YtfdahmicigpnoaaGreat
