/- Joined texts: ApVw, ApOp. -/
import Derived.Test.YtdedfkljaeloiaaGreatDoorG14
import Derived.Test.YtdedfkljaeloiaaGreatDoorG13
import Derived.Test.YtdedfkljaeloiaaGreatDoorG5
import Derived.Test.YtdedfkljaeloiaaGreatDoorG12
import Derived.Test.YtdedfkljaeloiaaGreatDoorK5
/- TopApproved: the walk. -/
set_option maxRecDepth 100000
set_option maxHeartbeats 16000000
open Go.Lib (hid)
namespace Go.Proofs.YtdedfkljaeloiaaGreatDoor
open Go.RowKit Go.Shelf
set_option linter.unusedVariables false
def Yes (w:World) (e:Ending) (w':World):Prop:=e = .returned (.bool true)/\Below w.heap.size w w'
def MxI:Int:=9223372036854775807
theorem tapproved_any (aa:Option Addr) (A:List Ap) (ac:Nat) (ch:Int) (a:Option Addr) (l:List Fl) (c:Nat) (a2:Option Addr) (m:List Fl) (c2:Nat) (w:World) (ha:Aps w.heap.size w aa A) (hl:Fls w.heap.size w a l) (hm:Fls w.heap.size w a2 m)
  (na:(A.length:Int)<=MxI) (nl:(l.length:Int)<=MxI) (nm:(m.length:Int)<=MxI) (sa:∀ x ∈ A,(x.who.length:Int)<=MxI/\(x.saw.length:Int)<=MxI) (sl:∀ x ∈ l,(x.path.length:Int)<=MxI/\(x.data.length:Int)<=MxI) (sm:∀ x ∈ m,(x.path.length:Int)<=MxI/\(x.data.length:Int)<=MxI) :
  Calls Tryz.prog 3 #[.slice aa A.length ac,.int .i64 ch,.slice a l.length c,.slice a2 m.length c2] w (Yes w):=by
 obtain ⟨x0,hx0⟩:∃ x0,x0=((w.alloc (.cells #[.int .i64 ch] 3)).alloc (.cells #[.slice a l.length c] 23)).alloc (.cells #[.slice a2 m.length c2] 23):=⟨_,rfl⟩
 have hb0:Below w.heap.size w x0:=by rw [hx0]; exact (((Below.refl _ _).alloc (Nat.le_refl _) _).alloc (by simp) _).alloc (by simp; omega) _
 have HB0:=hid hb0
 have HKC:Hid (BK w.heap.size #[.int .i64 ch] 3 x0):=hid (by rw [hx0]; exact ((BK.new _ _ _).alloc _).alloc _)
 have HKO:Hid (BK (w.heap.size + 1) #[.slice a l.length c] 23 x0):=hid (by rw [hx0]; exact (BK.new2 _ _ _ _).alloc _)
 have HKN:Hid (BK (w.heap.size + 1 + 1) #[.slice a2 m.length c2] 23 x0):=hid (by
  rw [hx0]
  have h:=BK.new ((w.alloc (.cells #[.int .i64 ch] 3)).alloc (.cells #[.slice a l.length c] 23)) #[.slice a2 m.length c2] 23
  simp only [World.size_alloc] at h
  exact h)
 have HAA:=hid (fun W (hb:Below w.heap.size w W)=>((ha.below hb (Nat.le_refl _)).mono hb.size:Aps W.heap.size W aa A))
 have HLL:=hid (fun W (hb:Below w.heap.size w W)=>((hl.below hb (Nat.le_refl _)).mono hb.size:Fls W.heap.size W a l))
 have HMM:=hid (fun W (hb:Below w.heap.size w W)=>((hm.below hb (Nat.le_refl _)).mono hb.size:Fls W.heap.size W a2 m))
 have HAW:=hid (fun W (hb:Below w.heap.size w W)=>(aw55_any W).mono (fun e w' h=>(show Yes w e w' from ⟨h.1,hb.trans (h.2.mono hb.size)⟩)))
 have HG1:=hid (fgreat_any a l c x0 (HLL.out x0 hb0) nl sl)
 have HG2:=hid (fun W hb=>fgreat_any a2 m c2 W (HMM.out W hb) nm sm)
 have HG3:=hid (fun W hb=>agreat_any aa A ac W (HAA.out W hb) na sa)
 have c0:=HKC.out.c1
 have c1:=HKO.out.c1
 have c2':=HKN.out.c1
 have HX0:=hid hx0
 unfold GotGt at HG1 HG2 HG3
 rw [hx0] at HG1 c0 c1 c2'
 have HNA:Hid (A.length=A.length):=hid rfl
 clear ha hl hm hb0 sa sl sm nl nm na hx0
 obtain ⟨pl,hpl⟩:∃ pl,pl=l.length:=⟨_,rfl⟩
 obtain ⟨pm,hpm⟩:∃ pm,pm=m.length:=⟨_,rfl⟩
 obtain ⟨pa,hpa⟩:∃ pa,pa=A.length:=⟨_,rfl⟩
 have HPL:=hid hpl
 have HPM:=hid hpm
 have HPA:=hid hpa
 rw [<-hpl] at HG1 c1 HKO ⊢
 rw [<-hpm] at HG2 c2' HKN ⊢
 rw [<-hpa] at HG3 ⊢
 rw [<-hpl,<-hpm] at HX0
 rw [<-hpm] at HG1 c1 c0
 rw [<-hpl] at c2' c0
 clear hpl hpm hpa HNA
 go_enter Tryz.func3,Tryz.ntmps3
 go_wp2_with fail
 (with_reducible refine HG1.out.mono ?_)
 rintro e x1 ⟨he1,hb1⟩
 rw [<-HX0.out] at hb1
 have HB1:=hid (HB0.out.trans (hb1.mono HB0.out.size))
 have HKC1:=hid (HKC.out.below hb1)
 have HKO1:=hid (HKO.out.below hb1)
 have HKN1:=hid (HKN.out.below hb1)
 clear c0 c1 c2' hb1 HKC HKO HKN HG1 HX0
 have c0:=HKC1.out.c1
 have c1:=HKO1.out.c1
 have c2':=HKN1.out.c1
 rcases he1 with rfl | ⟨rfl,hp1⟩
 ·skip
  have HAX:=hid (HAW.out x1 HB1.out)
  skip
  go_wp2_with fail
  (with_reducible refine HAX.out.mono ?_)
  rintro e v9 ⟨rfl,hb9⟩
  have HB9:=hid hb9
  clear hb9
  go_wp2_with fail
  go_ret
  exact ⟨rfl,HB9.out⟩
 have HP1:=hid hp1
 have HG4:=hid (HG2.out x1 HB1.out)
 clear hp1 HG2
 go_wp2_with fail
 (with_reducible refine HG4.out.mono ?_)
 rintro e x2 ⟨he2,hb2⟩
 have HB2:=hid (HB1.out.trans (hb2.mono HB1.out.size))
 have HKC2:=hid (HKC1.out.below hb2)
 have HKO2:=hid (HKO1.out.below hb2)
 have HKN2:=hid (HKN1.out.below hb2)
 clear c0 c1 c2' hb2 HKC1 HKO1 HKN1 HG4 HB1
 have c0:=HKC2.out.c1
 have c1:=HKO2.out.c1
 have c2':=HKN2.out.c1
 rcases he2 with rfl | ⟨rfl,hp2⟩
 ·skip
  have HAX:=hid (HAW.out x2 HB2.out)
  skip
  go_wp2_with fail
  (with_reducible refine HAX.out.mono ?_)
  rintro e v9 ⟨rfl,hb9⟩
  have HB9:=hid hb9
  clear hb9
  go_wp2_with fail
  go_ret
  exact ⟨rfl,HB9.out⟩
 have HP2:=hid hp2
 have HG5:=hid (HG3.out x2 HB2.out)
 clear hp2 HG3
 go_wp2_with fail
 (with_reducible refine HG5.out.mono ?_)
 rintro e x3 ⟨he3,hb3⟩
 have HB3:=hid (HB2.out.trans (hb3.mono HB2.out.size))
 have HKC3:=hid (HKC2.out.below hb3)
 have HKO3:=hid (HKO2.out.below hb3)
 have HKN3:=hid (HKN2.out.below hb3)
 clear c0 c1 c2' hb3 HKC2 HKO2 HKN2 HG5 HB2
 have c0:=HKC3.out.c1
 have c1:=HKO3.out.c1
 have c2':=HKN3.out.c1
 rcases he3 with rfl | ⟨rfl,hp3⟩
 ·skip
  have HAX:=hid (HAW.out x3 HB3.out)
  skip
  go_wp2_with fail
  (with_reducible refine HAX.out.mono ?_)
  rintro e v9 ⟨rfl,hb9⟩
  have HB9:=hid hb9
  clear hb9
  go_wp2_with fail
  go_ret
  exact ⟨rfl,HB9.out⟩
 have HS1:Hid (Sm1 l):=hid ⟨by have:=HP1.out.1; have:=HPL.out; omega,fun x hx=>by have:=HP1.out.2 x hx; omega⟩
 have HS2:Hid (Sm1 m):=hid ⟨by have:=HP2.out.1; have:=HPM.out; omega,fun x hx=>by have:=HP2.out.2 x hx; omega⟩
 have HZ1:Hid (SzF l):=hid ⟨HS1.out.1,fun x hx=>by have:=HS1.out.2 x hx; omega⟩
 have HZ2:Hid (SzF m):=hid ⟨HS2.out.1,fun x hx=>by have:=HS2.out.2 x hx; omega⟩
 have HA3:Hid (A.length<=10/\∀ x ∈ A,x.who.length<=1000000):=hid ⟨by have:=hp3.1; have:=HPA.out; omega,fun x hx=>by have:=hp3.2 x hx; omega⟩
 have HMI:=hid (missing_any aa A ac ch a l c a2 m c2 x3 (HAA.out x3 HB3.out) (HLL.out x3 HB3.out) (HMM.out x3 HB3.out) HS1.out HS2.out (by have:=HA3.out.1; omega) HA3.out.2)
 rw [<-HPL.out,<-HPM.out,<-HPA.out] at HMI
 clear hp3 HP1 HP2
 go_wp2_with fail
 (with_reducible refine HMI.out.mono ?_)
 rintro e x4 ⟨hb4,ma,mn,mc,mk,rfl,hmk⟩
 have HMK:=hid hmk
 have HB4:=hid (HB3.out.trans (hb4.mono HB3.out.size))
 have HKC4:=hid (HKC3.out.below hb4)
 have HKO4:=hid (HKO3.out.below hb4)
 have HKN4:=hid (HKN3.out.below hb4)
 clear c0 c1 c2' hb4 hmk HKC3 HKO3 HKN3 HMI HB3
 have c0:=HKC4.out.c1
 have c1:=HKO4.out.c1
 have c2':=HKN4.out.c1
 have HST:=hid (Store_any none [] 0 a l c x4 ⟨Its.nil _ _ _,Nat.le_refl _,by simp,by simp⟩ asc_nil (HLL.out x4 HB4.out) HZ1.out (fun x hx=>(HS1.out.2 x hx).1) (by simp))
 rw [<-HPL.out] at HST
 obtain ⟨r1,hr1⟩:∃ r,r=storeC [] l:=⟨_,rfl⟩
 have HR1:=hid hr1
 rw [<-hr1] at HST
 clear hr1
 simp only [List.length_nil] at HST
 go_wp2_with fail
 (with_reducible refine HST.out.mono ?_)
 rintro e x5 ⟨⟨ra,rc,rfl,hpat,hpin,hasc⟩,hlen⟩
 obtain ⟨q1,⟨u1,u2⟩,er1⟩:=r1
 simp only [List.length_nil,Nat.zero_add] at hpin hasc hlen hpat ⊢
 have hb5:Below x4.heap.size x4 x5:=hpat.2.2.2
 have HB5:=hid (HB4.out.trans (hb5.mono HB4.out.size))
 obtain ⟨x6,hx6⟩:∃ x6,x6=x5.alloc (.cells #[.int .u64 u1,.int .u64 u2] 35):=⟨_,rfl⟩
 have hb6:Below x5.heap.size x5 x6:=by rw [hx6]; exact (Below.refl _ _).alloc (Nat.le_refl _) _
 have HB6:=hid (HB5.out.trans (hb6.mono HB5.out.size))
 have HD1:Hid (BK x5.heap.size #[.int .u64 u1,.int .u64 u2] 35 x6):=hid (by rw [hx6]; exact BK.new _ _ _)
 have hb46:=hb5.trans (hb6.mono hb5.size)
 have HKC6:=hid (HKC4.out.below hb46)
 have HKO6:=hid (HKO4.out.below hb46)
 have HKN6:=hid (HKN4.out.below hb46)
 have HAS1:=hid hasc
 have HST2:=hid (Store_any ra q1 rc a2 m c2 x6 (hpin.below hb6) hasc (HMM.out x6 HB6.out) HZ2.out (fun x hx=>(HS2.out.2 x hx).1) (by omega))
 rw [<-HPM.out] at HST2
 obtain ⟨r2,hr2⟩:∃ r,r=storeC q1 m:=⟨_,rfl⟩
 have HR2:=hid hr2
 have HX6:=hid hx6
 rw [<-hr2,hx6] at HST2
 have HLQ:=hid hlen
 generalize q1.length=ql at HST2 hlen ⊢
 clear hr2 hx6 hb5 hb6 hb46 hpat hpin hasc c0 c1 c2' HKC4 HKO4 HKN4 HST HB4 HB5
 have c0:=HKC6.out.c1
 have c1:=HKO6.out.c1
 have c2':=HKN6.out.c1
 have hK0:=c0
 rw [HX6.out] at c0 c1 c2'
 go_wp2_with fail
 (with_reducible refine HST2.out.mono ?_)
 rintro e x7 ⟨⟨sa,sc,rfl,hpat,hpin,hasc⟩,hlen2⟩
 rw [<-HX6.out] at hpat
 obtain ⟨q2,⟨v1,v2⟩,er2⟩:=r2
 simp only at hpin hasc hlen2 hpat ⊢
 have hb7:Below x6.heap.size x6 x7:=hpat.2.2.2
 have HB7:=hid (HB6.out.trans (hb7.mono HB6.out.size))
 obtain ⟨x8,hx8⟩:∃ x8,x8=x7.alloc (.cells #[.int .u64 v1,.int .u64 v2] 35):=⟨_,rfl⟩
 have hb8:Below x7.heap.size x7 x8:=by rw [hx8]; exact (Below.refl _ _).alloc (Nat.le_refl _) _
 have HB8:=hid (HB7.out.trans (hb8.mono HB7.out.size))
 have HD2:Hid (BK x7.heap.size #[.int .u64 v1,.int .u64 v2] 35 x8):=hid (by rw [hx8]; exact BK.new _ _ _)
 have hb68:=hb7.trans (hb8.mono hb7.size)
 have HD18:=hid (HD1.out.below hb68)
 have HKC8:=hid (HKC6.out.below hb68)
 have HKO8:=hid (HKO6.out.below hb68)
 have HKN8:=hid (HKN6.out.below hb68)
 have HPI8:=hid (hpin.below hb8)
 have HAS2:=hid hasc
 have HX8:=hid hx8
 have HAW8:=hid (HAW.out x8 HB8.out)
 clear hx8 hb7 hb8 hb68 hpat hpin hasc c0 c1 c2' hK0 HKC6 HKO6 HKN6 HST2 HB6 HB7 HD1 HX6
 have HQ2:=hid hlen2
 obtain ⟨ql2,hql2⟩:∃ n,n=q2.length:=⟨_,rfl⟩
 have HQL:=hid hql2
 rw [<-hql2] at hlen2 ⊢
 clear hql2
 rcases HMK.out with ⟨h1,rfl,rfl⟩ | ⟨_,h2⟩
 case inr=>
  have hne:(mk != 0)=true:=by simpa using h2
  rw [HX8.out] at HAW8
  clear HMK
  go_wp2_with fail
  (with_reducible refine HAW8.out.mono ?_)
  rintro e v9 ⟨rfl,hb9⟩
  have HB9:=hid hb9
  clear hb9
  go_wp2_with fail
  go_ret
  exact ⟨rfl,HB9.out⟩
 have HEX:=hid h1
 by_cases h2:er1=0
 case neg=>
  have hne:(er1 != 0)=true:=by simpa using h2
  rw [HX8.out] at HAW8
  go_wp2_with fail
  (with_reducible refine HAW8.out.mono ?_)
  rintro e v9 ⟨rfl,hb9⟩
  have HB9:=hid hb9
  clear hb9
  go_wp2_with fail
  go_ret
  exact ⟨rfl,HB9.out⟩
 subst h2
 by_cases h3:er2=0
 case neg=>
  have hne:(er2 != 0)=true:=by simpa using h3
  rw [HX8.out] at HAW8
  go_wp2_with fail
  (with_reducible refine HAW8.out.mono ?_)
  rintro e v9 ⟨rfl,hb9⟩
  have HB9:=hid hb9
  clear hb9
  go_wp2_with fail
  go_ret
  exact ⟨rfl,HB9.out⟩
 subst h3
 obtain ⟨mz,hmz⟩:∃ mz,mz=(missingS l m ch A).length:=⟨_,rfl⟩
 have HMZ:=hid hmz
 rw [<-hmz]
 clear hmz
 by_cases h4:mz=0
 case neg=>
  have hne:(0:Int) < (mz:Int):=by omega
  rw [HX8.out] at HAW8
  go_wp2_with fail
  (with_reducible refine HAW8.out.mono ?_)
  rintro e v9 ⟨rfl,hb9⟩
  have HB9:=hid hb9
  clear hb9
  go_wp2_with fail
  go_ret
  exact ⟨rfl,HB9.out⟩
 subst h4
 obtain ⟨k1,k2,k3,k4⟩:=storeC_ok asc_nil HZ1.out HR1.out.symm
 obtain ⟨k5,k6,k7,k8⟩:=storeC_ok HAS1.out HZ2.out HR2.out.symm
 obtain ⟨V,hV,hVp⟩:=load_law HAS2.out (k4.mono k7)
 obtain ⟨V2,hV2,hVp2⟩:=load_law HAS2.out k8
 rw [<-k2] at hV
 rw [<-k6] at hV2
 have HASC1:=hid k4.good.asc
 have HASC2:=hid k8.good.asc
 have HDF:=hid (tdiff_any sa q2 sc u1 u2 v1 v2 V l V2 m x8 HPI8.out HAS2.out hV hVp HASC1.out HS1.out.1 hV2 hVp2 HASC2.out HS2.out.1 (fun x hx=>(HS1.out.2 x hx).1) (fun x hx=>(HS2.out.2 x hx).1))
 unfold GotTd at HDF
 rw [<-HQL.out] at HDF
 obtain ⟨d0,d1⟩:=HD18.out.c2
 obtain ⟨d2,d3⟩:=HD2.out.c2
 rw [HX8.out] at d0 d1 d2 d3 HDF
 clear k1 k2 k3 k4 k5 k6 k7 k8 hV hVp hV2 hVp2 HAS1 HAS2 HPI8 HQ2 HQL HLQ HR1 HR2 HMK HAW8 hlen hlen2
 go_wp2_with fail
 (with_reducible refine HDF.out.mono ?_)
 rintro e y ⟨hby,da,dc,cs,rfl,hcs,hcl,hcx⟩
 rw [<-HX8.out] at hby
 have HBY:=hid (HB8.out.trans (hby.mono HB8.out.size))
 have HKCY:=hid (HKC8.out.below hby)
 have HKOY:=hid (HKO8.out.below hby)
 have HKNY:=hid (HKN8.out.below hby)
 have HCS:=hid hcs
 have HCX:=hid hcx
 obtain ⟨nc,hnc⟩:∃ nc,nc=cs.length:=⟨_,rfl⟩
 have HNC:=hid hnc
 rw [<-hnc] at hcl ⊢
 clear hby hcs hcx hnc d0 d1 d2 d3 HDF HX8 HD18 HD2 HKC8 HKO8 HKN8 HB8
 go_wp2_with fail
 go_loopw [83] (fun i wr=>∃ k:Nat,i = .int .i64 (k:Int)/\k<=nc/\Hid (Below y.heap.size y wr)) (fun i _=>nc - (intOf i).toNat)
 case atStart=>exact ⟨0,rfl,by omega,hid (Below.refl _ _)⟩
 case round=>
  obtain ⟨k,rfl,hk,HBE⟩:=hrel
  have hws:=HBE.out.size
  by_cases hlt:k < nc
  ·have hki:(k:Int) < (nc:Int):=by omega
   have hkl:k < cs.length:=by rw [<-HNC.out]; exact hlt
   obtain ⟨b0,o0,hab,hb0,p0,p1,p2,p3,p4⟩:=fc_cells (HCS.out.below HBE.out (Nat.le_refl _)) hkl
   obtain ⟨P,hP1,hP2⟩:=HCX.out _ (List.getElem_mem hkl)
   rw [hP1] at p0 p1 p2 p3 p4
   have HGOK:=hid (approved_ok HASC1.out HASC2.out HEX.out hP2)
   have HLAW:=hid (fun g hg=>approved_law (ch:=ch) (A:=A) HASC1.out HASC2.out HMZ.out.symm hP2 (g:=g) hg)
   have hpl:P.length<=1000:=by
    by_cases hd:dataF l P=none
    ·obtain ⟨x,hx,e⟩:=dataF_mem (l:=m) (p:=P) (fun h=>hP2 (by rw [hd,h]))
     rw [<-e]; exact (HS2.out.2 x hx).1
    ·obtain ⟨x,hx,e⟩:=dataF_mem hd
     rw [<-e]; exact (HS1.out.2 x hx).1
   generalize hCC:mkFc P (dataF l P) (dataF m P)=C at p0 p1 p2 p3 p4 HLAW
   have hcp:C.path=P:=by rw [<-hCC]; rfl
   subst hcp
   subst hab
   obtain ⟨z1,hz1⟩:∃ z1,z1=wr.alloc (.cells #[.string ⟨C.path.toArray⟩,.bool C.ho,.bool C.hn,.string ⟨C.old.toArray⟩,.string ⟨C.new.toArray⟩] 42):=⟨_,rfl⟩
   have hbz:Below wr.heap.size wr z1:=by rw [hz1]; exact (Below.refl _ _).alloc (Nat.le_refl _) _
   have hkz:BK wr.heap.size #[.string ⟨C.path.toArray⟩,.bool C.ho,.bool C.hn,.string ⟨C.old.toArray⟩,.string ⟨C.new.toArray⟩] 42 z1:=by rw [hz1]; exact BK.new _ _ _
   have hby1:Below y.heap.size y z1:=HBE.out.trans (hbz.mono HBE.out.size)
   have HBZ:=hid hby1
   have HKZ:=hid hkz
   have HGR:=hid (groups_any a l c C.path z1 (HLL.out z1 (HBY.out.trans (hby1.mono HBY.out.size))) HS1.out.sm (by omega))
   unfold GotGr at HGR
   rw [<-HPL.out] at HGR
   have c1:=(HKOY.out.below hby1).c1
   obtain ⟨g0,g1,g2,g3,g4⟩:=hkz.c5
   have HZ:=hid hz1
   rw [hz1] at HGR c1 g0 g1 g2 g3 g4
   clear hz1 hbz hkz hby1 hP1 hP2 hCC hpl HBE
   go_wp2_with fail
   (with_reducible refine HGR.out.mono ?_)
   rintro e z2 ⟨hb2,ga,gn,gc,gk,rfl,hgk⟩
   rcases hgk with ⟨_,rfl,rfl,hgr⟩ | ⟨hno,_⟩
   case inr=>exact absurd HGOK.out hno
   rw [<-HZ.out] at hb2
   have HB2:=hid (HBZ.out.trans (hb2.mono HBZ.out.size))
   have HKC2:=hid (HKCY.out.below HB2.out)
   have HKO2:=hid (HKOY.out.below HB2.out)
   have HKN2:=hid (HKNY.out.below HB2.out)
   have HKZ2:=hid (HKZ.out.below hb2)
   have HGW:=hid hgr
   have hgl:(groupsS l C.path).length<=8:=groups_len
   have HGD:Hid (∀ g ∈ groupsS l C.path,g.length<=20):=hid (fun g hg=>(groups_gd hg).2)
   generalize groupsS l C.path=GG at HLAW HGW hgl HGD
   obtain ⟨ng,hng⟩:∃ ng,ng=GG.length:=⟨_,rfl⟩
   have HNG:=hid hng
   rw [<-hng] at hgl ⊢
   clear hng hgr hb2 c1 g0 g1 g2 g3 g4 HGR HGOK HKZ HBZ HZ hws
   obtain ⟨wz,hwz⟩:∃ x,x=wr:=⟨_,rfl⟩
   rw [<-hwz] at HKZ2 ⊢
   clear hwz
   go_wp2_with fail
   go_loopw [98] (fun i wr=>∃ j:Nat,i = .int .i64 (j:Int)/\j<=ng/\Hid (Below z2.heap.size z2 wr)) (fun i _=>ng - (intOf i).toNat)
   case atStart=>exact ⟨0,rfl,by omega,hid (Below.refl _ _)⟩
   case round=>
    obtain ⟨j,rfl,hj,HBF⟩:=hrel
    by_cases hlt2:j < ng
    ·have hji:(j:Int) < (ng:Int):=by omega
     have hjl:j < GG.length:=by rw [<-HNG.out]; exact hlt2
     obtain ⟨b1,o1,xh,hab,hb1,q1,hx⟩:=gr_cell (HGW.out.below HBF.out) hjl
     have hgm:=List.getElem_mem hjl
     have HLG:=hid (HLAW.out _ hgm)
     have hg20:=HGD.out _ hgm
     generalize GG[j]=g at hx HLG hg20 hgm
     obtain ⟨ha,hn,hc⟩:=xh
     have hsn:=hx.len
     simp only at hsn hab
     simp only [hdV] at q1
     subst hsn hab
     obtain ⟨t1,ht1⟩:∃ t1,t1=wr.alloc (.cells #[.slice ha g.length hc] 44):=⟨_,rfl⟩
     have hbt:Below wr.heap.size wr t1:=by rw [ht1]; exact (Below.refl _ _).alloc (Nat.le_refl _) _
     have hkt:BK wr.heap.size #[.slice ha g.length hc] 44 t1:=by rw [ht1]; exact BK.new _ _ _
     have hzt:Below z2.heap.size z2 t1:=HBF.out.trans (hbt.mono HBF.out.size)
     have hyt:Below y.heap.size y t1:=HB2.out.trans (hzt.mono HB2.out.size)
     have hwt:Below w.heap.size w t1:=HBY.out.trans (hyt.mono HBY.out.size)
     have hko:=HKO2.out.below hzt
     have hkn:=HKN2.out.below hzt
     rw [HPL.out] at hko
     rw [HPM.out] at hkn
     have hfz:=HBF.out.size
     have hfb:=hbt.size
     have hbox:ApB (w.heap.size + 1) (w.heap.size + 1 + 1) w.heap.size wr.heap.size wz.heap.size a l c a2 m c2 ch ha g hc C t1:=⟨hko,hkn,HKC2.out.below hzt,hkt,HKZ2.out.below hzt,HLL.out t1 hwt,HMM.out t1 hwt,((hx.mono hfz).below hbt).mono hfb⟩
     have HCF:=hid (containsF_Ap 12 #[.pointer (some ⟨w.heap.size + 1,0,none⟩),.pointer (some ⟨w.heap.size + 1 + 1,0,none⟩),.pointer (some ⟨w.heap.size,0,none⟩),.pointer (some ⟨wr.heap.size,0,none⟩),.pointer (some ⟨wz.heap.size,0,none⟩)] (apP l m ch g C) aa ac A t1 (HAA.out t1 hwt) (by have:=HA3.out.1; omega) ⟨enters_of Tryz.func12 (by kernel_rfl) rfl,fun x x2 W' hb hx2 hxx=>by
      have e:x=x2:=hxx
      subst e
      exact topA1_any (hbox.below hb) HS1.out HS2.out HEX.out (by omega) x⟩)
     rw [HLG.out,<-HPA.out] at HCF
     have HT1:=hid ht1
     have HZT:=hid hzt
     rw [ht1] at HCF
     clear ht1 hbt hkt hzt hyt hwt hko hkn hbox hx hgm HLG hfz hfb HBF
     go_wp2_with fail
     (with_reducible refine HCF.out.mono ?_)
     rintro e t2 ⟨rfl,hb2⟩
     rw [<-HT1.out] at hb2
     have HBF2:=hid (HZT.out.trans (hb2.mono HZT.out.size))
     clear hb2 HCF HT1 HZT q1
     go_wp2_with fail
     go_roundw
     case rel=>exact ⟨j + 1,by go_num,by omega,HBF2⟩
     case measure=>simp [intOf] <;> omega
    ·have hji:¬ (j:Int) < (ng:Int):=by omega
     have HFN:=hid (HB2.out.trans (HBF.out.mono HB2.out.size))
     go_wp2_with fail
     go_roundw
     case rel=>exact ⟨k + 1,by go_num,by omega,HFN⟩
     case measure=>simp [intOf] <;> omega
  ·have hki:¬ (k:Int) < (nc:Int):=by omega
   have HBX:=hid (HBY.out.trans (HBE.out.mono HBY.out.size))
   have HAX:=hid (HAW.out wr HBX.out)
   skip
   go_wp2_with fail
   (with_reducible refine HAX.out.mono ?_)
   rintro e v9 ⟨rfl,hb9⟩
   have HB9:=hid hb9
   clear hb9
   go_wp2_with fail
   go_ret
   exact ⟨rfl,HB9.out⟩
open Go.ChangeShapes Go.WideShapes Go.ChangeAt Go.RowKit Go.Deep
section
variable {H:Type} {enc:TypeId × Value->H} {W:World}
theorem str_fit {s:ByteArray} (h:s.size<=maxLen):((s.data.toList.length:Nat):Int)<=9223372036854775807:=by
 have:s.data.toList.length=s.size:=Array.length_toList
 unfold maxLen at h
 omega
theorem trod_flS {fuel:Nat} {cs:List Value} {x:DataW H × List MemPlace} (h:DataW.trod enc Tryz.prog W 0 (fun _=>true) true fuel 55 cs=some x):∃ f:Fl,cs=flCs f/\(f.path.length:Int)<=9223372036854775807/\(f.data.length:Int)<=9223372036854775807:=by
 obtain ⟨xs,n,_,_,hl,hxl,hf⟩:=DataW.trod_struct Tryz.underlying55 h
 rw [show Tryz.prog.cellsOf 55 = 2 by kernel_rfl] at hl
 match cs,hl with
 | [c0,c1],_=>
  match xs,hxl with
  | [x0,x1],_=>
   obtain ⟨s,e0,_,w0⟩:=DataW.trod_string Tryz.underlying9 (show DataW.trod enc Tryz.prog W 0 (fun _=>true) true n 9 [c0]=some x0 from hf 0 _ rfl)
   obtain ⟨d,e1,_,w1⟩:=DataW.trod_string Tryz.underlying9 (show DataW.trod enc Tryz.prog W 0 (fun _=>true) true n 9 [c1]=some x1 from hf 1 _ rfl)
   cases e0
   cases e1
   exact ⟨⟨s.data.toList,d.data.toList⟩,by simp only [flCs],str_fit w0,str_fit w1⟩
theorem trod_ap {fuel:Nat} {cs:List Value} {x:DataW H × List MemPlace} (h:DataW.trod enc Tryz.prog W 0 (fun _=>true) true fuel 47 cs=some x):∃ f:Ap,cs=apCs f/\(f.who.length:Int)<=9223372036854775807/\(f.saw.length:Int)<=9223372036854775807:=by
 obtain ⟨xs,n,_,_,hl,hxl,hf⟩:=DataW.trod_struct Tryz.underlying47 h
 rw [show Tryz.prog.cellsOf 47 = 3 by kernel_rfl] at hl
 match cs,hl with
 | [c0,c1,c2],_=>
  match xs,hxl with
  | [x0,x1,x2],_=>
   obtain ⟨s,e0,_,w0⟩:=DataW.trod_string Tryz.underlying9 (show DataW.trod enc Tryz.prog W 0 (fun _=>true) true n 9 [c0]=some x0 from hf 0 _ rfl)
   obtain ⟨b,e1,_⟩:=DataW.trod_int Tryz.underlying3 (show DataW.trod enc Tryz.prog W 0 (fun _=>true) true n 3 [c1]=some x1 from hf 1 _ rfl)
   obtain ⟨d,e2,_,w2⟩:=DataW.trod_string Tryz.underlying9 (show DataW.trod enc Tryz.prog W 0 (fun _=>true) true n 9 [c2]=some x2 from hf 2 _ rfl)
   cases e0
   cases e1
   cases e2
   exact ⟨⟨s.data.toList,b,d.data.toList⟩,by simp only [apCs],str_fit w0,str_fit w2⟩
theorem open_filesS {r:Reach} {b0:Nat} {v:Value} {d:DataW H} {p:List MemPlace} (hv:Value.okWide Tryz.prog W r b0 23 v) (h:DataW.Trod enc Tryz.prog W 0 (fun _=>true) true 23 v d p) :
  ∃ (a:Option Addr) (l:List Fl) (c:Nat),v = .slice a l.length c/\Fls W.heap.size W a l/\(l.length:Int)<=9223372036854775807/\∀ x ∈ l,(x.path.length:Int)<=9223372036854775807/\(x.data.length:Int)<=9223372036854775807:=by
 obtain ⟨a,len,cap,rfl⟩:=okWide_slice Tryz.underlying23 hv
 obtain ⟨fuel,hf⟩:=h
 obtain ⟨hl,hr⟩:=open_rows Tryz.underlying23 (C:=2) (by kernel_rfl) (by decide) hf
 obtain ⟨xs,hxs,hq⟩:=list_of (fun i (e:Fl)=>(∃ b off,a=some ⟨b,off,none⟩/\b < W.heap.size/\∀ j v,(flCs e)[j]? = some v->W.cell? ⟨b,off + i * 2 + j,none⟩=some v)/\(e.path.length:Int)<=9223372036854775807/\(e.data.length:Int)<=9223372036854775807) len (fun i hi=>by
  obtain ⟨b,off,cs,n,y,ha,hb,_,hcell,ht⟩:=hr i hi
  obtain ⟨e,rfl,h1,h2⟩:=trod_flS ht
  exact ⟨e,⟨b,off,ha,hb,hcell⟩,h1,h2⟩)
 refine ⟨a,xs,cap,by rw [hxs],fun i hi=>(hq i hi).1,?_,fun x hx=>?_⟩
 ·have:=hl.1
  have:=hl.2
  unfold maxLen at this
  omega
 ·obtain ⟨i,hi,rfl⟩:=List.getElem_of_mem hx
  exact (hq i hi).2
theorem open_apprs {r:Reach} {b0:Nat} {v:Value} {d:DataW H} {p:List MemPlace} (hv:Value.okWide Tryz.prog W r b0 22 v) (h:DataW.Trod enc Tryz.prog W 0 (fun _=>true) true 22 v d p) :
  ∃ (a:Option Addr) (l:List Ap) (c:Nat),v = .slice a l.length c/\Aps W.heap.size W a l/\(l.length:Int)<=9223372036854775807/\∀ x ∈ l,(x.who.length:Int)<=9223372036854775807/\(x.saw.length:Int)<=9223372036854775807:=by
 obtain ⟨a,len,cap,rfl⟩:=okWide_slice Tryz.underlying22 hv
 obtain ⟨fuel,hf⟩:=h
 obtain ⟨hl,hr⟩:=open_rows Tryz.underlying22 (C:=3) (by kernel_rfl) (by decide) hf
 obtain ⟨xs,hxs,hq⟩:=list_of (fun i (e:Ap)=>(∃ b off,a=some ⟨b,off,none⟩/\b < W.heap.size/\∀ j v,(apCs e)[j]? = some v->W.cell? ⟨b,off + i * 3 + j,none⟩=some v)/\(e.who.length:Int)<=9223372036854775807/\(e.saw.length:Int)<=9223372036854775807) len (fun i hi=>by
  obtain ⟨b,off,cs,n,y,ha,hb,_,hcell,ht⟩:=hr i hi
  obtain ⟨e,rfl,h1,h2⟩:=trod_ap ht
  exact ⟨e,⟨b,off,ha,hb,hcell⟩,h1,h2⟩)
 refine ⟨a,xs,cap,by rw [hxs],fun i hi=>(hq i hi).1,?_,fun x hx=>?_⟩
 ·have:=hl.1
  have:=hl.2
  unfold maxLen at this
  omega
 ·obtain ⟨i,hi,rfl⟩:=List.getElem_of_mem hx
  exact (hq i hi).2
end
end Go.Proofs.YtdedfkljaeloiaaGreatDoor
