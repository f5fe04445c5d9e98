/- The walk of the statement PackRead. -/
import Derived.Test.YtijkieiihpiljaaGreatP7
import Derived.Test.YtijkieiihpiljaaGreatP12
import Derived.Test.YtijkieiihpiljaaGreatP6
set_option maxRecDepth 100000
set_option maxHeartbeats 16000000
open Go.Lib (hid)
namespace Go.Proofs.YtijkieiihpiljaaGreat.packRead
open Go.RowKit Go.Shelf
set_option linter.unusedVariables false
theorem poolR_of {xs:List Itm} {c:Nat} (hs:smallS xs []=true) (hc:xs.length<=c) (hd:∀ x ∈ xs,OkD x.d):PoolR xs c:=by
 unfold smallS at hs
 simp only [Bool.and_eq_true,Bool.not_eq_true',decide_eq_true_eq] at hs
 obtain ⟨_,hg,hk⟩:=hs
 obtain ⟨h1,h2⟩:=pgreatS_false hg
 obtain ⟨h3,h4⟩:=checkP_zero hk
 refine ⟨h4,fun x hx=>?_,hd,by omega,fun x hx=>by have:=h2 x hx; omega,hc⟩
 have:=h3 x hx
 unfold chkI at this
 by_cases h5:(decodeS x.data).2=0
 ·exact h5
 ·rw [if_pos h5] at this
  cases this
theorem ent_le (s:List UInt8):(entriesS s).1.length<=1000:=by
 by_cases h:(entriesS s).2=0
 ·exact (entriesS_ok (Prod.ext rfl h)).2.1
 ·rw [entriesS_bad h]; simp
theorem walk (x:Rd10) (a:Option Addr) (c:Nat) (w:World) (h:RdCame w x a c) :
  Calls Tryz.prog 6 #[.agg (x.arr a c)] w fun e w'=>e = .returned (.bool true)/\Below w.heap.size w w':=by
 obtain ⟨s,sl,⟨d1,d2⟩,xs⟩:=x
 obtain ⟨hln,hok,hpo⟩:=h
 simp only [Rd10.arr] at hln hok hpo ⊢
 have HAW:=hid awake10_any
 have hse:SlsIn w none []:=fun i hi=>by simp at hi
 have hci:∀ W,Below w.heap.size w W->PoolCame W a xs c:=fun W hW=>⟨hpo.its.ahead hW,hpo.cap,hpo.dat⟩
 have HSM:=hid (fun W (hW:Below w.heap.size w W)=>small10_any a xs c none [] W (hci W hW) (fun i hi=>by simp at hi) (by simp) (by simp))
 have HPR:Hid (smallS xs []=true->PoolR xs c):=hid (fun hs=>poolR_of hs hpo.cap.1 (fun y hy=>(hpo.dat y hy).1))
 have HSE:=hid (fun W (hl:s.length<=1500)=>seal_any s W (by omega))
 have HEN:=hid (fun T W (hl:(List.length T:Int)<=70368744177664)=>entries_any T W hl)
 have HRE:=hid (fun T W (hl:(List.length T:Int)<=70368744177664)=>rentries10_any T W hl)
 have HFI:=hid (fun T W (hl:(List.length T:Int)<=70368744177664) (hW:Below w.heap.size w W) (hs:smallS xs []=true)=>pfind_any T xs a c d1 d2 W hl (hpo.its.ahead hW) (HPR.out hs) hok)
 have HRF:=hid (fun T W (hl:(List.length T:Int)<=70368744177664) (hW:Below w.heap.size w W) (hs:smallS xs []=true)=>rpfind_any T xs a c d1 d2 W hl (hpo.its.ahead hW) (HPR.out hs))
 have hsz:=ba_len s
 unfold maxLen at hln
 obtain ⟨w0,hw0⟩:∃ w0,w0=w.alloc (.cells #[.string ⟨s.toArray⟩,.bool sl,.int .u64 d1,.int .u64 d2,.slice a xs.length c] 43):=⟨_,rfl⟩
 have hb0:Below w.heap.size w w0:=by rw [hw0]; exact (Below.refl _ _).alloc (Nat.le_refl _) _
 have HX0:Hid (BK w.heap.size #[.string ⟨s.toArray⟩,.bool sl,.int .u64 d1,.int .u64 d2,.slice a xs.length c] 43 w0):=hid (by rw [hw0]; exact BK.new _ _ _)
 have HB0:=hid hb0
 have HCS:=hid (HSM.out w0 hb0)
 have HA0:=hid (HAW.out w0)
 rw [hw0] at HCS HA0
 have HW0:=hid hw0
 obtain ⟨b,hbs⟩:∃ b,b=smallS xs []:=⟨_,rfl⟩
 have HBS:=hid hbs
 rw [<-hbs] at HCS
 simp only [List.length_nil] at HCS
 have hsl:∀ T,(sealS T).length=T.length + 16:=fun T=>by unfold sealS; rw [List.length_append,beD_length]
 have HSL:=hid hsl
 generalize xs.length=n at HCS HA0 HW0 HX0 HFI HRF ⊢
 clear hw0 hb0 hse hci hbs hpo hok hsl HSM HPR
 by_cases hgt:(1500:Int) < (s.length:Int)
 ·clear HCS HSE HEN HRE HFI HRF HBS HSL
  go_enter Tryz.func6,Tryz.ntmps6
  go_wp2_with fail
  (with_reducible refine (HA0.out).mono ?_)
  rintro e u ⟨rfl,hb⟩
  rw [<-HW0.out] at hb
  have HB1:=hid (HB0.out.trans (hb.mono HB0.out.size))
  clear hb
  go_wp2_with fail
  go_ret
  exact ⟨rfl,HB1.out⟩
 have HLE:Hid (s.length<=1500):=hid (by omega)
 cases b with
 | false=>
  clear HSE HEN HRE HFI HRF HBS HSL HA0
  go_enter Tryz.func6,Tryz.ntmps6
  go_wp2_with fail
  (with_reducible refine (HCS.out).mono ?_)
  rintro e u ⟨rfl,hb⟩
  rw [<-HW0.out] at hb
  have HB1:=hid (HB0.out.trans (hb.mono HB0.out.size))
  have HC:=hid (HAW.out u)
  clear hb HCS
  go_wp2_with fail
  (with_reducible refine (HC.out).mono ?_)
  rintro e u2 ⟨rfl,hb⟩
  have HB2:=hid (HB1.out.trans (hb.mono HB1.out.size))
  clear hb HC
  go_wp2_with fail
  go_ret
  exact ⟨rfl,HB2.out⟩
 | true=>
 clear HA0
 go_enter Tryz.func6,Tryz.ntmps6
 go_wp2_with fail
 (with_reducible refine (HCS.out).mono ?_)
 rintro e u ⟨rfl,hb⟩
 rw [<-HW0.out] at hb
 have HB1:=hid (HB0.out.trans (hb.mono HB0.out.size))
 have HX1:=hid (HX0.out.below hb)
 clear hb HCS HW0 HB0 HX0
 obtain ⟨f0,f1,f2,f3,f4⟩:=BK.c5 (show BK _ #[.string ⟨s.toArray⟩,.bool sl,.int .u64 d1,.int .u64 d2,.slice a n c] _ _ from HX1.out)
 obtain ⟨z,hz⟩:∃ z,z=Value.bool sl:=⟨_,rfl⟩
 rw [<-hz] at HX1
 clear hz
 cases sl
 (have HT:Hid ((s.length:Int)<=70368744177664):=hid (by have:=HLE.out; omega))
 (have HE1:=hid (HEN.out s u HT.out))
 (have HE2:=hid (fun W=>HRE.out s W HT.out))
 (have HE3:=hid (fun W hW=>HFI.out s W HT.out hW HBS.out.symm))
 (have HE4:=hid (fun W hW=>HRF.out s W HT.out hW HBS.out.symm))
 (have HRL:=hid (ent_le s))
 (generalize entriesS s=R at HE1 HE2 HRL)
 (generalize findP s xs (d1,d2)=F at HE3 HE4)
 (clear HEN HRE HFI HRF HSE HT HLE HSL)
 go_wp2_with fail
 rotate_left
 (have HSC:=hid (HSE.out u HLE.out))
 (have HT:Hid (((sealS s).length:Int)<=70368744177664):=hid (by have:=HLE.out; have:=HSL.out s; omega))
 (have HE1:=hid (fun W=>HEN.out (sealS s) W HT.out))
 (have HE2:=hid (fun W=>HRE.out (sealS s) W HT.out))
 (have HE3:=hid (fun W hW=>HFI.out (sealS s) W HT.out hW HBS.out.symm))
 (have HE4:=hid (fun W hW=>HRF.out (sealS s) W HT.out hW HBS.out.symm))
 (have HRL:=hid (ent_le (sealS s)))
 (generalize entriesS (sealS s)=R at HE1 HE2 HRL)
 (generalize findP (sealS s) xs (d1,d2)=F at HE3 HE4)
 (generalize sealS s=T at HSC HE1 HE2 HE3 HE4)
 (clear HEN HRE HFI HRF HSE HT HLE HSL)
 go_wp2_with fail
 (with_reducible refine (HSC.out).mono ?_)
 rintro e v ⟨rfl,hb⟩
 (have HB1:=hid (HB1.out.trans (hb.mono HB1.out.size)))
 (have HX1:=hid (HX1.out.below hb))
 (have HE1:=hid (HE1.out v))
 (clear hb HSC f0 f1 f2 f3 f4)
 go_wp2_with fail
 all_goals
  unfold GotE at HE1 HE2
  (with_reducible refine (HE1.out).mono ?_)
  rintro e u1 ⟨ea,ec,rfl,hg,hb⟩
  have HG1:=hid hg
  have HB2:=hid (HB1.out.trans (hb.mono HB1.out.size))
  have HX2:=hid (HX1.out.below hb)
  have HC:=hid (HE2.out u1)
  clear hg hb HE1 HE2 HX1
  go_wp2_with fail
  (with_reducible refine (HC.out).mono ?_)
  rintro e u2 ⟨ra,rc,rfl,hg,hb⟩
  have HG2:=hid hg
  have HG3:=hid (HG1.out.ahead hb)
  have HB3:=hid (HB2.out.trans (hb.mono HB2.out.size))
  have HX3:=hid (HX2.out.below hb)
  have HC3:=hid (HE3.out u2 HB3.out)
  clear hg hb HC HX2 HG1 HE3 HB2
  obtain ⟨g0,g1,g2,g3,g4⟩:=BK.c5 (show BK _ #[.string ⟨s.toArray⟩,z,.int .u64 d1,.int .u64 d2,.slice a n c] _ _ from HX3.out)
  go_wp2_with fail
  (with_reducible refine (HC3.out).mono ?_)
  rintro e u3 ⟨rfl,hb⟩
  have HG4:=hid (HG3.out.ahead hb)
  have HG5:=hid (HG2.out.ahead hb)
  have HB4:=hid (HB3.out.trans (hb.mono HB3.out.size))
  have HX4:=hid (HX3.out.below hb)
  have HC4:=hid (HE4.out u3 HB4.out)
  clear hb HC3 HX3 HG3 HG2 HE4 g0 g1 g2 g3 g4 HB3
  obtain ⟨g0,g1,g2,g3,g4⟩:=BK.c5 (show BK _ #[.string ⟨s.toArray⟩,z,.int .u64 d1,.int .u64 d2,.slice a n c] _ _ from HX4.out)
  go_wp2_with fail
  (with_reducible refine (HC4.out).mono ?_)
  rintro e u4 ⟨rfl,hb⟩
  have HG6:=hid (HG4.out.ahead hb)
  have HG7:=hid (HG5.out.ahead hb)
  have HB5:=hid (HB4.out.trans (hb.mono HB4.out.size))
  have HC5:=hid (rsame10_any ea R.1 ec ra R.1 rc u4 HG6.out HG7.out (by have:=HRL.out; omega) (by have:=HRL.out; omega))
  rw [decide_eq_true rfl] at HC5
  clear hb HC4 HX4 HG4 HG5 HG6 HG7 g0 g1 g2 g3 g4 HB4 HRL
  go_wp2_with fail
  (with_reducible refine (HC5.out).mono ?_)
  rintro e u5 ⟨rfl,hb⟩
  have HB6:=hid (HB5.out.trans (hb.mono HB5.out.size))
  have HC6:=hid (HAW.out u5)
  clear hb HC5 HB5
  go_wp2_with fail
  (with_reducible refine (HC6.out).mono ?_)
  rintro e u6 ⟨rfl,hb⟩
  have HB7:=hid (HB6.out.trans (hb.mono HB6.out.size))
  clear hb HC6 HB6
  go_wp2_with fail
  go_ret
  exact ⟨rfl,HB7.out⟩
end Go.Proofs.YtijkieiihpiljaaGreat.packRead
