/- The walk of the statement PackTrust. -/
import Derived.Test.YtijkieiihpiljaaGreatP7
import Derived.Test.YtijkieiihpiljaaGreatP12
import Derived.Test.YtijkieiihpiljaaGreatPkTr
import Derived.Test.YtijkieiihpiljaaGreatK5
import Derived.Test.YtijkieiihpiljaaGreatP5
import Derived.Deep.Cut
set_option maxRecDepth 100000
set_option maxHeartbeats 16000000
open Go.Lib (hid)
namespace Go.Proofs.YtijkieiihpiljaaGreat.packTrust
open Go.RowKit Go.Shelf
set_option linter.unusedVariables false
theorem poolR_of {xs:List Itm} {c:Nat} (hs:smallS xs []=true) (hc:xs.length<=c) (hd:∀ x ∈ xs,OkD x.d):PoolR xs c:=by
 unfold smallS at hs
 simp only [Bool.and_eq_true,Bool.not_eq_true',decide_eq_true_eq] at hs
 obtain ⟨_,hg,hk⟩:=hs
 obtain ⟨h1,h2⟩:=pgreatS_false hg
 obtain ⟨h3,h4⟩:=checkP_zero hk
 refine ⟨h4,fun x hx=>?_,hd,by omega,fun x hx=>by have:=h2 x hx; omega,hc⟩
 have:=h3 x hx
 unfold chkI at this
 by_cases h5:(decodeS x.data).2=0
 ·exact h5
 ·rw [if_pos h5] at this
  cases this
theorem ent_le (s:List UInt8):(entriesS s).1.length<=1000:=by
 by_cases h:(entriesS s).2=0
 ·exact (entriesS_ok (Prod.ext rfl h)).2.1
 ·rw [entriesS_bad h]; simp
theorem small_asc {xs:List Itm} (hs:smallS xs []=true):Asc xs/\∀ x ∈ xs,chkI x=0:=by
 unfold smallS at hs
 simp only [Bool.and_eq_true,Bool.not_eq_true',decide_eq_true_eq] at hs
 exact ⟨(checkP_zero hs.2.2).2,(checkP_zero hs.2.2).1⟩
theorem small_le {xs:List Itm} (hs:smallS xs []=true):xs.length<=40:=by
 unfold smallS at hs
 simp only [Bool.and_eq_true,Bool.not_eq_true',decide_eq_true_eq] at hs
 exact (pgreatS_false hs.2.1).1
theorem chk_ok {x:Itm} (h:chkI x=0):OkD x.d:=by
 unfold chkI at h
 by_cases h1:(decodeS x.data).2=0
 ·rw [if_neg (by simpa using h1)] at h
  by_cases h2:digS x.data=x.d
  ·rw [<-h2]; exact digS_ok _
  ·rw [if_pos h2] at h; cases h
 ·rw [if_pos h1] at h; cases h
theorem has_of {xs:List Itm} (ha:Asc xs) {d:Int × Int} (h:d ∈ xs.map (·.d)):hasS xs d=true:=by
 obtain ⟨x,hx,rfl⟩:=List.mem_map.1 h
 obtain ⟨k,hk,rfl⟩:=List.getElem_of_mem hx
 have hat:=at_uniq ha hk rfl
 unfold hasS
 rw [<-hat.eq]
 unfold hitB
 rw [List.getElem?_eq_getElem hk]
 simp
theorem chk_len {x:Itm} (h:chkI x=0):x.data.length<=65536:=by
 unfold chkI at h
 by_cases h5:(decodeS x.data).2=0
 ·have h6:=(decode_good (s:=x.data) (o:=(decodeS x.data).1) (Prod.ext rfl h5)).1
  have h7:=encodeS_len (decodeS x.data).1
  rw [h6] at h7
  exact h7
 ·rw [if_pos h5] at h
  cases h
theorem walk (x:Rd10) (a:Option Addr) (c:Nat) (w:World) (h:RdCame w x a c) :
  Calls Tryz.prog 9 #[.agg (x.arr a c)] w fun e w'=>e = .returned (.bool true)/\Below w.heap.size w w':=by
 obtain ⟨s,sl,⟨d1,d2⟩,xs⟩:=x
 obtain ⟨hln,hok,hpo⟩:=h
 simp only [Rd10.arr] at hln hok hpo ⊢
 have HAW:=hid awake10_any
 have hse:SlsIn w none []:=fun i hi=>by simp at hi
 have hci:∀ W,Below w.heap.size w W->PoolCame W a xs c:=fun W hW=>⟨hpo.its.ahead hW,hpo.cap,hpo.dat⟩
 have HSM:=hid (fun W (hW:Below w.heap.size w W)=>small10_any a xs c none [] W (hci W hW) (fun i hi=>by simp at hi) (by simp) (by simp))
 have HPR:Hid (smallS xs []=true->PoolR xs c):=hid (fun hs=>poolR_of hs hpo.cap.1 (fun y hy=>(hpo.dat y hy).1))
 have HSE:=hid (fun W (hl:s.length<=1500)=>seal_any s W (by omega))
 have HEN:=hid (fun T W (hl:(List.length T:Int)<=70368744177664)=>entries_any T W hl)
 have HFI:=hid (fun T W y1 y2 (hl:(List.length T:Int)<=70368744177664) (hW:Below w.heap.size w W) (hs:smallS xs []=true) (hy:OkD (y1,y2))=>pfind_any T xs a c y1 y2 W hl (hpo.its.ahead hW) (HPR.out hs) hy)
 have HUN:=hid (fun T W (hl:(List.length T:Int)<=70368744177664) (hW:Below w.heap.size w W) (hs:smallS xs []=true)=>punpack_any T xs a c W hl (hpo.its.ahead hW) (HPR.out hs) (by have:=(HPR.out hs).xl; have:=small_le hs; omega))
 have HTL:=hid (fun T Q (hs:smallS xs []=true) (h:unpackS T xs=(Q,0))=>trust_law (small_asc hs).1 (small_asc hs).2 h)
 have hsz:=ba_len s
 unfold maxLen at hln
 obtain ⟨w0,hw0⟩:∃ w0,w0=w.alloc (.cells #[.string ⟨s.toArray⟩,.bool sl,.int .u64 d1,.int .u64 d2,.slice a xs.length c] 43):=⟨_,rfl⟩
 have hb0:Below w.heap.size w w0:=by rw [hw0]; exact (Below.refl _ _).alloc (Nat.le_refl _) _
 have HX0:Hid (BK w.heap.size #[.string ⟨s.toArray⟩,.bool sl,.int .u64 d1,.int .u64 d2,.slice a xs.length c] 43 w0):=hid (by rw [hw0]; exact BK.new _ _ _)
 have HB0:=hid hb0
 have HCS:=hid (HSM.out w0 hb0)
 have HA0:=hid (HAW.out w0)
 rw [hw0] at HCS HA0
 have HW0:=hid hw0
 obtain ⟨b,hbs⟩:∃ b,b=smallS xs []:=⟨_,rfl⟩
 have HBS:=hid hbs
 rw [<-hbs] at HCS
 simp only [List.length_nil] at HCS
 have hsl:∀ T,(sealS T).length=T.length + 16:=fun T=>by unfold sealS; rw [List.length_append,beD_length]
 have HSL:=hid hsl
 have HPO:Hid (Its w.heap.size w a xs/\∀ x ∈ xs,OkD x.d):=hid ⟨hpo.its,fun x hx=>(hpo.dat x hx).1⟩
 obtain ⟨n,hn⟩:∃ n,n=xs.length:=⟨_,rfl⟩
 rw [<-hn] at HCS HA0 HW0 HX0 HFI HUN
 rw [<-hn]
 have HNX:=hid hn
 clear hn
 clear hw0 hb0 hse hci hbs hpo hok hsl HSM HPR
 by_cases hgt:(1500:Int) < (s.length:Int)
 ·clear HCS HSE HEN HFI HUN HTL HBS HSL
  go_enter Tryz.func9,Tryz.ntmps9
  go_wp2_with fail
  (with_reducible refine (HA0.out).mono ?_)
  rintro e u ⟨rfl,hb⟩
  rw [<-HW0.out] at hb
  have HB1:=hid (HB0.out.trans (hb.mono HB0.out.size))
  clear hb
  go_wp2_with fail
  go_ret
  exact ⟨rfl,HB1.out⟩
 have HLE:Hid (s.length<=1500):=hid (by omega)
 cases b with
 | false=>
  clear HSE HEN HFI HUN HTL HBS HSL HA0
  go_enter Tryz.func9,Tryz.ntmps9
  go_wp2_with fail
  (with_reducible refine (HCS.out).mono ?_)
  rintro e u ⟨rfl,hb⟩
  rw [<-HW0.out] at hb
  have HB1:=hid (HB0.out.trans (hb.mono HB0.out.size))
  have HC:=hid (HAW.out u)
  clear hb HCS
  go_wp2_with fail
  (with_reducible refine (HC.out).mono ?_)
  rintro e u2 ⟨rfl,hb⟩
  have HB2:=hid (HB1.out.trans (hb.mono HB1.out.size))
  clear hb HC
  go_wp2_with fail
  go_ret
  exact ⟨rfl,HB2.out⟩
 | true=>
 clear HA0
 go_enter Tryz.func9,Tryz.ntmps9
 go_wp2_with fail
 (with_reducible refine (HCS.out).mono ?_)
 rintro e u ⟨rfl,hb⟩
 rw [<-HW0.out] at hb
 have HB1:=hid (HB0.out.trans (hb.mono HB0.out.size))
 have HX1:=hid (HX0.out.below hb)
 clear hb HCS HW0 HB0 HX0
 obtain ⟨f0,f1,f2,f3,f4⟩:=BK.c5 (show BK _ #[.string ⟨s.toArray⟩,.bool sl,.int .u64 d1,.int .u64 d2,.slice a n c] _ _ from HX1.out)
 obtain ⟨zs,hzs⟩:∃ z,z=Value.string ⟨s.toArray⟩:=⟨_,rfl⟩
 obtain ⟨z,hz⟩:∃ z,z=Value.bool sl:=⟨_,rfl⟩
 rw [<-hz,<-hzs] at HX1
 clear hz hzs hgt hln hsz
 go_upto_if 31 with (fail)
 go_cut [3] from 30 (fun v wx=>∃ T:List UInt8,v = .string ⟨T.toArray⟩/\Hid ((T.length:Int)<=70368744177664)/\Hid (Below w.heap.size w wx)/\Hid (BK w.heap.size #[zs,z,.int .u64 d1,.int .u64 d2,.slice a n c] 43 wx))
 case first=>
  have HT0:Hid ((s.length:Int)<=70368744177664):=hid (by have:=HLE.out; omega)
  have HTS:Hid (((sealS s).length:Int)<=70368744177664):=hid (by have:=HLE.out; have:=HSL.out s; omega)
  have HSC:=hid (HSE.out u HLE.out)
  clear HSE HEN HFI HUN HTL
  cases sl
  ·go_wp2_with fail
   go_meet
   case rel=>exact ⟨s,rfl,HT0,HB1,HX1⟩
  ·go_wp2_with fail
   (with_reducible refine (HSC.out).mono ?_)
   rintro e v ⟨rfl,hb⟩
   have HB2:=hid (HB1.out.trans (hb.mono HB1.out.size))
   have HX2:=hid (HX1.out.below hb)
   go_wp2_with fail
   go_meet
   case rel=>exact ⟨sealS s,rfl,HTS,HB2,HX2⟩
 case rest=>
  obtain ⟨T,rfl,HT,HB1,HX1⟩:=hcut
  clear HSE HLE HSL f0 f1 f2 f3 f4
  generalize wc=v at HB1 HX1 ⊢
  obtain ⟨f0,f1,f2,f3,f4⟩:=BK.c5 (show BK _ #[zs,z,.int .u64 d1,.int .u64 d2,.slice a n c] _ _ from HX1.out)
  clear f0 f1 f2 f3
  go_wp2_with fail
  have HCU:=hid (HUN.out T v HT.out HB1.out HBS.out.symm)
  unfold GotPE at HCU
  obtain ⟨U,hU⟩:∃ U,U=unpackS T xs:=⟨_,rfl⟩
  rw [<-hU] at HCU
  obtain ⟨Q,er⟩:=U
  have HUQ:=hid hU.symm
  clear hU HUN
  simp only at HCU
  by_cases h0:er=0
  ·subst h0
   have HTR:=hid (HTL.out T Q HBS.out.symm HUQ.out)
   (with_reducible refine (HCU.out).mono ?_)
   rintro e v1 ⟨qa,qc,rfl,hits,hcap,hfr,hb⟩
   have HQI:=hid hits
   have HX2:=hid (HX1.out.below hb)
   have HB2:=hid (HB1.out.trans (hb.mono HB1.out.size))
   have HCE:=hid (HEN.out T v1 HT.out)
   unfold GotE at HCE
   rw [HTR.out.ent] at HCE
   have HLL:Hid ((entriesS T).1.length<=1000):=hid (ent_le T)
   obtain ⟨L,hL⟩:∃ L,L=(entriesS T).1:=⟨_,rfl⟩
   rw [<-hL] at HCE HLL
   have HL:=hid hL
   clear hits hfr hb HCU HUQ HTL HEN HB1 HX1 f4 hL
   go_wp2_with fail
   (with_reducible refine (HCE.out).mono ?_)
   rintro e v2 ⟨ea,ec,rfl,hg,hb⟩
   have HG:=hid hg
   have HQ2:=hid (HQI.out.ahead hb)
   have HX3:=hid (HX2.out.below hb)
   have HB3:=hid (HB2.out.trans (hb.mono HB2.out.size))
   clear hg hb HCE HQI HX2 HB2
   have HQL:Hid (Q.length<=1040):=hid (by
    have h1:=HTR.out.len
    have h2:=HLL.out
    rw [HL.out] at h2
    have h3:=small_le HBS.out.symm
    omega)
   have HPQ:Hid (∀ W,Below v2.heap.size v2 W->PoolIn W qa Q qc):=hid (fun W hW=>⟨HQ2.out.ahead hW,hcap,by have:=HQL.out; omega,fun x hx=>by have:=chk_len ((checkP_zero HTR.out.chk).1 x hx); omega⟩)
   have HCC:=hid (pcheck_any qa Q qc v2 (HPQ.out v2 (Below.refl _ _)))
   rw [HTR.out.chk] at HCC
   go_wp2_with fail
   (with_reducible refine (HCC.out).mono ?_)
   rintro e v3 ⟨rfl,hb⟩
   have HB4:=hid (HB3.out.trans (hb.mono HB3.out.size))
   have HX4:=hid (HX3.out.below hb)
   have HG2:=hid (HG.out.ahead hb)
   have HBV:=hid hb
   obtain ⟨v4,hv4⟩:∃ v4,v4=v3.alloc (.cells #[] 41):=⟨_,rfl⟩
   have hb4:Below v3.heap.size v3 v4:=by rw [hv4]; exact (Below.refl _ _).alloc (Nat.le_refl _) _
   have HO0:Hid (v4.ownsRow v3.heap.size 41 2 (.slice (some ⟨v3.heap.size,0,none⟩) 0 0) 0 []):=hid (by rw [hv4]; exact World.ownsRow_made (size:=2) v3 #[] 0 (Nat.le_refl _) (by decide) rfl)
   have HX5:=hid (HX4.out.below hb4)
   have HBB:=hid hb4
   obtain ⟨g0,g1,g2,g3,g4⟩:=BK.c5 (show BK _ #[zs,z,.int .u64 d1,.int .u64 d2,.slice a n c] _ _ from HX5.out)
   have HN40:Hid (n<=40):=hid (by have:=small_le HBS.out.symm; have:=HNX.out; omega)
   rw [hv4] at g0 g1 g2 g3 g4 HO0 HBB
   clear hb hcap HCC HX3 HG HB3 hb4 hv4 HX5
   go_wp2_with fail
   clear g0 g1 g2 g3 g4
   obtain ⟨nq,hnq⟩:∃ nq,nq=Q.length:=⟨_,rfl⟩
   obtain ⟨nl,hnl⟩:∃ nl,nl=L.length:=⟨_,rfl⟩
   rw [<-hnq,<-hnl]
   have HNQ:=hid hnq
   have HNLL:=hid hnl
   clear hnq hnl
   go_loopw [8,65] (fun v i wr=>∃ k:Nat,k<=n/\i = .int .i64 (k:Int)/\Hid (wr.ownsRow v3.heap.size 41 2 v k (dcells ((xs.take k).map (·.d))))/\Hid (Below v3.heap.size v3 wr)) (fun _ i _=>n - (intOf i).toNat)
   case atStart=>exact ⟨0,by omega,rfl,HO0,HBB⟩
   case round=>
    clear HO0 HBB
    obtain ⟨k,hk,rfl,HO,HB⟩:=hrel
    obtain ⟨va,vc,rfl,hvc⟩:=ownsRow_sliceN HO.out
    have hkb:(k:Int)<=40:=by have:=HN40.out; omega
    by_cases hlt:k < n
    ·have hki:(k:Int) < (n:Int):=by omega
     have hkx:k < xs.length:=by rw [<-HNX.out]; exact hlt
     have HBW:=hid (HB4.out.trans (HB.out.mono HB4.out.size))
     obtain ⟨bk,off,hek,hblt,q0,q1,q2⟩:=(HPO.out.1.ahead HBW.out) k hkx
     have HTK:Hid ((xs.take k).map (·.d) ++ [xs[k].d]=(xs.take (k + 1)).map (·.d)):=hid (by rw [List.take_succ_eq_append_getElem hkx,List.map_append]; rfl)
     have hkl:k=((xs.take k).map (·.d)).length:=by rw [List.length_map,List.length_take]; omega
     generalize xs[k]=x at q0 q1 q2 HTK
     obtain ⟨⟨y1,y2⟩,dt⟩:=x
     simp only at q0 q1 q2 HTK
     rw [hek]
     have ho1:=HO.out.alloc (.cells #[.int .u64 y1,.int .u64 y2,.string ⟨dt.toArray⟩] 63)
     have hb1:=(HB.out.alloc HB.out.size (.cells #[.int .u64 y1,.int .u64 y2,.string ⟨dt.toArray⟩] 63))
     obtain ⟨l,hl⟩:∃ l,l=(xs.take k).map (·.d):=⟨_,rfl⟩
     rw [<-hl] at ho1 HTK hkl
     have ho2:=ho1
     rw [hkl] at ho2
     obtain ⟨v',W',hrun,hown',hg',_⟩:=append_one ho2 y1 y2 (by have:=HN40.out; omega) hb1.size
     rw [<-hkl] at hrun hg'
     have HRUN:=hid hrun
     have HB2:=hid (below_own (hb1.alloc hb1.size _) (ho1.alloc (.cells #[.int .u64 y1,.int .u64 y2] 41)) hg' (Nat.le_refl _))
     rw [List.length_append,List.length_singleton,<-hkl,HTK.out] at hown'
     have HO2:=hid hown'
     simp only [World.size_alloc] at HRUN
     clear hl ho1 ho2 hb1 hkl hrun hown' hg' hkx HTK HBW HO HB HPQ
     go_wp2_with (at_builtin; refine Lib.wpList_append_run _ rfl _ _ _ _ rfl _ _ rfl rfl _ _ HRUN.out ?_)
     go_roundw
     case rel=>exact ⟨k + 1,by omega,by go_num,HO2,HB2⟩
     case measure=>simp [intOf] <;> omega
    ·obtain rfl:k=n:=by omega
     have hkn:¬ (k:Int) < (k:Int):=by omega
     have hta:(xs.take k).map (·.d)=xs.map (·.d):=by rw [List.take_of_length_le (by rw [<-HNX.out]; exact Nat.le_refl _)]
     rw [hta] at HO
     obtain ⟨A0,hA0⟩:∃ A0,A0=xs.map (·.d):=⟨_,rfl⟩
     rw [<-hA0] at HO
     have HA0:=hid hA0
     have HAL:Hid (A0.length=k):=hid (by rw [hA0,List.length_map,<-HNX.out])
     have HO1:Hid (wr.ownsRow v3.heap.size 41 2 (.slice va k vc) (k + 0) (dcells (A0 ++ (L.take 0).map (·.d)))):=hid (by rw [List.take_zero,List.map_nil,List.append_nil]; exact HO.out)
     have HBX:=HB
     clear hta hA0 HO hkb
     go_wp2_with fail
     go_loopw [8,77] (fun v i wr=>∃ j:Nat,j<=nl/\i = .int .i64 (j:Int)/\Hid (wr.ownsRow v3.heap.size 41 2 v (k + j) (dcells (A0 ++ (L.take j).map (·.d))))/\Hid (Below v3.heap.size v3 wr)) (fun _ i _=>nl - (intOf i).toNat)
     case atStart=>exact ⟨0,by omega,rfl,HO1,HBX⟩
     case round=>
      clear HO1 HB HBX
      obtain ⟨j,hj,rfl,HO,HB⟩:=hrel
      obtain ⟨nj,hnj⟩:∃ nj,nj=k + j:=⟨_,rfl⟩
      rw [<-hnj] at HO
      have HNJ:=hid hnj
      have hnjb:(nj:Int)<=1000000:=by have:=HLL.out; have:=HNLL.out; have:=HN40.out; omega
      clear hnj
      obtain ⟨va,vc,rfl,hvc⟩:=ownsRow_sliceN HO.out
      have HBW:=hid (HB4.out.trans (HB.out.mono HB4.out.size))
      have hjb:(j:Int)<=1000:=by have:=HLL.out; have:=HNLL.out; omega
      have hxw:=HX4.out.below HB.out
      have HGW:=hid (HG2.out.ahead HB.out)
      have HQW:=hid (HPQ.out wr ((HBV.out).trans (HB.out.mono HBV.out.size)))
      by_cases hlt:j < nl
      ·have hji:(j:Int) < (nl:Int):=by omega
       have hjl:j < L.length:=by rw [<-HNLL.out]; exact hlt
       obtain ⟨bl,ofl,hel,hblt,q0,q1,q2,q3,q4,q5,q6⟩:=pe_cells HGW.out hjl
       have hmem:L[j] ∈ (entriesS T).1:=by rw [<-HL.out]; exact List.getElem_mem hjl
       have HFN:=hid (HTR.out.fnd _ hmem)
       obtain ⟨kk,hkk⟩:=(entriesS_ok (s:=T) (l:=(entriesS T).1) (Prod.ext rfl HTR.out.ent)).1.at_ _ hmem
       have hdo:=(entryS_at hkk).1.dok
       have HTK:Hid (A0 ++ (L.take j).map (·.d) ++ [L[j].d]=A0 ++ (L.take (j + 1)).map (·.d)):=hid (by rw [List.take_succ_eq_append_getElem hjl,List.map_append,List.append_assoc]; rfl)
       have hkl:nj=(A0 ++ (L.take j).map (·.d)).length:=by rw [List.length_append,List.length_map,List.length_take,HAL.out,HNJ.out]; omega
       have HKL:=hid hkl
       clear hkl
       obtain ⟨w1,hw1⟩:∃ w1,w1=wr.alloc (.cells (peCs L[j]).toArray 53):=⟨_,rfl⟩
       have hb1:Below wr.heap.size wr w1:=by rw [hw1]; exact (Below.refl _ _).alloc (Nat.le_refl _) _
       have hbe:BK wr.heap.size (peCs L[j]).toArray 53 w1:=by rw [hw1]; exact BK.new _ _ _
       generalize L[j]=x at *
       obtain ⟨⟨y1,y2⟩,kd,⟨b1,b2⟩,eo,el⟩:=x
       simp only [peCs] at q0 q1 q2 q3 q4 q5 q6 hw1 hbe HFN HTK hdo
       rw [hel]
       have hfe:=HFN.out
       obtain ⟨tx,fe,hft⟩:∃ tx fe,findP T xs (y1,y2)=(tx,fe):=⟨_,_,rfl⟩
       have hfc:=HFI.out T w1 y1 y2 HT.out (HBW.out.trans (hb1.mono HBW.out.size)) HBS.out.symm hdo
       rw [hft] at hfc hfe
       simp only at hfc hfe
       obtain ⟨rfl,htne,hmq⟩:=hfe
       have htl:((tx.length:Int) == 0)=false:=by
        simp only [beq_eq_false_iff_ne,ne_eq]
        have:=List.length_pos_iff.2 htne
        omega
       have hhs:=has_of HTR.out.asc hmq
       have HXB:=hid (hxw.below hb1)
       have HEB:=hid hbe
       have HBD:=hid (HB.out.trans (hb1.mono HB.out.size))
       have HOB:=hid (own_below HO.out hb1)
       have HQB:=hid (HQW.out.below hb1)
       have HGB:=hid (HGW.out.ahead hb1)
       obtain ⟨g0,g1,g2,g3,g4⟩:=BK.c5 (show BK _ #[zs,z,.int .u64 d1,.int .u64 d2,.slice a k c] _ _ from HXB.out)
       obtain ⟨e0,e1,e2,e3,e4,e5,e6⟩:=BK.c7 (show BK _ #[.int .u64 y1,.int .u64 y2,.int .i64 kd,.int .u64 b1,.int .u64 b2,.int .i64 (eo:Int),.int .i64 (el:Int)] _ _ from HEB.out)
       rw [hw1] at g4 e0 e1 hfc
       have HFC:=hid hfc
       have HW1:=hid hw1
       clear hw1 hfc hft htne hmq hbe hb1 hmem hkk hdo hjl hxw HO HGW HQW g0 g1 g2 g3 e2 e3 e4 e5 e6 HFN hblt
       go_wp2_with fail
       clear q0 q1 q2 q3 q4 q5 q6 g4 e0 e1
       (with_reducible refine (HFC.out).mono ?_)
       rintro e w2 ⟨rfl,hb⟩
       rw [<-HW1.out] at hb
       have HX2:=hid (HXB.out.below hb)
       have HE2:=HEB.out.below hb
       have HB2:=hid (HBD.out.trans (hb.mono HBD.out.size))
       have HO2:=hid (own_below HOB.out hb)
       have HQ2':=HQB.out.below hb
       have HG2':=hid (HGB.out.ahead hb)
       obtain ⟨e0,e1,e2,e3,e4,e5,e6⟩:=BK.c7 (show BK _ #[.int .u64 y1,.int .u64 y2,.int .i64 kd,.int .u64 b1,.int .u64 b2,.int .i64 (eo:Int),.int .i64 (el:Int)] _ _ from HE2)
       have hhc:=has_any qa Q qc y1 y2 w2 HQ2' HTR.out.asc
       rw [hhs,<-HNQ.out] at hhc
       have HHC:=hid hhc
       have hlt2:=ba_len tx
       have HE2:=hid HE2
       clear hb hhs hhc HFC HW1 HXB HEB HBD HOB HQB HGB e2 e3 e4 e5 e6
       go_wp2_with fail
       (with_reducible refine (HHC.out).mono ?_)
       rintro e w3 ⟨rfl,hb⟩
       have HE3:=HE2.out.below hb
       have HB3:=HB2.out.trans (hb.mono HB2.out.size)
       have HO3:=own_below HO2.out hb
       have HG3:=hid (HG2'.out.ahead hb)
       clear e0 e1
       obtain ⟨e0,e1,e2,e3,e4,e5,e6⟩:=BK.c7 (show BK _ #[.int .u64 y1,.int .u64 y2,.int .i64 kd,.int .u64 b1,.int .u64 b2,.int .i64 (eo:Int),.int .i64 (el:Int)] _ _ from HE3)
       obtain ⟨l,hl⟩:∃ l,l=A0 ++ (L.take j).map (·.d):=⟨_,rfl⟩
       have hkl:=HKL.out
       rw [<-hl] at HO3 HTK hkl
       have ho2:=HO3
       rw [hkl] at ho2
       obtain ⟨v',W',hrun,hown',hg',_⟩:=append_one ho2 y1 y2 (by rw [<-hkl]; exact hnjb) HB3.size
       rw [<-hkl] at hrun hg'
       have HRUN:=hid hrun
       have HB9:=hid (below_own (HB3.alloc HB3.size _) (HO3.alloc (.cells #[.int .u64 y1,.int .u64 y2] 41)) hg' (Nat.le_refl _))
       rw [List.length_append,List.length_singleton,<-hkl,HTK.out] at hown'
       have HO9:Hid (W'.ownsRow v3.heap.size 41 2 v' (k + (j + 1)) (dcells (A0 ++ (L.take (j + 1)).map (·.d)))):=hid (by rw [show k + (j + 1)=nj + 1 by rw [HNJ.out]; omega]; exact hown')
       clear hl ho2 hkl HKL hrun hown' hg' HTK hb HB3 HO3 HE3 HHC HE2 HB2 HO2 HQ2' HG2' HX2 e2 e3 e4 e5 e6 hlt2 HG3
       go_wp2_with (at_builtin; refine Lib.wpList_append_run _ rfl _ _ _ _ rfl _ _ rfl rfl _ _ HRUN.out ?_)
       go_roundw
       case rel=>exact ⟨j + 1,by omega,by go_num,HO9,HB9⟩
       case measure=>simp [intOf] <;> omega
      ·obtain rfl:j=nl:=by omega
       have hkn:¬ (j:Int) < (j:Int):=by omega
       have hta:(L.take j).map (·.d)=L.map (·.d):=by rw [List.take_of_length_le (by rw [<-HNLL.out]; exact Nat.le_refl _)]
       rw [hta] at HO
       obtain ⟨AL,hAL⟩:∃ AL,AL=A0 ++ L.map (·.d):=⟨_,rfl⟩
       rw [<-hAL] at HO
       have hall:∀ y ∈ Q,y.d ∈ AL:=fun y hy=>by
        rw [hAL,HA0.out,HL.out]
        exact HTR.out.all y hy
       have HALL:=hid hall
       have hln:AL.length=nj:=by rw [hAL,List.length_append,List.length_map,HAL.out,HNJ.out,HNLL.out]
       have HLN:=hid hln
       have htk:AL.take k=A0:=by rw [hAL,<-HAL.out,List.take_left]
       have HTKA:=hid htk
       have HDA:Hid (∀ W,Below wr.heap.size wr W->Digs W.heap.size W va AL):=hid (fun W hW=>(own_digs hln.symm HO.out).ahead hW)
       have HBZ:=hid (Below.refl wr.heap.size wr)
       clear hta hAL hall hln htk hxw HGW
       go_wp2_with fail
       generalize hx0:wr=x0 at HO HB HBW HQW HDA HBZ ⊢
       clear hx0
       go_loopw [112] (fun i W'=>∃ p:Nat,p<=nq/\i = .int .i64 (p:Int)/\Hid (Below x0.heap.size x0 W')) (fun i _=>nq - (intOf i).toNat)
       case atStart=>exact ⟨0,by omega,rfl,HBZ⟩
       case round=>
        clear HBZ
        obtain ⟨p,hp,rfl,HBP⟩:=hrel
        have hpb:(p:Int)<=1040:=by have:=HQL.out; have:=HNQ.out; omega
        have HBPW:=hid (HBW.out.trans (HBP.out.mono HBW.out.size))
        have hqp:=HQW.out.below HBP.out
        by_cases hlt:p < nq
        ·have hpi:(p:Int) < (nq:Int):=by omega
         have hpl:p < Q.length:=by rw [<-HNQ.out]; exact hlt
         obtain ⟨bk,off,heq,hblt,q0,q1,q2⟩:=hqp.its p hpl
         have hin:=HALL.out _ (List.getElem_mem hpl)
         obtain ⟨w1,hw1⟩:∃ w1,w1=wr.alloc (.cells #[.int .u64 Q[p].d.1,.int .u64 Q[p].d.2,.string ⟨Q[p].data.toArray⟩] 63):=⟨_,rfl⟩
         have hb1:Below wr.heap.size wr w1:=by rw [hw1]; exact (Below.refl _ _).alloc (Nat.le_refl _) _
         have hbe:BK wr.heap.size #[.int .u64 Q[p].d.1,.int .u64 Q[p].d.2,.string ⟨Q[p].data.toArray⟩] 63 w1:=by rw [hw1]; exact BK.new _ _ _
         generalize Q[p]=x at *
         obtain ⟨⟨y1,y2⟩,dt⟩:=x
         simp only at q0 q1 q2 hin hw1 hbe
         have hrc:=rin_any va AL vc y1 y2 w1 (HDA.out w1 (HBP.out.trans (hb1.mono HBP.out.size))) (by rw [HLN.out]; have:=HN40.out; omega)
         rw [decide_eq_true hin,HLN.out] at hrc
         obtain ⟨e0,e1,e2⟩:=BK.c3 (show BK _ #[.int .u64 y1,.int .u64 y2,.string ⟨dt.toArray⟩] _ _ from hbe)
         have HBP1:=hid (HBP.out.trans (hb1.mono HBP.out.size))
         rw [hw1] at e0 e1 hrc
         have HRC:=hid hrc
         have HW1:=hid hw1
         rw [heq]
         clear hw1 hb1 hbe hrc hin hpl hqp e2 hblt HBP
         go_wp2_with fail
         (with_reducible refine (HRC.out).mono ?_)
         rintro e w2 ⟨rfl,hb⟩
         rw [<-HW1.out] at hb
         have HBP2:=hid (HBP1.out.trans (hb.mono HBP1.out.size))
         clear hb HRC HW1 HBP1 e0 e1 q0 q1 q2
         go_wp2_with fail
         go_roundw
         case rel=>exact ⟨p + 1,by omega,by go_num,HBP2⟩
         case measure=>simp [intOf] <;> omega
        ·obtain rfl:p=nq:=by omega
         have hkn:¬ (p:Int) < (p:Int):=by omega
         have HQP:=hid hqp
         have hgx:=HX4.out.below (HB.out.trans (HBP.out.mono HB.out.size))
         obtain ⟨g0,g1,g2,g3,g4⟩:=BK.c5 (show BK _ #[zs,z,.int .u64 d1,.int .u64 d2,.slice a k c] _ _ from hgx)
         have HXS:Hid (∀ W,Below wr.heap.size wr W->W.cell? ⟨w.heap.size,4,none⟩=some (.slice a k c)):=hid (fun W hW=>by rw [(hgx.below hW).cell]; rfl)
         clear hqp hgx g0 g1 g2 g3 g4
         obtain ⟨B1,bc1,hB1,hs1⟩:=dslice_hi va nj vc k (by have:=HNJ.out; omega)
         have hkc:(k:Int)<=(vc:Int):=by have:=HNJ.out; omega
         have hda:=fun W (hW:Below wr.heap.size wr W)=>(show Digs W.heap.size W B1 A0 from by
          have h:=hB1 _ _ _ (HDA.out W (HBP.out.trans (hW.mono HBP.out.size)))
          rwa [HTKA.out] at h)
         have HKC:=hid (fun W (hW:Below wr.heap.size wr W)=>(show Calls Tryz.prog 21 #[.slice qa p qc,.slice B1 k bc1] W (GotP W none xs) from by
          have h:=keep_any qa Q qc B1 A0 bc1 W (HQP.out.below hW) (hda W hW) (fun d hd=>by
           rw [HA0.out] at hd
           obtain ⟨x,hx,rfl⟩:=List.mem_map.1 hd
           exact HPO.out.2 x hx) (fun x hx=>chk_ok ((checkP_zero HTR.out.chk).1 x hx)) (by rw [HAL.out]; have:=HN40.out; omega)
          rw [HAL.out,<-HNQ.out,HA0.out,HTR.out.keep] at h
          exact h))
         have HSC:=hid (fun W ra rc (hW:Below wr.heap.size wr W) (hr:Its W.heap.size W ra xs)=>(show Calls Tryz.prog 22 #[.slice ra k rc,.slice a k c] W (fun e w'=>e = .returned (.bool true)/\Below W.heap.size W w') from by
          have h:=same_any ra a xs xs rc c W hr (HPO.out.1.ahead (HBPW.out.trans (hW.mono HBPW.out.size))) (by rw [<-HNX.out]; have:=HN40.out; omega) (by rw [<-HNX.out]; have:=HN40.out; omega)
          rw [decide_eq_true rfl,<-HNX.out] at h
          exact h))
         clear hda hB1
         have hs0:=HXS.out wr.drew ((Below.refl _ _).drew)
         have HKD:=hid (HKC.out wr.drew ((Below.refl _ _).drew))
         unfold GotP at HKD
         rw [<-HNX.out] at HKD
         go_wp2_with fail
         refine wp_region_held_drew (S:=(fun W=>W.cell? ⟨w.heap.size,4,none⟩=some (.slice a k c))) (by kernel_rfl) hs0 (fun hHeld=>?_)
         refine wpAnyH_take (i:=0) (v:=?vv1) rfl (by kernel_rfl) (by kernel_rfl) (by kernel_rfl) (fun _ _ _ h=>h) (Or.inl ⟨by rfl,?hy1⟩) (by assumption) ?rest1
         case hy1=>(intro wx hSw; (try dsimp only at hSw); go_simp; try (with_reducible rfl))
         simp only [Act.put,zA,zC,zD,zE,zF]
         refine wpAnyH_take (i:=1) (v:=?vv2) rfl (by kernel_rfl) (by kernel_rfl) (by kernel_rfl) (fun _ _ _ h=>h) (Or.inl ⟨by rfl,?hy2⟩) (by assumption) ?rest2
         case hy2=>(intro wx hSw; (try dsimp only at hSw); go_simp; try (with_reducible rfl))
         simp only [Act.put,zA,zB,zC,zD,zE,zF]
         refine wpAnyH_take (i:=2) (v:=?vv3) rfl (by kernel_rfl) (by kernel_rfl) (by kernel_rfl) (fun _ _ _ h=>h) (Or.inl ⟨by rfl,?hy3⟩) (by assumption) ?rest3
         case hy3=>(intro wx hSw; (try dsimp only at hSw); go_simp; try (with_reducible rfl))
         simp only [Act.put,zA,zB,zC,zD,zE,zF]
         refine wpAnyH_take (i:=3) (v:=?vv4) rfl (by kernel_rfl) (by kernel_rfl) (by kernel_rfl) (fun _ _ _ h=>h) (Or.inl ⟨by rfl,?hy4⟩) (by assumption) ?rest4
         case hy4=>(intro wx hSw; (try dsimp only at hSw); go_simp; try (with_reducible rfl))
         simp only [Act.put,zA,zB,zC,zD,zE,zF]
         refine wpAnyH_take (i:=4) (v:=?vv5) rfl (by kernel_rfl) (by kernel_rfl) (by kernel_rfl) (fun _ _ _ h=>h) (Or.inl ⟨by rfl,?hy5⟩) (by assumption) ?rest5
         case hy5=>(intro wx hSw; (try dsimp only at hSw); go_simp; try (with_reducible rfl))
         simp only [Act.put,zA,zB,zC,zD,zE,zF]
         refine wpAnyH_take (i:=5) (v:=?vv6) rfl (by kernel_rfl) (by kernel_rfl) (by kernel_rfl) (fun _ _ _ h=>h) (Or.inl ⟨by rfl,?hy6⟩) (by assumption) ?rest6
         case hy6=>(intro wx hSw; (try dsimp only at hSw); go_simp; try (with_reducible rfl))
         simp only [Act.put,zA,zB,zC,zD,zE,zF]
         refine wpAnyH_take (i:=7) (v:=?vv7) rfl (by kernel_rfl) (by kernel_rfl) (by kernel_rfl) (fun _ _ _ h=>h) (Or.inl ⟨by rfl,?hy7⟩) (by assumption) ?rest7
         case hy7=>(intro wx hSw; (try dsimp only at hSw); go_simp; try (with_reducible rfl))
         simp only [Act.put,zA,zB,zC,zD,zE,zF]
         refine wpAnyH_take (i:=8) (v:=?vv8) rfl (by kernel_rfl) (by kernel_rfl) (by kernel_rfl) (fun _ _ _ h=>h) (Or.inl ⟨by rfl,?hy8⟩) (by assumption) ?rest8
         case hy8=>(intro wx hSw; (try dsimp only at hSw); go_simp; try (with_reducible rfl))
         simp only [Act.put,zA,zB,zC,zD,zE,zF]
         refine wpAnyH_ready (rs:=[6]) (by kernel_rfl) (by simp) ?_
         refine AllReadyH.cons rfl (fun K hK=>?_) AllReadyH.nil
         go_simp
         (with_reducible refine (HKD.out).mono ?_)
         rintro e u2 ⟨ra,rc,rfl,hi,_,_,hb⟩
         have hb2:Below wr.heap.size wr u2:=((Below.refl _ wr).drew).trans (hb.mono (Nat.le_refl _))
         have HSD:=hid (HSC.out u2 ra rc hb2 hi)
         refine hK.out _ _ (HXS.out _ hb2) (fun hHeld=>?_)
         clear hK K
         refine wpAnyH_ready (rs:=[9]) (by kernel_rfl) (by simp) ?_
         refine AllReadyH.cons rfl (fun K hK=>?_) AllReadyH.nil
         go_simp
         (with_reducible refine (HSD.out).mono ?_)
         rintro e u3 ⟨rfl,hb⟩
         have hb3:Below wr.heap.size wr u3:=hb2.trans (hb.mono hb2.size)
         refine hK.out _ _ (HXS.out _ hb3) (fun hHeld=>?_)
         clear hK K
         refine wpAnyH_take (i:=10) (v:=?vv9) rfl (by kernel_rfl) (by kernel_rfl) (by kernel_rfl) (fun _ _ _ h=>h) (Or.inl ⟨by rfl,?hy9⟩) (by assumption) ?rest9
         case hy9=>(intro wx hSw; (try dsimp only at hSw); go_simp; try (with_reducible rfl))
         simp only [Act.put,zA,zB,zC,zD,zE,zF]
         refine wpAnyH_ready (rs:=[11]) (by kernel_rfl) (by simp) ?_
         refine AllReadyH.cons rfl (fun K hK=>?_) AllReadyH.nil
         go_simp
         (with_reducible refine (HAW.out u3).mono ?_)
         rintro e u4 ⟨rfl,hb⟩
         have hb4:Below wr.heap.size wr u4:=hb3.trans (hb.mono hb3.size)
         refine hK.out _ _ (HXS.out _ hb4) (fun hHeld=>?_)
         clear hK K
         refine wpAnyH_take (i:=12) (v:=?vv10) rfl (by kernel_rfl) (by kernel_rfl) (by kernel_rfl) (fun _ _ _ h=>h) (Or.inl ⟨by rfl,?hy10⟩) (by assumption) ?rest10
         case hy10=>(intro wx hSw; (try dsimp only at hSw); go_simp; try (with_reducible rfl))
         simp only [Act.put,zA,zB,zC,zD,zE,zF]
         refine wpAnyH_take (i:=13) (v:=?vv11) rfl (by kernel_rfl) (by kernel_rfl) (by kernel_rfl) (fun _ _ _ h=>h) (Or.inl ⟨by rfl,?hy11⟩) (by assumption) ?rest11
         case hy11=>(intro wx hSw; (try dsimp only at hSw); go_simp; try (with_reducible rfl))
         simp only [Act.put,zA,zB,zC,zD,zE,zF]
         refine wpAnyH_done (by kernel_rfl) ?_ _
         go_wp2_with fail
         go_ret
         exact ⟨rfl,HBPW.out.trans (hb4.mono HBPW.out.size)⟩
  ·have hbq:(er != 0)=true:=by simpa using h0
   have HQN:Hid (Q.length=0):=hid (by
    have:=unpackS_bad (s:=T) (xs:=xs) (by rw [HUQ.out]; exact h0)
    rw [HUQ.out] at this
    simp only at this
    rw [this]; rfl)
   rw [HQN.out] at HCU
   clear h0 HQN HUQ HTL HFI HEN
   (with_reducible refine (HCU.out).mono ?_)
   rintro e v1 ⟨qa,qc,rfl,hits,hcap,hfr,hb⟩
   have HB2:=hid (HB1.out.trans (hb.mono HB1.out.size))
   have HC2:=hid (HAW.out v1)
   clear hits hcap hfr hb HCU HB1 HX1 f4
   go_wp2_with fail
   (with_reducible refine (HC2.out).mono ?_)
   rintro e v2 ⟨rfl,hb⟩
   have HB3:=hid (HB2.out.trans (hb.mono HB2.out.size))
   clear hb HC2 HB2
   go_wp2_with fail
   go_ret
   exact ⟨rfl,HB3.out⟩
end Go.Proofs.YtijkieiihpiljaaGreat.packTrust
