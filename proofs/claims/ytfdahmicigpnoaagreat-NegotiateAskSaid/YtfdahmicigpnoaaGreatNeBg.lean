/- negotiate.Begin. -/
import Derived.Test.YtfdahmicigpnoaaGreatNeBx
set_option maxRecDepth 100000
set_option maxHeartbeats 16000000
open Go.Lib (hid)
namespace Go.Proofs.YtfdahmicigpnoaaGreat
open Go.RowKit Go.Shelf
set_option linter.unusedVariables false
theorem begin_any (a:Option Addr) (xs:List Itm) (c:Nat) (ha:Option Addr) (heads:List (Int × Int)) (hc:Nat) (wa:Option Addr) (want:List (Int × Int)) (wc:Nat) (w:World) (hp:PoolIn w a xs c) (hA:Asc xs) (hac:AcyS xs) (hxl:(xs.length:Int)<=500) (hh:Digs w.heap.size w ha heads) (hho:∀ d ∈ heads,OkD d) (hhl:(heads.length:Int)<=10000) (hw:Digs w.heap.size w wa want) (hwl:(want.length:Int)<=10000) :
  Calls Tryz.prog 34 #[.slice a xs.length c,.slice ha heads.length hc,.slice wa want.length wc] w (GotT w none none (beginS xs heads want)):=by
 have HAN:=hid (fun W (hW:Below w.heap.size w W)=>ancestors_any a xs c ha heads hc W (hp.below hW) hA hac (hh.ahead hW) hho hxl hhl)
 have HSD:=hid (fun W (hW:Below w.heap.size w W)=>sortedN_any wa wc want (by omega) W (hw.ahead hW))
 have HHS:=hid (fun p q W (hW:Below w.heap.size w W)=>has_any a xs c p q W (hp.below hW) hA)
 have HWP:=hid (want_prog xs want)
 have hsl:=fold_len want []
 obtain ⟨R,hR⟩:∃ R,R=beginS xs heads want:=⟨_,rfl⟩
 rw [<-hR]
 unfold beginS at hR
 generalize ancS xs heads=AR at HAN hR
 obtain ⟨an,er⟩:=AR
 simp only at HAN hR
 have HR:=hid hR
 generalize want.foldl withS []=s at HSD HWP hsl
 obtain ⟨n,hn⟩:∃ n,n=s.length:=⟨_,rfl⟩
 have hnl:(n:Int)<=10000:=by simp only [List.length_nil] at hsl; omega
 have HN:=hid hn
 obtain ⟨w0,hw0⟩:∃ w0,w0=w.alloc (.cells #[.slice none 0 0,.slice none 0 0,.slice none 0 0,.slice none 0 0,.bool false] 67):=⟨_,rfl⟩
 have HB0:Hid (Below w.heap.size w w0):=hid (by rw [hw0]; exact (Below.refl _ _).alloc (Nat.le_refl _) _)
 have HK0:Hid (BK w.heap.size #[.slice none 0 0,.slice none 0 0,.slice none 0 0,.slice none 0 0,.bool false] 67 w0):=hid (by rw [hw0]; exact BK.new _ _ _)
 have HC1:=hid (HAN.out w0 HB0.out)
 rw [hw0] at HC1
 have HW0:=hid hw0
 have HZ0:Hid (w0.heap.size=w.heap.size + 1):=hid (by rw [hw0]; simp)
 generalize xs.length=nx at HC1 HHS ⊢
 generalize heads.length=nh at HC1 ⊢
 generalize want.length=nw at HSD ⊢
 clear hw0 hn hsl hR hp hA hac hxl hh hho hhl hw hwl HAN
 go_enter Tryz.func34,Tryz.ntmps34
 go_wp2_with fail
 (with_reducible refine (HC1.out).mono ?_)
 rintro e u1 ⟨qa,qc,rfl,hown,hb⟩
 simp only at hown ⊢
 rw [<-HW0.out] at hown hb
 obtain ⟨nq,hnq⟩:∃ n,n=an.length:=⟨_,rfl⟩
 rw [<-hnq] at hown ⊢
 have HNQ:=hid hnq
 have HB1:=hid (HB0.out.trans (hb.mono HB0.out.size))
 have HK1:=hid (HK0.out.below hb)
 have hz1:w.heap.size + 1<=u1.heap.size:=HK1.out.lt
 have HQ1:=hid hown
 have hqc:nq<=qc:=by obtain ⟨_,_,e,h⟩:=ownsRow_sliceN hown; cases e; exact h
 clear hown hb HC1 HW0 HB0 HK0 hnq
 by_cases he:er=0
 ·subst he
  obtain ⟨v1,hv1⟩:∃ v1,v1=u1.alloc (.cells #[.slice none 0 0,.slice none 0 0,.slice none 0 0,.slice none 0 0,.bool false] 67):=⟨_,rfl⟩
  have hbv:Below u1.heap.size u1 v1:=by rw [hv1]; exact (Below.refl _ _).alloc (Nat.le_refl _) _
  have HBv:=hid (HB1.out.trans (hbv.mono HB1.out.size))
  have HKv:=hid (HK1.out.below hbv)
  have HTv:Hid (BK u1.heap.size #[.slice none 0 0,.slice none 0 0,.slice none 0 0,.slice none 0 0,.bool false] 67 v1):=hid (by rw [hv1]; exact BK.new _ _ _)
  have HEv:=hid hbv
  have hzv:v1.heap.size=u1.heap.size + 1:=by rw [hv1]; simp
  have HC2:=hid (HSD.out v1 HBv.out)
  rw [hv1] at HC2
  have HV1:=hid hv1
  clear hbv hv1 HSD HB1 HK1
  go_wp2_with fail
  (with_reducible refine (HC2.out).mono ?_)
  rintro e u2 ⟨sa,sc,rfl,hown,hb⟩
  rw [<-HV1.out] at hown hb
  rw [<-HN.out] at hown ⊢
  have HB2:=hid (HBv.out.trans (hb.mono HBv.out.size))
  have HK2:=hid (HKv.out.below hb)
  have HT2:=hid (HTv.out.below hb)
  have HE2:=hid (HEv.out.trans (hb.mono HEv.out.size))
  have HS2:=hid hown
  have hz2:u1.heap.size + 1<=u2.heap.size:=HT2.out.lt
  clear hown hb HC2 HBv HKv HTv HEv HV1
  go_wp2_with fail
  go_loopw [26] (fun i wr=>∃ (k m:Nat) (out:List (Int × Int)) (va:Option Addr) (vc:Nat),k<=n/\i = .int .i64 k/\m<=k/\m<=vc/\Hid (m=out.length)/\Hid (out=(s.take k).filter fun d=>!hasS xs d)/\Hid (BK u1.heap.size #[.slice va m vc,.slice none 0 0,.slice none 0 0,.slice none 0 0,.bool false] 67 wr)/\Hid (wr.ownsRow u2.heap.size 41 2 (.slice va m vc) m (dcells out))/\Hid (u2.grownBy wr (some u1.heap.size))) (fun i _=>n - (intOf i).toNat)
  case atStart=>exact ⟨0,0,[],none,0,by omega,rfl,by omega,by omega,hid rfl,hid (by simp),HT2,hid (World.ownsRow_nil _ _ _ _),hid (grefl _ _)⟩
  case round=>
   clear HT2
   obtain ⟨k,m,out,va,vc,hk,rfl,hmk,hmc,HM,HOUT,HT,HO,HG⟩:=hrel
   have HB:Hid (Below w.heap.size w wr):=hid (HB2.out.grown HG.out HB2.out.size (fun j e=>by cases e; omega))
   by_cases hkn:k < n
   ·have hki:(k:Int) < (n:Int):=by omega
    have h1:k < s.length:=by have:=HN.out; omega
    obtain ⟨b0,of0,haa,hb0,q0,q1⟩:=(digs_box HS2.out HN.out HG.out (by omega)) k h1
    have HSx:=HS2
    subst haa
    have HF:=hid (filt_snoc (fun d=>!hasS xs d) h1)
    rw [<-HOUT.out] at HF
    generalize s[k]=d at q0 q1 HF
    obtain ⟨d1,d2⟩:=d
    simp only at q0 q1
    obtain ⟨v,hv⟩:∃ v,v=wr.alloc (.cells #[.int .u64 d1,.int .u64 d2] 41):=⟨_,rfl⟩
    have hbv:Below wr.heap.size wr v:=by rw [hv]; exact (Below.refl _ _).alloc (Nat.le_refl _) _
    have HC:=hid (HHS.out d1 d2 v (HB.out.trans (hbv.mono HB.out.size)))
    have HD:Hid (BK wr.heap.size #[.int .u64 d1,.int .u64 d2] 41 v):=hid (by rw [hv]; exact BK.new _ _ _)
    have HTv:=hid (HT.out.below hbv)
    have HOv:=hid (own_below HO.out hbv)
    have HGv:=hid (gbel HG.out hbv)
    generalize hasS xs (d1,d2)=hh at HC HF
    rw [hv] at HC
    have HV:=hid hv
    clear hv hbv HT HO HG HB HOUT HSx
    go_wp2_with fail
    (with_reducible refine (HC.out).mono ?_)
    rintro e u3 ⟨rfl,hb⟩
    rw [<-HV.out] at hb
    have HD3:=hid (HD.out.below hb)
    have HT3:=hid (HTv.out.below hb)
    have HO3:=hid (own_below HOv.out hb)
    have HG3:=hid (gbel HGv.out hb)
    clear hb HC HV HD HTv HOv HGv q0 q1
    cases hh with
    | true=>
     have HOUT3:Hid (out=(s.take (k + 1)).filter fun d=>!hasS xs d):=hid (by rw [HF.out]; simp)
     clear HF HD3
     go_wp2_with fail
     go_roundw
     case rel=>exact ⟨k + 1,m,out,va,vc,by omega,by go_num,by omega,hmc,HM,HOUT3,HT3,HO3,HG3⟩
     case measure=>simp [intOf] <;> omega
    | false=>
     have HOUT3:Hid (out ++ [(d1,d2)]=(s.take (k + 1)).filter fun d=>!hasS xs d):=hid (by rw [HF.out]; simp)
     obtain ⟨va',vc',W',HRUN,hk4,hk5,ho5,hg5⟩:=box_push (j:=0) HM.out HT3.out HO3.out (by omega) HG3.out d1 d2 (by omega)
     have hmc5:m + 1<=vc':=by obtain ⟨_,_,e,h⟩:=ownsRow_sliceN ho5; cases e; exact h
     have HM5:Hid (m + 1=(out ++ [(d1,d2)]).length):=hid (by rw [List.length_append,<-HM.out]; rfl)
     obtain ⟨t0,t1,t2,t3,t4⟩:=BK.c5 (show BK _ #[.slice va m vc,.slice none 0 0,.slice none 0 0,.slice none 0 0,.bool false] _ _ from HT3.out)
     obtain ⟨e0,e1⟩:=BK.c2 (show BK _ #[.int .u64 d1,.int .u64 d2] _ _ from HD3.out)
     obtain ⟨r0,r1,r2,r3,r4⟩:=BK.c5 (show BK _ #[.slice va m vc,.slice none 0 0,.slice none 0 0,.slice none 0 0,.bool false] _ _ from hk4)
     obtain ⟨fr0,fr1,fr2,fr3,fr4⟩:=BK.f5 (hk4)
     have HK5:=hid hk5
     have HO5:=hid ho5
     have HG5:=hid hg5
     clear HF HD3 hk4 hk5 ho5 hg5 HT3 HO3 HG3
     go_wp2_with (at_builtin; refine Lib.wpList_append_run _ rfl _ _ _ _ rfl _ _ rfl rfl _ _ HRUN.out ?_)
     go_roundw
     case rel=>exact ⟨k + 1,m + 1,out ++ [(d1,d2)],va',vc',by omega,by go_num,by omega,hmc5,HM5,HOUT3,HK5,HO5,HG5⟩
     case measure=>simp [intOf] <;> omega
   ·have hki:¬ (k:Int) < (n:Int):=by omega
    have hkn2:s.take k=s:=List.take_of_length_le (by have:=HN.out; omega)
    rw [hkn2] at HOUT
    have HOW:Hid (out=wantS xs want):=hid (HOUT.out.trans HWP.out)
    have HKr:Hid (BK w.heap.size #[.slice none 0 0,.slice none 0 0,.slice none 0 0,.slice none 0 0,.bool false] 67 wr):=hid (HK2.out.grow1 HG.out (by omega))
    have HER:Hid (Below u1.heap.size u1 wr):=hid (HE2.out.grown HG.out HE2.out.size (fun j e=>by cases e; omega))
    have HM0:Hid (m=0 ↔ wantS xs want=[]):=hid (by rw [<-HOW.out,HM.out,List.length_eq_zero_iff])
    clear hkn2 HOUT HWP HS2
    generalize wantS xs want=ws at HR HOW HM0
    have hows:=HOW.out
    subst hows
    clear HOW
    have HNV:Hid (New w.heap.size va):=hid (new_own HO.out HB2.out.size)
    have HNQN:Hid (New w.heap.size qa):=hid (new_own HQ1.out (by have:=HZ0.out; omega))
    obtain ⟨t0,t1,t2,t3,t4⟩:=BK.c5 (show BK _ #[.slice va m vc,.slice none 0 0,.slice none 0 0,.slice none 0 0,.bool false] _ _ from HT.out)
    obtain ⟨ft0,ft1,ft2,ft3,ft4⟩:=BK.f5 (HT.out)
    by_cases hm0:m=0
    ·have hnil:=HM0.out.1 hm0
     subst hnil
     subst hm0
     have HX:Hid (R=(⟨[],[],[],[],true⟩,0)):=hid (by rw [HR.out]; simp)
     obtain ⟨x1,hx1⟩:∃ x1,x1=wr.setCell ⟨u1.heap.size,4,none⟩ (.bool true):=⟨_,rfl⟩
     have hk1:BK u1.heap.size #[.slice va 0 vc,.slice none 0 0,.slice none 0 0,.slice none 0 0,.bool true] 67 x1:=by rw [hx1]; exact HT.out.set 4 (.bool true)
     have hg1:wr.grownBy x1 (some u1.heap.size):=by rw [hx1]; exact gset _ _ _ _
     have HBx:Hid (Below w.heap.size w x1):=hid (HB.out.grown hg1 HB.out.size (fun j e=>by cases e; omega))
     have HKx:Hid (BK w.heap.size #[.slice none 0 0,.slice none 0 0,.slice none 0 0,.slice none 0 0,.bool false] 67 x1):=hid (HKr.out.grow1 hg1 (by omega))
     obtain ⟨y0,y1,y2,y3,y4⟩:=BK.c5 (show BK _ #[.slice va 0 vc,.slice none 0 0,.slice none 0 0,.slice none 0 0,.bool true] _ _ from hk1)
     clear HR HM0 HT HG hg1 hk1 HO HER
     have hts:=talk_set (HKx.out) (.slice va 0 vc) (.slice none 0 0) (.slice none 0 0) (.slice none 0 0) (.bool true)
     obtain ⟨W5,hW5⟩:∃ W5,W5=((((x1.setCell ⟨w.heap.size,0,none⟩ (.slice va 0 vc)).setCell ⟨w.heap.size,1,none⟩ (.slice none 0 0)).setCell ⟨w.heap.size,2,none⟩ (.slice none 0 0)).setCell ⟨w.heap.size,3,none⟩ (.slice none 0 0)).setCell ⟨w.heap.size,4,none⟩ (.bool true):=⟨_,rfl⟩
     rw [<-hW5] at hts
     have HB5:=hid ((HBx.out).grown hts.2 (HBx.out).size (fun k e=>by cases e; omega))
     have HG5:=hid hts.2
     have HK5:=hid hts.1
     obtain ⟨g0,g1,g2,g3,g4⟩:=BK.c5 (show BK _ #[.slice va 0 vc,.slice none 0 0,.slice none 0 0,.slice none 0 0,.bool true] _ _ from HK5.out)
     obtain ⟨z0,z1,z2,z3,z4⟩:=BK.c5 (show BK _ #[.slice none 0 0,.slice none 0 0,.slice none 0 0,.slice none 0 0,.bool false] _ _ from HKx.out)
     obtain ⟨fz0,fz1,fz2,fz3,fz4⟩:=BK.f5 (HKx.out)
     rw [hx1] at hW5 z0 z1 z2 z3 z4 fz0 fz1 fz2 fz3 fz4 y0 y1 y2 y3 y4
     have HW5:=hid hW5
     clear hts hW5
     go_wp2_with fail
     rw [<-HW5.out]
     refine bodyPost_ret (v:=.tuple #[.agg #[.slice va 0 vc,.slice none 0 0,.slice none 0 0,.slice none 0 0,.bool true],.int .i64 0]) (by simp [results,Tryz.results34,go_sem,g0,g1,g2,g3,g4]) rfl ?_
     rw [HX.out]
     exact ⟨⟨va,vc,none,0,none,0,none,0⟩,rfl,⟨Digs.nil _ _ _,Digs.nil _ _ _,Digs.nil _ _ _,Digs.nil _ _ _,Nat.zero_le _,Nat.le_refl _,Nat.le_refl _,Nat.le_refl _⟩,HB5.out,⟨.inr HNV.out,New.none _,New.none _,.inr (New.none _)⟩⟩
    ·have hmp:(0:Int) < (m:Int):=by omega
     have hne:out ≠ []:=fun e=>hm0 (HM0.out.2 e)
     have HX:Hid (R=(⟨out,an,[],[],decide (an=[])⟩,0)):=hid (by rw [HR.out]; simp [hne])
     clear HR HM0
     obtain ⟨x0,hx0⟩:∃ x0,x0=wr.setCell ⟨u1.heap.size,1,none⟩ (.slice qa nq qc):=⟨_,rfl⟩
     have hk0:BK u1.heap.size #[.slice va m vc,.slice qa nq qc,.slice none 0 0,.slice none 0 0,.bool false] 67 x0:=by rw [hx0]; exact HT.out.set 1 (.slice qa nq qc)
     have hg0:wr.grownBy x0 (some u1.heap.size):=by rw [hx0]; exact gset _ _ _ _
     obtain ⟨m0,m1,m2,m3,m4⟩:=BK.c5 (show BK _ #[.slice va m vc,.slice qa nq qc,.slice none 0 0,.slice none 0 0,.bool false] _ _ from hk0)
     obtain ⟨fm0,fm1,fm2,fm3,fm4⟩:=BK.f5 (hk0)
     obtain ⟨bb,hbb⟩:∃ bb,bb=((nq:Int) == 0):=⟨_,rfl⟩
     have HBB:Hid (decide (an=[])=bb):=hid (by rw [hbb,HNQ.out]; cases an <;> simp <;> omega)
     obtain ⟨x1,hx1⟩:∃ x1,x1=x0.setCell ⟨u1.heap.size,4,none⟩ (.bool bb):=⟨_,rfl⟩
     have hk1:BK u1.heap.size #[.slice va m vc,.slice qa nq qc,.slice none 0 0,.slice none 0 0,.bool bb] 67 x1:=by rw [hx1]; exact hk0.set 4 (.bool bb)
     have hg1:wr.grownBy x1 (some u1.heap.size):=by rw [hx1]; exact gtrans hg0 (gset _ _ _ _)
     have HBx:Hid (Below w.heap.size w x1):=hid (HB.out.grown hg1 HB.out.size (fun j e=>by cases e; omega))
     have HKx:Hid (BK w.heap.size #[.slice none 0 0,.slice none 0 0,.slice none 0 0,.slice none 0 0,.bool false] 67 x1):=hid (HKr.out.grow1 hg1 (by omega))
     have HOx:=hid (own_kept HO.out hg1 (by omega))
     have HQx:=hid (own_below HQ1.out (HER.out.grown hg1 HER.out.size (fun j e=>by cases e; omega)))
     have hbn:((nq:Int) == 0)=bb:=hbb.symm
     obtain ⟨y0,y1,y2,y3,y4⟩:=BK.c5 (show BK _ #[.slice va m vc,.slice qa nq qc,.slice none 0 0,.slice none 0 0,.bool bb] _ _ from hk1)
     clear HT HG hg1 hk1 HO HER hk0 hg0 hbb hne hm0
     rw [hx0] at m0 m1 m2 m3 m4 fm0 fm1 fm2 fm3 fm4
     have hts:=talk_set (HKx.out) (.slice va m vc) (.slice qa nq qc) (.slice none 0 0) (.slice none 0 0) (.bool bb)
     obtain ⟨W5,hW5⟩:∃ W5,W5=((((x1.setCell ⟨w.heap.size,0,none⟩ (.slice va m vc)).setCell ⟨w.heap.size,1,none⟩ (.slice qa nq qc)).setCell ⟨w.heap.size,2,none⟩ (.slice none 0 0)).setCell ⟨w.heap.size,3,none⟩ (.slice none 0 0)).setCell ⟨w.heap.size,4,none⟩ (.bool bb):=⟨_,rfl⟩
     rw [<-hW5] at hts
     have HB5:=hid ((HBx.out).grown hts.2 (HBx.out).size (fun k e=>by cases e; omega))
     have HG5:=hid hts.2
     have HK5:=hid hts.1
     obtain ⟨g0,g1,g2,g3,g4⟩:=BK.c5 (show BK _ #[.slice va m vc,.slice qa nq qc,.slice none 0 0,.slice none 0 0,.bool bb] _ _ from HK5.out)
     obtain ⟨z0,z1,z2,z3,z4⟩:=BK.c5 (show BK _ #[.slice none 0 0,.slice none 0 0,.slice none 0 0,.slice none 0 0,.bool false] _ _ from HKx.out)
     obtain ⟨fz0,fz1,fz2,fz3,fz4⟩:=BK.f5 (HKx.out)
     rw [hx1,hx0] at hW5 z0 z1 z2 z3 z4 fz0 fz1 fz2 fz3 fz4 y0 y1 y2 y3 y4
     have HW5:=hid hW5
     clear hts hW5
     go_wp2_with fail
     rw [<-HW5.out]
     refine bodyPost_ret (v:=.tuple #[.agg #[.slice va m vc,.slice qa nq qc,.slice none 0 0,.slice none 0 0,.bool bb],.int .i64 0]) (by simp [results,Tryz.results34,go_sem,g0,g1,g2,g3,g4]) rfl ?_
     rw [HX.out]
     refine ⟨⟨va,vc,qa,qc,none,0,none,0⟩,?_,⟨own_digs HM.out (own_kept HOx.out HG5.out (by omega)),own_digs HNQ.out (own_kept HQx.out HG5.out (by have:=HZ0.out; omega)),Digs.nil _ _ _,Digs.nil _ _ _,by rw [<-HM.out]; exact hmc,by rw [<-HNQ.out]; exact hqc,Nat.le_refl _,Nat.le_refl _⟩,HB5.out,⟨.inr HNV.out,HNQN.out,New.none _,.inr (New.none _)⟩⟩
     simp only [Tk.val,Tk.arr,<-HM.out,<-HNQ.out,HBB.out]
     rfl
 ·have hee:(er != 0)=true:=by simpa using he
  have HX:Hid (R=(tk0,er)):=hid (by rw [HR.out,if_pos he])
  clear HR he HSD HHS HWP HQ1 HN hnl
  have hts:=talk_set (HK1.out) (.slice none 0 0) (.slice none 0 0) (.slice none 0 0) (.slice none 0 0) (.bool false)
  obtain ⟨W5,hW5⟩:∃ W5,W5=((((u1.setCell ⟨w.heap.size,0,none⟩ (.slice none 0 0)).setCell ⟨w.heap.size,1,none⟩ (.slice none 0 0)).setCell ⟨w.heap.size,2,none⟩ (.slice none 0 0)).setCell ⟨w.heap.size,3,none⟩ (.slice none 0 0)).setCell ⟨w.heap.size,4,none⟩ (.bool false):=⟨_,rfl⟩
  rw [<-hW5] at hts
  have HB5:=hid ((HB1.out).grown hts.2 (HB1.out).size (fun k e=>by cases e; omega))
  have HG5:=hid hts.2
  have HK5:=hid hts.1
  obtain ⟨g0,g1,g2,g3,g4⟩:=BK.c5 (show BK _ #[.slice none 0 0,.slice none 0 0,.slice none 0 0,.slice none 0 0,.bool false] _ _ from HK5.out)
  obtain ⟨z0,z1,z2,z3,z4⟩:=BK.c5 (show BK _ #[.slice none 0 0,.slice none 0 0,.slice none 0 0,.slice none 0 0,.bool false] _ _ from HK1.out)
  obtain ⟨fz0,fz1,fz2,fz3,fz4⟩:=BK.f5 (HK1.out)
  have HW5:=hid hW5
  clear hts hW5
  go_wp2_with fail
  rw [<-HW5.out]
  refine bodyPost_ret (v:=.tuple #[.agg #[.slice none 0 0,.slice none 0 0,.slice none 0 0,.slice none 0 0,.bool false],.int .i64 er]) (by simp [results,Tryz.results34,go_sem,g0,g1,g2,g3,g4]) rfl ?_
  rw [HX.out]
  exact GotT.bad er HB5.out
end Go.Proofs.YtfdahmicigpnoaaGreat
