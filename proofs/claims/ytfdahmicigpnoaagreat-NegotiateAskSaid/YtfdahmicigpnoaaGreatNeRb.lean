/- The reference: Begin. -/
import Derived.Test.YtfdahmicigpnoaaGreatNeRv
import Derived.Test.YtfdahmicigpnoaaGreatNeBx
import Derived.Test.YtfdahmicigpnoaaGreatNeSt
set_option maxRecDepth 100000
set_option maxHeartbeats 16000000
open Go.Lib (hid)
namespace Go.Proofs.YtfdahmicigpnoaaGreat
open Go.RowKit Go.Shelf
set_option linter.unusedVariables false
structure TkDg (W:World) (t:Tk) (A:TkA):Prop where
 w:Digs W.heap.size W A.wa t.want
 q:Digs W.heap.size W A.qa t.queue
 a:Digs W.heap.size W A.aa t.asked
 c:Digs W.heap.size W A.ca t.common
theorem TkIn.dg {W:World} {t:Tk} {A:TkA} (h:TkIn W t A):TkDg W t A:=⟨h.w,h.q,h.a,h.c⟩
theorem TkDg.zero (W:World) (A:TkA):TkDg W tk0 A:=⟨Digs.nil _ _ _,Digs.nil _ _ _,Digs.nil _ _ _,Digs.nil _ _ _⟩
theorem TkDg.ahead {w W:World} {t:Tk} {A:TkA} (h:TkDg w t A) (hb:Below w.heap.size w W):TkDg W t A:=⟨h.w.ahead hb,h.q.ahead hb,h.a.ahead hb,h.c.ahead hb⟩
theorem TkDg.store {W W':World} {tb:Nat} {cs:Array Value} {T:TypeId} {t:Tk} {A:TkA} (h:TkDg W t A) (hk:BK tb cs T W) (hn:NoInt cs) (hg:W.grownBy W' (some tb)):TkDg W' t A:=
 ⟨digs_store h.w hk hn hg,digs_store h.q hk hn hg,digs_store h.a hk hn hg,digs_store h.c hk hn hg⟩
def GotRT (w:World) (r:Tk × Int) (e:Ending) (w':World):Prop:=∃ A,e = .returned (.tuple #[r.1.val A,.int .i64 r.2])/\TkDg w' r.1 A/\Below w.heap.size w w'
theorem GotRT.bad {w w':World} (er:Int) (h:Below w.heap.size w w'):GotRT w (tk0,er) (.returned (.tuple #[.agg #[.slice none 0 0,.slice none 0 0,.slice none 0 0,.slice none 0 0,.bool false],.int .i64 er])) w':=⟨TkA0,rfl,TkDg.zero _ _,h⟩
theorem noint5 (a0 a1 a2 a3:Option Addr) (n0 n1 n2 n3 c0 c1 c2 c3:Nat) (b:Bool):NoInt #[.slice a0 n0 c0,.slice a1 n1 c1,.slice a2 n2 c2,.slice a3 n3 c3,.bool b]:=by
 intro j x
 match j with
 | 0=>simp
 | 1=>simp
 | 2=>simp
 | 3=>simp
 | 4=>simp
 | n + 5=>simp
theorem rbegin_any (a:Option Addr) (xs:List Itm) (c:Nat) (ha:Option Addr) (heads:List (Int × Int)) (hc:Nat) (wa:Option Addr) (want:List (Int × Int)) (wc:Nat) (w:World) (hp:Its w.heap.size w a xs) (hA:Asc xs) (hac:AcyS xs) (hn:(xs.length:Int)<=500) (hd:∀ x ∈ xs,(x.data.length:Int)<=1000000) (hh:Digs w.heap.size w ha heads) (hhl:(heads.length:Int)<=1000) (hok:∀ d ∈ heads,OkD d) (hw:Digs w.heap.size w wa want) (hwl:(want.length:Int)<=10000) :
  Calls Tryz.prog 35 #[.slice a xs.length c,.slice ha heads.length hc,.slice wa want.length wc] w (GotRT w (beginS xs heads want)):=by
 have HAN:=hid (fun W (hW:Below w.heap.size w W)=>rancestors_any a xs c ha heads hc W (hp.ahead hW) hA hac hn hd (hh.ahead hW) hhl hok)
 have HHS:=hid (fun p q W (hW:Below w.heap.size w W)=>rhas_any a xs c p q W (hp.ahead hW) hA (by omega))
 have HDF:=hid (fun i (h:i < want.length) acc=>drop_filter_hit (P:=fun d=>!hasS xs d) h acc)
 have HWD:=hid hw
 obtain ⟨R,hR⟩:∃ R,R=beginS xs heads want:=⟨_,rfl⟩
 rw [<-hR]
 unfold beginS at hR
 have hws:wantS xs want=((want.drop 0).filter fun d=>!hasS xs d).foldl withS []:=rfl
 obtain ⟨WS,hWS⟩:∃ WS,WS=wantS xs want:=⟨_,rfl⟩
 rw [<-hWS] at hR hws
 have HWS:=hid hws
 generalize ancS xs heads=AR at HAN hR
 obtain ⟨an,er⟩:=AR
 simp only at HAN hR
 have HR:=hid hR
 obtain ⟨n,hnn⟩:∃ n,n=want.length:=⟨_,rfl⟩
 rw [<-hnn] at hwl ⊢
 have HN:=hid hnn
 obtain ⟨w0,hw0⟩:∃ w0,w0=w.alloc (.cells #[.slice none 0 0,.slice none 0 0,.slice none 0 0,.slice none 0 0,.bool false] 67):=⟨_,rfl⟩
 have HB0:Hid (Below w.heap.size w w0):=hid (by rw [hw0]; exact (Below.refl _ _).alloc (Nat.le_refl _) _)
 have HK0:Hid (BK w.heap.size #[.slice none 0 0,.slice none 0 0,.slice none 0 0,.slice none 0 0,.bool false] 67 w0):=hid (by rw [hw0]; exact BK.new _ _ _)
 have HC1:=hid (HAN.out w0 HB0.out)
 rw [hw0] at HC1
 have HW0:=hid hw0
 generalize xs.length=nx at HC1 HHS ⊢
 generalize heads.length=nh at HC1 ⊢
 clear hw0 hnn hws hWS hR hp hA hac hn hh hok hhl hw hd HAN
 go_enter Tryz.func35,Tryz.ntmps35
 go_wp2_with fail
 (with_reducible refine (HC1.out).mono ?_)
 rintro e u1 ⟨qa,qc,rfl,hdg,hqc,hb⟩
 simp only at hdg hqc ⊢
 rw [<-HW0.out] at hb
 obtain ⟨nq,hnq⟩:∃ n,n=an.length:=⟨_,rfl⟩
 rw [<-hnq] at hqc ⊢
 have HNQ:=hid hnq
 have HB1:=hid (HB0.out.trans (hb.mono HB0.out.size))
 have HK1:=hid (HK0.out.below hb)
 have hz1:w.heap.size + 1<=u1.heap.size:=HK1.out.lt
 have HQ1:=hid hdg
 clear hdg hb HC1 HW0 HB0 HK0 hnq
 by_cases he:er=0
 ·subst he
  obtain ⟨v1,hv1⟩:∃ v1,v1=u1.alloc (.cells #[.slice none 0 0,.slice none 0 0,.slice none 0 0,.slice none 0 0,.bool false] 67):=⟨_,rfl⟩
  have hbv:Below u1.heap.size u1 v1:=by rw [hv1]; exact (Below.refl _ _).alloc (Nat.le_refl _) _
  have HTv:Hid (BK u1.heap.size #[.slice none 0 0,.slice none 0 0,.slice none 0 0,.slice none 0 0,.bool false] 67 v1):=hid (by rw [hv1]; exact BK.new _ _ _)
  have HEv:=hid hbv
  have HV1:=hid hv1
  clear hbv hv1
  go_wp2_with fail
  rw [<-HV1.out]
  clear HV1
  go_loopw [11] (fun i wr=>∃ (k m:Nat) (cur:List (Int × Int)) (va:Option Addr) (vc:Nat),k<=n/\i = .int .i64 k/\m<=k/\m<=vc/\Hid (m=cur.length)/\Hid (WS=((want.drop k).filter fun d=>!hasS xs d).foldl withS cur)/\Hid (BK u1.heap.size #[.slice va m vc,.slice none 0 0,.slice none 0 0,.slice none 0 0,.bool false] 67 wr)/\Hid (Digs wr.heap.size wr va cur)/\Hid (Below u1.heap.size u1 wr)) (fun i _=>n - (intOf i).toNat)
  case atStart=>exact ⟨0,0,[],none,0,by omega,rfl,by omega,by omega,hid rfl,HWS,HTv,hid (Digs.nil _ _ _),HEv⟩
  case round=>
   clear HTv HEv HWS
   obtain ⟨k,m,cur,va,vc,hk,rfl,hmk,hmc,HM,HWS,HT,HD,HE⟩:=hrel
   have HB:=hid (HB1.out.trans (HE.out.mono HB1.out.size))
   by_cases hkn:k < n
   ·have hki:(k:Int) < (n:Int):=by omega
    have h1:k < want.length:=by have:=HN.out; omega
    obtain ⟨b0,of0,haa,hb0,q0,q1⟩:=(HWD.out.ahead HB.out) k h1
    have HWx:=HWD
    subst haa
    have HDR:=hid (HDF.out k h1 cur)
    generalize want[k]=d at q0 q1 HDR
    obtain ⟨d1,d2⟩:=d
    simp only at q0 q1
    have HC:=hid (HHS.out d1 d2 wr HB.out)
    generalize hasS xs (d1,d2)=hh at HC HDR
    clear HB HWx
    go_wp2_with fail
    (with_reducible refine (HC.out).mono ?_)
    rintro e u3 ⟨rfl,hb⟩
    have HE3:=hid (HE.out.trans (hb.mono HE.out.size))
    have HT3:=hid (HT.out.below hb)
    have HD3:=hid (HD.out.ahead hb)
    have r0:=(hb.cell (p:=⟨b0,of0 + k * 2,none⟩) hb0).trans q0
    have r1:=(hb.cell (p:=⟨b0,of0 + k * 2 + 1,none⟩) hb0).trans q1
    clear hb HC HE HT HD q0 q1
    cases hh with
    | true=>
     have HW3:Hid (WS=((want.drop (k + 1)).filter fun d=>!hasS xs d).foldl withS cur):=hid (by rw [HWS.out,HDR.out]; simp)
     clear HWS HDR r0 r1
     go_wp2_with fail
     go_roundw
     case rel=>exact ⟨k + 1,m,cur,va,vc,by omega,by go_num,by omega,hmc,HM,HW3,HT3,HD3,HE3⟩
     case measure=>simp [intOf] <;> omega
    | false=>
     have HW3:Hid (WS=((want.drop (k + 1)).filter fun d=>!hasS xs d).foldl withS (withS cur (d1,d2))):=hid (by rw [HWS.out,HDR.out]; simp)
     have hbd:Below u3.heap.size u3 u3.drew:=(Below.refl _ _).drew
     have HC2:=hid (rwith_any va cur vc d1 d2 u3.drew (HD3.out.ahead hbd) (by rw [<-HM.out]; exact hmc) (by rw [<-HM.out]; omega))
     have HWL:=hid (withS_len1 cur (d1,d2))
     rw [<-HM.out] at HC2 HWL
     generalize withS cur (d1,d2)=cur2 at HC2 HW3 HWL
     obtain ⟨m2,hm2⟩:∃ m2,m2=cur2.length:=⟨_,rfl⟩
     have HM2:=hid hm2
     have hmk2:m2<=k + 1:=by have:=HWL.out; omega
     obtain ⟨t0,t1,t2,t3,t4⟩:=BK.c5 (show BK _ #[.slice va m vc,.slice none 0 0,.slice none 0 0,.slice none 0 0,.bool false] _ _ from HT3.out)
     obtain ⟨ft0,ft1,ft2,ft3,ft4⟩:=BK.f5 (HT3.out)
     clear HWS HDR HD3 HWL hm2
     go_wp2_with fail
     go_region_law
      (first
      | (go_simp; (with_reducible refine HC2.out.mono ?_); rintro e u9 ⟨da,dc,rfl,hdg,hdc,_,hb⟩; (rw [<-HM2.out] at hdc ⊢); (have hb9:Below u3.heap.size u3 u9:=hbd.trans (hb.mono hbd.size)); (have hk9:=HT3.out.below hb9); (have y0:u9.cell? ⟨u1.heap.size,0,none⟩=some (.slice va m vc):=by rw [hk9.cell]; rfl); (have fy0:=hk9.frozen 0))
      | fail)
     all_goals
      have HK9:=hid (hk9.set 0 (.slice da m2 dc))
      have HD9:=hid (digs_store hdg hk9 (noint5 _ _ _ _ _ _ _ _ _ _ _ _ _) (gset u9 u1.heap.size 0 (.slice da m2 dc)))
      have HE9:=hid ((HE3.out.trans (hb9.mono HE3.out.size)).grown (gset u9 u1.heap.size 0 (.slice da m2 dc)) (HE3.out.trans (hb9.mono HE3.out.size)).size (fun j e=>by cases e; omega))
      clear hdg hb hb9 hk9 hbd HC2 HT3 HE3 r0 r1
      go_wp2_with fail
      go_roundw
      case rel=>exact ⟨k + 1,m2,cur2,da,dc,by omega,by go_num,hmk2,hdc,HM2,HW3,HK9,HD9,HE9⟩
      case measure=>simp [intOf] <;> omega
   ·have hki:¬ (k:Int) < (n:Int):=by omega
    have hkl:k=want.length:=by have:=HN.out; omega
    have HWC:Hid (WS=cur):=hid (by rw [HWS.out,hkl,List.drop_length]; rfl)
    have HKr:Hid (BK w.heap.size #[.slice none 0 0,.slice none 0 0,.slice none 0 0,.slice none 0 0,.bool false] 67 wr):=hid (HK1.out.below HE.out)
    have HQr:=hid (HQ1.out.ahead HE.out)
    have HM0:Hid (m=0 ↔ WS=[]):=hid (by rw [HWC.out,HM.out,List.length_eq_zero_iff])
    clear hkl HWS HQ1 HK1 HB1 HE HHS HDF HWD
    obtain ⟨t0,t1,t2,t3,t4⟩:=BK.c5 (show BK _ #[.slice va m vc,.slice none 0 0,.slice none 0 0,.slice none 0 0,.bool false] _ _ from HT.out)
    obtain ⟨ft0,ft1,ft2,ft3,ft4⟩:=BK.f5 (HT.out)
    by_cases hm0:m=0
    ·have hnil:=HM0.out.1 hm0
     have HX:Hid (R=(⟨[],[],[],[],true⟩,0)):=hid (by rw [HR.out,hnil]; simp)
     subst hm0
     obtain ⟨x1,hx1⟩:∃ x1,x1=wr.setCell ⟨u1.heap.size,4,none⟩ (.bool true):=⟨_,rfl⟩
     have hk1:BK u1.heap.size #[.slice va 0 vc,.slice none 0 0,.slice none 0 0,.slice none 0 0,.bool true] 67 x1:=by rw [hx1]; exact HT.out.set 4 (.bool true)
     have hg1:wr.grownBy x1 (some u1.heap.size):=by rw [hx1]; exact gset _ _ _ _
     have HBx:Hid (Below w.heap.size w x1):=hid (HB.out.grown hg1 HB.out.size (fun j e=>by cases e; omega))
     have HKx:Hid (BK w.heap.size #[.slice none 0 0,.slice none 0 0,.slice none 0 0,.slice none 0 0,.bool false] 67 x1):=hid (HKr.out.grow1 hg1 (by omega))
     obtain ⟨y0,y1,y2,y3,y4⟩:=BK.c5 (show BK _ #[.slice va 0 vc,.slice none 0 0,.slice none 0 0,.slice none 0 0,.bool true] _ _ from hk1)
     clear HR HM0 HT hg1 hk1 hnil
     have hts:=talk_set (HKx.out) (.slice va 0 vc) (.slice none 0 0) (.slice none 0 0) (.slice none 0 0) (.bool true)
     obtain ⟨W5,hW5⟩:∃ W5,W5=((((x1.setCell ⟨w.heap.size,0,none⟩ (.slice va 0 vc)).setCell ⟨w.heap.size,1,none⟩ (.slice none 0 0)).setCell ⟨w.heap.size,2,none⟩ (.slice none 0 0)).setCell ⟨w.heap.size,3,none⟩ (.slice none 0 0)).setCell ⟨w.heap.size,4,none⟩ (.bool true):=⟨_,rfl⟩
     rw [<-hW5] at hts
     have HB5:=hid ((HBx.out).grown hts.2 (HBx.out).size (fun k e=>by cases e; omega))
     have HG5:=hid hts.2
     have HK5:=hid hts.1
     obtain ⟨g0,g1,g2,g3,g4⟩:=BK.c5 (show BK _ #[.slice va 0 vc,.slice none 0 0,.slice none 0 0,.slice none 0 0,.bool true] _ _ from HK5.out)
     obtain ⟨z0,z1,z2,z3,z4⟩:=BK.c5 (show BK _ #[.slice none 0 0,.slice none 0 0,.slice none 0 0,.slice none 0 0,.bool false] _ _ from HKx.out)
     obtain ⟨fz0,fz1,fz2,fz3,fz4⟩:=BK.f5 (HKx.out)
     rw [hx1] at hW5 z0 z1 z2 z3 z4 fz0 fz1 fz2 fz3 fz4 y0 y1 y2 y3 y4
     have HW5:=hid hW5
     clear hts hW5
     go_wp2_with fail
     rw [<-HW5.out]
     refine bodyPost_ret (v:=.tuple #[.agg #[.slice va 0 vc,.slice none 0 0,.slice none 0 0,.slice none 0 0,.bool true],.int .i64 0]) (by simp [results,Tryz.results35,go_sem,g0,g1,g2,g3,g4]) rfl ?_
     rw [HX.out]
     exact ⟨⟨va,vc,none,0,none,0,none,0⟩,rfl,⟨Digs.nil _ _ _,Digs.nil _ _ _,Digs.nil _ _ _,Digs.nil _ _ _⟩,HB5.out⟩
    ·have hmp:(0:Int) < (m:Int):=by omega
     have hne:WS ≠ []:=fun e=>hm0 (HM0.out.2 e)
     have HX:Hid (R=(⟨WS,an,[],[],decide (an=[])⟩,0)):=hid (by rw [HR.out]; simp [hne])
     clear HR HM0
     obtain ⟨x0,hx0⟩:∃ x0,x0=wr.setCell ⟨u1.heap.size,1,none⟩ (.slice qa nq qc):=⟨_,rfl⟩
     have hk0:BK u1.heap.size #[.slice va m vc,.slice qa nq qc,.slice none 0 0,.slice none 0 0,.bool false] 67 x0:=by rw [hx0]; exact HT.out.set 1 (.slice qa nq qc)
     have hg0:wr.grownBy x0 (some u1.heap.size):=by rw [hx0]; exact gset _ _ _ _
     obtain ⟨m0,m1,m2,m3,m4⟩:=BK.c5 (show BK _ #[.slice va m vc,.slice qa nq qc,.slice none 0 0,.slice none 0 0,.bool false] _ _ from hk0)
     obtain ⟨fm0,fm1,fm2,fm3,fm4⟩:=BK.f5 (hk0)
     obtain ⟨bb,hbb⟩:∃ bb,bb=((nq:Int) == 0):=⟨_,rfl⟩
     have HBB:Hid (decide (an=[])=bb):=hid (by rw [hbb,HNQ.out]; cases an <;> simp <;> omega)
     obtain ⟨x1,hx1⟩:∃ x1,x1=x0.setCell ⟨u1.heap.size,4,none⟩ (.bool bb):=⟨_,rfl⟩
     have hk1:BK u1.heap.size #[.slice va m vc,.slice qa nq qc,.slice none 0 0,.slice none 0 0,.bool bb] 67 x1:=by rw [hx1]; exact hk0.set 4 (.bool bb)
     have hg1:wr.grownBy x1 (some u1.heap.size):=by rw [hx1]; exact gtrans hg0 (gset _ _ _ _)
     have HBx:Hid (Below w.heap.size w x1):=hid (HB.out.grown hg1 HB.out.size (fun j e=>by cases e; omega))
     have HKx:Hid (BK w.heap.size #[.slice none 0 0,.slice none 0 0,.slice none 0 0,.slice none 0 0,.bool false] 67 x1):=hid (HKr.out.grow1 hg1 (by omega))
     have HDx:=hid (digs_store HD.out HT.out (noint5 _ _ _ _ _ _ _ _ _ _ _ _ _) hg1)
     have HQx:=hid (digs_store HQr.out HT.out (noint5 _ _ _ _ _ _ _ _ _ _ _ _ _) hg1)
     have hbn:((nq:Int) == 0)=bb:=hbb.symm
     obtain ⟨y0,y1,y2,y3,y4⟩:=BK.c5 (show BK _ #[.slice va m vc,.slice qa nq qc,.slice none 0 0,.slice none 0 0,.bool bb] _ _ from hk1)
     clear HT hg1 hk1 HD hk0 hg0 hbb hne hm0 HQr
     rw [hx0] at m0 m1 m2 m3 m4 fm0 fm1 fm2 fm3 fm4
     have hts:=talk_set (HKx.out) (.slice va m vc) (.slice qa nq qc) (.slice none 0 0) (.slice none 0 0) (.bool bb)
     obtain ⟨W5,hW5⟩:∃ W5,W5=((((x1.setCell ⟨w.heap.size,0,none⟩ (.slice va m vc)).setCell ⟨w.heap.size,1,none⟩ (.slice qa nq qc)).setCell ⟨w.heap.size,2,none⟩ (.slice none 0 0)).setCell ⟨w.heap.size,3,none⟩ (.slice none 0 0)).setCell ⟨w.heap.size,4,none⟩ (.bool bb):=⟨_,rfl⟩
     rw [<-hW5] at hts
     have HB5:=hid ((HBx.out).grown hts.2 (HBx.out).size (fun k e=>by cases e; omega))
     have HG5:=hid hts.2
     have HK5:=hid hts.1
     obtain ⟨g0,g1,g2,g3,g4⟩:=BK.c5 (show BK _ #[.slice va m vc,.slice qa nq qc,.slice none 0 0,.slice none 0 0,.bool bb] _ _ from HK5.out)
     obtain ⟨z0,z1,z2,z3,z4⟩:=BK.c5 (show BK _ #[.slice none 0 0,.slice none 0 0,.slice none 0 0,.slice none 0 0,.bool false] _ _ from HKx.out)
     obtain ⟨fz0,fz1,fz2,fz3,fz4⟩:=BK.f5 (HKx.out)
     rw [hx1,hx0] at hW5 z0 z1 z2 z3 z4 fz0 fz1 fz2 fz3 fz4 y0 y1 y2 y3 y4
     have HW5:=hid hW5
     clear hts hW5
     go_wp2_with fail
     rw [<-HW5.out]
     refine bodyPost_ret (v:=.tuple #[.agg #[.slice va m vc,.slice qa nq qc,.slice none 0 0,.slice none 0 0,.bool bb],.int .i64 0]) (by simp [results,Tryz.results35,go_sem,g0,g1,g2,g3,g4]) rfl ?_
     rw [HX.out]
     refine ⟨⟨va,vc,qa,qc,none,0,none,0⟩,?_,⟨by rw [HWC.out]; exact digs_store HDx.out HKx.out (noint5 _ _ _ _ _ _ _ _ _ _ _ _ _) HG5.out,digs_store HQx.out HKx.out (noint5 _ _ _ _ _ _ _ _ _ _ _ _ _) HG5.out,Digs.nil _ _ _,Digs.nil _ _ _⟩,HB5.out⟩
     simp only [Tk.val,Tk.arr,HWC.out,<-HM.out,<-HNQ.out,HBB.out]
     rfl
 ·have hee:(er != 0)=true:=by simpa using he
  have HX:Hid (R=(tk0,er)):=hid (by rw [HR.out,if_pos he])
  clear HR he HHS HQ1 HN HDF HWD HWS
  have hts:=talk_set (HK1.out) (.slice none 0 0) (.slice none 0 0) (.slice none 0 0) (.slice none 0 0) (.bool false)
  obtain ⟨W5,hW5⟩:∃ W5,W5=((((u1.setCell ⟨w.heap.size,0,none⟩ (.slice none 0 0)).setCell ⟨w.heap.size,1,none⟩ (.slice none 0 0)).setCell ⟨w.heap.size,2,none⟩ (.slice none 0 0)).setCell ⟨w.heap.size,3,none⟩ (.slice none 0 0)).setCell ⟨w.heap.size,4,none⟩ (.bool false):=⟨_,rfl⟩
  rw [<-hW5] at hts
  have HB5:=hid ((HB1.out).grown hts.2 (HB1.out).size (fun k e=>by cases e; omega))
  have HG5:=hid hts.2
  have HK5:=hid hts.1
  obtain ⟨g0,g1,g2,g3,g4⟩:=BK.c5 (show BK _ #[.slice none 0 0,.slice none 0 0,.slice none 0 0,.slice none 0 0,.bool false] _ _ from HK5.out)
  obtain ⟨z0,z1,z2,z3,z4⟩:=BK.c5 (show BK _ #[.slice none 0 0,.slice none 0 0,.slice none 0 0,.slice none 0 0,.bool false] _ _ from HK1.out)
  obtain ⟨fz0,fz1,fz2,fz3,fz4⟩:=BK.f5 (HK1.out)
  have HW5:=hid hW5
  clear hts hW5
  go_wp2_with fail
  rw [<-HW5.out]
  refine bodyPost_ret (v:=.tuple #[.agg #[.slice none 0 0,.slice none 0 0,.slice none 0 0,.slice none 0 0,.bool false],.int .i64 er]) (by simp [results,Tryz.results35,go_sem,g0,g1,g2,g3,g4]) rfl ?_
  rw [HX.out]
  exact GotRT.bad er HB5.out
end Go.Proofs.YtfdahmicigpnoaaGreat
