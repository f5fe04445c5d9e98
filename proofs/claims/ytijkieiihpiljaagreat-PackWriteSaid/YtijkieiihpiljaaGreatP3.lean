/- Joined texts: PkK, PkL, PkMv, PkR, PkSo. -/
import Derived.Test.YtijkieiihpiljaaGreatP2
import Derived.Test.YtijkieiihpiljaaGreatK5
import Derived.Test.YtijkieiihpiljaaGreatK4
import Derived.Test.YtijkieiihpiljaaGreatK8
/- Packs: one entry. -/
set_option maxRecDepth 100000
set_option maxHeartbeats 16000000
open Go.Lib (hid)
namespace Go.Proofs.YtijkieiihpiljaaGreat
open Go.RowKit Go.Shelf
set_option linter.unusedVariables false
def peCs (e:Pe):List Value:=[.int .u64 e.d.1,.int .u64 e.d.2,.int .i64 e.kind,.int .u64 e.base.1,.int .u64 e.base.2,.int .i64 (e.off:Int),.int .i64 (e.len:Int)]
def Pe.val (e:Pe):Value:=.agg #[.int .u64 e.d.1,.int .u64 e.d.2,.int .i64 e.kind,.int .u64 e.base.1,.int .u64 e.base.2,.int .i64 (e.off:Int),.int .i64 (e.len:Int)]
theorem layPe:Lay peCs 7:=⟨by decide,fun o=>rfl,fun o v hv=>by
 simp only [peCs,List.mem_cons,List.not_mem_nil,or_false] at hv
 rcases hv with rfl | rfl | rfl | rfl | rfl | rfl | rfl <;> rfl⟩
def GotPe (b:List UInt8) (k:Nat) (w:World) (e:Ending) (w':World):Prop:=∃ (x:Pe) (t:Bool),e = .returned (.tuple #[x.val,.bool t])/\(t=true->entryS b k=some x)/\(t=false->entryS b k=none)/\Below w.heap.size w w'
theorem entryS_short {b:List UInt8} {k:Nat} (h:b.length < k + 16):entryS b k=none:=by unfold entryS; rw [if_pos h]
theorem entryS_bad {b:List UInt8} {k:Nat} {kd u er:Int} (h:k + 16<=b.length) (hg:Cw.getI (b.drop (k + 16))=(kd,u,er)) (hb:er ≠ 0\/(kd ≠ 0/\kd ≠ 1)):entryS b k=none:=by
 unfold entryS; rw [if_neg (by omega),hg]; simp only; rw [if_pos hb]
theorem entryS_short2 {b:List UInt8} {k u:Nat} (h:k + 16<=b.length) (hg:Cw.getI (b.drop (k + 16))=(1,(u:Int),0)) (hb:b.length < k + 16 + u + 16):entryS b k=none:=by
 unfold entryS; rw [if_neg (by omega),hg]; simp only [Int.toNat_natCast]; rw [if_neg (by simp),if_pos (by simpa using hb)]
theorem entryS_0 {b:List UInt8} {k u v:Nat} {x:List UInt8} {er:Int} (h:k + 16<=b.length) (hg:Cw.getI (b.drop (k + 16))=(0,(u:Int),0)) (ht:Cw.getT (b.drop (k + 16 + u))=(x,(v:Int),er)):entryS b k=if er ≠ 0 then none else some ⟨fixD (b.drop k),0,(0,0),k + 16 + u + v - x.length,x.length⟩:=by
 unfold entryS
 rw [if_neg (by omega),hg]
 simp only [Int.toNat_natCast]
 rw [if_neg (by simp),if_neg (by simp),show k + 16 + u + (if (0:Int)=1 then 16 else 0)=k + 16 + u by simp,ht]
 simp
theorem entryS_1 {b:List UInt8} {k u v:Nat} {x:List UInt8} {er:Int} (h:k + 16<=b.length) (hg:Cw.getI (b.drop (k + 16))=(1,(u:Int),0)) (h2:k + 16 + u + 16<=b.length) (ht:Cw.getT (b.drop (k + 16 + u + 16))=(x,(v:Int),er)):entryS b k=if er ≠ 0 then none else some ⟨fixD (b.drop k),1,fixD (b.drop (k + 16 + u)),k + 16 + u + 16 + v - x.length,x.length⟩:=by
 unfold entryS
 rw [if_neg (by omega),hg]
 simp only [Int.toNat_natCast,if_true]
 rw [if_neg (by simp),if_neg (by simp; omega),ht]
 simp
theorem getT_room {l x:List UInt8} {v er:Int} (h:Cw.getT l=(x,v,er)):(x.length:Int)<=v:=by
 by_cases e:er=0
 ·subst e
  have:=getT_off h
  omega
 ·unfold Cw.getT at h
  have h0:=(getI_all (l:=l) rfl).2.2.1
  split at h
  ·simp only [Prod.mk.injEq] at h; rw [<-h.1,<-h.2.1]; simp
  ·split at h
   ·simp only [Prod.mk.injEq] at h; rw [<-h.1,<-h.2.1]; simp
   ·split at h
    ·simp only [Prod.mk.injEq] at h; rw [<-h.1,<-h.2.1]; simp
    ·simp only [Prod.mk.injEq] at h; exact absurd h.2.2.symm e
def put7 (W:World) (n:Nat) (d1 d2 kd b1 b2 f g:Int):World:=((((((W.setCell ⟨n,0,none⟩ (.int .u64 d1)).setCell ⟨n,1,none⟩ (.int .u64 d2)).setCell ⟨n,2,none⟩ (.int .i64 kd)).setCell ⟨n,3,none⟩ (.int .u64 b1)).setCell ⟨n,4,none⟩ (.int .u64 b2)).setCell ⟨n,5,none⟩ (.int .i64 f)).setCell ⟨n,6,none⟩ (.int .i64 g)
theorem put7_law {W:World} {n:Nat} {x0 x1 x2 x3 x4 x5 x6:Value} (h:BK n #[x0,x1,x2,x3,x4,x5,x6] 53 W) (d1 d2 kd b1 b2 f g:Int):BK n #[.int .u64 d1,.int .u64 d2,.int .i64 kd,.int .u64 b1,.int .u64 b2,.int .i64 f,.int .i64 g] 53 (put7 W n d1 d2 kd b1 b2 f g):=by
 unfold put7
 have h0:BK n #[.int .u64 d1,x1,x2,x3,x4,x5,x6] _ _:=h.set 0 (.int .u64 d1)
 have h1:BK n #[.int .u64 d1,.int .u64 d2,x2,x3,x4,x5,x6] _ _:=h0.set 1 (.int .u64 d2)
 have h2:BK n #[.int .u64 d1,.int .u64 d2,.int .i64 kd,x3,x4,x5,x6] _ _:=h1.set 2 (.int .i64 kd)
 have h3:BK n #[.int .u64 d1,.int .u64 d2,.int .i64 kd,.int .u64 b1,x4,x5,x6] _ _:=h2.set 3 (.int .u64 b1)
 have h4:BK n #[.int .u64 d1,.int .u64 d2,.int .i64 kd,.int .u64 b1,.int .u64 b2,x5,x6] _ _:=h3.set 4 (.int .u64 b2)
 have h5:BK n #[.int .u64 d1,.int .u64 d2,.int .i64 kd,.int .u64 b1,.int .u64 b2,.int .i64 f,x6] _ _:=h4.set 5 (.int .i64 f)
 exact h5.set 6 (.int .i64 g)
theorem put7_below {B:Nat} {w W:World} (h:Below B w W) {n:Nat} (hn:B<=n) (d1 d2 kd b1 b2 f g:Int):Below B w (put7 W n d1 d2 kd b1 b2 f g):=((((((h.setCell hn _).setCell hn _).setCell hn _).setCell hn _).setCell hn _).setCell hn _).setCell hn _
abbrev peZ:Array Value:=#[.int .u64 0,.int .u64 0,.int .i64 0,.int .u64 0,.int .u64 0,.int .i64 0,.int .i64 0]
theorem entry_any (b:List UInt8) (k:Nat) (w:World) (hk:k<=b.length) (hl:(b.length:Int)<=70368744177664):Calls Tryz.prog 40 #[.string ⟨b.toArray⟩,.int .i64 (k:Int)] w (GotPe b k w):=by
 have hsz:=ba_len b
 obtain ⟨m,hm⟩:∃ m,m=b.length:=⟨_,rfl⟩
 rw [<-hm] at hsz hk hl
 have hw1:IntKind.i64.wrap ((m:Int) - (k:Int))=(m:Int) - (k:Int):=wrap_i64 (by omega) (by omega)
 by_cases h16:m < k + 16
 ·have hi:(m:Int) - (k:Int) < 16:=by omega
  have HE:=hid (entryS_short (b:=b) (k:=k) (by omega))
  clear hm
  go_enter Tryz.func40,Tryz.ntmps40
  go_wp2_with fail
  refine bodyPost_ret (v:=.tuple #[.agg peZ,.bool false]) (by simp [results,Tryz.results40,go_sem]) rfl ?_
  refine ⟨⟨(0,0),0,(0,0),0,0⟩,false,rfl,(fun h=>by cases h),(fun _=>HE.out),?_⟩
  repeat (first | exact Below.refl _ _ | (refine Below.setCell ?_ (by simp) _) | (refine Below.alloc ?_ (by simp) _))
 have hi:¬ (m:Int) - (k:Int) < 16:=by omega
 have h16':k + 16<=b.length:=by omega
 have hsl:=fun W=>sl_lo b k (by omega) W
 have hex:(⟨b.toArray⟩:ByteArray).extract k m=⟨(b.drop k).toArray⟩:=by rw [ex_mid,List.take_of_length_le (by simp [hm])]
 have HC1:=hid (fun W=>digestAt_any (b.drop k) W (by rw [List.length_drop]; omega) (by rw [List.length_drop]; omega))
 obtain ⟨⟨D1,D2⟩,hD⟩:∃ D,D=fixD (b.drop k):=⟨_,rfl⟩
 rw [<-hD] at HC1
 obtain ⟨S1,hS1⟩:∃ S1,S1=b.drop k:=⟨_,rfl⟩
 rw [<-hS1] at HC1 hsl hex
 obtain ⟨q,hq⟩:∃ q,q=k + 16:=⟨_,rfl⟩
 have hwq:IntKind.i64.wrap ((k:Int) + 16)=(q:Int):=by rw [wrap_i64 (by omega) (by omega)]; omega
 have hsl2:=fun W=>sl_lo b q (by omega) W
 have hex2:(⟨b.toArray⟩:ByteArray).extract q m=⟨(b.drop q).toArray⟩:=by rw [ex_mid,List.take_of_length_le (by simp [hm])]
 obtain ⟨kd,u,er,hg⟩:∃ kd u er,Cw.getI (b.drop q)=(kd,u,er):=⟨_,_,_,rfl⟩
 have HG:=hid (fun X=>getInt_is (s:=⟨(b.drop q).toArray⟩) (n:=kd) (k:=u) (er:=er) (by simpa using hg) X)
 obtain ⟨g1,g2,g3,g4⟩:=getI_all hg
 rw [List.length_drop] at g4
 obtain ⟨u0,rfl⟩:∃ u0:Nat,u=(u0:Int):=⟨u.toNat,by omega⟩
 have hgk:Cw.getI (b.drop (k + 16))=(kd,(u0:Int),er):=by rw [<-hq]; exact hg
 have HBAD:=hid (entryS_bad h16' hgk)
 obtain ⟨S2,hS2⟩:∃ S2,S2=b.drop q:=⟨_,rfl⟩
 rw [<-hS2] at HG hsl2 hex2
 have HKZ:Hid (BK w.heap.size peZ 53 ((w.alloc (.cells peZ 53)).alloc (.cells peZ 53))/\BK (w.heap.size + 1) peZ 53 ((w.alloc (.cells peZ 53)).alloc (.cells peZ 53))/\Below w.heap.size w ((w.alloc (.cells peZ 53)).alloc (.cells peZ 53))):=hid ⟨(BK.new _ _ _).alloc _,BK.new2 _ _ _ _,((Below.refl _ w).alloc (Nat.le_refl _) _).alloc (by simp) _⟩
 have HM:=hid hm
 have HD:=hid hD
 have HS1:=hid hS1
 have HQ:=hid hq
 have HS2:=hid hS2
 have HGK:=hid hgk
 clear hm hD hS1 hq hS2 hgk hg h16
 go_enter Tryz.func40,Tryz.ntmps40
 go_wp2_with fail
 (with_reducible refine (HC1.out _).mono ?_)
 rintro e u1 ⟨rfl,hb⟩
 obtain ⟨z1,z2,z3⟩:=HKZ.out
 have HZ:=hid (z1.below hb)
 have HX0:=z2.below hb
 have HB1:=hid (z3.trans (hb.mono z3.size))
 have HX1:Hid (BK (w.heap.size + 1) #[.int .u64 D1,.int .u64 D2,.int .i64 0,.int .u64 0,.int .u64 0,.int .i64 0,.int .i64 0] 53 ((u1.setCell ⟨w.heap.size + 1,0,none⟩ (.int .u64 D1)).setCell ⟨w.heap.size + 1,1,none⟩ (.int .u64 D2))):=hid ((HX0.set 0 _).set 1 _)
 have HZ1:Hid (BK w.heap.size peZ 53 ((u1.setCell ⟨w.heap.size + 1,0,none⟩ (.int .u64 D1)).setCell ⟨w.heap.size + 1,1,none⟩ (.int .u64 D2))):=hid ((HZ.out.other (by omega) _ _).other (by omega) _ _)
 have HBS:Hid (Below w.heap.size w ((u1.setCell ⟨w.heap.size + 1,0,none⟩ (.int .u64 D1)).setCell ⟨w.heap.size + 1,1,none⟩ (.int .u64 D2))):=hid ((HB1.out.setCell (by simp) _).setCell (by simp) _)
 obtain ⟨x0,x1,x2,x3,x4,x5,x6⟩:=BK.c7 (show BK _ #[.int .u64 0,.int .u64 0,.int .i64 0,.int .u64 0,.int .u64 0,.int .i64 0,.int .i64 0] _ _ from HX0)
 obtain ⟨fx0,fx1,fx2,fx3,fx4,fx5,fx6⟩:=BK.f7 (HX0)
 go_wp2_with fail
 (with_reducible refine (HG.out _).mono ?_)
 rintro e u2 ⟨rfl,rfl⟩
 clear HG HC1 hsl hex hsl2 hex2
 obtain ⟨W1,hW1⟩:∃ W1,W1=(u1.setCell ⟨w.heap.size + 1,0,none⟩ (.int .u64 D1)).setCell ⟨w.heap.size + 1,1,none⟩ (.int .u64 D2):=⟨_,rfl⟩
 rw [<-hW1] at HX1 HZ1 HBS ⊢
 clear hW1 HKZ HZ HX0 HB1 x0 x1 x2 x3 x4 x5 x6 fx0 fx1 fx2 fx3 fx4 fx5 fx6 z1 z2 z3 hb
 obtain ⟨x0,x1,x2,x3,x4,x5,x6⟩:=BK.c7 (show BK _ #[.int .u64 D1,.int .u64 D2,.int .i64 0,.int .u64 0,.int .u64 0,.int .i64 0,.int .i64 0] _ _ from HX1.out)
 obtain ⟨fx0,fx1,fx2,fx3,fx4,fx5,fx6⟩:=BK.f7 (HX1.out)
 obtain ⟨y0,y1,y2,y3,y4,y5,y6⟩:=BK.c7 (show BK _ #[.int .u64 0,.int .u64 0,.int .i64 0,.int .u64 0,.int .u64 0,.int .i64 0,.int .i64 0] _ _ from HZ1.out)
 obtain ⟨fy0,fy1,fy2,fy3,fy4,fy5,fy6⟩:=BK.f7 (HZ1.out)
 obtain ⟨x0,x1,x2,x3,x4,x5,x6⟩:=BK.c7 (show BK _ #[.int .u64 D1,.int .u64 D2,.int .i64 0,.int .u64 0,.int .u64 0,.int .i64 0,.int .i64 0] _ _ from HX1.out)
 obtain ⟨fx0,fx1,fx2,fx3,fx4,fx5,fx6⟩:=BK.f7 (HX1.out)
 obtain ⟨y0,y1,y2,y3,y4,y5,y6⟩:=BK.c7 (show BK _ #[.int .u64 0,.int .u64 0,.int .i64 0,.int .u64 0,.int .u64 0,.int .i64 0,.int .i64 0] _ _ from HZ1.out)
 obtain ⟨fy0,fy1,fy2,fy3,fy4,fy5,fy6⟩:=BK.f7 (HZ1.out)
 obtain ⟨x0,x1,x2,x3,x4,x5,x6⟩:=BK.c7 (show BK _ #[.int .u64 D1,.int .u64 D2,.int .i64 0,.int .u64 0,.int .u64 0,.int .i64 0,.int .i64 0] _ _ from HX1.out)
 obtain ⟨fx0,fx1,fx2,fx3,fx4,fx5,fx6⟩:=BK.f7 (HX1.out)
 obtain ⟨y0,y1,y2,y3,y4,y5,y6⟩:=BK.c7 (show BK _ #[.int .u64 0,.int .u64 0,.int .i64 0,.int .u64 0,.int .u64 0,.int .i64 0,.int .i64 0] _ _ from HZ1.out)
 obtain ⟨fy0,fy1,fy2,fy3,fy4,fy5,fy6⟩:=BK.f7 (HZ1.out)
 by_cases hbad:er ≠ 0\/(kd ≠ 0/\kd ≠ 1)
 case pos=>
  have HE:=hid (HBAD.out hbad)
  clear HX1 HBAD
  by_cases he:er=0
  ·subst he
   have hk0:kd ≠ 0/\kd ≠ 1:=hbad.elim (fun h=>absurd rfl h) id
   have hb0:(kd != 0)=true:=by simpa using hk0.1
   have hb1:(kd != 1)=true:=by simpa using hk0.2
   clear hk0 hbad
   go_wp2_with fail
   obtain ⟨W9,hW9⟩:∃ W9,W9=put7 W1 w.heap.size D1 D2 0 0 0 0 0:=⟨_,rfl⟩
   have hz9:=put7_law HZ1.out D1 D2 0 0 0 0 0
   have hb9:=put7_below HBS.out (Nat.le_refl _) D1 D2 0 0 0 0 0
   rw [<-hW9] at hz9 hb9
   unfold put7 at hW9
   rw [<-hW9]
   clear hW9 x0 x1 x2 x3 x4 x5 x6 fx0 fx1 fx2 fx3 fx4 fx5 fx6 y0 y1 y2 y3 y4 y5 y6 fy0 fy1 fy2 fy3 fy4 fy5 fy6
   obtain ⟨r0,r1,r2,r3,r4,r5,r6⟩:=BK.c7 (show BK _ #[.int .u64 D1,.int .u64 D2,.int .i64 0,.int .u64 0,.int .u64 0,.int .i64 0,.int .i64 0] _ _ from hz9)
   refine bodyPost_ret (v:=.tuple #[.agg #[.int .u64 D1,.int .u64 D2,.int .i64 0,.int .u64 0,.int .u64 0,.int .i64 0,.int .i64 0],.bool false]) (by simp [results,Tryz.results40,go_sem,r0,r1,r2,r3,r4,r5,r6]) rfl ?_
   exact ⟨⟨(D1,D2),0,(0,0),0,0⟩,false,rfl,(fun h=>by cases h),(fun _=>HE.out),hb9⟩
  ·have hb0:(er != 0)=true:=by simpa using he
   clear hbad he
   go_wp2_with fail
   obtain ⟨W9,hW9⟩:∃ W9,W9=put7 W1 w.heap.size D1 D2 0 0 0 0 0:=⟨_,rfl⟩
   have hz9:=put7_law HZ1.out D1 D2 0 0 0 0 0
   have hb9:=put7_below HBS.out (Nat.le_refl _) D1 D2 0 0 0 0 0
   rw [<-hW9] at hz9 hb9
   unfold put7 at hW9
   rw [<-hW9]
   clear hW9 x0 x1 x2 x3 x4 x5 x6 fx0 fx1 fx2 fx3 fx4 fx5 fx6 y0 y1 y2 y3 y4 y5 y6 fy0 fy1 fy2 fy3 fy4 fy5 fy6
   obtain ⟨r0,r1,r2,r3,r4,r5,r6⟩:=BK.c7 (show BK _ #[.int .u64 D1,.int .u64 D2,.int .i64 0,.int .u64 0,.int .u64 0,.int .i64 0,.int .i64 0] _ _ from hz9)
   refine bodyPost_ret (v:=.tuple #[.agg #[.int .u64 D1,.int .u64 D2,.int .i64 0,.int .u64 0,.int .u64 0,.int .i64 0,.int .i64 0],.bool false]) (by simp [results,Tryz.results40,go_sem,r0,r1,r2,r3,r4,r5,r6]) rfl ?_
   exact ⟨⟨(D1,D2),0,(0,0),0,0⟩,false,rfl,(fun h=>by cases h),(fun _=>HE.out),hb9⟩
 obtain ⟨he,hkk⟩:er=0/\(kd=0\/kd=1):=by omega
 subst he
 clear hbad HBAD
 have hgt:∀ s:List UInt8,(s.length:Int)<=70368744177664->∃ (x:List UInt8) (v:Nat) (er2:Int),Cw.getT s=(x,(v:Int),er2)/\x.length<=v/\v<=s.length/\Hid (∀ X,Calls Tryz.prog 87 #[.string ⟨s.toArray⟩] X fun e w'=>e = .returned (.tuple #[.string ⟨x.toArray⟩,.int .i64 (v:Int),.int .i64 er2])/\X=w'):=fun s hs=>by
  obtain ⟨x,v,er2,hg2⟩:∃ x v er2,Cw.getT s=(x,v,er2):=⟨_,_,_,rfl⟩
  obtain ⟨k3,k4,_⟩:=getT_all hg2
  have k5:=getT_room hg2
  obtain ⟨v0,rfl⟩:∃ v0:Nat,v=(v0:Int):=⟨v.toNat,by omega⟩
  refine ⟨x,v0,er2,hg2,by omega,by omega,hid (fun X=>?_)⟩
  have:=getText_any ⟨s.toArray⟩ X (by rw [ba_len]; omega)
  rw [show (⟨s.toArray⟩:ByteArray).data.toList=s by simp,hg2] at this
  exact this
 obtain ⟨p,hp⟩:∃ p,p=q + u0:=⟨_,rfl⟩
 have hqm:p<=m:=by have:=HM.out; have:=HQ.out; omega
 have hwa:IntKind.i64.wrap ((q:Int) + (u0:Int))=(p:Int):=by rw [wrap_i64 (by omega) (by omega)]; omega
 have HP:=hid hp
 clear hp
 have HZ3:=hid (HZ1.out.other (c:=w.heap.size + 1) (by omega) 2 (.int .i64 kd))
 have HX3:Hid (BK (w.heap.size + 1) #[.int .u64 D1,.int .u64 D2,.int .i64 kd,.int .u64 0,.int .u64 0,.int .i64 0,.int .i64 0] 53 (W1.setCell ⟨w.heap.size + 1,2,none⟩ (.int .i64 kd))):=hid (HX1.out.set 2 _)
 have HB3:=hid (HBS.out.setCell (p:=⟨w.heap.size + 1,2,none⟩) (by simp) (.int .i64 kd))
 clear HX1 HZ1 HBS g1 g2
 rcases hkk with rfl | rfl
 ·obtain ⟨x,v,er2,hg2,hxv,hvl,HT⟩:=hgt (b.drop (p)) (by rw [List.length_drop]; have:=HM.out; omega)
  have HE:Hid (entryS b k=if er2 ≠ 0 then none else some ⟨(D1,D2),0,(0,0),p + v - x.length,x.length⟩):=hid (by
   have hq:=HQ.out
   have hp:=HP.out
   subst hq
   subst hp
   rw [entryS_0 h16' HGK.out hg2]
   rw [<-HD.out])
  have hsx:=ba_len x
  obtain ⟨xl,hxl⟩:∃ xl,xl=x.length:=⟨_,rfl⟩
  rw [<-hxl] at hsx HE hxv
  rw [List.length_drop] at hvl
  have hpl:p + v<=m:=by have:=HM.out; omega
  have hsl:=fun W=>sl_lo b (p) (by have:=HM.out; omega) W
  have hex:(⟨b.toArray⟩:ByteArray).extract (p) m=⟨(b.drop (p)).toArray⟩:=by rw [ex_mid,List.take_of_length_le (by simp [HM.out])]
  generalize b.drop (p)=S5 at HT hsl hex
  obtain ⟨pv,hpv⟩:∃ pv,pv=p + v:=⟨_,rfl⟩
  obtain ⟨f,hf⟩:∃ f,f=p + v - xl:=⟨_,rfl⟩
  rw [<-hf] at HE
  have hwb:IntKind.i64.wrap (((p:Nat):Int) + (v:Int))=(pv:Int):=by rw [wrap_i64 (by omega) (by omega)]; omega
  have hwc:IntKind.i64.wrap ((pv:Int) - (xl:Int))=(f:Int):=by rw [wrap_i64 (by omega) (by omega)]; omega
  clear hgt hg2 hxl hvl hpv hf
  go_wp2_with fail
  (with_reducible refine (HT.out _).mono ?_)
  rintro e u5 ⟨rfl,rfl⟩
  have HZ5:=HZ3.out.other (c:=w.heap.size + 1) (by omega) 6 (.int .i64 (xl:Int))
  have HZ6:=hid (HZ5.other (c:=w.heap.size + 1) (by omega) 5 (.int .i64 (f:Int)))
  have HB6:=hid ((HB3.out.setCell (p:=⟨w.heap.size + 1,6,none⟩) (by simp) (.int .i64 (xl:Int))).setCell (p:=⟨w.heap.size + 1,5,none⟩) (by simp) (.int .i64 (f:Int)))
  clear HZ5 HT hsl hex
  go_wp2_with fail
  obtain ⟨W9,hW9⟩:∃ W9,W9=put7 (((W1.setCell ⟨w.heap.size + 1,2,none⟩ (.int .i64 0)).setCell ⟨w.heap.size + 1,6,none⟩ (.int .i64 (xl:Int))).setCell ⟨w.heap.size + 1,5,none⟩ (.int .i64 (f:Int))) w.heap.size D1 D2 0 0 0 (f:Int) (xl:Int):=⟨_,rfl⟩
  have hz9:=put7_law HZ6.out D1 D2 0 0 0 (f:Int) (xl:Int)
  have hb9:=put7_below HB6.out (Nat.le_refl _) D1 D2 0 0 0 (f:Int) (xl:Int)
  rw [<-hW9] at hz9 hb9
  unfold put7 at hW9
  rw [<-hW9]
  clear hW9 x0 x1 x2 x3 x4 x5 x6 fx0 fx1 fx2 fx3 fx4 fx5 fx6 y0 y1 y2 y3 y4 y5 y6 fy0 fy1 fy2 fy3 fy4 fy5 fy6
  obtain ⟨r0,r1,r2,r3,r4,r5,r6⟩:=BK.c7 (show BK _ #[.int .u64 D1,.int .u64 D2,.int .i64 0,.int .u64 0,.int .u64 0,.int .i64 (f:Int),.int .i64 (xl:Int)] _ _ from hz9)
  refine bodyPost_ret (v:=.tuple #[.agg #[.int .u64 D1,.int .u64 D2,.int .i64 0,.int .u64 0,.int .u64 0,.int .i64 (f:Int),.int .i64 (xl:Int)],.bool (er2 == 0)]) (by simp [results,Tryz.results40,go_sem,r0,r1,r2,r3,r4,r5,r6]) rfl ?_
  refine ⟨⟨(D1,D2),0,(0,0),f,xl⟩,er2 == 0,rfl,fun h=>?_,fun h=>?_,hb9⟩
  ·have e:er2=0:=by simpa using h
   rw [HE.out,if_neg (by simp [e])]
  ·have e:er2 ≠ 0:=by simpa using h
   rw [HE.out,if_pos e]
 ·have hwm:IntKind.i64.wrap ((m:Int) - (p:Int))=(m:Int) - (p:Int):=wrap_i64 (by omega) (by omega)
  by_cases hsh:m < p + 16
  ·have hi2:(m:Int) - (p:Int) < 16:=by omega
   have HE:=hid (entryS_short2 h16' HGK.out (by have:=HM.out; have:=HQ.out; have:=HP.out; omega))
   clear hgt hsh
   go_wp2_with fail
   obtain ⟨W9,hW9⟩:∃ W9,W9=put7 (W1.setCell ⟨w.heap.size + 1,2,none⟩ (.int .i64 1)) w.heap.size D1 D2 1 0 0 0 0:=⟨_,rfl⟩
   have hz9:=put7_law HZ3.out D1 D2 1 0 0 0 0
   have hb9:=put7_below HB3.out (Nat.le_refl _) D1 D2 1 0 0 0 0
   rw [<-hW9] at hz9 hb9
   unfold put7 at hW9
   rw [<-hW9]
   clear hW9 x0 x1 x2 x3 x4 x5 x6 fx0 fx1 fx2 fx3 fx4 fx5 fx6 y0 y1 y2 y3 y4 y5 y6 fy0 fy1 fy2 fy3 fy4 fy5 fy6
   obtain ⟨r0,r1,r2,r3,r4,r5,r6⟩:=BK.c7 (show BK _ #[.int .u64 D1,.int .u64 D2,.int .i64 1,.int .u64 0,.int .u64 0,.int .i64 0,.int .i64 0] _ _ from hz9)
   refine bodyPost_ret (v:=.tuple #[.agg #[.int .u64 D1,.int .u64 D2,.int .i64 1,.int .u64 0,.int .u64 0,.int .i64 0,.int .i64 0],.bool false]) (by simp [results,Tryz.results40,go_sem,r0,r1,r2,r3,r4,r5,r6]) rfl ?_
   exact ⟨⟨(D1,D2),1,(0,0),0,0⟩,false,rfl,(fun h=>by cases h),(fun _=>HE.out),hb9⟩
  ·have hi2:¬ (m:Int) - (p:Int) < 16:=by omega
   have hsl3:=fun W=>sl_lo b p (by have:=HM.out; omega) W
   have hex3:(⟨b.toArray⟩:ByteArray).extract p m=⟨(b.drop p).toArray⟩:=by rw [ex_mid,List.take_of_length_le (by simp [HM.out])]
   have HC2:=hid (fun W=>digestAt_any (b.drop p) W (by rw [List.length_drop]; have:=HM.out; omega) (by rw [List.length_drop]; have:=HM.out; omega))
   obtain ⟨⟨B1,B2⟩,hBD⟩:∃ D,D=fixD (b.drop p):=⟨_,rfl⟩
   rw [<-hBD] at HC2
   have HBD:=hid hBD
   generalize b.drop p=S3 at HC2 hsl3 hex3
   obtain ⟨p2,hp2⟩:∃ p2,p2=p + 16:=⟨_,rfl⟩
   have hwd:IntKind.i64.wrap ((p:Int) + 16)=(p2:Int):=by rw [wrap_i64 (by omega) (by omega)]; omega
   have HP2:=hid hp2
   clear hBD
   go_wp2_with fail
   (with_reducible refine (HC2.out _).mono ?_)
   rintro e u5 ⟨rfl,hb⟩
   have hz5:=HZ3.out.below hb
   have hx5:=HX3.out.below hb
   have hb5:=HB3.out.trans (hb.mono HB3.out.size)
   clear HC2 hsl3 hex3 x0 x1 x2 x3 x4 x5 x6 fx0 fx1 fx2 fx3 fx4 fx5 fx6 y0 y1 y2 y3 y4 y5 y6 fy0 fy1 fy2 fy3 fy4 fy5 fy6 hb
   obtain ⟨x0,x1,x2,x3,x4,x5,x6⟩:=BK.c7 (show BK _ #[.int .u64 D1,.int .u64 D2,.int .i64 1,.int .u64 0,.int .u64 0,.int .i64 0,.int .i64 0] _ _ from hx5)
   obtain ⟨fx0,fx1,fx2,fx3,fx4,fx5,fx6⟩:=BK.f7 (hx5)
   obtain ⟨y0,y1,y2,y3,y4,y5,y6⟩:=BK.c7 (show BK _ #[.int .u64 0,.int .u64 0,.int .i64 0,.int .u64 0,.int .u64 0,.int .i64 0,.int .i64 0] _ _ from hz5)
   obtain ⟨fy0,fy1,fy2,fy3,fy4,fy5,fy6⟩:=BK.f7 (hz5)
   have HZ7:=hid ((hz5.other (c:=w.heap.size + 1) (by omega) 3 (.int .u64 B1)).other (c:=w.heap.size + 1) (by omega) 4 (.int .u64 B2))
   have HB7:=hid ((hb5.setCell (p:=⟨w.heap.size + 1,3,none⟩) (by simp) (.int .u64 B1)).setCell (p:=⟨w.heap.size + 1,4,none⟩) (by simp) (.int .u64 B2))
   clear hz5 hx5 hb5 HZ3 HX3 HB3
   have hp2m:p2<=m:=by omega
   clear hp2
   obtain ⟨x,v,er2,hg2,hxv,hvl,HT⟩:=hgt (b.drop (p2)) (by rw [List.length_drop]; have:=HM.out; omega)
   have HE:Hid (entryS b k=if er2 ≠ 0 then none else some ⟨(D1,D2),1,(B1,B2),p2 + v - x.length,x.length⟩):=hid (by
    have hq:=HQ.out
    have hp:=HP.out
    subst hq
    subst hp
    have hp2:=HP2.out
    subst hp2
    rw [entryS_1 h16' HGK.out (by have:=HM.out; omega) hg2]
    rw [<-HD.out,<-HBD.out])
   have hsx:=ba_len x
   obtain ⟨xl,hxl⟩:∃ xl,xl=x.length:=⟨_,rfl⟩
   rw [<-hxl] at hsx HE hxv
   rw [List.length_drop] at hvl
   have hpl:p2 + v<=m:=by have:=HM.out; omega
   have hsl:=fun W=>sl_lo b (p2) (by have:=HM.out; omega) W
   have hex:(⟨b.toArray⟩:ByteArray).extract (p2) m=⟨(b.drop (p2)).toArray⟩:=by rw [ex_mid,List.take_of_length_le (by simp [HM.out])]
   generalize b.drop (p2)=S5 at HT hsl hex
   obtain ⟨pv,hpv⟩:∃ pv,pv=p2 + v:=⟨_,rfl⟩
   obtain ⟨f,hf⟩:∃ f,f=p2 + v - xl:=⟨_,rfl⟩
   rw [<-hf] at HE
   have hwb:IntKind.i64.wrap (((p2:Nat):Int) + (v:Int))=(pv:Int):=by rw [wrap_i64 (by omega) (by omega)]; omega
   have hwc:IntKind.i64.wrap ((pv:Int) - (xl:Int))=(f:Int):=by rw [wrap_i64 (by omega) (by omega)]; omega
   clear hgt hg2 hxl hvl hpv hf
   go_wp2_with fail
   (with_reducible refine (HT.out _).mono ?_)
   rintro e u6 ⟨rfl,rfl⟩
   have HZ8:=hid ((HZ7.out.other (c:=w.heap.size + 1) (by omega) 6 (.int .i64 (xl:Int))).other (c:=w.heap.size + 1) (by omega) 5 (.int .i64 (f:Int)))
   have HB8:=hid ((HB7.out.setCell (p:=⟨w.heap.size + 1,6,none⟩) (by simp) (.int .i64 (xl:Int))).setCell (p:=⟨w.heap.size + 1,5,none⟩) (by simp) (.int .i64 (f:Int)))
   clear HT hsl hex HZ7 HB7
   go_wp2_with fail
   obtain ⟨W9,hW9⟩:∃ W9,W9=put7 ((((u5.setCell ⟨w.heap.size + 1,3,none⟩ (.int .u64 B1)).setCell ⟨w.heap.size + 1,4,none⟩ (.int .u64 B2)).setCell ⟨w.heap.size + 1,6,none⟩ (.int .i64 (xl:Int))).setCell ⟨w.heap.size + 1,5,none⟩ (.int .i64 (f:Int))) w.heap.size D1 D2 1 B1 B2 (f:Int) (xl:Int):=⟨_,rfl⟩
   have hz9:=put7_law HZ8.out D1 D2 1 B1 B2 (f:Int) (xl:Int)
   have hb9:=put7_below HB8.out (Nat.le_refl _) D1 D2 1 B1 B2 (f:Int) (xl:Int)
   rw [<-hW9] at hz9 hb9
   unfold put7 at hW9
   rw [<-hW9]
   clear hW9 x0 x1 x2 x3 x4 x5 x6 fx0 fx1 fx2 fx3 fx4 fx5 fx6 y0 y1 y2 y3 y4 y5 y6 fy0 fy1 fy2 fy3 fy4 fy5 fy6
   obtain ⟨r0,r1,r2,r3,r4,r5,r6⟩:=BK.c7 (show BK _ #[.int .u64 D1,.int .u64 D2,.int .i64 1,.int .u64 B1,.int .u64 B2,.int .i64 (f:Int),.int .i64 (xl:Int)] _ _ from hz9)
   refine bodyPost_ret (v:=.tuple #[.agg #[.int .u64 D1,.int .u64 D2,.int .i64 1,.int .u64 B1,.int .u64 B2,.int .i64 (f:Int),.int .i64 (xl:Int)],.bool (er2 == 0)]) (by simp [results,Tryz.results40,go_sem,r0,r1,r2,r3,r4,r5,r6]) rfl ?_
   refine ⟨⟨(D1,D2),1,(B1,B2),f,xl⟩,er2 == 0,rfl,fun h=>?_,fun h=>?_,hb9⟩
   ·have e:er2=0:=by simpa using h
    rw [HE.out,if_neg (by simp [e])]
   ·have e:er2 ≠ 0:=by simpa using h
    rw [HE.out,if_pos e]
def GotE (w:World) (r:List Pe × Int) (e:Ending) (w':World):Prop:=∃ a c,e = .returned (.tuple #[.slice a r.1.length c,.int .i64 r.2])/\GIn peCs 7 w'.heap.size w' a r.1/\Below w.heap.size w w'
theorem GotE.no {w w':World} (er:Int) (hb:Below w.heap.size w w'):GotE w ([],er) (.returned (.tuple #[.slice none 0 0,.int .i64 er])) w':=⟨none,0,rfl,GIn.nil _ _ _,hb⟩
theorem infoPe:(Tryz.prog.info? 53).map (fun i=>(i.zero,i.size,i.bytes))=some (some (.agg #[.int .u64 0,.int .u64 0,.int .i64 0,.int .u64 0,.int .u64 0,.int .i64 0,.int .i64 0]),7,56):=by kernel_rfl
theorem append_pe {base:Nat} {W:World} {v:Value} {n:Nat} {l:List Pe} (hn:n=l.length) (hown:W.ownsRow base 53 7 v n (gcs peCs l)) (x:Pe) (hlen:(n:Int)<=1000000) (hbase:base<=W.heap.size) :
  ∃ v' W',Hid ((Builtin.append_ #[35,35] 35 #[v,.slice (some ⟨W.heap.size,0,none⟩) 1 1]).run Tryz.prog (W.alloc (.cells (peCs x).toArray 53)) = .ok v' W')/\W'.ownsRow base 53 7 v' (n + 1) (gcs peCs (l ++ [x]))/\(W.alloc (.cells (peCs x).toArray 53)).grownBy W' v.ownBlock/\(v'.ownBlock=v.ownBlock\/v'.ownBlock=some (W.heap.size + 1)):=by
 obtain ⟨i0,hi,hz0,hz1,hz2⟩:=info_parts infoPe
 exact append_oneG layPe Tryz.underlying35 hi hz0 hz1 hz2 rfl hn hown x hlen (by decide) hbase
structure EnSt (b:List UInt8) (R:List Pe × Int) (n k p:Nat) (l:List Pe):Prop where
 go:R=peGo b (n - k) p l
 len:l.length=k
 le:p<=b.length
theorem EnSt.none {b:List UInt8} {R:List Pe × Int} {n k p:Nat} {l:List Pe} (h:EnSt b R n k p l) (hk:k < n) (he:entryS b p=none):R=([],13):=by
 rw [h.go,show n - k=(n - (k + 1)) + 1 by omega,peGo,he]
theorem EnSt.met {b:List UInt8} {R:List Pe × Int} {n k p:Nat} {l:List Pe} {x:Pe} (h:EnSt b R n k p l) (hk:k < n) (he:entryS b p=some x) (hm:x.d ∈ l.map (·.d)):R=([],13):=by
 rw [h.go,show n - k=(n - (k + 1)) + 1 by omega,peGo,he]; simp only; rw [if_pos hm]
theorem EnSt.next {b:List UInt8} {R:List Pe × Int} {n k p:Nat} {l:List Pe} {x:Pe} (h:EnSt b R n k p l) (hk:k < n) (he:entryS b p=some x) (hm:¬ x.d ∈ l.map (·.d)):EnSt b R n (k + 1) (x.off + x.len) (l ++ [x]):=by
 refine ⟨?_,by rw [List.length_append,h.len]; rfl,(entryS_at he).1.hi⟩
 rw [h.go,show n - k=(n - (k + 1)) + 1 by omega,peGo,he]; simp only; rw [if_neg hm]
theorem EnSt.fin {b:List UInt8} {R:List Pe × Int} {n p:Nat} {l:List Pe} (h:EnSt b R n n p l):R=if p=b.length then (l,0) else ([],13):=by
 rw [h.go,Nat.sub_self,peGo]
theorem memD_snoc (l:List Pe) (x:Pe) (d:Int × Int):(decide (d ∈ l.map (·.d)) || decide (d=x.d))=decide (d ∈ (l ++ [x]).map (·.d)):=by
 rw [<-Bool.decide_or]
 congr 1
 simp
theorem entries_any (s:List UInt8) (w:World) (hl:(s.length:Int)<=70368744177664):Calls Tryz.prog 14 #[.string ⟨s.toArray⟩] w (GotE w (entriesS s)):=by
 have hsz:=ba_len s
 have HB0:=hid (Below.refl w.heap.size w)
 by_cases h16:s.length < 16
 ·have HE:Hid (entriesS s=([],12)):=hid (by unfold entriesS; rw [if_pos h16])
  obtain ⟨n,hn⟩:∃ n,n=s.length:=⟨_,rfl⟩
  rw [<-hn] at hsz hl h16
  have hw1:IntKind.i64.wrap ((n:Int) - 16)=(n:Int) - 16:=by simp [IntKind.wrap,IntKind.bits,IntKind.signed]; omega
  have hi:(n:Int) - 16 < 0:=by omega
  rw [HE.out]
  clear hn HE
  go_enter Tryz.func14,Tryz.ntmps14
  go_wp2_with fail
  go_ret2
  exact GotE.no 12 HB0.out
 obtain ⟨m,hm⟩:∃ m,m=s.length - 16:=⟨_,rfl⟩
 have hw1:IntKind.i64.wrap ((s.length:Int) - 16)=(m:Int):=by rw [wrap_i64 (by omega) (by omega)]; omega
 have hi:¬ (m:Int) < 0:=by omega
 have hsl:=fun W=>sl_hi s m (by omega) W
 have hex:(⟨s.toArray⟩:ByteArray).extract 0 m=⟨(s.take m).toArray⟩:=by rw [ex_mid]; rfl
 have hsl2:=fun W=>sl_lo s m (by omega) W
 have hex2:(⟨s.toArray⟩:ByteArray).extract m s.length=⟨(s.drop m).toArray⟩:=by rw [ex_mid,List.take_of_length_le (by simp)]
 have HC1:=hid (fun W=>of_any (s.take m) W (by rw [List.length_take]; omega))
 have HC2:=hid (fun W=>digestAt_any (s.drop m) W (by rw [List.length_drop]; omega) (by rw [List.length_drop]; omega))
 have HE:Hid (entriesS s=if digS (s.take m) ≠ fixD (s.drop m) then ([],14) else pbodyS (s.take m)):=hid (by unfold entriesS; rw [if_neg h16,<-hm])
 have hbl:(s.take m).length=m:=by rw [List.length_take]; omega
 generalize s.take m=b at hsl hex HC1 HE hbl
 have hfd:=okD_fix (s.drop m)
 generalize s.drop m=b2 at hsl2 hex2 HC2 HE hfd
 generalize hd1:digS b=D1 at HC1 HE
 generalize hd2:fixD b2=D2 at HC2 HE hfd
 obtain ⟨x1,y1⟩:=D1
 obtain ⟨x2,y2⟩:=D2
 simp only at HC1 HC2
 obtain ⟨E,hE⟩:∃ E,E=entriesS s:=⟨_,rfl⟩
 rw [<-hE] at HE ⊢
 obtain ⟨n,hn⟩:∃ n,n=s.length:=⟨_,rfl⟩
 rw [<-hn] at hsz hl hw1 hex2 h16 hm
 have hmn:(m:Int)<=70368744177664:=by omega
 have hqn:=fun W=>neq_dig x1 y1 x2 y2 W
 have HR1:=hid (fun d os=>Calls.regrown_of (w:=w) (d:=d) (os:=os) (HC1.out _))
 have HR2:=hid (fun d os=>Calls.regrown_of (w:=w) (d:=d) (os:=os) (HC2.out _))
 have hsb:=ba_len b
 rw [hbl] at hsb
 have HBL:=hid hbl
 clear hE hd1 hd2 hn hm h16 hbl HC1 HC2
 by_cases hne:(x1,y1)=(x2,y2)
 case neg=>
  have hb:(x1 == x2 && y1 == y2)=false:=by
   cases h:(x1 == x2 && y1 == y2) with
   | false=>rfl
   | true=>exact absurd (by simp only [Bool.and_eq_true,beq_iff_eq] at h; rw [h.1,h.2]) hne
  have HE2:Hid (E=([],14)):=hid (by rw [HE.out,if_pos hne])
  rw [hb] at hqn
  simp only [Bool.not_false] at hqn
  clear hne HE hb
  go_enter Tryz.func14,Tryz.ntmps14
  go_wp2_with fail
  refine wp_region_quiet_below (by kernel_rfl) (by kernel_rfl) ?_
  repeat (any_goals (first | go_big_quiet_step (first | (with_reducible exact HR1.out _ _) | (with_reducible exact HR2.out _ _)) | quiet_step (first | (with_reducible exact HR1.out _ _) | (with_reducible exact HR2.out _ _))))
  refine wpQuiet_nil ?_
  intro w2 hw2
  have HB2:=hid (below_rg hw2)
  clear hw2
  go_wp2_with fail
  go_ret2
  rw [HE2.out]
  exact GotE.no 14 HB2.out
 case pos=>
 have HE2:Hid (E=pbodyS b):=hid (by rw [HE.out,if_neg (by simp [hne])])
 have hb:(x1 == x2 && y1 == y2)=true:=by
  simp only [Prod.mk.injEq] at hne
  simp [hne.1,hne.2]
 rw [hb] at hqn
 simp only [Bool.not_true] at hqn
 clear hne HE hb
 obtain ⟨kn,u,er,hg⟩:∃ kn u er,Cw.getI b=(kn,u,er):=⟨_,_,_,rfl⟩
 have HG:=hid (fun X=>getInt_is (s:=⟨b.toArray⟩) (n:=kn) (k:=u) (er:=er) (by simpa using hg) X)
 obtain ⟨g1,g2,g3,g4⟩:=getI_all hg
 obtain ⟨u0,rfl⟩:∃ u0:Nat,u=(u0:Int):=⟨u.toNat,by omega⟩
 obtain ⟨n0,rfl⟩:∃ n0:Nat,kn=(n0:Int):=⟨kn.toNat,by omega⟩
 have HBAD:Hid (er ≠ 0\/1000 < (n0:Int)->E=([],13)):=hid (fun h=>by rw [HE2.out]; unfold pbodyS; rw [hg]; simp only; rw [if_pos h])
 have HST:Hid (¬ (er ≠ 0\/1000 < (n0:Int))->EnSt b E n0 0 u0 []):=hid (fun h=>⟨by rw [HE2.out]; unfold pbodyS; rw [hg]; simp only; rw [if_neg h]; simp,rfl,by omega⟩)
 clear hg HE2
 have hmm:=@run_makeMap Tryz.prog
 go_enter Tryz.func14,Tryz.ntmps14
 go_wp2_with fail
 refine wp_region_quiet_below (by kernel_rfl) (by kernel_rfl) ?_
 repeat (any_goals (first | go_big_quiet_step (first | (with_reducible exact HR1.out _ _) | (with_reducible exact HR2.out _ _)) | quiet_step (first | (with_reducible exact HR1.out _ _) | (with_reducible exact HR2.out _ _))))
 refine wpQuiet_nil ?_
 intro w2 hw2
 have HB2:=hid (below_rg hw2)
 clear hw2 hqn HR1 HR2 hsl hsl2 hex hex2
 go_wp2_with fail
 (with_reducible refine (HG.out _).mono ?_)
 rintro e w3 ⟨rfl,rfl⟩
 clear HG
 by_cases hbad:er ≠ 0\/1000 < (n0:Int)
 case pos=>
  have HE3:=hid (HBAD.out hbad)
  by_cases he:er=0
  ·subst he
   have hi2:1000 < (n0:Int):=hbad.elim (fun h=>absurd rfl h) id
   clear hbad HBAD HST
   go_wp2_with fail
   go_ret2
   rw [HE3.out]
   exact GotE.no 13 HB2.out
  ·have hb0:(er != 0)=true:=by simpa using he
   clear hbad HBAD HST he
   go_wp2_with fail
   go_ret2
   rw [HE3.out]
   exact GotE.no 13 HB2.out
 case neg=>
 have HS0:=hid (HST.out hbad)
 have hn1:¬ 1000 < (n0:Int):=fun h=>hbad (.inr h)
 obtain rfl:er=0:=by
  by_cases e:er=0
  ·exact e
  ·exact absurd (.inl e) hbad
 clear hbad HBAD HST g1 g2
 obtain ⟨q,hq⟩:∃ q,q=w2.heap.size:=⟨_,rfl⟩
 have HM0:Hid (MapD q 0 (fun d=>decide (d ∈ ([]:List Pe).map (·.d))) (w2.alloc (.map #[] 0))):=hid (by rw [hq]; exact (MapD.made w2).eq (fun d=>by simp))
 have HBM:=hid (HB2.out.alloc HB2.out.size (.map #[] 0))
 have HQ:Hid (w.heap.size<=q):=hid (by rw [hq]; exact HB2.out.size)
 go_wp2_with fail
 rw [<-hq]
 clear HB2 hq
 go_loopw [7,9,42] (fun a v i wr=>∃ (k p:Nat) (ls:List Pe),k<=n0/\a = .int .i64 (p:Int)/\i = .int .i64 (k:Int)/\Hid (EnSt b E n0 k p ls)/\Hid (MapD q k (fun d=>decide (d ∈ ls.map (·.d))) wr)/\Hid (wr.ownsRow (q + 1) 53 7 v k (gcs peCs ls))/\Hid (Below w.heap.size w wr)) (fun _ _ i _=>n0 - (intOf i).toNat)
 case atStart=>exact ⟨0,u0,[],by omega,rfl,rfl,HS0,HM0,hid (World.ownsRow_nil _ _ _ _),HBM⟩
 case round=>
  clear HS0 HM0 HBM hmm
  obtain ⟨k,p,ls,hk,rfl,rfl,HS,HM,HO,HB⟩:=hrel
  obtain ⟨va,vc,rfl,hvc⟩:=ownsRow_sliceN HO.out
  have hpm:p<=m:=by rw [<-HBL.out]; exact HS.out.le
  by_cases hlt:k < n0
  ·have hki:(k:Int) < (n0:Int):=by omega
   have HC:=hid (entry_any b p wr (by rw [HBL.out]; exact hpm) (by rw [HBL.out]; exact hmn))
   go_wp2_with fail
   (with_reducible refine (HC.out).mono ?_)
   rintro e u1 ⟨x,t,rfl,ht,hf,hb⟩
   have HB1:=hid (HB.out.trans (hb.mono HB.out.size))
   have HO1:=hid (own_below HO.out hb)
   have HM1:=hid (HM.out.below hb)
   clear hb HB HO HM HC
   cases t with
   | false=>
    have HE4:=hid (HS.out.none hlt (hf rfl))
    have HB5:=hid (HB1.out.alloc HB1.out.size (.cells (peCs x).toArray 53))
    obtain ⟨⟨d1,d2⟩,kd,⟨b1,b2⟩,off,len⟩:=x
    simp only [Pe.val,peCs] at HB5 ⊢
    clear ht hf HB1 HO1 HM1 HS
    go_wp2_with fail
    go_ret2
    rw [HE4.out]
    exact GotE.no 13 HB5.out
   | true=>
    have hen:=ht rfl
    have hok:=(entryS_at hen).1.dok
    have hxm:=(entryS_at hen).1.hi
    rw [HBL.out] at hxm
    have hwr:IntKind.i64.wrap ((x.off:Int) + (x.len:Int))=((x.off + x.len:Nat):Int):=by rw [wrap_i64 (by omega) (by omega)]; omega
    obtain ⟨u2,hu2⟩:∃ u2,u2=u1.alloc (.cells (peCs x).toArray 53):=⟨_,rfl⟩
    have hbu:Below u1.heap.size u1 u2:=by rw [hu2]; exact (Below.refl _ _).alloc (Nat.le_refl _) _
    have HB3:=hid (HB1.out.trans (hbu.mono HB1.out.size))
    have HO3:=hid (own_below HO1.out hbu)
    have HM3:=hid (HM1.out.below hbu)
    have HX3:Hid (BK u1.heap.size (peCs x).toArray 53 u2):=hid (by rw [hu2]; exact BK.new _ _ _)
    have HU2:=hid hu2
    have hqlt:=HM1.out.lt
    clear hbu HB1 HM1 ht hf
    have hlk:=HM3.out.look hok
    obtain ⟨⟨d1,d2⟩,kd,⟨b1,b2⟩,off,len⟩:=x
    simp only [Pe.val,peCs] at *
    obtain ⟨x0,x1,x2,x3,x4,x5,x6⟩:=BK.c7 (show BK _ #[.int .u64 d1,.int .u64 d2,.int .i64 kd,.int .u64 b1,.int .u64 b2,.int .i64 (off:Int),.int .i64 (len:Int)] _ _ from HX3.out)
    by_cases hmem:(d1,d2) ∈ ls.map (·.d)
    ·have HE4:=hid (HS.out.met hlt hen hmem)
     rw [decide_eq_true hmem] at hlk
     have HB5:=hid HB3.out
     rw [hu2] at hlk x0 x1 x2 x3 x4 x5 x6 HB5
     clear hu2 HU2 HX3 HM3 HO3 HB3 hmem hen hok hxm hwr HS
     go_wp2_with fail
     go_ret2
     rw [HE4.out]
     exact GotE.no 13 HB5.out
    ·rw [decide_eq_false hmem] at hlk
     have HS4:=hid (HS.out.next hlt hen hmem)
     have hls:=HS.out.len
     have HMT:=hid (memD_snoc ls ⟨(d1,d2),kd,(b1,b2),off,len⟩)
     obtain ⟨u3,hput,hmp3,hg3⟩:=HM3.out.put hok (by omega)
     have hob:∀ g,(Value.slice va k vc).ownBlock=some g->g < u1.heap.size:=fun g hg=>(HO1.out.lt g hg).2
     have hx3b:=HX3.out.grow1 hg3 (by omega)
     have hb3b:=below_of_grown HB3.out hg3 HQ.out
     have ho3b:=own_kept HO3.out hg3 (by omega)
     have HMP:=hid (hmp3.eq HMT.out)
     have hs32:=hg3.size
     have hs21:u2.heap.size=u1.heap.size + 1:=by rw [hu2]; simp
     obtain ⟨v',W',hrun,hown',hg',_⟩:=append_pe hls.symm ho3b ⟨(d1,d2),kd,(b1,b2),off,len⟩ (by omega) (by have:=HMP.out.lt; omega)
     have HRUN:=hid hrun.out
     have HO5:=hid hown'
     have hx4:=(hx3b.alloc (.cells (peCs ⟨(d1,d2),kd,(b1,b2),off,len⟩).toArray 53)).grow hg' (fun g hg=>by have:=hob g hg; omega)
     have HM5:=hid ((HMP.out.alloc (.cells (peCs ⟨(d1,d2),kd,(b1,b2),off,len⟩).toArray 53)).kept hg' (own_map_ne ho3b (by omega)))
     have HB5:Hid (Below w.heap.size w W'):=hid ((hb3b.alloc hb3b.size _).grown hg' (by simp; have:=hb3b.size; omega) (fun g hg=>by have:=(HO1.out.lt g hg).1; have:=HQ.out; omega))
     obtain ⟨y0,y1,y2,y3,y4,y5,y6⟩:=BK.c7 (show BK _ #[.int .u64 d1,.int .u64 d2,.int .i64 kd,.int .u64 b1,.int .u64 b2,.int .i64 (off:Int),.int .i64 (len:Int)] _ _ from hx3b)
     obtain ⟨z0,z1,z2,z3,z4,z5,z6⟩:=BK.c7 (show BK _ #[.int .u64 d1,.int .u64 d2,.int .i64 kd,.int .u64 b1,.int .u64 b2,.int .i64 (off:Int),.int .i64 (len:Int)] _ _ from hx4)
     simp only [peCs] at HRUN
     rw [hu2] at hlk x0 x1 x2 x3 x4 x5 x6 hput
     clear hu2 HU2 HX3 HM3 HO3 HB3 hmem hen hok hxm HS hob hx3b hb3b ho3b hmp3 hg3 hg' hown' hrun HMP HMT hx4 hs32 hs21 HO1 hls
     go_wp2_with (at_builtin; refine Lib.wpList_append_run _ rfl _ _ _ _ rfl _ _ rfl rfl _ _ HRUN.out ?_)
     go_roundw
     case rel=>exact ⟨k + 1,off + len,_,by omega,rfl,by go_num,HS4,HM5,HO5,HB5⟩
     case measure=>simp [intOf] <;> omega
  ·obtain rfl:k=n0:=by omega
   have hki:¬ (k:Int) < (k:Int):=by omega
   have HF:=hid HS.out.fin
   rw [HBL.out] at HF
   have HI:=hid (own_gin layPe HS.out.len.symm HO.out)
   have HLE:=hid HS.out.len
   clear HS HM HO
   by_cases hp:p=m
   ·subst hp
    have HE4:Hid (E=(ls,0)):=hid (by rw [HF.out,if_pos rfl])
    clear HF
    go_wp2_with fail
    go_ret2
    rw [HE4.out]
    exact ⟨va,vc,by rw [HLE.out]; rfl,HI.out,HB.out⟩
   ·have hpe2:((p:Int) != (m:Int))=true:=by simp; omega
    have HE4:Hid (E=([],13)):=hid (by rw [HF.out,if_neg hp])
    clear HF hp
    go_wp2_with fail
    go_ret2
    rw [HE4.out]
    exact GotE.no 13 HB.out
def selfG (v:Value):Option (DataW Value × List MemPlace):=some (.held v,[])
def optG:Option Value->DataW Value->DataW Value
 | some v,_=>.held v
 | none,z=>z
structure KeyG (α:Type) where
 kt:TypeId
 val:α->Value
 lit:α->Lit
 ok:α->Prop
 law:Maps.Keyed Tryz.prog kt
 get:∀ a,ok a->keyOf Tryz.prog kt (val a)=some (lit a)
 inj:∀ a b,ok a->ok b->lit a=lit b->a=b
def MapG {α:Type} (G:KeyG α) (b n:Nat) (F:α->Option Value) (W:World):Prop:=
 ∃ D:DataW Value,W.ownsMap Tryz.prog G.kt selfG b n D/\∀ a,G.ok a->∀ z,D.atKey (G.lit a) z=optG (F a) z
section
variable {α:Type} {G:KeyG α} {b n:Nat} {F:α->Option Value} {W:World}
theorem MapG.made (G:KeyG α) (W:World):MapG G W.heap.size 0 (fun _=>none) (W.alloc (.map #[] 0)):=⟨.map [],World.ownsMap_made _ _ _ _,fun d _ z=>WideAt.atKey_none _ (fun p hp=>by simp at hp)⟩
theorem MapG.lt (h:MapG G b n F W):b < W.heap.size:=by obtain ⟨D,h1,_⟩:=h; exact h1.lt
theorem MapG.kept {W':World} {row:Option Nat} (h:MapG G b n F W) (hg:W.grownBy W' row) (hne:some b ≠ row):MapG G b n F W':=by obtain ⟨D,h1,h2⟩:=h; exact ⟨D,h1.kept hg hne,h2⟩
theorem MapG.alloc (h:MapG G b n F W) (o:Obj):MapG G b n F (W.alloc o):=by obtain ⟨D,h1,h2⟩:=h; exact ⟨D,h1.alloc o,h2⟩
theorem MapG.below {W':World} (h:MapG G b n F W) (hb:Below W.heap.size W W'):MapG G b n F W':=h.kept (row:=none) ⟨hb.os,hb.tape,hb.output,hb.size,fun k hk _=>hb.block k hk⟩ (by simp)
theorem MapG.setCell (h:MapG G b n F W) {a:Addr} (ha:b ≠ a.block) (u:Value):MapG G b n F (W.setCell a u):=by obtain ⟨D,h1,h2⟩:=h; exact ⟨D,h1.setCell ha u,h2⟩
theorem MapG.eq {F':α->Option Value} (h:MapG G b n F W) (e:∀ d,F d=F' d):MapG G b n F' W:=by
 have:F=F':=funext e
 rw [<-this]; exact h
theorem MapG.mono {n':Nat} (h:MapG G b n F W) (hn:n<=n'):MapG G b n' F W:=by obtain ⟨D,h1,h2⟩:=h; exact ⟨D,h1.mono hn,h2⟩
theorem has_optG {D:DataW Value} {k:Lit} {o:Option Value} (h:∀ z,D.atKey k z=optG o z):Maps.has D k=o.isSome:=by
 cases o with
 | none=>exact Maps.has_false_of_atKey h
 | some v=>exact Maps.has_true_of_atKey h
theorem selfG_inv {v:Value} {y:DataW Value × List MemPlace} (h:selfG v=some y):y=(.held v,[]):=by unfold selfG at h; injection h with h; exact h.symm
theorem optG_held {o:Option Value} {z v:Value} {ps:List MemPlace} (h:selfG v=some (optG o (.held z),ps)):v=o.getD z:=by
 have:=selfG_inv h
 cases o <;> simp [optG] at this ⊢ <;> exact this.1.symm
theorem MapG.look {t e:TypeId} {z:Value} (h:MapG G b n F W) (ht:Tryz.prog.underlying t=some (.map G.kt e)) (hz:(zeroValue e).run Tryz.prog W = .ok z W) {a:α} (ha:G.ok a):(Instr.lookup t (.map (some b)) (G.val a) false).run Tryz.prog W = .ok ((F a).getD z) W:=by
 obtain ⟨D,h1,h2⟩:=h
 obtain ⟨v,ps,hrun,hv⟩:=h1.lookup G.law ht hz (zd:=.held z) (zp:=[]) rfl (G.get a ha)
 rw [h2 _ ha] at hv
 rw [hrun,optG_held hv]
theorem MapG.lookOk {t e:TypeId} {z:Value} (h:MapG G b n F W) (ht:Tryz.prog.underlying t=some (.map G.kt e)) (hz:(zeroValue e).run Tryz.prog W = .ok z W) {a:α} (ha:G.ok a):(Instr.lookup t (.map (some b)) (G.val a) true).run Tryz.prog W = .ok (.tuple #[(F a).getD z,.bool (F a).isSome]) W:=by
 obtain ⟨D,h1,h2⟩:=h
 obtain ⟨v,ps,hrun,hv⟩:=h1.look_ok G.law ht hz (zd:=.held z) (zp:=[]) rfl (G.get a ha)
 rw [h2 _ ha] at hv
 rw [hrun,optG_held hv,has_optG (h2 _ ha)]
theorem MapG.put [DecidableEq α] {t e:TypeId} (h:MapG G b n F W) (ht:Tryz.prog.underlying t=some (.map G.kt e)) {a:α} (ha:G.ok a) (hn:(n:Int)<=1000000000) (v:Value) :
  ∃ W',(Instr.mapUpdate t (.map (some b)) (G.val a) v).run Tryz.prog W = .ok () W'/\MapG G b (n + 1) (fun d=>if d=a then some v else F d) W'/\W.grownBy W' (some b)/\W'.heap.size=W.heap.size:=by
 obtain ⟨D,h1,h2⟩:=h
 obtain ⟨W',hrun,ho,ht'⟩:=h1.store G.law ht (by unfold maxLen; omega) (G.get a ha) (d:=.held v) (ps:=[]) rfl
 refine ⟨W',hrun,⟨_,ho,fun d hd' z=>?_⟩,ht'.grown,?_⟩
 ·by_cases e:d=a
  ·subst e
   rw [Maps.atKey_put_same h1.isMap (G.law.key (G.get d ha))]
   simp [optG]
  ·rw [Maps.atKey_put_other (fun h=>e (G.inj _ _ hd' ha h)),h2 _ hd']
   simp only [if_neg e]
 ·obtain ⟨es,clock,es',clock',hb,rfl⟩:=ht'
  simp [ChangeMaps.setBlock]
end
noncomputable def digG:KeyG (Int × Int):=⟨41,dval,keyL,OkD,lawD,fun _ h=>keyL_some h,fun _ _ h h'=>keyL_inj h h'⟩
def okN (n:Int):Prop:=0<=n/\n<=1000000000
theorem keyN_some {n:Int} (h:okN n):keyOf Tryz.prog 3 (.int .i64 n)=some (.int .i64 n):=by
 unfold okN at h
 exact Maps.keyOf_int_mk Tryz.underlying3 (by
  simp [Lit.wf,IntKind.min,IntKind.max,IntKind.signed,IntKind.bits]
  omega)
def intG:KeyG Int:=⟨3,fun n=>.int .i64 n,fun n=>.int .i64 n,okN,Maps.int_keyed Tryz.underlying3,fun _ h=>keyN_some h,fun a b _ _ e=>by injection e⟩
structure Rdr where
 ib:Nat
 s:List UInt8
 l:List Pe
 ea:Option Addr
 ec:Nat
 xs:List Itm
 pa:Option Addr
 pc:Nat
def foundV (r:List UInt8 × Int):Value:=.agg #[.string ⟨r.1.toArray⟩,.int .i64 r.2]
def Rdr.dat (R:Rdr) (i:Nat):List UInt8 × Int:=datS R.s R.xs R.l i
def kcnt (K:Int->Option Value) (m:Nat):Nat:=((List.range m).filter fun i:Nat=>(K (i:Int)).isSome).length
structure Rdr.Ok (R:Rdr):Prop where
 asc:Asc R.xs
 val:∀ x ∈ R.xs,(decodeS x.data).2=0
 dig:∀ x ∈ R.xs,OkD x.d
 xl:(R.xs.length:Int)<=100000000
 xd:∀ x ∈ R.xs,(x.data.length:Int)<=140737488355328
 pc:R.xs.length<=R.pc
 sl:(R.s.length:Int)<=70368744177664
 ents:EntsOk (R.s.take (R.s.length - 16)) R.l
 ll:R.l.length<=1000
structure Rdr.In (R:Rdr) (K:Int->Option Value) (W:World):Prop where
 box:BK (R.ib + 1 + 1) #[.string ⟨R.s.toArray⟩,.slice R.ea R.l.length R.ec,.slice R.pa R.xs.length R.pc,.map (some R.ib),.map (some (R.ib + 1))] 96 W
 ents:GIn peCs 7 R.ib W R.ea R.l
 its:Its R.ib W R.pa R.xs
 idx:∃ n,MapG digG R.ib n (fun d=>(idxE R.l d).map fun i=>.int .i64 (i:Int)) W
 kn:MapG intG (R.ib + 1) (kcnt K R.l.length) K W
 right:∀ i v,K i=some v->∃ j:Nat,i=(j:Int)/\j < R.l.length/\v=foundV (R.dat j)
theorem kcnt_le (K:Int->Option Value) (m:Nat):kcnt K m<=m:=by
 have:=List.length_filter_le (fun i:Nat=>(K (i:Int)).isSome) (List.range m)
 rw [List.length_range] at this
 exact this
theorem kcnt_put {K:Int->Option Value} {m i:Nat} (hi:i < m) (hk:K (i:Int)=none) (v:Value):kcnt (fun d=>if d=(i:Int) then some v else K d) m=kcnt K m + 1:=by
 unfold kcnt
 have key:∀ n,n<=m->((List.range n).filter fun j:Nat=>((if ((j:Nat):Int)=(i:Int) then some v else K (j:Int))).isSome).length=((List.range n).filter fun j:Nat=>(K (j:Int)).isSome).length + (if i < n then 1 else 0):=by
  intro n
  induction n with
  | zero=>intro _; simp
  | succ n ih=>
   intro hn
   have h1:=ih (by omega)
   rw [List.range_succ,List.filter_append,List.filter_append,List.length_append,List.length_append,h1]
   by_cases e:n=i
   ·subst e
    simp [hk]
   ·have e2:((n:Nat):Int) ≠ (i:Int):=by omega
    by_cases e3:i < n
    ·rw [if_pos e3,if_pos (by omega)]
     simp only [List.filter_cons,List.filter_nil,if_neg e2]
     split <;> simp <;> omega
    ·rw [if_neg e3,if_neg (by omega)]
     simp only [List.filter_cons,List.filter_nil,if_neg e2]
     omega
 have:=key m (Nat.le_refl _)
 rw [if_pos hi] at this
 exact this
section
variable {R:Rdr} {K:Int->Option Value} {W:World}
theorem Rdr.In.lt (h:R.In K W):R.ib + 1 + 1 < W.heap.size:=h.box.lt
theorem Rdr.In.grown (h:R.In K W) {W':World} {c:Option Nat} (hg:W.grownBy W' c) (hc:∀ b,c=some b->R.ib + 1 + 1 < b):R.In K W':=by
 obtain ⟨n,hn⟩:=h.idx
 have hib:Below R.ib W W':=⟨hg.os,hg.tape,hg.output,hg.size,fun k hk=>hg.block k (by have:=h.lt; omega) (fun e=>by have:=hc k e.symm; omega)⟩
 exact ⟨h.box.grow hg (fun k e=>by have:=hc k e; omega),h.ents.below hib (Nat.le_refl _),h.its.below hib (Nat.le_refl _),⟨n,hn.kept hg (fun e=>by have:=hc _ e.symm; omega)⟩,h.kn.kept hg (fun e=>by have:=hc _ e.symm; omega),h.right⟩
theorem Rdr.In.below (h:R.In K W) {W':World} (hb:Below W.heap.size W W'):R.In K W':=h.grown (c:=none) ⟨hb.os,hb.tape,hb.output,hb.size,fun k hk _=>hb.block k hk⟩ (fun b e=>by cases e)
theorem Rdr.In.alloc (h:R.In K W) (o:Obj):R.In K (W.alloc o):=h.below ((Below.refl _ _).alloc (Nat.le_refl _) _)
theorem Rdr.In.set (h:R.In K W) {c:Nat} (hc:R.ib + 1 + 1 < c) (j:Nat) (v:Value):R.In K (W.setCell ⟨c,j,none⟩ v):=h.grown (gset _ _ _ _) (fun b e=>by cases e; exact hc)
theorem Rdr.In.put (h:R.In K W) {W':World} {i:Nat} (hi:i < R.l.length) (hg:W.grownBy W' (some (R.ib + 1)))
  (hm:MapG intG (R.ib + 1) (kcnt K R.l.length + 1) (fun d=>if d=(i:Int) then some (foundV (R.dat i)) else K d) W') (hk:K (i:Int)=none):R.In (fun d=>if d=(i:Int) then some (foundV (R.dat i)) else K d) W':=by
 obtain ⟨n,hn⟩:=h.idx
 have hib:Below R.ib W W':=⟨hg.os,hg.tape,hg.output,hg.size,fun k hk=>hg.block k (by have:=h.lt; omega) (fun e=>by cases e; omega)⟩
 refine ⟨h.box.grow1 hg (by omega),h.ents.below hib (Nat.le_refl _),h.its.below hib (Nat.le_refl _),⟨n,hn.kept hg (fun e=>by injection e with e; omega)⟩,by rw [kcnt_put hi hk]; exact hm,fun j v hv=>?_⟩
 by_cases e:j=(i:Int)
 ·subst e
  rw [if_pos rfl] at hv
  cases hv
  exact ⟨i,rfl,hi,rfl⟩
 ·rw [if_neg e] at hv
  exact h.right j v hv
end
def GotRd (R:Rdr) (K:Int->Option Value) (m:Nat) (w:World) (r:List UInt8 × Int) (e:Ending) (w':World):Prop:=e = .returned (foundV r)/\(∃ K',R.In K' w'/\∀ j:Int,(m:Int)<=j->K' j=K j)/\w.grownBy w' (some (R.ib + 1))
def GetS (R:Rdr) (i:Nat):Prop:=∀ (K:Int->Option Value) (W:World),R.In K W->Calls Tryz.prog 46 #[.pointer (some ⟨R.ib + 1 + 1,0,none⟩),.int .i64 (i:Int)] W (GotRd R K (i + 1) W (R.dat i))
def CompS (R:Rdr) (i:Nat):Prop:=∀ (K:Int->Option Value) (W:World),R.In K W->Calls Tryz.prog 91 #[.pointer (some ⟨R.ib + 1 + 1,0,none⟩),.int .i64 (i:Int)] W (GotRd R K i W (R.dat i))
theorem zeroFound (W:World):(zeroValue 98).run Tryz.prog W = .ok (.agg #[.string ⟨#[]⟩,.int .i64 0]) W:=by kernel_rfl
theorem below_grownBy {w w':World} {b:Nat} (hb:Below w.heap.size w w'):w.grownBy w' (some b):=⟨hb.os,hb.tape,hb.output,hb.size,fun k hk _=>hb.block k hk⟩
def putF (W:World) (n:Nat) (T:List UInt8) (er:Int):World:=(W.setCell ⟨n,0,none⟩ (.string ⟨T.toArray⟩)).setCell ⟨n,1,none⟩ (.int .i64 er)
theorem putF_law {W:World} {n:Nat} {x0 x1:Value} (h:BK n #[x0,x1] 98 W) (T:List UInt8) (er:Int):BK n #[.string ⟨T.toArray⟩,.int .i64 er] 98 (putF W n T er):=by
 have h0:BK n #[.string ⟨T.toArray⟩,x1] _ _:=h.set 0 (.string ⟨T.toArray⟩)
 exact h0.set 1 (.int .i64 er)
theorem putF_other {m:Nat} {cs:Array Value} {t:TypeId} {W:World} (h:BK m cs t W) {n:Nat} (hn:n ≠ m) (T:List UInt8) (er:Int):BK m cs t (putF W n T er):=(h.other hn _ _).other hn _ _
theorem putF_grown {w W:World} {b n:Nat} (h:w.grownBy W (some b)) (hn:w.heap.size<=n) (T:List UInt8) (er:Int):w.grownBy (putF W n T er) (some b):=
 ⟨h.os,h.tape,h.output,by simpa [putF] using h.size,fun k hk hr=>(Below.heap_setCell _ _ _ _ (by simp; omega)).trans ((Below.heap_setCell _ _ _ _ (by simp; omega)).trans (h.block k hk hr))⟩
theorem Rdr.In.putF {R:Rdr} {K:Int->Option Value} {W:World} (h:R.In K W) {n:Nat} (hn:R.ib + 1 + 1 < n) (T:List UInt8) (er:Int):R.In K (putF W n T er):=(h.set hn _ _).set hn _ _
theorem get_of (R:Rdr) (hR:R.Ok) (i:Nat) (hi:i < R.l.length) (hc:CompS R i):GetS R i:=by
 intro K w h
 have hil:(i:Int)<=1000:=by have:=hR.ll; omega
 have HC:=hid hc
 have hbl:=h.lt
 -- two boxes are laid: the result's,and f
 obtain ⟨wa,hwa⟩:∃ wa,wa=w.alloc (.cells #[.string ⟨#[]⟩,.int .i64 0] 98):=⟨_,rfl⟩
 have hba:Below w.heap.size w wa:=by rw [hwa]; exact (Below.refl _ _).alloc (Nat.le_refl _) _
 have hsa:wa.heap.size=w.heap.size + 1:=by rw [hwa]; simp
 have HA:BK w.heap.size #[.string ⟨#[]⟩,.int .i64 0] 98 wa:=by rw [hwa]; exact BK.new _ _ _
 have HI:=h.below hba
 have hlk:(Instr.lookup 94 (.map (some (R.ib + 1))) (.int .i64 (i:Int)) true).run Tryz.prog wa = .ok (.tuple #[(K (i:Int)).getD (.agg #[.string ⟨#[]⟩,.int .i64 0]),.bool (K (i:Int)).isSome]) wa:=HI.kn.lookOk Tryz.underlying94 (zeroFound _) (a:=(i:Int)) ⟨by omega,by omega⟩
 have hbx:=HI.box
 obtain ⟨x0,x1,x2,x3,x4⟩:=BK.c5 (show BK _ #[.string ⟨R.s.toArray⟩,.slice R.ea R.l.length R.ec,.slice R.pa R.xs.length R.pc,.map (some R.ib),.map (some (R.ib + 1))] _ _ from hbx)
 cases hk:K (i:Int) with
 | some v=>
  obtain ⟨j,hj1,hj2,rfl⟩:=h.right _ _ hk
  obtain rfl:i=j:=by omega
  rw [hk] at hlk
  simp only [Option.getD_some,Option.isSome_some,foundV] at hlk
  unfold GotRd foundV
  obtain ⟨T,er,hrd⟩:∃ T er,R.dat i=(T,er):=⟨_,_,rfl⟩
  rw [hrd] at hlk ⊢
  simp only at hlk ⊢
  have HIN:=hid h
  rw [hwa] at hlk x0 x1 x2 x3 x4
  clear hwa hba hsa HA HI hbx HC hrd hj1 hj2 h hk
  go_enter Tryz.func46,Tryz.ntmps46
  go_wp2_with fail
  refine bodyPost_ret (v:=.agg #[.string ⟨T.toArray⟩,.int .i64 er]) (by simp [results,Tryz.results46,go_sem]) rfl ?_
  exact ⟨rfl,⟨K,(HIN.out.alloc _).alloc _,fun j _=>rfl⟩,below_grownBy (((Below.refl _ w).alloc (Nat.le_refl _) _).alloc (by simp) _)⟩
 | none=>
  rw [hk] at hlk
  simp only [Option.getD_none,Option.isSome_none] at hlk
  obtain ⟨wb,hwb⟩:∃ wb,wb=wa.alloc (.cells #[.string ⟨#[]⟩,.int .i64 0] 98):=⟨_,rfl⟩
  have hbb:Below wa.heap.size wa wb:=by rw [hwb]; exact (Below.refl _ _).alloc (Nat.le_refl _) _
  have hf:BK (w.heap.size + 1) #[.string ⟨#[]⟩,.int .i64 0] 98 wb:=by rw [hwb,<-hsa]; exact BK.new _ _ _
  have hr:=HA.below hbb
  have hib:=HI.below hbb
  have hbw:=hba.trans (hbb.mono hba.size)
  have HC2:=hid (HC.out K wb hib)
  rw [hwb,hwa] at HC2
  rw [hwa] at hlk x0 x1 x2 x3 x4
  rw [hwa] at hwb
  have HWB:=hid hwb
  have HF:=hid hf
  have HRS:=hid hr
  have HBW:=hid hbw
  have HK:=hid hk
  clear hwa hwb hbb hba hsa HA HI hbx HC h hk hf hr hbw hib
  unfold GotRd foundV at HC2
  unfold GotRd
  obtain ⟨T,er,hrd⟩:∃ T er,R.dat i=(T,er):=⟨_,_,rfl⟩
  have HRD:=hid hrd
  rw [hrd] at HC2 ⊢
  unfold foundV
  simp only at HC2 ⊢
  clear hrd
  go_enter Tryz.func46,Tryz.ntmps46
  go_wp2_with fail
  (with_reducible refine (HC2.out).mono ?_)
  rintro e u ⟨rfl,⟨K',hin,hkk⟩,hg⟩
  rw [<-HWB.out] at hg
  have hsz:=hg.size
  have hws:=HBW.out.size
  have hf:=HF.out.grow1 hg (by omega)
  have hr:=HRS.out.grow1 hg (by omega)
  clear HC2 HWB x0 x1 x2 x3 x4 hlk
  obtain ⟨f0,f1⟩:=BK.c2 (show BK _ #[.string ⟨#[]⟩,.int .i64 0] _ _ from hf)
  obtain ⟨ff0,ff1⟩:=BK.f2 (hf)
  obtain ⟨v,hv⟩:∃ v,v=putF u (w.heap.size + 1) T er:=⟨_,rfl⟩
  have hfv:=putF_law hf T er
  have hrv:=putF_other hr (n:=w.heap.size + 1) (by omega) T er
  have hiv:=hin.putF (n:=w.heap.size + 1) (by omega) T er
  have hgw:w.grownBy u (some (R.ib + 1)):=gtrans (below_grownBy HBW.out) hg
  have hgv:w.grownBy v (some (R.ib + 1)):=by rw [hv]; exact putF_grown hgw (by omega) T er
  rw [<-hv] at hfv hrv hiv
  have hivd:=hiv.below ((Below.refl _ _).drew)
  have hrvd:=hrv.below ((Below.refl _ _).drew)
  have hfvd:=hfv.below ((Below.refl _ _).drew)
  have hk2:K' (i:Int)=none:=by rw [hkk _ (Int.le_refl _)]; exact HK.out
  have hkc:=kcnt_le K' R.l.length
  have hll:=hR.ll
  obtain ⟨v2,hput,hmp,hg2,hs2⟩:=hivd.kn.put Tryz.underlying94 (a:=(i:Int)) ⟨by omega,by omega⟩ (by omega) (foundV (T,er))
  have HPUT:(Instr.mapUpdate 94 (.map (some (R.ib + 1))) (.int .i64 (i:Int)) (.agg #[.string ⟨T.toArray⟩,.int .i64 er])).run Tryz.prog v.drew = .ok () v2:=hput
  have HIN2:=hid (hivd.put hi hg2 (by rw [HRD.out]; exact hmp) hk2)
  have HF2:=hid (hfvd.grow1 hg2 (by omega))
  have HR2:=hid (hrvd.grow1 hg2 (by omega))
  have hgd:v.grownBy v.drew (some (R.ib + 1)):=below_grownBy ((Below.refl _ _).drew)
  have HG2:=hid (gtrans hgv (gtrans hgd hg2))
  have HKK:Hid (∀ j:Int,((i + 1:Nat):Int)<=j->(if j=(i:Int) then some (foundV (R.dat i)) else K' j)=K j):=hid (fun j hj=>by rw [if_neg (by omega)]; exact hkk j (by omega))
  have hbx:=hiv.box
  obtain ⟨x0,x1,x2,x3,x4⟩:=BK.c5 (show BK _ #[.string ⟨R.s.toArray⟩,.slice R.ea R.l.length R.ec,.slice R.pa R.xs.length R.pc,.map (some R.ib),.map (some (R.ib + 1))] _ _ from hbx)
  obtain ⟨k0,k1⟩:=BK.c2 (show BK _ #[.string ⟨T.toArray⟩,.int .i64 er] _ _ from hfv)
  have HV:=hid hv
  unfold putF at HV
  clear hf hr hfv hrv hiv hivd hrvd hfvd hv hgw hgv hput hmp hg2 hgd hkk hin hg hk2 hkc hs2 hbx
  go_wp2_with fail
  rw [<-HV.out]
  clear f0 f1 ff0 ff1 HV
  go_region
  clear x0 x1 x2 x3 x4 k0 k1 HPUT
  obtain ⟨k0,k1⟩:=BK.c2 (show BK _ #[.string ⟨T.toArray⟩,.int .i64 er] _ _ from HF2.out)
  obtain ⟨r0,r1⟩:=BK.c2 (show BK _ #[.string ⟨#[]⟩,.int .i64 0] _ _ from HR2.out)
  obtain ⟨fr0,fr1⟩:=BK.f2 (HR2.out)
  go_wp2_with fail
  obtain ⟨W9,hW9⟩:∃ W9,W9=putF v2 w.heap.size T er:=⟨_,rfl⟩
  have hr9:=putF_law HR2.out T er
  have hi9:=HIN2.out.putF (n:=w.heap.size) (by omega) T er
  have hg9:=putF_grown HG2.out (Nat.le_refl _) T er
  rw [<-hW9] at hr9 hi9 hg9
  unfold putF at hW9
  rw [<-hW9]
  clear hW9 k0 k1 r0 r1 fr0 fr1
  obtain ⟨r0,r1⟩:=BK.c2 (show BK _ #[.string ⟨T.toArray⟩,.int .i64 er] _ _ from hr9)
  refine bodyPost_ret (v:=.agg #[.string ⟨T.toArray⟩,.int .i64 er]) (by simp [results,Tryz.results46,go_sem,r0,r1]) rfl ?_
  exact ⟨rfl,⟨_,hi9,HKK.out⟩,hg9⟩
theorem get_memP {xs:List Itm} (ha:Asc xs) {x:Itm} (hx:x ∈ xs):getS xs x.d=decodeS x.data:=by
 obtain ⟨k,hk,rfl⟩:=List.getElem_of_mem hx
 have hh:hitB xs xs[k].d k=true:=by unfold hitB; rw [List.getElem?_eq_getElem hk]; simp
 obtain ⟨_,_,h⟩:=getS_hit (at_uniq ha hk rfl) hh
 exact h
theorem pool_src {R:Rdr} (hR:R.Ok) (d:Int × Int):((getS R.xs d).2 ≠ 0/\datI R.xs d=([],8))\/((getS R.xs d).2=0/\encodeS (getS R.xs d).1=((datI R.xs d).1,0)/\(datI R.xs d).2=0):=by
 unfold datI
 cases hf:R.xs.find? (fun x=>decide (x.d=d)) with
 | none=>
  left
  refine ⟨fun h=>?_,rfl⟩
  obtain ⟨x,hx,hd,_⟩:=getS_good h
  have:=List.find?_eq_none.1 hf x hx
  simp [hd] at this
 | some x=>
  right
  have hx:=List.mem_of_find?_eq_some hf
  have hd:x.d=d:=by have:=List.find?_some hf; simpa using this
  have hg:getS R.xs d=decodeS x.data:=by rw [<-hd]; exact get_memP hR.asc hx
  have hv:=hR.val x hx
  refine ⟨by rw [hg]; exact hv,?_,rfl⟩
  rw [hg]
  obtain ⟨o,er,ho⟩:∃ o er,decodeS x.data=(o,er):=⟨_,_,rfl⟩
  rw [ho] at hv ⊢
  simp only at hv
  subst hv
  exact (decode_good ho).1
theorem pe_cells {B:Nat} {W:World} {a:Option Addr} {l:List Pe} (h:GIn peCs 7 B W a l) {k:Nat} (hk:k < l.length):∃ b off,a=some ⟨b,off,none⟩/\b < B/\W.cell? ⟨b,off + k * 7,none⟩=some (.int .u64 l[k].d.1)/\W.cell? ⟨b,off + k * 7 + 1,none⟩=some (.int .u64 l[k].d.2)/\W.cell? ⟨b,off + k * 7 + 2,none⟩=some (.int .i64 l[k].kind)/\W.cell? ⟨b,off + k * 7 + 3,none⟩=some (.int .u64 l[k].base.1)/\W.cell? ⟨b,off + k * 7 + 4,none⟩=some (.int .u64 l[k].base.2)/\W.cell? ⟨b,off + k * 7 + 5,none⟩=some (.int .i64 (l[k].off:Int))/\W.cell? ⟨b,off + k * 7 + 6,none⟩=some (.int .i64 (l[k].len:Int)):=by
 obtain ⟨b,off,h1,h2,h3⟩:=h k hk
 exact ⟨b,off,h1,h2,h3 0 _ rfl,h3 1 _ rfl,h3 2 _ rfl,h3 3 _ rfl,h3 4 _ rfl,h3 5 _ rfl,h3 6 _ rfl⟩
def putO (W:World) (n:Nat) (v0 v1 v2 v3 v4 v5 v6 v7 v8:Value):World:=((((((((W.setCell ⟨n,0,none⟩ v0).setCell ⟨n,1,none⟩ v1).setCell ⟨n,2,none⟩ v2).setCell ⟨n,3,none⟩ v3).setCell ⟨n,4,none⟩ v4).setCell ⟨n,5,none⟩ v5).setCell ⟨n,6,none⟩ v6).setCell ⟨n,7,none⟩ v7).setCell ⟨n,8,none⟩ v8
theorem putO_law {W:World} {n:Nat} {x0 x1 x2 x3 x4 x5 x6 x7 x8:Value} {t:TypeId} (h:BK n #[x0,x1,x2,x3,x4,x5,x6,x7,x8] t W) (v0 v1 v2 v3 v4 v5 v6 v7 v8:Value):BK n #[v0,v1,v2,v3,v4,v5,v6,v7,v8] t (putO W n v0 v1 v2 v3 v4 v5 v6 v7 v8):=by
 have h0:BK n #[v0,x1,x2,x3,x4,x5,x6,x7,x8] _ _:=h.set 0 v0
 have h1:BK n #[v0,v1,x2,x3,x4,x5,x6,x7,x8] _ _:=h0.set 1 v1
 have h2:BK n #[v0,v1,v2,x3,x4,x5,x6,x7,x8] _ _:=h1.set 2 v2
 have h3:BK n #[v0,v1,v2,v3,x4,x5,x6,x7,x8] _ _:=h2.set 3 v3
 have h4:BK n #[v0,v1,v2,v3,v4,x5,x6,x7,x8] _ _:=h3.set 4 v4
 have h5:BK n #[v0,v1,v2,v3,v4,v5,x6,x7,x8] _ _:=h4.set 5 v5
 have h6:BK n #[v0,v1,v2,v3,v4,v5,v6,x7,x8] _ _:=h5.set 6 v6
 have h7:BK n #[v0,v1,v2,v3,v4,v5,v6,v7,x8] _ _:=h6.set 7 v7
 exact h7.set 8 v8
theorem putO_grown (W:World) (n:Nat) (v0 v1 v2 v3 v4 v5 v6 v7 v8:Value):W.grownBy (putO W n v0 v1 v2 v3 v4 v5 v6 v7 v8) (some n):=gown (gown (gown (gown (gown (gown (gown (gown (gset _ _ _ _) _ _) _ _) _ _) _ _) _ _) _ _) _ _) _ _
theorem zeroInt (W:World):(zeroValue 3).run Tryz.prog W = .ok (.int .i64 0) W:=by kernel_rfl
theorem source_of (R:Rdr) (hR:R.Ok) (i:Nat) (hi:i < R.l.length) (hget:∀ j,j < i->GetS R j) (K:Int->Option Value) (w:World) (h:R.In K w):Calls Tryz.prog 125 #[.pointer (some ⟨R.ib + 1 + 1,0,none⟩),.int .i64 (i:Int)] w (GotRd R K i w (srcS R.xs R.l R.dat i R.l[i].base)):=by
 have hil:(i:Int)<=1000:=by have:=hR.ll; omega
 have hbl:=h.lt
 obtain ⟨k0,hek⟩:=hR.ents.at_ _ (List.getElem_mem hi)
 have hok:=(entryS_at hek).1.bok
 obtain ⟨bl,ofl,hea,hlt,q0,q1,q2,q3,q4,q5,q6⟩:=pe_cells h.ents hi
 generalize hbase:R.l[i].base=bs at q3 q4 hok ⊢
 obtain ⟨b1,b2⟩:=bs
 simp only at q3 q4
 obtain ⟨T,er,hSR⟩:∃ T er,srcS R.xs R.l R.dat i (b1,b2)=(T,er):=⟨_,_,rfl⟩
 have HSR:=hid hSR
 rw [hSR]
 unfold GotRd foundV
 simp only
 clear hSR
 -- the worlds
 obtain ⟨wa,hwa⟩:∃ wa,wa=w.alloc (.cells #[.string ⟨#[]⟩,.int .i64 0] 98):=⟨_,rfl⟩
 have hba:Below w.heap.size w wa:=by rw [hwa]; exact (Below.refl _ _).alloc (Nat.le_refl _) _
 have hsa:wa.heap.size=w.heap.size + 1:=by rw [hwa]; simp
 obtain ⟨wb,hwb⟩:∃ wb,wb=wa.alloc (.cells #[.int .u64 b1,.int .u64 b2] 41):=⟨_,rfl⟩
 have hbb:Below wa.heap.size wa wb:=by rw [hwb]; exact (Below.refl _ _).alloc (Nat.le_refl _) _
 have HRb:=hid ((show BK w.heap.size #[.string ⟨#[]⟩,.int .i64 0] 98 wa by rw [hwa]; exact BK.new _ _ _).below hbb)
 have HDb:Hid (BK (w.heap.size + 1) #[.int .u64 b1,.int .u64 b2] 41 wb):=hid (by rw [hwb,<-hsa]; exact BK.new _ _ _)
 have HBW:=hid (hba.trans (hbb.mono hba.size))
 have HIb:=hid ((h.below hba).below hbb)
 have HIa:=hid (h.below hba)
 have hbxa:=HIa.out.box
 obtain ⟨x0,x1,x2,x3,x4⟩:=BK.c5 (show BK _ #[.string ⟨R.s.toArray⟩,.slice R.ea R.l.length R.ec,.slice R.pa R.xs.length R.pc,.map (some R.ib),.map (some (R.ib + 1))] _ _ from hbxa)
 have hp:∀ j,wa.cell? ⟨bl,ofl + j,none⟩=w.cell? ⟨bl,ofl + j,none⟩:=fun j=>hba.cell (p:=⟨bl,ofl + j,none⟩) (by simp; omega)
 have r3:wa.cell? ⟨bl,ofl + i * 7 + 3,none⟩=some (.int .u64 b1):=by rw [show ofl + i * 7 + 3=ofl + (i * 7 + 3) by omega,hp]; rw [show ofl + (i * 7 + 3)=ofl + i * 7 + 3 by omega]; exact q3
 have r4:wa.cell? ⟨bl,ofl + i * 7 + 4,none⟩=some (.int .u64 b2):=by rw [show ofl + i * 7 + 4=ofl + (i * 7 + 4) by omega,hp]; rw [show ofl + (i * 7 + 4)=ofl + i * 7 + 4 by omega]; exact q4
 rw [hea] at x1
 have hii:i < R.l.length:=hi
 obtain ⟨nl,hnl⟩:∃ nl,nl=R.l.length:=⟨_,rfl⟩
 rw [<-hnl] at x1 hii
 rw [hwa] at x0 x1 x2 x3 x4 r3 r4 hwb
 have HWB:=hid hwb
 have HNL:=hid hnl
 have HBS:=hid hbase
 clear hwa hwb hba hbb hsa hbxa hp q0 q1 q2 q3 q4 q5 q6 hnl hbase h hek HIa
 go_enter Tryz.func125,Tryz.ntmps125
 go_wp2_with fail
 rw [<-HWB.out]
 clear HWB x0 x1 x2 x3 x4 r3 r4
 have hivd:=HIb.out.below ((Below.refl _ _).drew)
 obtain ⟨mn,hmx⟩:=hivd.idx
 have hlk:(Instr.lookup 93 (.map (some R.ib)) (.agg #[.int .u64 b1,.int .u64 b2]) true).run Tryz.prog wb.drew = .ok (.tuple #[((idxE R.l (b1,b2)).map fun i=>Value.int .i64 (i:Int)).getD (.int .i64 0),.bool ((idxE R.l (b1,b2)).map fun i=>Value.int .i64 (i:Int)).isSome]) wb.drew:=hmx.lookOk Tryz.underlying93 (zeroInt _) (a:=(b1,b2)) hok
 have hbx:=HIb.out.box
 obtain ⟨x0,x1,x2,x3,x4⟩:=BK.c5 (show BK _ #[.string ⟨R.s.toArray⟩,.slice R.ea R.l.length R.ec,.slice R.pa R.xs.length R.pc,.map (some R.ib),.map (some (R.ib + 1))] _ _ from hbx)
 obtain ⟨d0,d1⟩:=BK.c2 (show BK _ #[.int .u64 b1,.int .u64 b2] _ _ from HDb.out)
 obtain ⟨wc,hwc⟩:∃ wc,wc=wb.drew:=⟨_,rfl⟩
 have hcd:Below wb.heap.size wb wc:=by rw [hwc]; exact (Below.refl _ _).drew
 have HRc:=hid (HRb.out.below hcd)
 have HDc:=hid (HDb.out.below hcd)
 have HBc:=hid (HBW.out.trans (hcd.mono HBW.out.size))
 have HIc:=hid (HIb.out.below hcd)
 have HWC:=hid hwc
 clear hcd hivd hmx HRb HDb HBW HIb hwc hbx
 cases hx:idxE R.l (b1,b2) with
 | some j=>
  have hlk2:(Instr.lookup 93 (.map (some R.ib)) (.agg #[.int .u64 b1,.int .u64 b2]) true).run Tryz.prog wb.drew = .ok (.tuple #[.int .i64 (j:Int),.bool true]) wb.drew:=by rw [hlk,hx]; rfl
  clear hlk
  obtain ⟨hjl,hjx⟩:=idxE_some hx
  clear hjx
  have hjb:(j:Int)<=1000:=by have:=hR.ll; omega
  by_cases hji:j < i
  ·have hjii:(j:Int) < (i:Int):=by omega
   have hsr:srcS R.xs R.l R.dat i (b1,b2)=R.dat j:=by unfold srcS; rw [hx]; simp only; rw [if_pos hji]
   have hrd:R.dat j=(T,er):=hsr.symm.trans HSR.out
   have HG:=hid (hget j hji K wc HIc.out)
   unfold GotRd foundV at HG
   rw [hrd] at HG
   simp only at HG
   clear hget hrd hsr hjl hx hok
   go_region
   rw [<-HWC.out]
   clear x0 x1 x2 x3 x4 d0 d1 hlk2 HWC
   go_wp2_with fail
   (with_reducible refine (HG.out).mono ?_)
   rintro e u ⟨rfl,⟨K',hin,hkk⟩,hg⟩
   have hws:=HBc.out.size
   have hr:=HRc.out.grow1 hg (by omega)
   have hgw:w.grownBy u (some (R.ib + 1)):=gtrans (below_grownBy HBc.out) hg
   have HKK:Hid (∀ m:Int,(i:Int)<=m->K' m=K m):=hid (fun m hm=>hkk m (by omega))
   obtain ⟨r0,r1⟩:=BK.c2 (show BK _ #[.string ⟨#[]⟩,.int .i64 0] _ _ from hr)
   obtain ⟨fr0,fr1⟩:=BK.f2 (hr)
   clear HG HRc HDc HBc HIc
   go_wp2_with fail
   obtain ⟨W9,hW9⟩:∃ W9,W9=putF u w.heap.size T er:=⟨_,rfl⟩
   have hr9:=putF_law hr T er
   have hi9:=hin.putF (n:=w.heap.size) (by omega) T er
   have hg9:=putF_grown hgw (Nat.le_refl _) T er
   rw [<-hW9] at hr9 hi9 hg9
   unfold putF at hW9
   rw [<-hW9]
   clear hW9 r0 r1 fr0 fr1
   obtain ⟨r0,r1⟩:=BK.c2 (show BK _ #[.string ⟨T.toArray⟩,.int .i64 er] _ _ from hr9)
   refine bodyPost_ret (v:=.agg #[.string ⟨T.toArray⟩,.int .i64 er]) (by simp [results,Tryz.results125,go_sem,r0,r1]) rfl ?_
   exact ⟨rfl,⟨_,hi9,HKK.out⟩,hg9⟩
  ·have hjii:¬ (j:Int) < (i:Int):=by omega
   have hsr:srcS R.xs R.l R.dat i (b1,b2)=datI R.xs (b1,b2):=by unfold srcS; rw [hx]; simp only; rw [if_neg hji]
   clear hjl
   have hdat:datI R.xs (b1,b2)=(T,er):=hsr.symm.trans HSR.out
   have hps:=pool_src hR (b1,b2)
   rw [hdat] at hps
   have HPS:=hid hps
   have HGET:=hid (fun W (hW:Below wc.heap.size wc W)=>get_any R.pa R.xs R.pc b1 b2 W ⟨(HIc.out.its.below hW (by have:=HIc.out.lt; omega)).mono (by have:=hW.size; have:=HIc.out.lt; omega),hR.pc,hR.xl,hR.xd⟩ hR.asc)
   have HALL:Hid (∀ W,Below wc.heap.size wc W->Below wc.heap.size wc W/\W.cell? ⟨R.ib + 1 + 1,2,none⟩=some (.slice R.pa R.xs.length R.pc)/\W.cell? ⟨w.heap.size + 1,0,none⟩=some (.int .u64 b1)/\W.cell? ⟨w.heap.size + 1,1,none⟩=some (.int .u64 b2)):=hid (fun W hW=>by
    have h1:=(HIc.out.below hW).box
    have h2:=HDc.out.below hW
    exact ⟨hW,by rw [h1.cell]; rfl,by rw [h2.cell]; rfl,by rw [h2.cell]; rfl⟩)
   generalize getS R.xs (b1,b2)=OE at HGET HPS
   obtain ⟨o,oe⟩:=OE
   simp only at HGET HPS
   have hs0:=HALL.out wc.drew ((Below.refl _ _).drew)
   clear hget hsr hx hdat hps
   go_region
   rw [<-HWC.out]
   clear x0 x1 x2 x3 x4 d0 d1 hlk2 HWC
   go_wp2_with fail
   refine wp_region_held_drew (S:=(fun W=>Below wc.heap.size wc W/\W.cell? ⟨R.ib + 1 + 1,2,none⟩=some (.slice R.pa R.xs.length R.pc)/\W.cell? ⟨w.heap.size + 1,0,none⟩=some (.int .u64 b1)/\W.cell? ⟨w.heap.size + 1,1,none⟩=some (.int .u64 b2))) (by kernel_rfl) hs0 (fun hHeld=>?_)
   refine wpAnyH_take (i:=0) (v:=?vv1) rfl (by kernel_rfl) (by kernel_rfl) (by kernel_rfl) (fun _ _ _ h=>h) (Or.inl ⟨by rfl,?hy1⟩) (by assumption) ?rest1
   case hy1=>(intro wx hSw; (try dsimp only at hSw); go_simp; try (with_reducible rfl))
   simp only [Act.put,zA,zC,zD,zE,zF]
   refine wpAnyH_take (i:=1) (v:=?vv2) rfl (by kernel_rfl) (by kernel_rfl) (by kernel_rfl) (fun _ _ _ h=>h) (Or.inl ⟨by rfl,?hy2⟩) (by assumption) ?rest2
   case hy2=>(intro wx hSw; (try dsimp only at hSw); go_simp; try (with_reducible rfl))
   simp only [Act.put,zA,zB,zC,zD,zE,zF]
   refine wpAnyH_take (i:=2) (v:=?vv3) rfl (by kernel_rfl) (by kernel_rfl) (by kernel_rfl) (fun _ _ _ h=>h) (Or.inl ⟨by rfl,?hy3⟩) (by assumption) ?rest3
   case hy3=>(intro wx hSw; (try dsimp only at hSw); go_simp; try (with_reducible rfl))
   simp only [Act.put,zA,zB,zC,zD,zE,zF]
   refine wpAnyH_take (i:=3) (v:=?vv4) rfl (by kernel_rfl) (by kernel_rfl) (by kernel_rfl) (fun _ _ _ h=>h) (Or.inl ⟨by rfl,?hy4⟩) (by assumption) ?rest4
   case hy4=>(intro wx hSw; (try dsimp only at hSw); go_simp; try (with_reducible rfl))
   simp only [Act.put,zA,zB,zC,zD,zE,zF]
   refine wpAnyH_take (i:=4) (v:=?vv5) rfl (by kernel_rfl) (by kernel_rfl) (by kernel_rfl) (fun _ _ _ h=>h) (Or.inl ⟨by rfl,?hy5⟩) (by assumption) ?rest5
   case hy5=>(intro wx hSw; (try dsimp only at hSw); go_simp; try (with_reducible rfl))
   simp only [Act.put,zA,zB,zC,zD,zE,zF]
   obtain ⟨kind,data,ents,⟨t1,t2⟩,pars,author,time,msg⟩:=o
   refine wpAnyH_ready (rs:=[5,9]) (by kernel_rfl) (by simp) ?_
   refine AllReadyH.cons rfl (fun K hK=>?_) ?_
   ·go_simp
    (with_reducible refine (HGET.out _ hs0.1).mono ?_)
    rintro e u ⟨ea,ec,pa,pc,rfl,hob,hb⟩
    have hbu:=hs0.1.trans (hb.mono (Nat.le_refl _))
    have hsu:=HALL.out u hbu
    refine hK.out _ _ (hsu) (fun hHeld=>?_)
    clear hK K
    refine wpAnyH_take (i:=6) (v:=?vv6) rfl (by kernel_rfl) (by kernel_rfl) (by kernel_rfl) (fun _ _ _ h=>h) (Or.inl ⟨by rfl,?hy6⟩) (by assumption) ?rest6
    case hy6=>(intro wx hSw; (try dsimp only at hSw); go_simp; try (with_reducible rfl))
    simp only [Act.put,zA,zB,zC,zD,zE,zF]
    refine wpAnyH_take (i:=7) (v:=?vv7) rfl (by kernel_rfl) (by kernel_rfl) (by kernel_rfl) (fun _ _ _ h=>h) (Or.inl ⟨by rfl,?hy7⟩) (by assumption) ?rest7
    case hy7=>(intro wx hSw; (try dsimp only at hSw); go_simp; try (with_reducible rfl))
    simp only [Act.put,zA,zB,zC,zD,zE,zF]
    refine wpAnyH_take (i:=8) (v:=?vv8) rfl (by kernel_rfl) (by kernel_rfl) (by kernel_rfl) (fun _ _ _ h=>h) (Or.inl ⟨by rfl,?hy8⟩) (by assumption) ?rest8
    case hy8=>(intro wx hSw; (try dsimp only at hSw); go_simp; try (with_reducible rfl))
    simp only [Act.put,zA,zB,zC,zD,zE,zF]
    refine wpAnyH_ready (rs:=[9]) (by kernel_rfl) (by simp) ?_
    refine AllReadyH.cons rfl (fun K hK=>?_) AllReadyH.nil
    go_simp
    refine hK.out _ _ (HALL.out _ (hbu.alloc hbu.size _)) (fun hHeld=>?_)
    clear hK K
    refine wpAnyH_ready (rs:=[10]) (by kernel_rfl) (by simp) ?_
    refine AllReadyH.cons rfl (fun K hK=>?_) AllReadyH.nil
    go_simp
    refine hK.out _ _ (HALL.out _ (hbu.alloc hbu.size _)) (fun hHeld=>?_)
    clear hK K
    refine wpAnyH_take (i:=11) (v:=?vv9) rfl (by kernel_rfl) (by kernel_rfl) (by kernel_rfl) (fun _ _ _ h=>h) (Or.inl ⟨by rfl,?hy9⟩) (by assumption) ?rest9
    case hy9=>(intro wx hSw; (try dsimp only at hSw); go_simp; try (with_reducible rfl))
    simp only [Act.put,zA,zB,zC,zD,zE,zF]
    refine wpAnyH_done (by kernel_rfl) ?_ _
    obtain ⟨v,hv⟩:∃ v,v=u.alloc (.cells #[.int .i64 kind,.string ⟨data.toArray⟩,.slice ea ents.length ec,.int .u64 t1,.int .u64 t2,.slice pa pars.length pc,.string ⟨author.toArray⟩,.int .i64 time,.string ⟨msg.toArray⟩] 56):=⟨_,rfl⟩
    have hvb:Below wc.heap.size wc v:=by rw [hv]; exact hbu.alloc hbu.size _
    obtain ⟨ob,hobn⟩:∃ ob,ob=u.heap.size:=⟨_,rfl⟩
    have hbo:BK ob #[.int .i64 kind,.string ⟨data.toArray⟩,.slice ea ents.length ec,.int .u64 t1,.int .u64 t2,.slice pa pars.length pc,.string ⟨author.toArray⟩,.int .i64 time,.string ⟨msg.toArray⟩] 56 v:=by rw [hv,hobn]; exact BK.new _ _ _
    have hov:ObOwn wc.drew.heap.size v ⟨kind,data,ents,(t1,t2),pars,author,time,msg⟩ ea ec pa pc:=hob.below (by rw [hv]; exact (Below.refl _ _).alloc (Nat.le_refl _) _)
    simp only [Ob.val]
    rw [<-hv,<-hobn]
    clear hv hobn hob hb hbu hsu
    have hrv:=HRc.out.below hvb
    have hiv:=HIc.out.below hvb
    have hgw:w.grownBy v (some (R.ib + 1)):=below_grownBy (HBc.out.trans (hvb.mono HBc.out.size))
    have hws:=HBc.out.size
    have HE:=hid (encode_any ⟨kind,data,ents,(t1,t2),pars,author,time,msg⟩ ea ec pa pc v hov.inn)
    have HKE:Hid (∃ K',R.In K' v/\∀ m:Int,(i:Int)<=m->K' m=K m):=hid ⟨K,hiv,fun _ _=>rfl⟩
    have HIV:=hid hiv
    have HGW:=hid hgw
    have HRV:=hid hrv
    unfold Ob.val at HE
    obtain ⟨o0,o1,o2,o3,o4,o5,o6,o7,o8⟩:=BK.c9 (show BK _ #[.int .i64 kind,.string ⟨data.toArray⟩,.slice ea ents.length ec,.int .u64 t1,.int .u64 t2,.slice pa pars.length pc,.string ⟨author.toArray⟩,.int .i64 time,.string ⟨msg.toArray⟩] _ _ from hbo)
    clear hbo hov hvb hrv hiv hgw HRc HDc HBc HIc HALL HGET hs0
    by_cases he:oe=0
    ·subst he
     have hp2:=HPS.out.resolve_left (fun h=>h.1 rfl)
     rw [hp2.2.1] at HE
     obtain ⟨_,_,her⟩:=hp2
     subst her
     simp only at HE
     generalize ents.length=ne at HE o2
     generalize pars.length=np at HE o5
     clear HPS
     go_wp2_with fail
     (with_reducible refine (HE.out).mono ?_)
     rintro e u2 ⟨rfl,hb2⟩
     have hr:=HRV.out.below hb2
     have hi2:=HIV.out.below hb2
     have hg2:w.grownBy u2 (some (R.ib + 1)):=gtrans HGW.out (below_grownBy hb2)
     clear HE HRV HIV HGW HKE hb2 o0 o1 o2 o3 o4 o5 o6 o7 o8
     obtain ⟨r0,r1⟩:=BK.c2 (show BK _ #[.string ⟨#[]⟩,.int .i64 0] _ _ from hr)
     obtain ⟨fr0,fr1⟩:=BK.f2 (hr)
     go_wp2_with fail
     obtain ⟨W9,hW9⟩:∃ W9,W9=putF u2 w.heap.size T 0:=⟨_,rfl⟩
     have hr9:=putF_law hr T 0
     have hi9:=hi2.putF (n:=w.heap.size) (by omega) T 0
     have hg9:=putF_grown hg2 (Nat.le_refl _) T 0
     rw [<-hW9] at hr9 hi9 hg9
     unfold putF at hW9
     rw [<-hW9]
     clear hW9 r0 r1 fr0 fr1
     obtain ⟨r0,r1⟩:=BK.c2 (show BK _ #[.string ⟨T.toArray⟩,.int .i64 0] _ _ from hr9)
     refine bodyPost_ret (v:=.agg #[.string ⟨T.toArray⟩,.int .i64 0]) (by simp [results,Tryz.results125,go_sem,r0,r1]) rfl ?_
     exact ⟨rfl,⟨_,hi9,fun _ _=>rfl⟩,hg9⟩
    ·have hne:(oe != 0)=true:=by simpa using he
     have hp2:=HPS.out.resolve_right (fun h=>he h.1)
     have hp3:=hp2.2
     simp only [Prod.mk.injEq] at hp3
     obtain ⟨hp3,hp4⟩:=hp3
     subst hp3
     subst hp4
     have hr:=HRV.out
     have hi2:=HIV.out
     have hg2:=HGW.out
     clear HE HRV HIV HGW HKE HPS he hp2 o0 o1 o2 o3 o4 o5 o6 o7 o8
     obtain ⟨r0,r1⟩:=BK.c2 (show BK _ #[.string ⟨#[]⟩,.int .i64 0] _ _ from hr)
     obtain ⟨fr0,fr1⟩:=BK.f2 (hr)
     go_wp2_with fail
     obtain ⟨W9,hW9⟩:∃ W9,W9=putF v w.heap.size [] 8:=⟨_,rfl⟩
     have hr9:=putF_law hr [] 8
     have hi9:=hi2.putF (n:=w.heap.size) (by omega) [] 8
     have hg9:=putF_grown hg2 (Nat.le_refl _) [] 8
     rw [<-hW9] at hr9 hi9 hg9
     unfold putF at hW9
     rw [<-hW9]
     clear hW9 r0 r1 fr0 fr1
     obtain ⟨r0,r1⟩:=BK.c2 (show BK _ #[.string ⟨#[]⟩,.int .i64 8] _ _ from hr9)
     refine bodyPost_ret (v:=.agg #[.string ⟨#[]⟩,.int .i64 8]) (by simp [results,Tryz.results125,go_sem,r0,r1]) rfl ?_
     exact ⟨rfl,⟨_,hi9,fun _ _=>rfl⟩,hg9⟩
   ·refine AllReadyH.cons rfl (fun K_ hK=>?_) AllReadyH.nil
    go_simp
    obtain ⟨W1,hW1⟩:∃ W1,W1=(wc.alloc (.cells #[.int .i64 0,.string ⟨#[]⟩,.slice none 0 0,.int .u64 0,.int .u64 0,.slice none 0 0,.string ⟨#[]⟩,.int .i64 0,.string ⟨#[]⟩] 56)).drew:=⟨_,rfl⟩
    have hb1:Below wc.heap.size wc W1:=by rw [hW1]; exact ((Below.refl _ _).alloc (Nat.le_refl _) _).drew
    have hk1:BK wc.heap.size #[.int .i64 0,.string ⟨#[]⟩,.slice none 0 0,.int .u64 0,.int .u64 0,.slice none 0 0,.string ⟨#[]⟩,.int .i64 0,.string ⟨#[]⟩] 56 W1:=by rw [hW1]; exact (BK.new wc _ _).below ((Below.refl _ _).drew)
    have hsz1:W1.heap.size=wc.heap.size + 1:=by rw [hW1]; simp
    have hg1:=hid (HGET.out W1 hb1)
    rw [<-hW1]
    clear hW1
    refine hK.out _ _ (HALL.out _ hb1) (fun hHeld=>?_)
    clear hK K_
    refine wpAnyH_ready (rs:=[5]) (by kernel_rfl) (by simp) ?_
    refine AllReadyH.cons rfl (fun K hK=>?_) AllReadyH.nil
    go_simp
    (with_reducible refine hg1.out.mono ?_)
    rintro e u ⟨ea,ec,pa,pc,rfl,hob,hb⟩
    have hbu:=hb1.trans (hb.mono hb1.size)
    have hku:=hk1.below hb
    have hsu:=HALL.out u hbu
    refine hK.out _ _ (hsu) (fun hHeld=>?_)
    clear hK K
    refine wpAnyH_take (i:=6) (v:=?vv10) rfl (by kernel_rfl) (by kernel_rfl) (by kernel_rfl) (fun _ _ _ h=>h) (Or.inl ⟨by rfl,?hy10⟩) (by assumption) ?rest10
    case hy10=>(intro wx hSw; (try dsimp only at hSw); go_simp; try (with_reducible rfl))
    simp only [Act.put,zA,zB,zC,zD,zE,zF]
    refine wpAnyH_take (i:=7) (v:=?vv11) rfl (by kernel_rfl) (by kernel_rfl) (by kernel_rfl) (fun _ _ _ h=>h) (Or.inl ⟨by rfl,?hy11⟩) (by assumption) ?rest11
    case hy11=>(intro wx hSw; (try dsimp only at hSw); go_simp; try (with_reducible rfl))
    simp only [Act.put,zA,zB,zC,zD,zE,zF]
    refine wpAnyH_take (i:=8) (v:=?vv12) rfl (by kernel_rfl) (by kernel_rfl) (by kernel_rfl) (fun _ _ _ h=>h) (Or.inl ⟨by rfl,?hy12⟩) (by assumption) ?rest12
    case hy12=>(intro wx hSw; (try dsimp only at hSw); go_simp; try (with_reducible rfl))
    simp only [Act.put,zA,zB,zC,zD,zE,zF]
    refine wpAnyH_ready (rs:=[10]) (by kernel_rfl) (by simp) ?_
    simp only [Ob.val]
    obtain ⟨o0,o1,o2,o3,o4,o5,o6,o7,o8⟩:=BK.c9 (show BK _ #[.int .i64 0,.string ⟨#[]⟩,.slice none 0 0,.int .u64 0,.int .u64 0,.slice none 0 0,.string ⟨#[]⟩,.int .i64 0,.string ⟨#[]⟩] _ _ from hku)
    obtain ⟨fo0,fo1,fo2,fo3,fo4,fo5,fo6,fo7,fo8⟩:=BK.f9 (hku)
    refine AllReadyH.cons rfl (fun K hK=>?_) AllReadyH.nil
    go_simp
    obtain ⟨v,hv⟩:∃ v,v=putO u wc.heap.size (.int .i64 kind) (.string ⟨data.toArray⟩) (.slice ea ents.length ec) (.int .u64 t1) (.int .u64 t2) (.slice pa pars.length pc) (.string ⟨author.toArray⟩) (.int .i64 time) (.string ⟨msg.toArray⟩):=⟨_,rfl⟩
    have hbo:BK wc.heap.size #[.int .i64 kind,.string ⟨data.toArray⟩,.slice ea ents.length ec,.int .u64 t1,.int .u64 t2,.slice pa pars.length pc,.string ⟨author.toArray⟩,.int .i64 time,.string ⟨msg.toArray⟩] 56 v:=by rw [hv]; exact putO_law hku (.int .i64 kind) (.string ⟨data.toArray⟩) (.slice ea ents.length ec) (.int .u64 t1) (.int .u64 t2) (.slice pa pars.length pc) (.string ⟨author.toArray⟩) (.int .i64 time) (.string ⟨msg.toArray⟩)
    have hgo:u.grownBy v (some wc.heap.size):=by rw [hv]; exact putO_grown u wc.heap.size (.int .i64 kind) (.string ⟨data.toArray⟩) (.slice ea ents.length ec) (.int .u64 t1) (.int .u64 t2) (.slice pa pars.length pc) (.string ⟨author.toArray⟩) (.int .i64 time) (.string ⟨msg.toArray⟩)
    have hvb:Below wc.heap.size wc v:=hbu.grown hgo hbu.size (fun k e=>by cases e; exact Nat.le_refl _)
    have hov:ObOwn W1.heap.size v ⟨kind,data,ents,(t1,t2),pars,author,time,msg⟩ ea ec pa pc:=hob.kept hgo (by omega)
    obtain ⟨ob,hobn⟩:∃ ob,ob=wc.heap.size:=⟨_,rfl⟩
    unfold putO at hv
    rw [<-hv]
    clear hv o0 o1 o2 o3 o4 o5 o6 o7 o8 fo0 fo1 fo2 fo3 fo4 fo5 fo6 fo7 fo8
    refine hK.out _ _ (HALL.out _ hvb) (fun hHeld=>?_)
    clear hK K
    refine wpAnyH_take (i:=11) (v:=?vv13) rfl (by kernel_rfl) (by kernel_rfl) (by kernel_rfl) (fun _ _ _ h=>h) (Or.inl ⟨by rfl,?hy13⟩) (by assumption) ?rest13
    case hy13=>(intro wx hSw; (try dsimp only at hSw); go_simp; try (with_reducible rfl))
    simp only [Act.put,zA,zB,zC,zD,zE,zF]
    refine wpAnyH_done (by kernel_rfl) ?_ _
    rw [<-hobn] at hbo ⊢
    clear hob hb hbu hsu hku hgo hb1 hk1 hsz1 hg1 hobn
    have hrv:=HRc.out.below hvb
    have hiv:=HIc.out.below hvb
    have hgw:w.grownBy v (some (R.ib + 1)):=below_grownBy (HBc.out.trans (hvb.mono HBc.out.size))
    have hws:=HBc.out.size
    have HE:=hid (encode_any ⟨kind,data,ents,(t1,t2),pars,author,time,msg⟩ ea ec pa pc v hov.inn)
    have HKE:Hid (∃ K',R.In K' v/\∀ m:Int,(i:Int)<=m->K' m=K m):=hid ⟨K,hiv,fun _ _=>rfl⟩
    have HIV:=hid hiv
    have HGW:=hid hgw
    have HRV:=hid hrv
    unfold Ob.val at HE
    obtain ⟨o0,o1,o2,o3,o4,o5,o6,o7,o8⟩:=BK.c9 (show BK _ #[.int .i64 kind,.string ⟨data.toArray⟩,.slice ea ents.length ec,.int .u64 t1,.int .u64 t2,.slice pa pars.length pc,.string ⟨author.toArray⟩,.int .i64 time,.string ⟨msg.toArray⟩] _ _ from hbo)
    clear hbo hov hvb hrv hiv hgw HRc HDc HBc HIc HALL HGET hs0
    by_cases he:oe=0
    ·subst he
     have hp2:=HPS.out.resolve_left (fun h=>h.1 rfl)
     rw [hp2.2.1] at HE
     obtain ⟨_,_,her⟩:=hp2
     subst her
     simp only at HE
     generalize ents.length=ne at HE o2
     generalize pars.length=np at HE o5
     clear HPS
     go_wp2_with fail
     (with_reducible refine (HE.out).mono ?_)
     rintro e u2 ⟨rfl,hb2⟩
     have hr:=HRV.out.below hb2
     have hi2:=HIV.out.below hb2
     have hg2:w.grownBy u2 (some (R.ib + 1)):=gtrans HGW.out (below_grownBy hb2)
     clear HE HRV HIV HGW HKE hb2 o0 o1 o2 o3 o4 o5 o6 o7 o8
     obtain ⟨r0,r1⟩:=BK.c2 (show BK _ #[.string ⟨#[]⟩,.int .i64 0] _ _ from hr)
     obtain ⟨fr0,fr1⟩:=BK.f2 (hr)
     go_wp2_with fail
     obtain ⟨W9,hW9⟩:∃ W9,W9=putF u2 w.heap.size T 0:=⟨_,rfl⟩
     have hr9:=putF_law hr T 0
     have hi9:=hi2.putF (n:=w.heap.size) (by omega) T 0
     have hg9:=putF_grown hg2 (Nat.le_refl _) T 0
     rw [<-hW9] at hr9 hi9 hg9
     unfold putF at hW9
     rw [<-hW9]
     clear hW9 r0 r1 fr0 fr1
     obtain ⟨r0,r1⟩:=BK.c2 (show BK _ #[.string ⟨T.toArray⟩,.int .i64 0] _ _ from hr9)
     refine bodyPost_ret (v:=.agg #[.string ⟨T.toArray⟩,.int .i64 0]) (by simp [results,Tryz.results125,go_sem,r0,r1]) rfl ?_
     exact ⟨rfl,⟨_,hi9,fun _ _=>rfl⟩,hg9⟩
    ·have hne:(oe != 0)=true:=by simpa using he
     have hp2:=HPS.out.resolve_right (fun h=>he h.1)
     have hp3:=hp2.2
     simp only [Prod.mk.injEq] at hp3
     obtain ⟨hp3,hp4⟩:=hp3
     subst hp3
     subst hp4
     have hr:=HRV.out
     have hi2:=HIV.out
     have hg2:=HGW.out
     clear HE HRV HIV HGW HKE HPS he hp2 o0 o1 o2 o3 o4 o5 o6 o7 o8
     obtain ⟨r0,r1⟩:=BK.c2 (show BK _ #[.string ⟨#[]⟩,.int .i64 0] _ _ from hr)
     obtain ⟨fr0,fr1⟩:=BK.f2 (hr)
     go_wp2_with fail
     obtain ⟨W9,hW9⟩:∃ W9,W9=putF v w.heap.size [] 8:=⟨_,rfl⟩
     have hr9:=putF_law hr [] 8
     have hi9:=hi2.putF (n:=w.heap.size) (by omega) [] 8
     have hg9:=putF_grown hg2 (Nat.le_refl _) [] 8
     rw [<-hW9] at hr9 hi9 hg9
     unfold putF at hW9
     rw [<-hW9]
     clear hW9 r0 r1 fr0 fr1
     obtain ⟨r0,r1⟩:=BK.c2 (show BK _ #[.string ⟨#[]⟩,.int .i64 8] _ _ from hr9)
     refine bodyPost_ret (v:=.agg #[.string ⟨#[]⟩,.int .i64 8]) (by simp [results,Tryz.results125,go_sem,r0,r1]) rfl ?_
     exact ⟨rfl,⟨_,hi9,fun _ _=>rfl⟩,hg9⟩
 | none=>
  have hlk2:(Instr.lookup 93 (.map (some R.ib)) (.agg #[.int .u64 b1,.int .u64 b2]) true).run Tryz.prog wb.drew = .ok (.tuple #[.int .i64 0,.bool false]) wb.drew:=by rw [hlk,hx]; rfl
  clear hlk
  have hsr:srcS R.xs R.l R.dat i (b1,b2)=datI R.xs (b1,b2):=by unfold srcS; rw [hx]
  have hdat:datI R.xs (b1,b2)=(T,er):=hsr.symm.trans HSR.out
  have hps:=pool_src hR (b1,b2)
  rw [hdat] at hps
  have HPS:=hid hps
  have HGET:=hid (fun W (hW:Below wc.heap.size wc W)=>get_any R.pa R.xs R.pc b1 b2 W ⟨(HIc.out.its.below hW (by have:=HIc.out.lt; omega)).mono (by have:=hW.size; have:=HIc.out.lt; omega),hR.pc,hR.xl,hR.xd⟩ hR.asc)
  have HALL:Hid (∀ W,Below wc.heap.size wc W->Below wc.heap.size wc W/\W.cell? ⟨R.ib + 1 + 1,2,none⟩=some (.slice R.pa R.xs.length R.pc)/\W.cell? ⟨w.heap.size + 1,0,none⟩=some (.int .u64 b1)/\W.cell? ⟨w.heap.size + 1,1,none⟩=some (.int .u64 b2)):=hid (fun W hW=>by
   have h1:=(HIc.out.below hW).box
   have h2:=HDc.out.below hW
   exact ⟨hW,by rw [h1.cell]; rfl,by rw [h2.cell]; rfl,by rw [h2.cell]; rfl⟩)
  generalize getS R.xs (b1,b2)=OE at HGET HPS
  obtain ⟨o,oe⟩:=OE
  simp only at HGET HPS
  have hs0:=HALL.out wc.drew ((Below.refl _ _).drew)
  clear hget hsr hx hdat hps
  go_region
  rw [<-HWC.out]
  clear x0 x1 x2 x3 x4 d0 d1 hlk2 HWC
  go_wp2_with fail
  refine wp_region_held_drew (S:=(fun W=>Below wc.heap.size wc W/\W.cell? ⟨R.ib + 1 + 1,2,none⟩=some (.slice R.pa R.xs.length R.pc)/\W.cell? ⟨w.heap.size + 1,0,none⟩=some (.int .u64 b1)/\W.cell? ⟨w.heap.size + 1,1,none⟩=some (.int .u64 b2))) (by kernel_rfl) hs0 (fun hHeld=>?_)
  refine wpAnyH_take (i:=0) (v:=?vv14) rfl (by kernel_rfl) (by kernel_rfl) (by kernel_rfl) (fun _ _ _ h=>h) (Or.inl ⟨by rfl,?hy14⟩) (by assumption) ?rest14
  case hy14=>(intro wx hSw; (try dsimp only at hSw); go_simp; try (with_reducible rfl))
  simp only [Act.put,zA,zC,zD,zE,zF]
  refine wpAnyH_take (i:=1) (v:=?vv15) rfl (by kernel_rfl) (by kernel_rfl) (by kernel_rfl) (fun _ _ _ h=>h) (Or.inl ⟨by rfl,?hy15⟩) (by assumption) ?rest15
  case hy15=>(intro wx hSw; (try dsimp only at hSw); go_simp; try (with_reducible rfl))
  simp only [Act.put,zA,zB,zC,zD,zE,zF]
  refine wpAnyH_take (i:=2) (v:=?vv16) rfl (by kernel_rfl) (by kernel_rfl) (by kernel_rfl) (fun _ _ _ h=>h) (Or.inl ⟨by rfl,?hy16⟩) (by assumption) ?rest16
  case hy16=>(intro wx hSw; (try dsimp only at hSw); go_simp; try (with_reducible rfl))
  simp only [Act.put,zA,zB,zC,zD,zE,zF]
  refine wpAnyH_take (i:=3) (v:=?vv17) rfl (by kernel_rfl) (by kernel_rfl) (by kernel_rfl) (fun _ _ _ h=>h) (Or.inl ⟨by rfl,?hy17⟩) (by assumption) ?rest17
  case hy17=>(intro wx hSw; (try dsimp only at hSw); go_simp; try (with_reducible rfl))
  simp only [Act.put,zA,zB,zC,zD,zE,zF]
  refine wpAnyH_take (i:=4) (v:=?vv18) rfl (by kernel_rfl) (by kernel_rfl) (by kernel_rfl) (fun _ _ _ h=>h) (Or.inl ⟨by rfl,?hy18⟩) (by assumption) ?rest18
  case hy18=>(intro wx hSw; (try dsimp only at hSw); go_simp; try (with_reducible rfl))
  simp only [Act.put,zA,zB,zC,zD,zE,zF]
  obtain ⟨kind,data,ents,⟨t1,t2⟩,pars,author,time,msg⟩:=o
  refine wpAnyH_ready (rs:=[5,9]) (by kernel_rfl) (by simp) ?_
  refine AllReadyH.cons rfl (fun K hK=>?_) ?_
  ·go_simp
   (with_reducible refine (HGET.out _ hs0.1).mono ?_)
   rintro e u ⟨ea,ec,pa,pc,rfl,hob,hb⟩
   have hbu:=hs0.1.trans (hb.mono (Nat.le_refl _))
   have hsu:=HALL.out u hbu
   refine hK.out _ _ (hsu) (fun hHeld=>?_)
   clear hK K
   refine wpAnyH_take (i:=6) (v:=?vv19) rfl (by kernel_rfl) (by kernel_rfl) (by kernel_rfl) (fun _ _ _ h=>h) (Or.inl ⟨by rfl,?hy19⟩) (by assumption) ?rest19
   case hy19=>(intro wx hSw; (try dsimp only at hSw); go_simp; try (with_reducible rfl))
   simp only [Act.put,zA,zB,zC,zD,zE,zF]
   refine wpAnyH_take (i:=7) (v:=?vv20) rfl (by kernel_rfl) (by kernel_rfl) (by kernel_rfl) (fun _ _ _ h=>h) (Or.inl ⟨by rfl,?hy20⟩) (by assumption) ?rest20
   case hy20=>(intro wx hSw; (try dsimp only at hSw); go_simp; try (with_reducible rfl))
   simp only [Act.put,zA,zB,zC,zD,zE,zF]
   refine wpAnyH_take (i:=8) (v:=?vv21) rfl (by kernel_rfl) (by kernel_rfl) (by kernel_rfl) (fun _ _ _ h=>h) (Or.inl ⟨by rfl,?hy21⟩) (by assumption) ?rest21
   case hy21=>(intro wx hSw; (try dsimp only at hSw); go_simp; try (with_reducible rfl))
   simp only [Act.put,zA,zB,zC,zD,zE,zF]
   refine wpAnyH_ready (rs:=[9]) (by kernel_rfl) (by simp) ?_
   refine AllReadyH.cons rfl (fun K hK=>?_) AllReadyH.nil
   go_simp
   refine hK.out _ _ (HALL.out _ (hbu.alloc hbu.size _)) (fun hHeld=>?_)
   clear hK K
   refine wpAnyH_ready (rs:=[10]) (by kernel_rfl) (by simp) ?_
   refine AllReadyH.cons rfl (fun K hK=>?_) AllReadyH.nil
   go_simp
   refine hK.out _ _ (HALL.out _ (hbu.alloc hbu.size _)) (fun hHeld=>?_)
   clear hK K
   refine wpAnyH_take (i:=11) (v:=?vv22) rfl (by kernel_rfl) (by kernel_rfl) (by kernel_rfl) (fun _ _ _ h=>h) (Or.inl ⟨by rfl,?hy22⟩) (by assumption) ?rest22
   case hy22=>(intro wx hSw; (try dsimp only at hSw); go_simp; try (with_reducible rfl))
   simp only [Act.put,zA,zB,zC,zD,zE,zF]
   refine wpAnyH_done (by kernel_rfl) ?_ _
   obtain ⟨v,hv⟩:∃ v,v=u.alloc (.cells #[.int .i64 kind,.string ⟨data.toArray⟩,.slice ea ents.length ec,.int .u64 t1,.int .u64 t2,.slice pa pars.length pc,.string ⟨author.toArray⟩,.int .i64 time,.string ⟨msg.toArray⟩] 56):=⟨_,rfl⟩
   have hvb:Below wc.heap.size wc v:=by rw [hv]; exact hbu.alloc hbu.size _
   obtain ⟨ob,hobn⟩:∃ ob,ob=u.heap.size:=⟨_,rfl⟩
   have hbo:BK ob #[.int .i64 kind,.string ⟨data.toArray⟩,.slice ea ents.length ec,.int .u64 t1,.int .u64 t2,.slice pa pars.length pc,.string ⟨author.toArray⟩,.int .i64 time,.string ⟨msg.toArray⟩] 56 v:=by rw [hv,hobn]; exact BK.new _ _ _
   have hov:ObOwn wc.drew.heap.size v ⟨kind,data,ents,(t1,t2),pars,author,time,msg⟩ ea ec pa pc:=hob.below (by rw [hv]; exact (Below.refl _ _).alloc (Nat.le_refl _) _)
   simp only [Ob.val]
   rw [<-hv,<-hobn]
   clear hv hobn hob hb hbu hsu
   have hrv:=HRc.out.below hvb
   have hiv:=HIc.out.below hvb
   have hgw:w.grownBy v (some (R.ib + 1)):=below_grownBy (HBc.out.trans (hvb.mono HBc.out.size))
   have hws:=HBc.out.size
   have HE:=hid (encode_any ⟨kind,data,ents,(t1,t2),pars,author,time,msg⟩ ea ec pa pc v hov.inn)
   have HKE:Hid (∃ K',R.In K' v/\∀ m:Int,(i:Int)<=m->K' m=K m):=hid ⟨K,hiv,fun _ _=>rfl⟩
   have HIV:=hid hiv
   have HGW:=hid hgw
   have HRV:=hid hrv
   unfold Ob.val at HE
   obtain ⟨o0,o1,o2,o3,o4,o5,o6,o7,o8⟩:=BK.c9 (show BK _ #[.int .i64 kind,.string ⟨data.toArray⟩,.slice ea ents.length ec,.int .u64 t1,.int .u64 t2,.slice pa pars.length pc,.string ⟨author.toArray⟩,.int .i64 time,.string ⟨msg.toArray⟩] _ _ from hbo)
   clear hbo hov hvb hrv hiv hgw HRc HDc HBc HIc HALL HGET hs0
   by_cases he:oe=0
   ·subst he
    have hp2:=HPS.out.resolve_left (fun h=>h.1 rfl)
    rw [hp2.2.1] at HE
    obtain ⟨_,_,her⟩:=hp2
    subst her
    simp only at HE
    generalize ents.length=ne at HE o2
    generalize pars.length=np at HE o5
    clear HPS
    go_wp2_with fail
    (with_reducible refine (HE.out).mono ?_)
    rintro e u2 ⟨rfl,hb2⟩
    have hr:=HRV.out.below hb2
    have hi2:=HIV.out.below hb2
    have hg2:w.grownBy u2 (some (R.ib + 1)):=gtrans HGW.out (below_grownBy hb2)
    clear HE HRV HIV HGW HKE hb2 o0 o1 o2 o3 o4 o5 o6 o7 o8
    obtain ⟨r0,r1⟩:=BK.c2 (show BK _ #[.string ⟨#[]⟩,.int .i64 0] _ _ from hr)
    obtain ⟨fr0,fr1⟩:=BK.f2 (hr)
    go_wp2_with fail
    obtain ⟨W9,hW9⟩:∃ W9,W9=putF u2 w.heap.size T 0:=⟨_,rfl⟩
    have hr9:=putF_law hr T 0
    have hi9:=hi2.putF (n:=w.heap.size) (by omega) T 0
    have hg9:=putF_grown hg2 (Nat.le_refl _) T 0
    rw [<-hW9] at hr9 hi9 hg9
    unfold putF at hW9
    rw [<-hW9]
    clear hW9 r0 r1 fr0 fr1
    obtain ⟨r0,r1⟩:=BK.c2 (show BK _ #[.string ⟨T.toArray⟩,.int .i64 0] _ _ from hr9)
    refine bodyPost_ret (v:=.agg #[.string ⟨T.toArray⟩,.int .i64 0]) (by simp [results,Tryz.results125,go_sem,r0,r1]) rfl ?_
    exact ⟨rfl,⟨_,hi9,fun _ _=>rfl⟩,hg9⟩
   ·have hne:(oe != 0)=true:=by simpa using he
    have hp2:=HPS.out.resolve_right (fun h=>he h.1)
    have hp3:=hp2.2
    simp only [Prod.mk.injEq] at hp3
    obtain ⟨hp3,hp4⟩:=hp3
    subst hp3
    subst hp4
    have hr:=HRV.out
    have hi2:=HIV.out
    have hg2:=HGW.out
    clear HE HRV HIV HGW HKE HPS he hp2 o0 o1 o2 o3 o4 o5 o6 o7 o8
    obtain ⟨r0,r1⟩:=BK.c2 (show BK _ #[.string ⟨#[]⟩,.int .i64 0] _ _ from hr)
    obtain ⟨fr0,fr1⟩:=BK.f2 (hr)
    go_wp2_with fail
    obtain ⟨W9,hW9⟩:∃ W9,W9=putF v w.heap.size [] 8:=⟨_,rfl⟩
    have hr9:=putF_law hr [] 8
    have hi9:=hi2.putF (n:=w.heap.size) (by omega) [] 8
    have hg9:=putF_grown hg2 (Nat.le_refl _) [] 8
    rw [<-hW9] at hr9 hi9 hg9
    unfold putF at hW9
    rw [<-hW9]
    clear hW9 r0 r1 fr0 fr1
    obtain ⟨r0,r1⟩:=BK.c2 (show BK _ #[.string ⟨#[]⟩,.int .i64 8] _ _ from hr9)
    refine bodyPost_ret (v:=.agg #[.string ⟨#[]⟩,.int .i64 8]) (by simp [results,Tryz.results125,go_sem,r0,r1]) rfl ?_
    exact ⟨rfl,⟨_,hi9,fun _ _=>rfl⟩,hg9⟩
  ·refine AllReadyH.cons rfl (fun K_ hK=>?_) AllReadyH.nil
   go_simp
   obtain ⟨W1,hW1⟩:∃ W1,W1=(wc.alloc (.cells #[.int .i64 0,.string ⟨#[]⟩,.slice none 0 0,.int .u64 0,.int .u64 0,.slice none 0 0,.string ⟨#[]⟩,.int .i64 0,.string ⟨#[]⟩] 56)).drew:=⟨_,rfl⟩
   have hb1:Below wc.heap.size wc W1:=by rw [hW1]; exact ((Below.refl _ _).alloc (Nat.le_refl _) _).drew
   have hk1:BK wc.heap.size #[.int .i64 0,.string ⟨#[]⟩,.slice none 0 0,.int .u64 0,.int .u64 0,.slice none 0 0,.string ⟨#[]⟩,.int .i64 0,.string ⟨#[]⟩] 56 W1:=by rw [hW1]; exact (BK.new wc _ _).below ((Below.refl _ _).drew)
   have hsz1:W1.heap.size=wc.heap.size + 1:=by rw [hW1]; simp
   have hg1:=hid (HGET.out W1 hb1)
   rw [<-hW1]
   clear hW1
   refine hK.out _ _ (HALL.out _ hb1) (fun hHeld=>?_)
   clear hK K_
   refine wpAnyH_ready (rs:=[5]) (by kernel_rfl) (by simp) ?_
   refine AllReadyH.cons rfl (fun K hK=>?_) AllReadyH.nil
   go_simp
   (with_reducible refine hg1.out.mono ?_)
   rintro e u ⟨ea,ec,pa,pc,rfl,hob,hb⟩
   have hbu:=hb1.trans (hb.mono hb1.size)
   have hku:=hk1.below hb
   have hsu:=HALL.out u hbu
   refine hK.out _ _ (hsu) (fun hHeld=>?_)
   clear hK K
   refine wpAnyH_take (i:=6) (v:=?vv23) rfl (by kernel_rfl) (by kernel_rfl) (by kernel_rfl) (fun _ _ _ h=>h) (Or.inl ⟨by rfl,?hy23⟩) (by assumption) ?rest23
   case hy23=>(intro wx hSw; (try dsimp only at hSw); go_simp; try (with_reducible rfl))
   simp only [Act.put,zA,zB,zC,zD,zE,zF]
   refine wpAnyH_take (i:=7) (v:=?vv24) rfl (by kernel_rfl) (by kernel_rfl) (by kernel_rfl) (fun _ _ _ h=>h) (Or.inl ⟨by rfl,?hy24⟩) (by assumption) ?rest24
   case hy24=>(intro wx hSw; (try dsimp only at hSw); go_simp; try (with_reducible rfl))
   simp only [Act.put,zA,zB,zC,zD,zE,zF]
   refine wpAnyH_take (i:=8) (v:=?vv25) rfl (by kernel_rfl) (by kernel_rfl) (by kernel_rfl) (fun _ _ _ h=>h) (Or.inl ⟨by rfl,?hy25⟩) (by assumption) ?rest25
   case hy25=>(intro wx hSw; (try dsimp only at hSw); go_simp; try (with_reducible rfl))
   simp only [Act.put,zA,zB,zC,zD,zE,zF]
   refine wpAnyH_ready (rs:=[10]) (by kernel_rfl) (by simp) ?_
   simp only [Ob.val]
   obtain ⟨o0,o1,o2,o3,o4,o5,o6,o7,o8⟩:=BK.c9 (show BK _ #[.int .i64 0,.string ⟨#[]⟩,.slice none 0 0,.int .u64 0,.int .u64 0,.slice none 0 0,.string ⟨#[]⟩,.int .i64 0,.string ⟨#[]⟩] _ _ from hku)
   obtain ⟨fo0,fo1,fo2,fo3,fo4,fo5,fo6,fo7,fo8⟩:=BK.f9 (hku)
   refine AllReadyH.cons rfl (fun K hK=>?_) AllReadyH.nil
   go_simp
   obtain ⟨v,hv⟩:∃ v,v=putO u wc.heap.size (.int .i64 kind) (.string ⟨data.toArray⟩) (.slice ea ents.length ec) (.int .u64 t1) (.int .u64 t2) (.slice pa pars.length pc) (.string ⟨author.toArray⟩) (.int .i64 time) (.string ⟨msg.toArray⟩):=⟨_,rfl⟩
   have hbo:BK wc.heap.size #[.int .i64 kind,.string ⟨data.toArray⟩,.slice ea ents.length ec,.int .u64 t1,.int .u64 t2,.slice pa pars.length pc,.string ⟨author.toArray⟩,.int .i64 time,.string ⟨msg.toArray⟩] 56 v:=by rw [hv]; exact putO_law hku (.int .i64 kind) (.string ⟨data.toArray⟩) (.slice ea ents.length ec) (.int .u64 t1) (.int .u64 t2) (.slice pa pars.length pc) (.string ⟨author.toArray⟩) (.int .i64 time) (.string ⟨msg.toArray⟩)
   have hgo:u.grownBy v (some wc.heap.size):=by rw [hv]; exact putO_grown u wc.heap.size (.int .i64 kind) (.string ⟨data.toArray⟩) (.slice ea ents.length ec) (.int .u64 t1) (.int .u64 t2) (.slice pa pars.length pc) (.string ⟨author.toArray⟩) (.int .i64 time) (.string ⟨msg.toArray⟩)
   have hvb:Below wc.heap.size wc v:=hbu.grown hgo hbu.size (fun k e=>by cases e; exact Nat.le_refl _)
   have hov:ObOwn W1.heap.size v ⟨kind,data,ents,(t1,t2),pars,author,time,msg⟩ ea ec pa pc:=hob.kept hgo (by omega)
   obtain ⟨ob,hobn⟩:∃ ob,ob=wc.heap.size:=⟨_,rfl⟩
   unfold putO at hv
   rw [<-hv]
   clear hv o0 o1 o2 o3 o4 o5 o6 o7 o8 fo0 fo1 fo2 fo3 fo4 fo5 fo6 fo7 fo8
   refine hK.out _ _ (HALL.out _ hvb) (fun hHeld=>?_)
   clear hK K
   refine wpAnyH_take (i:=11) (v:=?vv26) rfl (by kernel_rfl) (by kernel_rfl) (by kernel_rfl) (fun _ _ _ h=>h) (Or.inl ⟨by rfl,?hy26⟩) (by assumption) ?rest26
   case hy26=>(intro wx hSw; (try dsimp only at hSw); go_simp; try (with_reducible rfl))
   simp only [Act.put,zA,zB,zC,zD,zE,zF]
   refine wpAnyH_done (by kernel_rfl) ?_ _
   rw [<-hobn] at hbo ⊢
   clear hob hb hbu hsu hku hgo hb1 hk1 hsz1 hg1 hobn
   have hrv:=HRc.out.below hvb
   have hiv:=HIc.out.below hvb
   have hgw:w.grownBy v (some (R.ib + 1)):=below_grownBy (HBc.out.trans (hvb.mono HBc.out.size))
   have hws:=HBc.out.size
   have HE:=hid (encode_any ⟨kind,data,ents,(t1,t2),pars,author,time,msg⟩ ea ec pa pc v hov.inn)
   have HKE:Hid (∃ K',R.In K' v/\∀ m:Int,(i:Int)<=m->K' m=K m):=hid ⟨K,hiv,fun _ _=>rfl⟩
   have HIV:=hid hiv
   have HGW:=hid hgw
   have HRV:=hid hrv
   unfold Ob.val at HE
   obtain ⟨o0,o1,o2,o3,o4,o5,o6,o7,o8⟩:=BK.c9 (show BK _ #[.int .i64 kind,.string ⟨data.toArray⟩,.slice ea ents.length ec,.int .u64 t1,.int .u64 t2,.slice pa pars.length pc,.string ⟨author.toArray⟩,.int .i64 time,.string ⟨msg.toArray⟩] _ _ from hbo)
   clear hbo hov hvb hrv hiv hgw HRc HDc HBc HIc HALL HGET hs0
   by_cases he:oe=0
   ·subst he
    have hp2:=HPS.out.resolve_left (fun h=>h.1 rfl)
    rw [hp2.2.1] at HE
    obtain ⟨_,_,her⟩:=hp2
    subst her
    simp only at HE
    generalize ents.length=ne at HE o2
    generalize pars.length=np at HE o5
    clear HPS
    go_wp2_with fail
    (with_reducible refine (HE.out).mono ?_)
    rintro e u2 ⟨rfl,hb2⟩
    have hr:=HRV.out.below hb2
    have hi2:=HIV.out.below hb2
    have hg2:w.grownBy u2 (some (R.ib + 1)):=gtrans HGW.out (below_grownBy hb2)
    clear HE HRV HIV HGW HKE hb2 o0 o1 o2 o3 o4 o5 o6 o7 o8
    obtain ⟨r0,r1⟩:=BK.c2 (show BK _ #[.string ⟨#[]⟩,.int .i64 0] _ _ from hr)
    obtain ⟨fr0,fr1⟩:=BK.f2 (hr)
    go_wp2_with fail
    obtain ⟨W9,hW9⟩:∃ W9,W9=putF u2 w.heap.size T 0:=⟨_,rfl⟩
    have hr9:=putF_law hr T 0
    have hi9:=hi2.putF (n:=w.heap.size) (by omega) T 0
    have hg9:=putF_grown hg2 (Nat.le_refl _) T 0
    rw [<-hW9] at hr9 hi9 hg9
    unfold putF at hW9
    rw [<-hW9]
    clear hW9 r0 r1 fr0 fr1
    obtain ⟨r0,r1⟩:=BK.c2 (show BK _ #[.string ⟨T.toArray⟩,.int .i64 0] _ _ from hr9)
    refine bodyPost_ret (v:=.agg #[.string ⟨T.toArray⟩,.int .i64 0]) (by simp [results,Tryz.results125,go_sem,r0,r1]) rfl ?_
    exact ⟨rfl,⟨_,hi9,fun _ _=>rfl⟩,hg9⟩
   ·have hne:(oe != 0)=true:=by simpa using he
    have hp2:=HPS.out.resolve_right (fun h=>he h.1)
    have hp3:=hp2.2
    simp only [Prod.mk.injEq] at hp3
    obtain ⟨hp3,hp4⟩:=hp3
    subst hp3
    subst hp4
    have hr:=HRV.out
    have hi2:=HIV.out
    have hg2:=HGW.out
    clear HE HRV HIV HGW HKE HPS he hp2 o0 o1 o2 o3 o4 o5 o6 o7 o8
    obtain ⟨r0,r1⟩:=BK.c2 (show BK _ #[.string ⟨#[]⟩,.int .i64 0] _ _ from hr)
    obtain ⟨fr0,fr1⟩:=BK.f2 (hr)
    go_wp2_with fail
    obtain ⟨W9,hW9⟩:∃ W9,W9=putF v w.heap.size [] 8:=⟨_,rfl⟩
    have hr9:=putF_law hr [] 8
    have hi9:=hi2.putF (n:=w.heap.size) (by omega) [] 8
    have hg9:=putF_grown hg2 (Nat.le_refl _) [] 8
    rw [<-hW9] at hr9 hi9 hg9
    unfold putF at hW9
    rw [<-hW9]
    clear hW9 r0 r1 fr0 fr1
    obtain ⟨r0,r1⟩:=BK.c2 (show BK _ #[.string ⟨#[]⟩,.int .i64 8] _ _ from hr9)
    refine bodyPost_ret (v:=.agg #[.string ⟨#[]⟩,.int .i64 8]) (by simp [results,Tryz.results125,go_sem,r0,r1]) rfl ?_
    exact ⟨rfl,⟨_,hi9,fun _ _=>rfl⟩,hg9⟩
end Go.Proofs.YtijkieiihpiljaaGreat
