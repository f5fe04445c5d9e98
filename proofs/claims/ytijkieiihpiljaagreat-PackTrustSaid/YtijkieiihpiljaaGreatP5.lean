/- Joined texts: PkN, PkO, PkQ. -/
import Derived.Test.YtijkieiihpiljaaGreatP3
import Derived.Test.YtijkieiihpiljaaGreatK5
import Derived.Test.YtijkieiihpiljaaGreatK9
/- The reference's packs: Seal,and the cursor's number and digest. -/
set_option maxRecDepth 100000
set_option maxHeartbeats 16000000
open Go.Lib (hid)
namespace Go.Proofs.YtijkieiihpiljaaGreat
open Go.RowKit Go.Shelf
set_option linter.unusedVariables false
theorem okD_dig (b:List UInt8):(0<=(digS b).1/\(digS b).1<=18446744073709551615)/\(0<=(digS b).2/\(digS b).2<=18446744073709551615):=by
 have:=digS_ok b
 unfold OkD u64B at this
 omega
theorem seal_any (b:List UInt8) (w:World) (hl:(b.length:Int)<=70368744177664):Calls Tryz.prog 15 #[.string ⟨b.toArray⟩] w fun e w'=>e = .returned (.string ⟨(sealS b).toArray⟩)/\Below w.heap.size w w':=by
 have HC1:=hid (fun W=>refOf_any b W (by omega))
 obtain ⟨h1,h2⟩:=okD_dig b
 have HC2:=hid (fun W=>rbytes_any (digS b).1 (digS b).2 h1 h2 W)
 obtain ⟨T,hT⟩:∃ T,T=beD (digS b):=⟨_,rfl⟩
 have HS:Hid ((⟨b.toArray⟩:ByteArray) ++ ⟨T.toArray⟩=⟨(sealS b).toArray⟩):=hid (by rw [ba_append,hT]; simp [sealS])
 rw [show ((digS b).1,(digS b).2)=digS b from rfl,<-hT] at HC2
 generalize (digS b).1=x at HC1 HC2
 generalize (digS b).2=y at HC1 HC2
 generalize sealS b=R at HS ⊢
 have hTl:T.length=16:=by rw [hT,beD_length]
 have hsb:=ba_len b
 have hsT:=ba_len T
 rw [hTl] at hsT
 clear hT h1 h2
 go_enter Tryz.func15,Tryz.ntmps15
 go_wp2_with fail
 (with_reducible refine (HC1.out _).mono ?_)
 rintro e u1 ⟨rfl,hb1⟩
 go_wp2_with fail
 (with_reducible refine (HC2.out _).mono ?_)
 rintro e u2 ⟨rfl,hb2⟩
 have HB:=hid (hb1.trans (hb2.mono hb1.size))
 have hs:=HS.out
 clear hb1 hb2 HC1 HC2
 go_wp2_with fail
 go_ret
 exact ⟨rfl,HB.out⟩
def cval (b:List UInt8) (k:Nat) (bad:Bool):Value:=.agg #[.string ⟨b.toArray⟩,.int .i64 (k:Int),.bool bad]
abbrev crZ:Array Value:=#[.string ⟨#[]⟩,.int .i64 0,.bool false]
def put3 (W:World) (n:Nat) (b:List UInt8) (k:Nat) (bad:Bool):World:=((W.setCell ⟨n,0,none⟩ (.string ⟨b.toArray⟩)).setCell ⟨n,1,none⟩ (.int .i64 (k:Int))).setCell ⟨n,2,none⟩ (.bool bad)
theorem put3_law {W:World} {n:Nat} {x0 x1 x2:Value} (h:BK n #[x0,x1,x2] 84 W) (b:List UInt8) (k:Nat) (bad:Bool):BK n #[.string ⟨b.toArray⟩,.int .i64 (k:Int),.bool bad] 84 (put3 W n b k bad):=by
 unfold put3
 have h0:BK n #[.string ⟨b.toArray⟩,x1,x2] _ _:=h.set 0 (.string ⟨b.toArray⟩)
 have h1:BK n #[.string ⟨b.toArray⟩,.int .i64 (k:Int),x2] _ _:=h0.set 1 (.int .i64 (k:Int))
 exact h1.set 2 (.bool bad)
theorem put3_below {B:Nat} {w W:World} (h:Below B w W) {n:Nat} (hn:B<=n) (b:List UInt8) (k:Nat) (bad:Bool):Below B w (put3 W n b k bad):=((h.setCell hn _).setCell hn _).setCell hn _
theorem put3_other {m:Nat} {cs:Array Value} {T:TypeId} {W:World} (h:BK m cs T W) {n:Nat} (hn:n ≠ m) (b:List UInt8) (k:Nat) (bad:Bool):BK m cs T (put3 W n b k bad):=((h.other hn _ _).other hn _ _).other hn _ _
theorem cnum_any {b:List UInt8} {k u:Nat} {n er:Int} (hg:Cw.getI (b.drop k)=(n,(u:Int),er)) (bad:Bool) (w:World) (hk:k<=b.length) (hl:(b.length:Int)<=70368744177664) :
  Calls Tryz.prog 43 #[cval b k bad] w fun e w'=>e = .returned (.tuple #[.int .i64 n,cval b (k + u) (bad || er != 0)])/\Below w.heap.size w w':=by
 have HG:=hid (fun X=>refGetInt_is (s:=⟨(b.drop k).toArray⟩) (n:=n) (k:=(u:Int)) (er:=er) (by simpa using hg) X)
 obtain ⟨h1,h2,h3,h4⟩:=getI_all hg
 rw [List.length_drop] at h4
 have hsl:=fun W=>sl_lo b k hk W
 have hex:(⟨b.toArray⟩:ByteArray).extract k b.length=⟨(b.drop k).toArray⟩:=by rw [ex_mid,List.take_of_length_le (by simp)]
 generalize b.drop k=s at HG hsl hex
 obtain ⟨p,hp⟩:∃ p,p=k + u:=⟨_,rfl⟩
 have hwr:IntKind.i64.wrap ((k:Int) + (u:Int))=(p:Int):=by rw [wrap_i64 (by omega) (by omega)]; omega
 rw [<-hp]
 obtain ⟨w0,hw0⟩:∃ w0,w0=(w.alloc (.cells #[.string ⟨b.toArray⟩,.int .i64 (k:Int),.bool bad] 84)).alloc (.cells crZ 84):=⟨_,rfl⟩
 have HK0:Hid (BK w.heap.size #[.string ⟨b.toArray⟩,.int .i64 (k:Int),.bool bad] 84 w0):=hid (by rw [hw0]; exact (BK.new _ _ _).alloc _)
 have HR0:Hid (BK (w.heap.size + 1) crZ 84 w0):=hid (by rw [hw0]; exact BK.new2 _ _ _ _)
 have HB0:Hid (Below w.heap.size w w0):=hid (by rw [hw0]; exact ((Below.refl _ w).alloc (Nat.le_refl _) _).alloc (by simp) _)
 have HG0:=hid (HG.out w0)
 obtain ⟨x0,x1,x2⟩:=BK.c3 (show BK _ #[.string ⟨b.toArray⟩,.int .i64 (k:Int),.bool bad] _ _ from HK0.out)
 obtain ⟨fx0,fx1,fx2⟩:=BK.f3 (HK0.out)
 obtain ⟨y0,y1,y2⟩:=BK.c3 (show BK _ #[.string ⟨#[]⟩,.int .i64 0,.bool false] _ _ from HR0.out)
 obtain ⟨fy0,fy1,fy2⟩:=BK.f3 (HR0.out)
 have x0':=x0
 have x1':=x1
 rw [hw0] at HG0 x0' x1'
 unfold cval
 have HW0:=hid hw0
 clear hw0 hp HG hg
 go_enter Tryz.func43,Tryz.ntmps43
 go_wp2_with fail
 (with_reducible refine (HG0.out).mono ?_)
 rintro e w2 ⟨rfl,rfl⟩
 rw [<-HW0.out]
 clear x0' x1' HG0 hsl hex HW0
 by_cases he:er=0
 ·subst he
  go_wp2_with fail
  go_region
  obtain ⟨W9,hW9⟩:∃ W9,W9=(put3 (w0.setCell ⟨w.heap.size,1,none⟩ (.int .i64 (p:Int))) (w.heap.size + 1) b p bad).drew:=⟨_,rfl⟩
  have hz9:=(put3_law (HR0.out.other (c:=w.heap.size) (by omega) 1 (.int .i64 (p:Int))) b p bad).below ((Below.refl _ _).drew)
  have hb9:=(put3_below (HB0.out.setCell (p:=⟨w.heap.size,1,none⟩) (by simp) (.int .i64 (p:Int))) (n:=w.heap.size + 1) (by omega) b p bad).drew
  rw [<-hW9] at hz9 hb9
  unfold put3 at hW9
  rw [<-hW9]
  clear hW9 x0 x1 x2 fx0 fx1 fx2 y0 y1 y2 fy0 fy1 fy2
  obtain ⟨r0,r1,r2⟩:=BK.c3 (show BK _ #[.string ⟨b.toArray⟩,.int .i64 (p:Int),.bool bad] _ _ from hz9)
  go_wp2_with fail
  refine bodyPost_ret (v:=.tuple #[.int .i64 n,.agg #[.string ⟨b.toArray⟩,.int .i64 (p:Int),.bool bad]]) (by simp [results,Tryz.results43,go_sem,r0,r1,r2]) rfl ?_
  exact ⟨by simp,hb9⟩
 ·have hne:(er != 0)=true:=by simpa using he
  clear he
  go_wp2_with fail
  go_region
  obtain ⟨W9,hW9⟩:∃ W9,W9=(put3 ((w0.setCell ⟨w.heap.size,2,none⟩ (.bool true)).setCell ⟨w.heap.size,1,none⟩ (.int .i64 (p:Int))) (w.heap.size + 1) b p true).drew:=⟨_,rfl⟩
  have hz9:=(put3_law ((HR0.out.other (c:=w.heap.size) (by omega) 2 (.bool true)).other (c:=w.heap.size) (by omega) 1 (.int .i64 (p:Int))) b p true).below ((Below.refl _ _).drew)
  have hb9:=(put3_below ((HB0.out.setCell (p:=⟨w.heap.size,2,none⟩) (by simp) (.bool true)).setCell (p:=⟨w.heap.size,1,none⟩) (by simp) (.int .i64 (p:Int))) (n:=w.heap.size + 1) (by omega) b p true).drew
  rw [<-hW9] at hz9 hb9
  unfold put3 at hW9
  rw [<-hW9]
  clear hW9 x0 x1 x2 fx0 fx1 fx2 y0 y1 y2 fy0 fy1 fy2
  obtain ⟨r0,r1,r2⟩:=BK.c3 (show BK _ #[.string ⟨b.toArray⟩,.int .i64 (p:Int),.bool true] _ _ from hz9)
  go_wp2_with fail
  refine bodyPost_ret (v:=.tuple #[.int .i64 n,.agg #[.string ⟨b.toArray⟩,.int .i64 (p:Int),.bool true]]) (by simp [results,Tryz.results43,go_sem,r0,r1,r2]) rfl ?_
  exact ⟨by simp [hne],hb9⟩
theorem BK.new3 (W:World) (o o2:Obj) (cs:Array Value) (t:TypeId):BK (W.heap.size + 1 + 1) cs t (((W.alloc o).alloc o2).alloc (.cells cs t)):=by
 have:=BK.new ((W.alloc o).alloc o2) cs t
 rwa [show ((W.alloc o).alloc o2).heap.size=W.heap.size + 1 + 1 by simp] at this
theorem BK.new4 (W:World) (o o2 o3:Obj) (cs:Array Value) (t:TypeId):BK (W.heap.size + 1 + 1 + 1) cs t ((((W.alloc o).alloc o2).alloc o3).alloc (.cells cs t)):=by
 have:=BK.new (((W.alloc o).alloc o2).alloc o3) cs t
 rwa [show (((W.alloc o).alloc o2).alloc o3).heap.size=W.heap.size + 1 + 1 + 1 by simp] at this
def cDig (b:List UInt8) (k:Nat) (bad:Bool):(Int × Int) × Nat × Bool:=if b.length < k + 16 then ((0,0),k,true) else (fixD (b.drop k),k + 16,bad)
theorem cdig_any (b:List UInt8) (k:Nat) (bad:Bool) (w:World) (hk:k<=b.length) (hl:(b.length:Int)<=70368744177664) :
  Calls Tryz.prog 89 #[cval b k bad] w fun e w'=>e = .returned (.tuple #[.agg #[.int .u64 (cDig b k bad).1.1,.int .u64 (cDig b k bad).1.2],cval b (cDig b k bad).2.1 (cDig b k bad).2.2])/\Below w.heap.size w w':=by
 have hsz:=ba_len b
 have hw1:IntKind.i64.wrap ((b.length:Int) - (k:Int))=(b.length:Int) - (k:Int):=wrap_i64 (by omega) (by omega)
 by_cases h16:b.length < k + 16
 ·have hi:(b.length:Int) - (k:Int) < 16:=by omega
  have hcd:cDig b k bad=((0,0),k,true):=by unfold cDig; rw [if_pos h16]
  rw [hcd]
  simp only
  unfold cval
  generalize b.length=m at hsz hw1 hi
  clear hcd h16
  obtain ⟨w0,hw0⟩:∃ w0,w0=(((w.alloc (.cells #[.string ⟨b.toArray⟩,.int .i64 (k:Int),.bool true] 84)).alloc (.cells #[.int .u64 0,.int .u64 0] 41)).alloc (.cells #[.string ⟨#[]⟩,.int .i64 0,.bool false] 84)).alloc (.cells #[.int .u64 0,.int .u64 0] 41):=⟨_,rfl⟩
  have HC0:Hid (BK w.heap.size #[.string ⟨b.toArray⟩,.int .i64 (k:Int),.bool true] 84 w0):=hid (by rw [hw0]; exact (((BK.new _ _ _).alloc _).alloc _).alloc _)
  have HA0:Hid (BK (w.heap.size + 1) #[.int .u64 0,.int .u64 0] 41 w0):=hid (by rw [hw0]; exact ((BK.new2 _ _ _ _).alloc _).alloc _)
  have HR0:Hid (BK (w.heap.size + 1 + 1) #[.string ⟨#[]⟩,.int .i64 0,.bool false] 84 w0):=hid (by rw [hw0]; exact (BK.new3 _ _ _ _ _).alloc _)
  have HD0:Hid (BK (w.heap.size + 1 + 1 + 1) #[.int .u64 0,.int .u64 0] 41 w0):=hid (by rw [hw0]; exact BK.new4 _ _ _ _ _ _)
  have HB0:Hid (Below w.heap.size w w0):=hid (by rw [hw0]; exact ((((Below.refl _ w).alloc (Nat.le_refl _) _).alloc (by simp) _).alloc (by simp; omega) _).alloc (by simp; omega) _)
  have HW0:=hid hw0
  clear hw0
  obtain ⟨x0,x1,x2⟩:=BK.c3 (show BK _ #[.string ⟨b.toArray⟩,.int .i64 (k:Int),.bool true] _ _ from HC0.out)
  obtain ⟨fx0,fx1,fx2⟩:=BK.f3 (HC0.out)
  obtain ⟨a0,a1⟩:=BK.c2 (show BK _ #[.int .u64 0,.int .u64 0] _ _ from HA0.out)
  obtain ⟨fa0,fa1⟩:=BK.f2 (HA0.out)
  obtain ⟨z0,z1,z2⟩:=BK.c3 (show BK _ #[.string ⟨#[]⟩,.int .i64 0,.bool false] _ _ from HR0.out)
  obtain ⟨fz0,fz1,fz2⟩:=BK.f3 (HR0.out)
  obtain ⟨y0,y1⟩:=BK.c2 (show BK _ #[.int .u64 0,.int .u64 0] _ _ from HD0.out)
  obtain ⟨fy0,fy1⟩:=BK.f2 (HD0.out)
  go_enter Tryz.func89,Tryz.ntmps89
  go_wp2_with fail
  rw [<-HW0.out]
  go_region
  obtain ⟨W9,hW9⟩:∃ W9,W9=(put3 ((w0.setCell ⟨w.heap.size + 1,0,none⟩ (.int .u64 0)).setCell ⟨w.heap.size + 1,1,none⟩ (.int .u64 0)) (w.heap.size + 1 + 1) b k true).drew:=⟨_,rfl⟩
  have ha1:BK (w.heap.size + 1) #[.int .u64 0,.int .u64 0] _ _:=BK.set HA0.out 0 (.int .u64 0)
  have ha2:BK (w.heap.size + 1) #[.int .u64 0,.int .u64 0] _ _:=ha1.set 1 (.int .u64 0)
  have ha9:=(put3_other ha2 (n:=w.heap.size + 1 + 1) (by omega) b k true).below ((Below.refl _ _).drew)
  have hr9:=(put3_law ((BK.other HR0.out (c:=w.heap.size + 1) (by omega) 0 (.int .u64 0)).other (c:=w.heap.size + 1) (by omega) 1 (.int .u64 0)) b k true).below ((Below.refl _ _).drew)
  have hb9:=(put3_below ((Below.setCell HB0.out (p:=⟨w.heap.size + 1,0,none⟩) (by simp) (.int .u64 0)).setCell (p:=⟨w.heap.size + 1,1,none⟩) (by simp) (.int .u64 0)) (n:=w.heap.size + 1 + 1) (by omega) b k true).drew
  rw [<-hW9] at ha9 hr9 hb9
  unfold put3 at hW9
  rw [<-hW9]
  clear hW9 ha1 ha2 x0 x1 x2 fx0 fx1 fx2 a0 a1 fa0 fa1 z0 z1 z2 fz0 fz1 fz2 y0 y1 fy0 fy1
  obtain ⟨r0,r1⟩:=BK.c2 (show BK _ #[.int .u64 0,.int .u64 0] _ _ from ha9)
  obtain ⟨q0,q1,q2⟩:=BK.c3 (show BK _ #[.string ⟨b.toArray⟩,.int .i64 (k:Int),.bool true] _ _ from hr9)
  go_wp2_with fail
  refine bodyPost_ret (v:=.tuple #[.agg #[.int .u64 0,.int .u64 0],.agg #[.string ⟨b.toArray⟩,.int .i64 (k:Int),.bool true]]) (by simp [results,Tryz.results89,go_sem,r0,r1,q0,q1,q2]) rfl ?_
  exact ⟨rfl,hb9⟩
 ·have hi:¬ (b.length:Int) - (k:Int) < 16:=by omega
  have hcd:cDig b k bad=(fixD (b.drop k),k + 16,bad):=by unfold cDig; rw [if_neg h16]
  rw [hcd]
  simp only
  unfold cval
  have HS:Hid (∀ i j (hj:j < b.length),j=k + i->∀ h:i < (b.drop k).length,(b.drop k)[i]=b[j]):=hid (fun i j hj e h=>by subst e; rw [List.getElem_drop])
  have HDG:Hid (fixD (b.drop k)=dgAt (b.drop k) 16):=hid (by unfold fixD; rw [dgAt_full])
  have hsl:b.length=k + (b.drop k).length:=by rw [List.length_drop]; omega
  have hs16:16<=(b.drop k).length:=by rw [List.length_drop]; omega
  generalize b.drop k=s at HS HDG hsl hs16 ⊢
  rw [HDG.out]
  obtain ⟨F1,F2,hF⟩:∃ F1 F2,dgAt s 16=(F1,F2):=⟨_,_,rfl⟩
  rw [hF]
  simp only
  have HF:=hid hF
  clear hF HDG
  obtain ⟨kk,hkk⟩:∃ kk,kk=k + 16:=⟨_,rfl⟩
  have hw2:IntKind.i64.wrap ((k:Int) + 16)=(kk:Int):=by rw [wrap_i64 (by omega) (by omega)]; omega
  rw [<-hkk]
  have HSL:=hid hsl
  clear hcd h16 hkk hsl
  obtain ⟨w0,hw0⟩:∃ w0,w0=(((w.alloc (.cells #[.string ⟨b.toArray⟩,.int .i64 (k:Int),.bool bad] 84)).alloc (.cells #[.int .u64 0,.int .u64 0] 41)).alloc (.cells #[.string ⟨#[]⟩,.int .i64 0,.bool false] 84)).alloc (.cells #[.int .u64 0,.int .u64 0] 41):=⟨_,rfl⟩
  have HC0:Hid (BK w.heap.size #[.string ⟨b.toArray⟩,.int .i64 (k:Int),.bool bad] 84 w0):=hid (by rw [hw0]; exact (((BK.new _ _ _).alloc _).alloc _).alloc _)
  have HA0:Hid (BK (w.heap.size + 1) #[.int .u64 0,.int .u64 0] 41 w0):=hid (by rw [hw0]; exact ((BK.new2 _ _ _ _).alloc _).alloc _)
  have HR0:Hid (BK (w.heap.size + 1 + 1) #[.string ⟨#[]⟩,.int .i64 0,.bool false] 84 w0):=hid (by rw [hw0]; exact (BK.new3 _ _ _ _ _).alloc _)
  have HD0:Hid (BK (w.heap.size + 1 + 1 + 1) #[.int .u64 0,.int .u64 0] 41 w0):=hid (by rw [hw0]; exact BK.new4 _ _ _ _ _ _)
  have HB0:Hid (Below w.heap.size w w0):=hid (by rw [hw0]; exact ((((Below.refl _ w).alloc (Nat.le_refl _) _).alloc (by simp) _).alloc (by simp; omega) _).alloc (by simp; omega) _)
  have HW0:=hid hw0
  clear hw0
  have HU:Hid (∀ W,Below w.heap.size w W->True):=hid (fun _ _=>trivial)
  go_enter Tryz.func89,Tryz.ntmps89
  go_wp2_with fail
  rw [<-HW0.out]
  go_loopw [5] (fun i wr=>∃ (k_:Nat) (x y:Int),k_<=16/\i = .int .i64 k_/\Hid (Below w.heap.size w wr)/\Hid (BK w.heap.size #[.string ⟨b.toArray⟩,.int .i64 (k:Int),.bool bad] 84 wr)/\Hid (BK (w.heap.size + 1) #[.int .u64 0,.int .u64 0] 41 wr)/\Hid (BK (w.heap.size + 1 + 1) #[.string ⟨#[]⟩,.int .i64 0,.bool false] 84 wr)/\Hid (BK (w.heap.size + 1 + 1 + 1) #[.int .u64 x,.int .u64 y] 41 wr)/\Hid (dgAt s k_=(x,y))) (fun i _=>16 - (intOf i).toNat)
  case atStart=>exact ⟨0,0,0,by omega,rfl,HB0,HC0,HA0,HR0,HD0,hid (dgAt_zero s)⟩
  case round=>
   clear HB0 HC0 HA0 HR0 HD0
   obtain ⟨i,x,y,hki,rfl,HB,HC,HA,HR,HY,HD⟩:=hrel
   obtain ⟨x0,x1,x2⟩:=BK.c3 (show BK _ #[.string ⟨b.toArray⟩,.int .i64 (k:Int),.bool bad] _ _ from HC.out)
   obtain ⟨fx0,fx1,fx2⟩:=BK.f3 (HC.out)
   obtain ⟨a0,a1⟩:=BK.c2 (show BK _ #[.int .u64 0,.int .u64 0] _ _ from HA.out)
   obtain ⟨fa0,fa1⟩:=BK.f2 (HA.out)
   obtain ⟨z0,z1,z2⟩:=BK.c3 (show BK _ #[.string ⟨#[]⟩,.int .i64 0,.bool false] _ _ from HR.out)
   obtain ⟨fz0,fz1,fz2⟩:=BK.f3 (HR.out)
   obtain ⟨y0,y1⟩:=BK.c2 (show BK _ #[.int .u64 x,.int .u64 y] _ _ from HY.out)
   obtain ⟨fy0,fy1⟩:=BK.f2 (HY.out)
   by_cases hlt:i < 16
   ·obtain ⟨j,hj⟩:∃ j,j=k + i:=⟨_,rfl⟩
    have hjb:j < b.length:=by have:=HSL.out; omega
    have hwj:IntKind.i64.wrap ((k:Int) + (i:Int))=(j:Int):=by rw [wrap_i64 (by omega) (by omega)]; omega
    have HSJ:=hid (HS.out i j hjb hj (by omega))
    clear hj
    by_cases hk8:i < 8
    ·have HN:Hid (dgAt s (i + 1)=(IntKind.u64.wrap (IntKind.u64.wrap (x * 256) + IntKind.u64.wrap ((s[i]'(by omega)).toNat:Int)),y)):=hid (by rw [fstep_add,dgAt_lo s i (by omega) hk8,HD.out])
     have hq1:(i:Int).tdiv 8=0:=by rw [Int.tdiv_eq_ediv_of_nonneg (by omega)]; omega
     have hq2:(i:Int) / 8=0:=by omega
     have dk:decide ((i:Int) < 16)=true:=by simp; omega
     have HN2:Hid (dgAt s (i + 1)=(IntKind.u64.wrap (IntKind.u64.wrap (x * 256) + IntKind.u64.wrap ((b[j]'hjb).toNat:Int)),y)):=hid (by rw [HN.out]; simp only [HSJ.out])
     clear HN HSJ
     go_wp2_with fail
     go_region
     go_wp2_with fail
     go_roundw
     case rel=>exact ⟨i + 1,_,_,by omega,by go_num,hid (HB.out.setCell (p:=⟨w.heap.size + 1 + 1 + 1,0,none⟩) (by simp; omega) _).drew,hid (HC.out.other (by omega) _ _),hid (HA.out.other (by omega) _ _),hid (HR.out.other (by omega) _ _),hid (HY.out.set _ _),HN2⟩
     case measure=>simp [intOf]; omega
    ·have HN:Hid (dgAt s (i + 1)=(x,IntKind.u64.wrap (IntKind.u64.wrap (y * 256) + IntKind.u64.wrap ((s[i]'(by omega)).toNat:Int)))):=hid (by rw [fstep_add,dgAt_hi s i (by omega) (by omega) hlt,HD.out])
     have hq1:(i:Int).tdiv 8=1:=by rw [Int.tdiv_eq_ediv_of_nonneg (by omega)]; omega
     have hq2:(i:Int) / 8=1:=by omega
     have dk:decide ((i:Int) < 16)=true:=by simp; omega
     have HN2:Hid (dgAt s (i + 1)=(x,IntKind.u64.wrap (IntKind.u64.wrap (y * 256) + IntKind.u64.wrap ((b[j]'hjb).toNat:Int)))):=hid (by rw [HN.out]; simp only [HSJ.out])
     clear HN HSJ
     go_wp2_with fail
     go_region
     go_wp2_with fail
     go_roundw
     case rel=>exact ⟨i + 1,_,_,by omega,by go_num,hid (HB.out.setCell (p:=⟨w.heap.size + 1 + 1 + 1,1,none⟩) (by simp; omega) _).drew,hid (HC.out.other (by omega) _ _),hid (HA.out.other (by omega) _ _),hid (HR.out.other (by omega) _ _),hid (HY.out.set _ _),HN2⟩
     case measure=>simp [intOf]; omega
   ·obtain rfl:i=16:=by omega
    obtain ⟨rfl,rfl⟩:F1=x/\F2=y:=by
     have:=HF.out.symm.trans HD.out
     simpa only [Prod.mk.injEq] using this
    go_wp2_with fail
    go_region
    all_goals
     obtain ⟨W9,hW9⟩:∃ W9,W9=(put3 (((wr.setCell ⟨w.heap.size,1,none⟩ (.int .i64 (kk:Int))).setCell ⟨w.heap.size + 1,0,none⟩ (.int .u64 F1)).setCell ⟨w.heap.size + 1,1,none⟩ (.int .u64 F2)) (w.heap.size + 1 + 1) b kk bad).drew:=⟨_,rfl⟩
     have ha1:BK (w.heap.size + 1) #[.int .u64 F1,.int .u64 0] _ _:=BK.set (HA.out.other (c:=w.heap.size) (by omega) 1 (.int .i64 (kk:Int))) 0 (.int .u64 F1)
     have ha2:BK (w.heap.size + 1) #[.int .u64 F1,.int .u64 F2] _ _:=ha1.set 1 (.int .u64 F2)
     have ha9:=(put3_other ha2 (n:=w.heap.size + 1 + 1) (by omega) b kk bad).below ((Below.refl _ _).drew)
     have hr9:=(put3_law ((BK.other (HR.out.other (c:=w.heap.size) (by omega) 1 (.int .i64 (kk:Int))) (c:=w.heap.size + 1) (by omega) 0 (.int .u64 F1)).other (c:=w.heap.size + 1) (by omega) 1 (.int .u64 F2)) b kk bad).below ((Below.refl _ _).drew)
     have hb9:=(put3_below ((Below.setCell (HB.out.setCell (p:=⟨w.heap.size,1,none⟩) (by simp) (.int .i64 (kk:Int))) (p:=⟨w.heap.size + 1,0,none⟩) (by simp) (.int .u64 F1)).setCell (p:=⟨w.heap.size + 1,1,none⟩) (by simp) (.int .u64 F2)) (n:=w.heap.size + 1 + 1) (by omega) b kk bad).drew
     rw [<-hW9] at ha9 hr9 hb9
     unfold put3 at hW9
     rw [<-hW9]
     clear hW9 ha1 ha2 x0 x1 x2 fx0 fx1 fx2 a0 a1 fa0 fa1 z0 z1 z2 fz0 fz1 fz2 y0 y1 fy0 fy1
     obtain ⟨r0,r1⟩:=BK.c2 (show BK _ #[.int .u64 F1,.int .u64 F2] _ _ from ha9)
     obtain ⟨q0,q1,q2⟩:=BK.c3 (show BK _ #[.string ⟨b.toArray⟩,.int .i64 (kk:Int),.bool bad] _ _ from hr9)
     go_wp2_with fail
     refine bodyPost_ret (v:=.tuple #[.agg #[.int .u64 F1,.int .u64 F2],.agg #[.string ⟨b.toArray⟩,.int .i64 (kk:Int),.bool bad]]) (by simp [results,Tryz.results89,go_sem,r0,r1,q0,q1,q2]) rfl ?_
     exact ⟨rfl,hb9⟩
structure CE (w W:World) (b:List UInt8) (k:Nat) (bad:Bool) (cs:Array Value):Prop where
 c:BK w.heap.size #[.string ⟨b.toArray⟩,.int .i64 (k:Int),.bool bad] 84 W
 ra:BK (w.heap.size + 1) #[.int .u64 0,.int .u64 0,.int .i64 0,.int .u64 0,.int .u64 0,.int .i64 0,.int .i64 0] 53 W
 rc:BK (w.heap.size + 1 + 1) #[.string ⟨#[]⟩,.int .i64 0,.bool false] 84 W
 x:BK (w.heap.size + 1 + 1 + 1) cs 53 W
 bel:Below w.heap.size w W
section
variable {w W:World} {b:List UInt8} {k:Nat} {bad:Bool} {cs:Array Value}
theorem CE.below (h:CE w W b k bad cs) {W':World} (hb:Below W.heap.size W W'):CE w W' b k bad cs:=⟨h.c.below hb,h.ra.below hb,h.rc.below hb,h.x.below hb,h.bel.trans (hb.mono h.bel.size)⟩
theorem CE.setX (h:CE w W b k bad cs) (j:Nat) (v:Value):CE w (W.setCell ⟨w.heap.size + 1 + 1 + 1,j,none⟩ v) b k bad (cs.setIfInBounds j v):=
 ⟨h.c.other (by omega) _ _,h.ra.other (by omega) _ _,h.rc.other (by omega) _ _,h.x.set _ _,h.bel.setCell (by simp; omega) _⟩
theorem CE.putC (h:CE w W b k bad cs) (k':Nat) (bad':Bool):CE w (put3 W w.heap.size b k' bad') b k' bad' cs:=
 ⟨put3_law h.c _ _ _,put3_other h.ra (by omega) _ _ _,put3_other h.rc (by omega) _ _ _,put3_other h.x (by omega) _ _ _,put3_below h.bel (by omega) _ _ _⟩
theorem CE.isBad (h:CE w W b k bad cs):CE w (W.setCell ⟨w.heap.size,2,none⟩ (.bool true)) b k true cs:=
 ⟨h.c.set 2 (.bool true),h.ra.other (by omega) _ _,h.rc.other (by omega) _ _,h.x.other (by omega) _ _,h.bel.setCell (by simp) _⟩
theorem CE.isAt (h:CE w W b k bad cs) (k':Nat):CE w (W.setCell ⟨w.heap.size,1,none⟩ (.int .i64 (k':Int))) b k' bad cs:=
 ⟨h.c.set 1 (.int .i64 (k':Int)),h.ra.other (by omega) _ _,h.rc.other (by omega) _ _,h.x.other (by omega) _ _,h.bel.setCell (by simp) _⟩
end
theorem put7_other {m:Nat} {cs:Array Value} {T:TypeId} {W:World} (h:BK m cs T W) {n:Nat} (hn:n ≠ m) (d1 d2 kd b1 b2 f g:Int):BK m cs T (put7 W n d1 d2 kd b1 b2 f g):=((((((h.other hn _ _).other hn _ _).other hn _ _).other hn _ _).other hn _ _).other hn _ _).other hn _ _
def GotQe (b:List UInt8) (k:Nat) (w:World) (e:Ending) (w':World):Prop:=∃ (x:Pe) (p:Nat) (bad:Bool),e = .returned (.tuple #[x.val,cval b p bad])/\(bad=false->entryS b k=some x/\p=x.off + x.len)/\(bad=true->entryS b k=none)/\p<=b.length/\Below w.heap.size w w'
theorem cent_any (b:List UInt8) (k:Nat) (w:World) (hk:k<=b.length) (hl:(b.length:Int)<=70368744177664):Calls Tryz.prog 44 #[cval b k false] w (GotQe b k w):=by
 -- the first digest
 obtain ⟨⟨D1,D2⟩,k1,bad1,hd1⟩:∃ D k1 bad1,cDig b k false=(D,k1,bad1):=⟨_,_,_,rfl⟩
 have hk1:k1<=b.length/\(bad1=true->b.length < k + 16)/\(bad1=false->k1=k + 16/\(D1,D2)=fixD (b.drop k)/\k + 16<=b.length):=by
  unfold cDig at hd1
  split at hd1
  ·simp only [Prod.mk.injEq] at hd1
   obtain ⟨_,e2,e3⟩:=hd1
   exact ⟨by omega,(fun _=>by omega),(fun e=>by rw [<-e3] at e; cases e)⟩
  ·simp only [Prod.mk.injEq] at hd1
   obtain ⟨e1,e2,e3⟩:=hd1
   exact ⟨by omega,(fun e=>by rw [<-e3] at e; cases e),fun _=>⟨e2.symm,e1.symm,by omega⟩⟩
 have HC1:=hid (fun W=>cdig_any b k false W hk hl)
 rw [hd1] at HC1
 obtain ⟨hk1a,hk1b,hk1c⟩:=hk1
 -- the number
 obtain ⟨kd,u,er,hg⟩:∃ kd u er,Cw.getI (b.drop k1)=(kd,u,er):=⟨_,_,_,rfl⟩
 obtain ⟨g1,g2,g3,g4⟩:=getI_all hg
 rw [List.length_drop] at g4
 obtain ⟨u0,rfl⟩:∃ u0:Nat,u=(u0:Int):=⟨u.toNat,by omega⟩
 have HC2:=hid (fun W=>cnum_any hg bad1 W hk1a hl)
 obtain ⟨k2,hk2⟩:∃ k2,k2=k1 + u0:=⟨_,rfl⟩
 obtain ⟨bad2,hb2⟩:∃ bad2,bad2=(bad1 || er != 0):=⟨_,rfl⟩
 rw [<-hk2,<-hb2] at HC2
 have hk2l:k2<=b.length:=by omega
 have HN1:Hid (bad2=true->entryS b k=none):=hid (fun e=>by
  rw [hb2] at e
  cases h1:bad1 with
  | true=>exact entryS_short (hk1b h1)
  | false=>
   rw [h1] at e
   simp only [Bool.false_or,bne_iff_ne,ne_eq] at e
   have h2:=hk1c h1
   rw [h2.1] at hg
   exact entryS_bad h2.2.2 hg (.inl e))
 have HN2:Hid (kd ≠ 0->kd ≠ 1->entryS b k=none):=hid (fun e1 e2=>by
  cases h1:bad1 with
  | true=>exact entryS_short (hk1b h1)
  | false=>
   have h2:=hk1c h1
   rw [h2.1] at hg
   exact entryS_bad h2.2.2 hg (.inr ⟨e1,e2⟩))
 have HY:Hid (bad2=false->(D1,D2)=fixD (b.drop k)/\k + 16<=b.length/\k2=k + 16 + u0/\Cw.getI (b.drop (k + 16))=(kd,(u0:Int),0)):=hid (fun e=>by
  rw [hb2] at e
  simp only [Bool.or_eq_false_iff,bne_eq_false_iff_eq] at e
  obtain ⟨e1,e2⟩:=e
  obtain ⟨a1,a2,a3⟩:=hk1c e1
  refine ⟨a2,a3,by omega,?_⟩
  rw [a1,e2] at hg
  exact hg)
 clear hd1 hk1b hk1c hg hb2 hk2 g4
 have hgt:∀ s:List UInt8,(s.length:Int)<=70368744177664->∃ (x:List UInt8) (v:Nat) (er2:Int),Cw.getT s=(x,(v:Int),er2)/\x.length<=v/\v<=s.length/\Hid (∀ X,Calls Tryz.prog 90 #[.string ⟨s.toArray⟩] X fun e w'=>e = .returned (.tuple #[.string ⟨x.toArray⟩,.int .i64 (v:Int),.int .i64 er2])/\X=w'):=fun s hs=>by
  obtain ⟨x,v,er2,hg2⟩:∃ x v er2,Cw.getT s=(x,v,er2):=⟨_,_,_,rfl⟩
  obtain ⟨k3,k4,_⟩:=getT_all hg2
  have k5:=getT_room hg2
  obtain ⟨v0,rfl⟩:∃ v0:Nat,v=(v0:Int):=⟨v.toNat,by omega⟩
  refine ⟨x,v0,er2,hg2,by omega,by omega,hid (fun X=>?_)⟩
  have:=refGetText_any ⟨s.toArray⟩ X (by rw [ba_len]; omega)
  rw [show (⟨s.toArray⟩:ByteArray).data.toList=s by simp,hg2] at this
  exact this
 have hsz:=ba_len b
 -- the walk
 obtain ⟨w0,hw0⟩:∃ w0,w0=(((w.alloc (.cells #[.string ⟨b.toArray⟩,.int .i64 (k:Int),.bool false] 84)).alloc (.cells #[.int .u64 0,.int .u64 0,.int .i64 0,.int .u64 0,.int .u64 0,.int .i64 0,.int .i64 0] 53)).alloc (.cells #[.string ⟨#[]⟩,.int .i64 0,.bool false] 84)).alloc (.cells #[.int .u64 0,.int .u64 0,.int .i64 0,.int .u64 0,.int .u64 0,.int .i64 0,.int .i64 0] 53):=⟨_,rfl⟩
 have HS0:Hid (CE w w0 b k false #[.int .u64 0,.int .u64 0,.int .i64 0,.int .u64 0,.int .u64 0,.int .i64 0,.int .i64 0]):=hid (by
  rw [hw0]
  exact ⟨(((BK.new _ _ _).alloc _).alloc _).alloc _,((BK.new2 _ _ _ _).alloc _).alloc _,(BK.new3 _ _ _ _ _).alloc _,BK.new4 _ _ _ _ _ _,((((Below.refl _ w).alloc (Nat.le_refl _) _).alloc (by simp) _).alloc (by simp; omega) _).alloc (by simp; omega) _⟩)
 have HC:=hid (HC1.out w0)
 rw [hw0] at HC
 have HW0:=hid hw0
 unfold cval at *
 clear hw0 HC1
 go_enter Tryz.func44,Tryz.ntmps44
 go_wp2_with fail
 (with_reducible refine (HC.out).mono ?_)
 rintro e u1 ⟨rfl,hb⟩
 rw [<-HW0.out] at hb
 have HS1:=hid (HS0.out.below hb)
 clear HC HW0 hb HS0
 obtain ⟨c0,c1,c2⟩:=BK.c3 (show BK _ #[.string ⟨b.toArray⟩,.int .i64 (k:Int),.bool false] _ _ from HS1.out.c)
 obtain ⟨fc0,fc1,fc2⟩:=BK.f3 (HS1.out.c)
 obtain ⟨a0,a1,a2,a3,a4,a5,a6⟩:=BK.c7 (show BK _ #[.int .u64 0,.int .u64 0,.int .i64 0,.int .u64 0,.int .u64 0,.int .i64 0,.int .i64 0] _ _ from HS1.out.ra)
 obtain ⟨fa0,fa1,fa2,fa3,fa4,fa5,fa6⟩:=BK.f7 (HS1.out.ra)
 obtain ⟨z0,z1,z2⟩:=BK.c3 (show BK _ #[.string ⟨#[]⟩,.int .i64 0,.bool false] _ _ from HS1.out.rc)
 obtain ⟨fz0,fz1,fz2⟩:=BK.f3 (HS1.out.rc)
 obtain ⟨x0,x1,x2,x3,x4,x5,x6⟩:=BK.c7 (show BK _ #[.int .u64 0,.int .u64 0,.int .i64 0,.int .u64 0,.int .u64 0,.int .i64 0,.int .i64 0] _ _ from HS1.out.x)
 obtain ⟨fx0,fx1,fx2,fx3,fx4,fx5,fx6⟩:=BK.f7 (HS1.out.x)
 -- the number
 have hs2:CE w _ b k1 bad1 #[.int .u64 D1,.int .u64 D2,.int .i64 0,.int .u64 0,.int .u64 0,.int .i64 0,.int .i64 0]:=((HS1.out.setX 0 (.int .u64 D1)).setX 1 (.int .u64 D2)).putC k1 bad1
 obtain ⟨W2,hW2⟩:∃ W2,W2=put3 ((u1.setCell ⟨w.heap.size + 1 + 1 + 1,0,none⟩ (.int .u64 D1)).setCell ⟨w.heap.size + 1 + 1 + 1,1,none⟩ (.int .u64 D2)) w.heap.size b k1 bad1:=⟨_,rfl⟩
 rw [<-hW2] at hs2
 have HS2:=hid hs2
 unfold put3 at hW2
 have HC:=hid (HC2.out W2)
 have HW2:=hid hW2
 rw [hW2] at HC
 clear hs2 hW2 HC2
 go_wp2_with fail
 (with_reducible refine (HC.out).mono ?_)
 rintro e u2 ⟨rfl,hb⟩
 rw [<-HW2.out] at hb
 have HS3:=hid (HS2.out.below hb)
 clear HC HW2 hb HS2 HS1 c0 c1 c2 fc0 fc1 fc2 a0 a1 a2 a3 a4 a5 a6 fa0 fa1 fa2 fa3 fa4 fa5 fa6 z0 z1 z2 fz0 fz1 fz2 x0 x1 x2 x3 x4 x5 x6 fx0 fx1 fx2 fx3 fx4 fx5 fx6
 obtain ⟨c0,c1,c2⟩:=BK.c3 (show BK _ #[.string ⟨b.toArray⟩,.int .i64 (k1:Int),.bool bad1] _ _ from HS3.out.c)
 obtain ⟨fc0,fc1,fc2⟩:=BK.f3 (HS3.out.c)
 obtain ⟨a0,a1,a2,a3,a4,a5,a6⟩:=BK.c7 (show BK _ #[.int .u64 0,.int .u64 0,.int .i64 0,.int .u64 0,.int .u64 0,.int .i64 0,.int .i64 0] _ _ from HS3.out.ra)
 obtain ⟨fa0,fa1,fa2,fa3,fa4,fa5,fa6⟩:=BK.f7 (HS3.out.ra)
 obtain ⟨z0,z1,z2⟩:=BK.c3 (show BK _ #[.string ⟨#[]⟩,.int .i64 0,.bool false] _ _ from HS3.out.rc)
 obtain ⟨fz0,fz1,fz2⟩:=BK.f3 (HS3.out.rc)
 obtain ⟨x0,x1,x2,x3,x4,x5,x6⟩:=BK.c7 (show BK _ #[.int .u64 D1,.int .u64 D2,.int .i64 0,.int .u64 0,.int .u64 0,.int .i64 0,.int .i64 0] _ _ from HS3.out.x)
 obtain ⟨fx0,fx1,fx2,fx3,fx4,fx5,fx6⟩:=BK.f7 (HS3.out.x)
 have hs4:CE w _ b k2 bad2 #[.int .u64 D1,.int .u64 D2,.int .i64 kd,.int .u64 0,.int .u64 0,.int .i64 0,.int .i64 0]:=(HS3.out.setX 2 (.int .i64 kd)).putC k2 bad2
 obtain ⟨W4,hW4⟩:∃ W4,W4=put3 (u2.setCell ⟨w.heap.size + 1 + 1 + 1,2,none⟩ (.int .i64 kd)) w.heap.size b k2 bad2:=⟨_,rfl⟩
 rw [<-hW4] at hs4
 have HS4:=hid hs4
 unfold put3 at hW4
 clear hs4
 by_cases hko:kd ≠ 0/\kd ≠ 1
 ·have HNO:=hid (HN2.out hko.1 hko.2)
  have q1:(kd != 0)=true:=by simpa using hko.1
  have q2:(kd != 1)=true:=by simpa using hko.2
  have q3:(kd == 1)=false:=by simpa using hko.2
  have HC2:Hid (∀ W:World,True):=hid (fun _=>trivial)
  rw [hW4] at HS4
  have HSB:=hid HS4.out.isBad
  clear HN1 HN2 HY hko HC2
  obtain ⟨t,v,er2,hg2,htv,hvl,HT⟩:=hgt (b.drop k2) (by rw [List.length_drop]; omega)
  rw [List.length_drop] at hvl
  have hsl:=fun W=>sl_lo b k2 (by omega) W
  have hex:(⟨b.toArray⟩:ByteArray).extract k2 b.length=⟨(b.drop k2).toArray⟩:=by rw [ex_mid,List.take_of_length_le (by simp)]
  have HSOM:=hid (fun (he:true=false)=>(show t.length=t.length from rfl))
  have hst:=ba_len t
  obtain ⟨tl,htl⟩:∃ tl,tl=t.length:=⟨_,rfl⟩
  rw [<-htl] at hst htv HSOM
  obtain ⟨kv,hkv⟩:∃ kv,kv=k2 + v:=⟨_,rfl⟩
  obtain ⟨f,hf⟩:∃ f,f=kv - tl:=⟨_,rfl⟩
  have hw1:IntKind.i64.wrap ((k2:Int) + (v:Int))=(kv:Int):=by rw [wrap_i64 (by omega) (by omega)]; omega
  have hw2:IntKind.i64.wrap ((kv:Int) - (tl:Int))=(f:Int):=by rw [wrap_i64 (by omega) (by omega)]; omega
  have hkvl:kv<=b.length:=by omega
  have HKV:=hid hkv
  have HFF:=hid hf
  have hfl:f + tl=kv:=by omega
  have HFL:=hid hfl
  generalize b.drop k2=S5 at HT hsl hex
  clear hkv hf hfl hgt hg2 htl hvl htv
  have HBADT:Hid (er2 ≠ 0->entryS b k=none):=hid (fun _=>HNO.out)
  clear hW4
  go_wp2_with fail
  obtain ⟨W5,hW5⟩:∃ W5,W5=(((((u2.setCell ⟨w.heap.size + 1 + 1 + 1,2,none⟩ (.int .i64 kd)).setCell ⟨w.heap.size,0,none⟩ (.string ⟨b.toArray⟩)).setCell ⟨w.heap.size,1,none⟩ (.int .i64 (k2:Int))).setCell ⟨w.heap.size,2,none⟩ (.bool bad2)).setCell ⟨w.heap.size,2,none⟩ (.bool true)):=⟨_,rfl⟩
  have hs5:CE w W5 b k2 true #[.int .u64 D1,.int .u64 D2,.int .i64 kd,.int .u64 0,.int .u64 0,.int .i64 0,.int .i64 0]:=by rw [hW5]; exact HSB.out
  rw [<-hW5]
  have HS5:=hid hs5
  clear hW5 hs5 HSB c0 c1 c2 fc0 fc1 fc2 a0 a1 a2 a3 a4 a5 a6 fa0 fa1 fa2 fa3 fa4 fa5 fa6 z0 z1 z2 fz0 fz1 fz2 x0 x1 x2 x3 x4 x5 x6 fx0 fx1 fx2 fx3 fx4 fx5 fx6
  obtain ⟨c0,c1,c2⟩:=BK.c3 (show BK _ #[.string ⟨b.toArray⟩,.int .i64 (k2:Int),.bool true] _ _ from HS5.out.c)
  obtain ⟨fc0,fc1,fc2⟩:=BK.f3 (HS5.out.c)
  obtain ⟨a0,a1,a2,a3,a4,a5,a6⟩:=BK.c7 (show BK _ #[.int .u64 0,.int .u64 0,.int .i64 0,.int .u64 0,.int .u64 0,.int .i64 0,.int .i64 0] _ _ from HS5.out.ra)
  obtain ⟨fa0,fa1,fa2,fa3,fa4,fa5,fa6⟩:=BK.f7 (HS5.out.ra)
  obtain ⟨z0,z1,z2⟩:=BK.c3 (show BK _ #[.string ⟨#[]⟩,.int .i64 0,.bool false] _ _ from HS5.out.rc)
  obtain ⟨fz0,fz1,fz2⟩:=BK.f3 (HS5.out.rc)
  obtain ⟨x0,x1,x2,x3,x4,x5,x6⟩:=BK.c7 (show BK _ #[.int .u64 D1,.int .u64 D2,.int .i64 kd,.int .u64 0,.int .u64 0,.int .i64 0,.int .i64 0] _ _ from HS5.out.x)
  obtain ⟨fx0,fx1,fx2,fx3,fx4,fx5,fx6⟩:=BK.f7 (HS5.out.x)
  (with_reducible refine (HT.out _).mono ?_)
  rintro e u9 ⟨rfl,rfl⟩
  clear HT hsl hex
  by_cases he2:er2=0
  ·subst he2
   go_wp2_with fail
   obtain ⟨W8,hW8⟩:∃ W8,W8=(((W5.setCell ⟨w.heap.size + 1 + 1 + 1,6,none⟩ (.int .i64 (tl:Int))).setCell ⟨w.heap.size + 1 + 1 + 1,5,none⟩ (.int .i64 (f:Int))).setCell ⟨w.heap.size,1,none⟩ (.int .i64 (kv:Int))):=⟨_,rfl⟩
   have hse:CE w W8 b kv true #[.int .u64 D1,.int .u64 D2,.int .i64 kd,.int .u64 0,.int .u64 0,.int .i64 (f:Int),.int .i64 (tl:Int)]:=by rw [hW8]; exact ((HS5.out.setX 6 (.int .i64 (tl:Int))).setX 5 (.int .i64 (f:Int))).isAt kv
   rw [<-hW8]
   have HSE:=hid hse
   clear hW8 hse HS5 c0 c1 c2 fc0 fc1 fc2 a0 a1 a2 a3 a4 a5 a6 fa0 fa1 fa2 fa3 fa4 fa5 fa6 z0 z1 z2 fz0 fz1 fz2 x0 x1 x2 x3 x4 x5 x6 fx0 fx1 fx2 fx3 fx4 fx5 fx6
   obtain ⟨c0,c1,c2⟩:=BK.c3 (show BK _ #[.string ⟨b.toArray⟩,.int .i64 (kv:Int),.bool true] _ _ from HSE.out.c)
   obtain ⟨fc0,fc1,fc2⟩:=BK.f3 (HSE.out.c)
   obtain ⟨a0,a1,a2,a3,a4,a5,a6⟩:=BK.c7 (show BK _ #[.int .u64 0,.int .u64 0,.int .i64 0,.int .u64 0,.int .u64 0,.int .i64 0,.int .i64 0] _ _ from HSE.out.ra)
   obtain ⟨fa0,fa1,fa2,fa3,fa4,fa5,fa6⟩:=BK.f7 (HSE.out.ra)
   obtain ⟨z0,z1,z2⟩:=BK.c3 (show BK _ #[.string ⟨#[]⟩,.int .i64 0,.bool false] _ _ from HSE.out.rc)
   obtain ⟨fz0,fz1,fz2⟩:=BK.f3 (HSE.out.rc)
   obtain ⟨x0,x1,x2,x3,x4,x5,x6⟩:=BK.c7 (show BK _ #[.int .u64 D1,.int .u64 D2,.int .i64 kd,.int .u64 0,.int .u64 0,.int .i64 (f:Int),.int .i64 (tl:Int)] _ _ from HSE.out.x)
   obtain ⟨fx0,fx1,fx2,fx3,fx4,fx5,fx6⟩:=BK.f7 (HSE.out.x)
   go_region
   have hr7:=(put3_other (put7_law HSE.out.ra D1 D2 kd 0 0 (f:Int) (tl:Int)) (n:=w.heap.size + 1 + 1) (by omega) b kv true).below ((Below.refl _ _).drew)
   have hr3:=(put3_law (put7_other HSE.out.rc (n:=w.heap.size + 1) (by omega) D1 D2 kd 0 0 (f:Int) (tl:Int)) b kv true).below ((Below.refl _ _).drew)
   have hb9:=(put3_below (put7_below HSE.out.bel (n:=w.heap.size + 1) (by omega) D1 D2 kd 0 0 (f:Int) (tl:Int)) (n:=w.heap.size + 1 + 1) (by omega) b kv true).drew
   obtain ⟨W9,hW9⟩:∃ W9,W9=(put3 (put7 W8 (w.heap.size + 1) D1 D2 kd 0 0 (f:Int) (tl:Int)) (w.heap.size + 1 + 1) b kv true).drew:=⟨_,rfl⟩
   rw [<-hW9] at hr7 hr3 hb9
   unfold put3 put7 at hW9
   rw [<-hW9]
   clear hW9 c0 c1 c2 fc0 fc1 fc2 a0 a1 a2 a3 a4 a5 a6 fa0 fa1 fa2 fa3 fa4 fa5 fa6 z0 z1 z2 fz0 fz1 fz2 x0 x1 x2 x3 x4 x5 x6 fx0 fx1 fx2 fx3 fx4 fx5 fx6
   obtain ⟨r0,r1,r2,r3,r4,r5,r6⟩:=BK.c7 (show BK _ #[.int .u64 D1,.int .u64 D2,.int .i64 kd,.int .u64 0,.int .u64 0,.int .i64 (f:Int),.int .i64 (tl:Int)] _ _ from hr7)
   obtain ⟨q0,q1,q2⟩:=BK.c3 (show BK _ #[.string ⟨b.toArray⟩,.int .i64 (kv:Int),.bool true] _ _ from hr3)
   go_wp2_with fail
   refine bodyPost_ret (v:=.tuple #[.agg #[.int .u64 D1,.int .u64 D2,.int .i64 kd,.int .u64 0,.int .u64 0,.int .i64 (f:Int),.int .i64 (tl:Int)],.agg #[.string ⟨b.toArray⟩,.int .i64 (kv:Int),.bool true]]) (by simp [results,Tryz.results44,go_sem,r0,r1,r2,r3,r4,r5,r6,q0,q1,q2]) rfl ?_
   exact ⟨⟨(D1,D2),kd,(0,0),f,tl⟩,kv,true,rfl,(fun h=>by cases h),(fun h=>HNO.out),hkvl,hb9⟩
  ·have hne:(er2 != 0)=true:=by simpa using he2
   have HBT:=hid (HBADT.out he2)
   go_wp2_with fail
   obtain ⟨W8,hW8⟩:∃ W8,W8=((((W5.setCell ⟨w.heap.size,2,none⟩ (.bool true)).setCell ⟨w.heap.size + 1 + 1 + 1,6,none⟩ (.int .i64 (tl:Int))).setCell ⟨w.heap.size + 1 + 1 + 1,5,none⟩ (.int .i64 (f:Int))).setCell ⟨w.heap.size,1,none⟩ (.int .i64 (kv:Int))):=⟨_,rfl⟩
   have hse:CE w W8 b kv true #[.int .u64 D1,.int .u64 D2,.int .i64 kd,.int .u64 0,.int .u64 0,.int .i64 (f:Int),.int .i64 (tl:Int)]:=by rw [hW8]; exact ((HS5.out.isBad.setX 6 (.int .i64 (tl:Int))).setX 5 (.int .i64 (f:Int))).isAt kv
   rw [<-hW8]
   have HSE:=hid hse
   clear hW8 hse HS5 c0 c1 c2 fc0 fc1 fc2 a0 a1 a2 a3 a4 a5 a6 fa0 fa1 fa2 fa3 fa4 fa5 fa6 z0 z1 z2 fz0 fz1 fz2 x0 x1 x2 x3 x4 x5 x6 fx0 fx1 fx2 fx3 fx4 fx5 fx6
   obtain ⟨c0,c1,c2⟩:=BK.c3 (show BK _ #[.string ⟨b.toArray⟩,.int .i64 (kv:Int),.bool true] _ _ from HSE.out.c)
   obtain ⟨fc0,fc1,fc2⟩:=BK.f3 (HSE.out.c)
   obtain ⟨a0,a1,a2,a3,a4,a5,a6⟩:=BK.c7 (show BK _ #[.int .u64 0,.int .u64 0,.int .i64 0,.int .u64 0,.int .u64 0,.int .i64 0,.int .i64 0] _ _ from HSE.out.ra)
   obtain ⟨fa0,fa1,fa2,fa3,fa4,fa5,fa6⟩:=BK.f7 (HSE.out.ra)
   obtain ⟨z0,z1,z2⟩:=BK.c3 (show BK _ #[.string ⟨#[]⟩,.int .i64 0,.bool false] _ _ from HSE.out.rc)
   obtain ⟨fz0,fz1,fz2⟩:=BK.f3 (HSE.out.rc)
   obtain ⟨x0,x1,x2,x3,x4,x5,x6⟩:=BK.c7 (show BK _ #[.int .u64 D1,.int .u64 D2,.int .i64 kd,.int .u64 0,.int .u64 0,.int .i64 (f:Int),.int .i64 (tl:Int)] _ _ from HSE.out.x)
   obtain ⟨fx0,fx1,fx2,fx3,fx4,fx5,fx6⟩:=BK.f7 (HSE.out.x)
   go_region
   have hr7:=(put3_other (put7_law HSE.out.ra D1 D2 kd 0 0 (f:Int) (tl:Int)) (n:=w.heap.size + 1 + 1) (by omega) b kv true).below ((Below.refl _ _).drew)
   have hr3:=(put3_law (put7_other HSE.out.rc (n:=w.heap.size + 1) (by omega) D1 D2 kd 0 0 (f:Int) (tl:Int)) b kv true).below ((Below.refl _ _).drew)
   have hb9:=(put3_below (put7_below HSE.out.bel (n:=w.heap.size + 1) (by omega) D1 D2 kd 0 0 (f:Int) (tl:Int)) (n:=w.heap.size + 1 + 1) (by omega) b kv true).drew
   obtain ⟨W9,hW9⟩:∃ W9,W9=(put3 (put7 W8 (w.heap.size + 1) D1 D2 kd 0 0 (f:Int) (tl:Int)) (w.heap.size + 1 + 1) b kv true).drew:=⟨_,rfl⟩
   rw [<-hW9] at hr7 hr3 hb9
   unfold put3 put7 at hW9
   rw [<-hW9]
   clear hW9 c0 c1 c2 fc0 fc1 fc2 a0 a1 a2 a3 a4 a5 a6 fa0 fa1 fa2 fa3 fa4 fa5 fa6 z0 z1 z2 fz0 fz1 fz2 x0 x1 x2 x3 x4 x5 x6 fx0 fx1 fx2 fx3 fx4 fx5 fx6
   obtain ⟨r0,r1,r2,r3,r4,r5,r6⟩:=BK.c7 (show BK _ #[.int .u64 D1,.int .u64 D2,.int .i64 kd,.int .u64 0,.int .u64 0,.int .i64 (f:Int),.int .i64 (tl:Int)] _ _ from hr7)
   obtain ⟨q0,q1,q2⟩:=BK.c3 (show BK _ #[.string ⟨b.toArray⟩,.int .i64 (kv:Int),.bool true] _ _ from hr3)
   go_wp2_with fail
   refine bodyPost_ret (v:=.tuple #[.agg #[.int .u64 D1,.int .u64 D2,.int .i64 kd,.int .u64 0,.int .u64 0,.int .i64 (f:Int),.int .i64 (tl:Int)],.agg #[.string ⟨b.toArray⟩,.int .i64 (kv:Int),.bool true]]) (by simp [results,Tryz.results44,go_sem,r0,r1,r2,r3,r4,r5,r6,q0,q1,q2]) rfl ?_
   exact ⟨⟨(D1,D2),kd,(0,0),f,tl⟩,kv,true,rfl,(fun h=>by cases h),(fun _=>HBT.out),hkvl,hb9⟩
 obtain ⟨q,hq⟩:∃ q:Bool,q=true:=⟨true,rfl⟩
 clear hq
 have hkk:kd=0\/kd=1:=by omega
 clear hko HN2
 rcases hkk with rfl | rfl
 ·rw [hW4] at HS4
  have HSB:=HS4
  clear HS4
  obtain ⟨t,v,er2,hg2,htv,hvl,HT⟩:=hgt (b.drop k2) (by rw [List.length_drop]; omega)
  rw [List.length_drop] at hvl
  have hsl:=fun W=>sl_lo b k2 (by omega) W
  have hex:(⟨b.toArray⟩:ByteArray).extract k2 b.length=⟨(b.drop k2).toArray⟩:=by rw [ex_mid,List.take_of_length_le (by simp)]
  have HSOM:=hid (fun (he:bad2=false)=>(show er2=0->entryS b k=some ⟨(D1,D2),0,(0,0),k2 + v - t.length,t.length⟩ from fun e=>by
   obtain ⟨a1,a2,a3,a4⟩:=HY.out he
   subst a3
   rw [entryS_0 a2 a4 hg2,if_neg (by simp [e]),<-a1]))
  have hst:=ba_len t
  obtain ⟨tl,htl⟩:∃ tl,tl=t.length:=⟨_,rfl⟩
  rw [<-htl] at hst htv HSOM
  obtain ⟨kv,hkv⟩:∃ kv,kv=k2 + v:=⟨_,rfl⟩
  obtain ⟨f,hf⟩:∃ f,f=kv - tl:=⟨_,rfl⟩
  have hw1:IntKind.i64.wrap ((k2:Int) + (v:Int))=(kv:Int):=by rw [wrap_i64 (by omega) (by omega)]; omega
  have hw2:IntKind.i64.wrap ((kv:Int) - (tl:Int))=(f:Int):=by rw [wrap_i64 (by omega) (by omega)]; omega
  have hkvl:kv<=b.length:=by omega
  have HKV:=hid hkv
  have HFF:=hid hf
  have hfl:f + tl=kv:=by omega
  have HFL:=hid hfl
  have HBADT:Hid (er2 ≠ 0->entryS b k=none):=hid (fun e=>by
   cases hb2:bad2 with
   | true=>exact HN1.out hb2
   | false=>
    obtain ⟨a1,a2,a3,a4⟩:=HY.out hb2
    subst a3
    rw [entryS_0 a2 a4 hg2,if_pos e])
  generalize b.drop k2=S5 at HT hsl hex
  clear hkv hf hfl hgt hg2 htl hvl htv
  clear hW4 HY
  go_wp2_with fail
  obtain ⟨W5,hW5⟩:∃ W5,W5=((((u2.setCell ⟨w.heap.size + 1 + 1 + 1,2,none⟩ (.int .i64 0)).setCell ⟨w.heap.size,0,none⟩ (.string ⟨b.toArray⟩)).setCell ⟨w.heap.size,1,none⟩ (.int .i64 (k2:Int))).setCell ⟨w.heap.size,2,none⟩ (.bool bad2)):=⟨_,rfl⟩
  have hs5:CE w W5 b k2 bad2 #[.int .u64 D1,.int .u64 D2,.int .i64 0,.int .u64 0,.int .u64 0,.int .i64 0,.int .i64 0]:=by rw [hW5]; exact HSB.out
  rw [<-hW5]
  have HS5:=hid hs5
  clear hW5 hs5 HSB c0 c1 c2 fc0 fc1 fc2 a0 a1 a2 a3 a4 a5 a6 fa0 fa1 fa2 fa3 fa4 fa5 fa6 z0 z1 z2 fz0 fz1 fz2 x0 x1 x2 x3 x4 x5 x6 fx0 fx1 fx2 fx3 fx4 fx5 fx6
  obtain ⟨c0,c1,c2⟩:=BK.c3 (show BK _ #[.string ⟨b.toArray⟩,.int .i64 (k2:Int),.bool bad2] _ _ from HS5.out.c)
  obtain ⟨fc0,fc1,fc2⟩:=BK.f3 (HS5.out.c)
  obtain ⟨a0,a1,a2,a3,a4,a5,a6⟩:=BK.c7 (show BK _ #[.int .u64 0,.int .u64 0,.int .i64 0,.int .u64 0,.int .u64 0,.int .i64 0,.int .i64 0] _ _ from HS5.out.ra)
  obtain ⟨fa0,fa1,fa2,fa3,fa4,fa5,fa6⟩:=BK.f7 (HS5.out.ra)
  obtain ⟨z0,z1,z2⟩:=BK.c3 (show BK _ #[.string ⟨#[]⟩,.int .i64 0,.bool false] _ _ from HS5.out.rc)
  obtain ⟨fz0,fz1,fz2⟩:=BK.f3 (HS5.out.rc)
  obtain ⟨x0,x1,x2,x3,x4,x5,x6⟩:=BK.c7 (show BK _ #[.int .u64 D1,.int .u64 D2,.int .i64 0,.int .u64 0,.int .u64 0,.int .i64 0,.int .i64 0] _ _ from HS5.out.x)
  obtain ⟨fx0,fx1,fx2,fx3,fx4,fx5,fx6⟩:=BK.f7 (HS5.out.x)
  (with_reducible refine (HT.out _).mono ?_)
  rintro e u9 ⟨rfl,rfl⟩
  clear HT hsl hex
  by_cases he2:er2=0
  ·subst he2
   go_wp2_with fail
   obtain ⟨W8,hW8⟩:∃ W8,W8=(((W5.setCell ⟨w.heap.size + 1 + 1 + 1,6,none⟩ (.int .i64 (tl:Int))).setCell ⟨w.heap.size + 1 + 1 + 1,5,none⟩ (.int .i64 (f:Int))).setCell ⟨w.heap.size,1,none⟩ (.int .i64 (kv:Int))):=⟨_,rfl⟩
   have hse:CE w W8 b kv bad2 #[.int .u64 D1,.int .u64 D2,.int .i64 0,.int .u64 0,.int .u64 0,.int .i64 (f:Int),.int .i64 (tl:Int)]:=by rw [hW8]; exact ((HS5.out.setX 6 (.int .i64 (tl:Int))).setX 5 (.int .i64 (f:Int))).isAt kv
   rw [<-hW8]
   have HSE:=hid hse
   clear hW8 hse HS5 c0 c1 c2 fc0 fc1 fc2 a0 a1 a2 a3 a4 a5 a6 fa0 fa1 fa2 fa3 fa4 fa5 fa6 z0 z1 z2 fz0 fz1 fz2 x0 x1 x2 x3 x4 x5 x6 fx0 fx1 fx2 fx3 fx4 fx5 fx6
   obtain ⟨c0,c1,c2⟩:=BK.c3 (show BK _ #[.string ⟨b.toArray⟩,.int .i64 (kv:Int),.bool bad2] _ _ from HSE.out.c)
   obtain ⟨fc0,fc1,fc2⟩:=BK.f3 (HSE.out.c)
   obtain ⟨a0,a1,a2,a3,a4,a5,a6⟩:=BK.c7 (show BK _ #[.int .u64 0,.int .u64 0,.int .i64 0,.int .u64 0,.int .u64 0,.int .i64 0,.int .i64 0] _ _ from HSE.out.ra)
   obtain ⟨fa0,fa1,fa2,fa3,fa4,fa5,fa6⟩:=BK.f7 (HSE.out.ra)
   obtain ⟨z0,z1,z2⟩:=BK.c3 (show BK _ #[.string ⟨#[]⟩,.int .i64 0,.bool false] _ _ from HSE.out.rc)
   obtain ⟨fz0,fz1,fz2⟩:=BK.f3 (HSE.out.rc)
   obtain ⟨x0,x1,x2,x3,x4,x5,x6⟩:=BK.c7 (show BK _ #[.int .u64 D1,.int .u64 D2,.int .i64 0,.int .u64 0,.int .u64 0,.int .i64 (f:Int),.int .i64 (tl:Int)] _ _ from HSE.out.x)
   obtain ⟨fx0,fx1,fx2,fx3,fx4,fx5,fx6⟩:=BK.f7 (HSE.out.x)
   go_region
   have hr7:=(put3_other (put7_law HSE.out.ra D1 D2 0 0 0 (f:Int) (tl:Int)) (n:=w.heap.size + 1 + 1) (by omega) b kv bad2).below ((Below.refl _ _).drew)
   have hr3:=(put3_law (put7_other HSE.out.rc (n:=w.heap.size + 1) (by omega) D1 D2 0 0 0 (f:Int) (tl:Int)) b kv bad2).below ((Below.refl _ _).drew)
   have hb9:=(put3_below (put7_below HSE.out.bel (n:=w.heap.size + 1) (by omega) D1 D2 0 0 0 (f:Int) (tl:Int)) (n:=w.heap.size + 1 + 1) (by omega) b kv bad2).drew
   obtain ⟨W9,hW9⟩:∃ W9,W9=(put3 (put7 W8 (w.heap.size + 1) D1 D2 0 0 0 (f:Int) (tl:Int)) (w.heap.size + 1 + 1) b kv bad2).drew:=⟨_,rfl⟩
   rw [<-hW9] at hr7 hr3 hb9
   unfold put3 put7 at hW9
   rw [<-hW9]
   clear hW9 c0 c1 c2 fc0 fc1 fc2 a0 a1 a2 a3 a4 a5 a6 fa0 fa1 fa2 fa3 fa4 fa5 fa6 z0 z1 z2 fz0 fz1 fz2 x0 x1 x2 x3 x4 x5 x6 fx0 fx1 fx2 fx3 fx4 fx5 fx6
   obtain ⟨r0,r1,r2,r3,r4,r5,r6⟩:=BK.c7 (show BK _ #[.int .u64 D1,.int .u64 D2,.int .i64 0,.int .u64 0,.int .u64 0,.int .i64 (f:Int),.int .i64 (tl:Int)] _ _ from hr7)
   obtain ⟨q0,q1,q2⟩:=BK.c3 (show BK _ #[.string ⟨b.toArray⟩,.int .i64 (kv:Int),.bool bad2] _ _ from hr3)
   go_wp2_with fail
   refine bodyPost_ret (v:=.tuple #[.agg #[.int .u64 D1,.int .u64 D2,.int .i64 0,.int .u64 0,.int .u64 0,.int .i64 (f:Int),.int .i64 (tl:Int)],.agg #[.string ⟨b.toArray⟩,.int .i64 (kv:Int),.bool bad2]]) (by simp [results,Tryz.results44,go_sem,r0,r1,r2,r3,r4,r5,r6,q0,q1,q2]) rfl ?_
   exact ⟨⟨(D1,D2),0,(0,0),f,tl⟩,kv,bad2,rfl,(fun h=>⟨by rw [HFF.out,HKV.out]; exact HSOM.out h (by trivial),HFL.out.symm⟩),(fun h=>HN1.out h),hkvl,hb9⟩
  ·have hne:(er2 != 0)=true:=by simpa using he2
   have HBT:=hid (HBADT.out he2)
   go_wp2_with fail
   obtain ⟨W8,hW8⟩:∃ W8,W8=((((W5.setCell ⟨w.heap.size,2,none⟩ (.bool true)).setCell ⟨w.heap.size + 1 + 1 + 1,6,none⟩ (.int .i64 (tl:Int))).setCell ⟨w.heap.size + 1 + 1 + 1,5,none⟩ (.int .i64 (f:Int))).setCell ⟨w.heap.size,1,none⟩ (.int .i64 (kv:Int))):=⟨_,rfl⟩
   have hse:CE w W8 b kv true #[.int .u64 D1,.int .u64 D2,.int .i64 0,.int .u64 0,.int .u64 0,.int .i64 (f:Int),.int .i64 (tl:Int)]:=by rw [hW8]; exact ((HS5.out.isBad.setX 6 (.int .i64 (tl:Int))).setX 5 (.int .i64 (f:Int))).isAt kv
   rw [<-hW8]
   have HSE:=hid hse
   clear hW8 hse HS5 c0 c1 c2 fc0 fc1 fc2 a0 a1 a2 a3 a4 a5 a6 fa0 fa1 fa2 fa3 fa4 fa5 fa6 z0 z1 z2 fz0 fz1 fz2 x0 x1 x2 x3 x4 x5 x6 fx0 fx1 fx2 fx3 fx4 fx5 fx6
   obtain ⟨c0,c1,c2⟩:=BK.c3 (show BK _ #[.string ⟨b.toArray⟩,.int .i64 (kv:Int),.bool true] _ _ from HSE.out.c)
   obtain ⟨fc0,fc1,fc2⟩:=BK.f3 (HSE.out.c)
   obtain ⟨a0,a1,a2,a3,a4,a5,a6⟩:=BK.c7 (show BK _ #[.int .u64 0,.int .u64 0,.int .i64 0,.int .u64 0,.int .u64 0,.int .i64 0,.int .i64 0] _ _ from HSE.out.ra)
   obtain ⟨fa0,fa1,fa2,fa3,fa4,fa5,fa6⟩:=BK.f7 (HSE.out.ra)
   obtain ⟨z0,z1,z2⟩:=BK.c3 (show BK _ #[.string ⟨#[]⟩,.int .i64 0,.bool false] _ _ from HSE.out.rc)
   obtain ⟨fz0,fz1,fz2⟩:=BK.f3 (HSE.out.rc)
   obtain ⟨x0,x1,x2,x3,x4,x5,x6⟩:=BK.c7 (show BK _ #[.int .u64 D1,.int .u64 D2,.int .i64 0,.int .u64 0,.int .u64 0,.int .i64 (f:Int),.int .i64 (tl:Int)] _ _ from HSE.out.x)
   obtain ⟨fx0,fx1,fx2,fx3,fx4,fx5,fx6⟩:=BK.f7 (HSE.out.x)
   go_region
   have hr7:=(put3_other (put7_law HSE.out.ra D1 D2 0 0 0 (f:Int) (tl:Int)) (n:=w.heap.size + 1 + 1) (by omega) b kv true).below ((Below.refl _ _).drew)
   have hr3:=(put3_law (put7_other HSE.out.rc (n:=w.heap.size + 1) (by omega) D1 D2 0 0 0 (f:Int) (tl:Int)) b kv true).below ((Below.refl _ _).drew)
   have hb9:=(put3_below (put7_below HSE.out.bel (n:=w.heap.size + 1) (by omega) D1 D2 0 0 0 (f:Int) (tl:Int)) (n:=w.heap.size + 1 + 1) (by omega) b kv true).drew
   obtain ⟨W9,hW9⟩:∃ W9,W9=(put3 (put7 W8 (w.heap.size + 1) D1 D2 0 0 0 (f:Int) (tl:Int)) (w.heap.size + 1 + 1) b kv true).drew:=⟨_,rfl⟩
   rw [<-hW9] at hr7 hr3 hb9
   unfold put3 put7 at hW9
   rw [<-hW9]
   clear hW9 c0 c1 c2 fc0 fc1 fc2 a0 a1 a2 a3 a4 a5 a6 fa0 fa1 fa2 fa3 fa4 fa5 fa6 z0 z1 z2 fz0 fz1 fz2 x0 x1 x2 x3 x4 x5 x6 fx0 fx1 fx2 fx3 fx4 fx5 fx6
   obtain ⟨r0,r1,r2,r3,r4,r5,r6⟩:=BK.c7 (show BK _ #[.int .u64 D1,.int .u64 D2,.int .i64 0,.int .u64 0,.int .u64 0,.int .i64 (f:Int),.int .i64 (tl:Int)] _ _ from hr7)
   obtain ⟨q0,q1,q2⟩:=BK.c3 (show BK _ #[.string ⟨b.toArray⟩,.int .i64 (kv:Int),.bool true] _ _ from hr3)
   go_wp2_with fail
   refine bodyPost_ret (v:=.tuple #[.agg #[.int .u64 D1,.int .u64 D2,.int .i64 0,.int .u64 0,.int .u64 0,.int .i64 (f:Int),.int .i64 (tl:Int)],.agg #[.string ⟨b.toArray⟩,.int .i64 (kv:Int),.bool true]]) (by simp [results,Tryz.results44,go_sem,r0,r1,r2,r3,r4,r5,r6,q0,q1,q2]) rfl ?_
   exact ⟨⟨(D1,D2),0,(0,0),f,tl⟩,kv,true,rfl,(fun h=>by cases h),(fun _=>HBT.out),hkvl,hb9⟩
 ·obtain ⟨⟨B1,B2⟩,k3,bad3,hd3⟩:∃ D k1 bad1,cDig b k2 bad2=(D,k1,bad1):=⟨_,_,_,rfl⟩
  have hk3:k3<=b.length/\(bad3=true->bad2=true\/b.length < k2 + 16)/\(bad3=false->bad2=false/\k3=k2 + 16/\(B1,B2)=fixD (b.drop k2)/\k2 + 16<=b.length):=by
   unfold cDig at hd3
   split at hd3
   ·simp only [Prod.mk.injEq] at hd3
    obtain ⟨_,e2,e3⟩:=hd3
    exact ⟨by omega,(fun _=>.inr (by omega)),(fun e=>by rw [<-e3] at e; cases e)⟩
   ·simp only [Prod.mk.injEq] at hd3
    obtain ⟨e1,e2,e3⟩:=hd3
    exact ⟨by omega,(fun e=>.inl (e3.trans e)),(fun e=>⟨e3.trans e,e2.symm,e1.symm,by omega⟩)⟩
  have HC3:=hid (cdig_any b k2 bad2 W4 hk2l hl)
  rw [hd3] at HC3
  obtain ⟨hk3a,hk3b,hk3c⟩:=hk3
  have HK3B:=hid hk3b
  have HK3C:=hid hk3c
  unfold cval at HC3
  have HW4:=hid hW4
  rw [hW4] at HC3
  clear hd3 hk3b hk3c hW4
  go_wp2_with fail
  (with_reducible refine (HC3.out).mono ?_)
  rintro e u5 ⟨rfl,hb⟩
  rw [<-HW4.out] at hb
  have HS6:=hid (HS4.out.below hb)
  clear HC3 HW4 hb HS4 HS3 c0 c1 c2 fc0 fc1 fc2 a0 a1 a2 a3 a4 a5 a6 fa0 fa1 fa2 fa3 fa4 fa5 fa6 z0 z1 z2 fz0 fz1 fz2 x0 x1 x2 x3 x4 x5 x6 fx0 fx1 fx2 fx3 fx4 fx5 fx6
  obtain ⟨c0,c1,c2⟩:=BK.c3 (show BK _ #[.string ⟨b.toArray⟩,.int .i64 (k2:Int),.bool bad2] _ _ from HS6.out.c)
  obtain ⟨fc0,fc1,fc2⟩:=BK.f3 (HS6.out.c)
  obtain ⟨a0,a1,a2,a3,a4,a5,a6⟩:=BK.c7 (show BK _ #[.int .u64 0,.int .u64 0,.int .i64 0,.int .u64 0,.int .u64 0,.int .i64 0,.int .i64 0] _ _ from HS6.out.ra)
  obtain ⟨fa0,fa1,fa2,fa3,fa4,fa5,fa6⟩:=BK.f7 (HS6.out.ra)
  obtain ⟨z0,z1,z2⟩:=BK.c3 (show BK _ #[.string ⟨#[]⟩,.int .i64 0,.bool false] _ _ from HS6.out.rc)
  obtain ⟨fz0,fz1,fz2⟩:=BK.f3 (HS6.out.rc)
  obtain ⟨x0,x1,x2,x3,x4,x5,x6⟩:=BK.c7 (show BK _ #[.int .u64 D1,.int .u64 D2,.int .i64 1,.int .u64 0,.int .u64 0,.int .i64 0,.int .i64 0] _ _ from HS6.out.x)
  obtain ⟨fx0,fx1,fx2,fx3,fx4,fx5,fx6⟩:=BK.f7 (HS6.out.x)
  have hsb:CE w (((((u5.setCell ⟨w.heap.size + 1 + 1 + 1,3,none⟩ (.int .u64 B1)).setCell ⟨w.heap.size + 1 + 1 + 1,4,none⟩ (.int .u64 B2)).setCell ⟨w.heap.size,0,none⟩ (.string ⟨b.toArray⟩)).setCell ⟨w.heap.size,1,none⟩ (.int .i64 (k3:Int))).setCell ⟨w.heap.size,2,none⟩ (.bool bad3)) b k3 bad3 #[.int .u64 D1,.int .u64 D2,.int .i64 1,.int .u64 B1,.int .u64 B2,.int .i64 0,.int .i64 0]:=((HS6.out.setX 3 (.int .u64 B1)).setX 4 (.int .u64 B2)).putC k3 bad3
  have HSB:=hid hsb
  clear hsb HS6
  obtain ⟨t,v,er2,hg2,htv,hvl,HT⟩:=hgt (b.drop k3) (by rw [List.length_drop]; omega)
  rw [List.length_drop] at hvl
  have hsl:=fun W=>sl_lo b k3 (by omega) W
  have hex:(⟨b.toArray⟩:ByteArray).extract k3 b.length=⟨(b.drop k3).toArray⟩:=by rw [ex_mid,List.take_of_length_le (by simp)]
  have HSOM:=hid (fun (he:bad3=false)=>(show er2=0->entryS b k=some ⟨(D1,D2),1,(B1,B2),k3 + v - t.length,t.length⟩ from fun e=>by
   obtain ⟨c0,c1,c2,c3⟩:=HK3C.out he
   obtain ⟨a1,a2,a3,a4⟩:=HY.out c0
   subst c1
   subst a3
   rw [entryS_1 a2 a4 c3 hg2,if_neg (by simp [e]),<-a1,<-c2]))
  have hst:=ba_len t
  obtain ⟨tl,htl⟩:∃ tl,tl=t.length:=⟨_,rfl⟩
  rw [<-htl] at hst htv HSOM
  obtain ⟨kv,hkv⟩:∃ kv,kv=k3 + v:=⟨_,rfl⟩
  obtain ⟨f,hf⟩:∃ f,f=kv - tl:=⟨_,rfl⟩
  have hw1:IntKind.i64.wrap ((k3:Int) + (v:Int))=(kv:Int):=by rw [wrap_i64 (by omega) (by omega)]; omega
  have hw2:IntKind.i64.wrap ((kv:Int) - (tl:Int))=(f:Int):=by rw [wrap_i64 (by omega) (by omega)]; omega
  have hkvl:kv<=b.length:=by omega
  have HKV:=hid hkv
  have HFF:=hid hf
  have hfl:f + tl=kv:=by omega
  have HFL:=hid hfl
  have HNB:Hid (bad3=true->entryS b k=none):=hid (fun e=>by
   cases hb2:bad2 with
   | true=>exact HN1.out hb2
   | false=>
    obtain ⟨a1,a2,a3,a4⟩:=HY.out hb2
    subst a3
    exact entryS_short2 a2 a4 ((HK3B.out e).resolve_left (by rw [hb2]; simp)))
  have HBADT:Hid (er2 ≠ 0->entryS b k=none):=hid (fun e=>by
   cases hb3:bad3 with
   | true=>exact HNB.out hb3
   | false=>
    obtain ⟨c0,c1,c2,c3⟩:=HK3C.out hb3
    obtain ⟨a1,a2,a3,a4⟩:=HY.out c0
    subst c1
    subst a3
    rw [entryS_1 a2 a4 c3 hg2,if_pos e])
  generalize b.drop k3=S5 at HT hsl hex
  clear hkv hf hfl hgt hg2 htl hvl htv
  clear HY
  go_wp2_with fail
  obtain ⟨W5,hW5⟩:∃ W5,W5=(((((u5.setCell ⟨w.heap.size + 1 + 1 + 1,3,none⟩ (.int .u64 B1)).setCell ⟨w.heap.size + 1 + 1 + 1,4,none⟩ (.int .u64 B2)).setCell ⟨w.heap.size,0,none⟩ (.string ⟨b.toArray⟩)).setCell ⟨w.heap.size,1,none⟩ (.int .i64 (k3:Int))).setCell ⟨w.heap.size,2,none⟩ (.bool bad3)):=⟨_,rfl⟩
  have hs5:CE w W5 b k3 bad3 #[.int .u64 D1,.int .u64 D2,.int .i64 1,.int .u64 B1,.int .u64 B2,.int .i64 0,.int .i64 0]:=by rw [hW5]; exact HSB.out
  rw [<-hW5]
  have HS5:=hid hs5
  clear hW5 hs5 HSB c0 c1 c2 fc0 fc1 fc2 a0 a1 a2 a3 a4 a5 a6 fa0 fa1 fa2 fa3 fa4 fa5 fa6 z0 z1 z2 fz0 fz1 fz2 x0 x1 x2 x3 x4 x5 x6 fx0 fx1 fx2 fx3 fx4 fx5 fx6
  obtain ⟨c0,c1,c2⟩:=BK.c3 (show BK _ #[.string ⟨b.toArray⟩,.int .i64 (k3:Int),.bool bad3] _ _ from HS5.out.c)
  obtain ⟨fc0,fc1,fc2⟩:=BK.f3 (HS5.out.c)
  obtain ⟨a0,a1,a2,a3,a4,a5,a6⟩:=BK.c7 (show BK _ #[.int .u64 0,.int .u64 0,.int .i64 0,.int .u64 0,.int .u64 0,.int .i64 0,.int .i64 0] _ _ from HS5.out.ra)
  obtain ⟨fa0,fa1,fa2,fa3,fa4,fa5,fa6⟩:=BK.f7 (HS5.out.ra)
  obtain ⟨z0,z1,z2⟩:=BK.c3 (show BK _ #[.string ⟨#[]⟩,.int .i64 0,.bool false] _ _ from HS5.out.rc)
  obtain ⟨fz0,fz1,fz2⟩:=BK.f3 (HS5.out.rc)
  obtain ⟨x0,x1,x2,x3,x4,x5,x6⟩:=BK.c7 (show BK _ #[.int .u64 D1,.int .u64 D2,.int .i64 1,.int .u64 B1,.int .u64 B2,.int .i64 0,.int .i64 0] _ _ from HS5.out.x)
  obtain ⟨fx0,fx1,fx2,fx3,fx4,fx5,fx6⟩:=BK.f7 (HS5.out.x)
  (with_reducible refine (HT.out _).mono ?_)
  rintro e u9 ⟨rfl,rfl⟩
  clear HT hsl hex
  by_cases he2:er2=0
  ·subst he2
   go_wp2_with fail
   obtain ⟨W8,hW8⟩:∃ W8,W8=(((W5.setCell ⟨w.heap.size + 1 + 1 + 1,6,none⟩ (.int .i64 (tl:Int))).setCell ⟨w.heap.size + 1 + 1 + 1,5,none⟩ (.int .i64 (f:Int))).setCell ⟨w.heap.size,1,none⟩ (.int .i64 (kv:Int))):=⟨_,rfl⟩
   have hse:CE w W8 b kv bad3 #[.int .u64 D1,.int .u64 D2,.int .i64 1,.int .u64 B1,.int .u64 B2,.int .i64 (f:Int),.int .i64 (tl:Int)]:=by rw [hW8]; exact ((HS5.out.setX 6 (.int .i64 (tl:Int))).setX 5 (.int .i64 (f:Int))).isAt kv
   rw [<-hW8]
   have HSE:=hid hse
   clear hW8 hse HS5 c0 c1 c2 fc0 fc1 fc2 a0 a1 a2 a3 a4 a5 a6 fa0 fa1 fa2 fa3 fa4 fa5 fa6 z0 z1 z2 fz0 fz1 fz2 x0 x1 x2 x3 x4 x5 x6 fx0 fx1 fx2 fx3 fx4 fx5 fx6
   obtain ⟨c0,c1,c2⟩:=BK.c3 (show BK _ #[.string ⟨b.toArray⟩,.int .i64 (kv:Int),.bool bad3] _ _ from HSE.out.c)
   obtain ⟨fc0,fc1,fc2⟩:=BK.f3 (HSE.out.c)
   obtain ⟨a0,a1,a2,a3,a4,a5,a6⟩:=BK.c7 (show BK _ #[.int .u64 0,.int .u64 0,.int .i64 0,.int .u64 0,.int .u64 0,.int .i64 0,.int .i64 0] _ _ from HSE.out.ra)
   obtain ⟨fa0,fa1,fa2,fa3,fa4,fa5,fa6⟩:=BK.f7 (HSE.out.ra)
   obtain ⟨z0,z1,z2⟩:=BK.c3 (show BK _ #[.string ⟨#[]⟩,.int .i64 0,.bool false] _ _ from HSE.out.rc)
   obtain ⟨fz0,fz1,fz2⟩:=BK.f3 (HSE.out.rc)
   obtain ⟨x0,x1,x2,x3,x4,x5,x6⟩:=BK.c7 (show BK _ #[.int .u64 D1,.int .u64 D2,.int .i64 1,.int .u64 B1,.int .u64 B2,.int .i64 (f:Int),.int .i64 (tl:Int)] _ _ from HSE.out.x)
   obtain ⟨fx0,fx1,fx2,fx3,fx4,fx5,fx6⟩:=BK.f7 (HSE.out.x)
   go_region
   have hr7:=(put3_other (put7_law HSE.out.ra D1 D2 1 B1 B2 (f:Int) (tl:Int)) (n:=w.heap.size + 1 + 1) (by omega) b kv bad3).below ((Below.refl _ _).drew)
   have hr3:=(put3_law (put7_other HSE.out.rc (n:=w.heap.size + 1) (by omega) D1 D2 1 B1 B2 (f:Int) (tl:Int)) b kv bad3).below ((Below.refl _ _).drew)
   have hb9:=(put3_below (put7_below HSE.out.bel (n:=w.heap.size + 1) (by omega) D1 D2 1 B1 B2 (f:Int) (tl:Int)) (n:=w.heap.size + 1 + 1) (by omega) b kv bad3).drew
   obtain ⟨W9,hW9⟩:∃ W9,W9=(put3 (put7 W8 (w.heap.size + 1) D1 D2 1 B1 B2 (f:Int) (tl:Int)) (w.heap.size + 1 + 1) b kv bad3).drew:=⟨_,rfl⟩
   rw [<-hW9] at hr7 hr3 hb9
   unfold put3 put7 at hW9
   rw [<-hW9]
   clear hW9 c0 c1 c2 fc0 fc1 fc2 a0 a1 a2 a3 a4 a5 a6 fa0 fa1 fa2 fa3 fa4 fa5 fa6 z0 z1 z2 fz0 fz1 fz2 x0 x1 x2 x3 x4 x5 x6 fx0 fx1 fx2 fx3 fx4 fx5 fx6
   obtain ⟨r0,r1,r2,r3,r4,r5,r6⟩:=BK.c7 (show BK _ #[.int .u64 D1,.int .u64 D2,.int .i64 1,.int .u64 B1,.int .u64 B2,.int .i64 (f:Int),.int .i64 (tl:Int)] _ _ from hr7)
   obtain ⟨q0,q1,q2⟩:=BK.c3 (show BK _ #[.string ⟨b.toArray⟩,.int .i64 (kv:Int),.bool bad3] _ _ from hr3)
   go_wp2_with fail
   refine bodyPost_ret (v:=.tuple #[.agg #[.int .u64 D1,.int .u64 D2,.int .i64 1,.int .u64 B1,.int .u64 B2,.int .i64 (f:Int),.int .i64 (tl:Int)],.agg #[.string ⟨b.toArray⟩,.int .i64 (kv:Int),.bool bad3]]) (by simp [results,Tryz.results44,go_sem,r0,r1,r2,r3,r4,r5,r6,q0,q1,q2]) rfl ?_
   exact ⟨⟨(D1,D2),1,(B1,B2),f,tl⟩,kv,bad3,rfl,(fun h=>⟨by rw [HFF.out,HKV.out]; exact HSOM.out h (by trivial),HFL.out.symm⟩),(fun h=>HNB.out h),hkvl,hb9⟩
  ·have hne:(er2 != 0)=true:=by simpa using he2
   have HBT:=hid (HBADT.out he2)
   go_wp2_with fail
   obtain ⟨W8,hW8⟩:∃ W8,W8=((((W5.setCell ⟨w.heap.size,2,none⟩ (.bool true)).setCell ⟨w.heap.size + 1 + 1 + 1,6,none⟩ (.int .i64 (tl:Int))).setCell ⟨w.heap.size + 1 + 1 + 1,5,none⟩ (.int .i64 (f:Int))).setCell ⟨w.heap.size,1,none⟩ (.int .i64 (kv:Int))):=⟨_,rfl⟩
   have hse:CE w W8 b kv true #[.int .u64 D1,.int .u64 D2,.int .i64 1,.int .u64 B1,.int .u64 B2,.int .i64 (f:Int),.int .i64 (tl:Int)]:=by rw [hW8]; exact ((HS5.out.isBad.setX 6 (.int .i64 (tl:Int))).setX 5 (.int .i64 (f:Int))).isAt kv
   rw [<-hW8]
   have HSE:=hid hse
   clear hW8 hse HS5 c0 c1 c2 fc0 fc1 fc2 a0 a1 a2 a3 a4 a5 a6 fa0 fa1 fa2 fa3 fa4 fa5 fa6 z0 z1 z2 fz0 fz1 fz2 x0 x1 x2 x3 x4 x5 x6 fx0 fx1 fx2 fx3 fx4 fx5 fx6
   obtain ⟨c0,c1,c2⟩:=BK.c3 (show BK _ #[.string ⟨b.toArray⟩,.int .i64 (kv:Int),.bool true] _ _ from HSE.out.c)
   obtain ⟨fc0,fc1,fc2⟩:=BK.f3 (HSE.out.c)
   obtain ⟨a0,a1,a2,a3,a4,a5,a6⟩:=BK.c7 (show BK _ #[.int .u64 0,.int .u64 0,.int .i64 0,.int .u64 0,.int .u64 0,.int .i64 0,.int .i64 0] _ _ from HSE.out.ra)
   obtain ⟨fa0,fa1,fa2,fa3,fa4,fa5,fa6⟩:=BK.f7 (HSE.out.ra)
   obtain ⟨z0,z1,z2⟩:=BK.c3 (show BK _ #[.string ⟨#[]⟩,.int .i64 0,.bool false] _ _ from HSE.out.rc)
   obtain ⟨fz0,fz1,fz2⟩:=BK.f3 (HSE.out.rc)
   obtain ⟨x0,x1,x2,x3,x4,x5,x6⟩:=BK.c7 (show BK _ #[.int .u64 D1,.int .u64 D2,.int .i64 1,.int .u64 B1,.int .u64 B2,.int .i64 (f:Int),.int .i64 (tl:Int)] _ _ from HSE.out.x)
   obtain ⟨fx0,fx1,fx2,fx3,fx4,fx5,fx6⟩:=BK.f7 (HSE.out.x)
   go_region
   have hr7:=(put3_other (put7_law HSE.out.ra D1 D2 1 B1 B2 (f:Int) (tl:Int)) (n:=w.heap.size + 1 + 1) (by omega) b kv true).below ((Below.refl _ _).drew)
   have hr3:=(put3_law (put7_other HSE.out.rc (n:=w.heap.size + 1) (by omega) D1 D2 1 B1 B2 (f:Int) (tl:Int)) b kv true).below ((Below.refl _ _).drew)
   have hb9:=(put3_below (put7_below HSE.out.bel (n:=w.heap.size + 1) (by omega) D1 D2 1 B1 B2 (f:Int) (tl:Int)) (n:=w.heap.size + 1 + 1) (by omega) b kv true).drew
   obtain ⟨W9,hW9⟩:∃ W9,W9=(put3 (put7 W8 (w.heap.size + 1) D1 D2 1 B1 B2 (f:Int) (tl:Int)) (w.heap.size + 1 + 1) b kv true).drew:=⟨_,rfl⟩
   rw [<-hW9] at hr7 hr3 hb9
   unfold put3 put7 at hW9
   rw [<-hW9]
   clear hW9 c0 c1 c2 fc0 fc1 fc2 a0 a1 a2 a3 a4 a5 a6 fa0 fa1 fa2 fa3 fa4 fa5 fa6 z0 z1 z2 fz0 fz1 fz2 x0 x1 x2 x3 x4 x5 x6 fx0 fx1 fx2 fx3 fx4 fx5 fx6
   obtain ⟨r0,r1,r2,r3,r4,r5,r6⟩:=BK.c7 (show BK _ #[.int .u64 D1,.int .u64 D2,.int .i64 1,.int .u64 B1,.int .u64 B2,.int .i64 (f:Int),.int .i64 (tl:Int)] _ _ from hr7)
   obtain ⟨q0,q1,q2⟩:=BK.c3 (show BK _ #[.string ⟨b.toArray⟩,.int .i64 (kv:Int),.bool true] _ _ from hr3)
   go_wp2_with fail
   refine bodyPost_ret (v:=.tuple #[.agg #[.int .u64 D1,.int .u64 D2,.int .i64 1,.int .u64 B1,.int .u64 B2,.int .i64 (f:Int),.int .i64 (tl:Int)],.agg #[.string ⟨b.toArray⟩,.int .i64 (kv:Int),.bool true]]) (by simp [results,Tryz.results44,go_sem,r0,r1,r2,r3,r4,r5,r6,q0,q1,q2]) rfl ?_
   exact ⟨⟨(D1,D2),1,(B1,B2),f,tl⟩,kv,true,rfl,(fun h=>by cases h),(fun _=>HBT.out),hkvl,hb9⟩
theorem GotE.none {w w':World} (er:Int) (a:Option Addr) (c:Nat) (hb:Below w.heap.size w w'):GotE w ([],er) (.returned (.tuple #[.slice a 0 c,.int .i64 er])) w':=⟨a,c,rfl,GIn.nil _ _ _,hb⟩
def QSx (b:List UInt8) (E:List Pe × Int) (n k p:Nat) (bad:Bool) (l:List Pe):Prop:=(bad=false->EnSt b E n k p l)/\(bad=true->E=([],13))/\l.length=k/\p<=b.length
def metB (l:List Pe) (d:Int × Int) (j:Nat):Bool:=decide (d ∈ (l.take j).map (·.d))
theorem metB_zero (l:List Pe) (d:Int × Int):metB l d 0=false:=by simp [metB]
theorem metB_succ {l:List Pe} {d:Int × Int} {j:Nat} (h:j < l.length):metB l d (j + 1)=(metB l d j || decide (l[j].d=d)):=by
 unfold metB
 rw [List.take_succ_eq_append_getElem h,List.map_append,<-Bool.decide_or]
 congr 1
 simp [eq_comm]
theorem metB_all (l:List Pe) (d:Int × Int):metB l d l.length=decide (d ∈ l.map (·.d)):=by simp [metB]
theorem rentries10_any (s:List UInt8) (w:World) (hl:(s.length:Int)<=70368744177664):Calls Tryz.prog 16 #[.string ⟨s.toArray⟩] w (GotE w (entriesS s)):=by
 have hsz:=ba_len s
 have HB0:=hid (Below.refl w.heap.size w)
 by_cases h16:s.length < 16
 ·have HE:Hid (entriesS s=([],12)):=hid (by unfold entriesS; rw [if_pos h16])
  obtain ⟨n,hn⟩:∃ n,n=s.length:=⟨_,rfl⟩
  rw [<-hn] at hsz hl h16
  have hi:(n:Int) < 16:=by omega
  have HB1:=hid (HB0.out.alloc HB0.out.size (.cells #[] 53))
  rw [HE.out]
  clear hn HE
  go_enter Tryz.func16,Tryz.ntmps16
  go_wp2_with fail
  go_ret2
  exact GotE.none 12 _ _ HB1.out
 obtain ⟨m,hm⟩:∃ m,m=s.length - 16:=⟨_,rfl⟩
 have hw1:IntKind.i64.wrap ((s.length:Int) - 16)=(m:Int):=by rw [wrap_i64 (by omega) (by omega)]; omega
 have hi:¬ (s.length:Int) < 16:=by omega
 have hsl:=fun W=>sl_hi s m (by omega) W
 have hex:(⟨s.toArray⟩:ByteArray).extract 0 m=⟨(s.take m).toArray⟩:=by rw [ex_mid]; rfl
 have HC1:=hid (fun W=>seal_any (s.take m) W (by rw [List.length_take]; omega))
 have hsi:=seal_iff (s:=s) (by omega) (digS_ok _)
 rw [<-hm] at hsi
 have HE:Hid (entriesS s=if digS (s.take m) ≠ fixD (s.drop m) then ([],14) else pbodyS (s.take m)):=hid (by unfold entriesS; rw [if_neg h16,<-hm])
 have hbl:(s.take m).length=m:=by rw [List.length_take]; omega
 obtain ⟨E,hE⟩:∃ E,E=entriesS s:=⟨_,rfl⟩
 rw [<-hE] at HE ⊢
 have HSQ:Hid ((sealS (s.take m)=s->E=pbodyS (s.take m))/\(sealS (s.take m) ≠ s->E=([],14))):=hid ⟨fun h=>by rw [HE.out,if_neg (by simp [hsi.1 h])],fun h=>by rw [HE.out,if_pos (fun e=>h (hsi.2 e))]⟩
 generalize s.take m=b at hsl hex HC1 HSQ hbl
 obtain ⟨T,hT⟩:∃ T,T=sealS b:=⟨_,rfl⟩
 rw [<-hT] at HC1 HSQ
 have hsb:=ba_len b
 have hmn:(m:Int)<=70368744177664:=by omega
 obtain ⟨n,hn⟩:∃ n,n=s.length:=⟨_,rfl⟩
 rw [<-hn] at hsz hl hw1 hi
 rw [hbl] at hsb
 have HBL:=hid hbl
 clear hE hn hm h16 hbl HE hsi hT
 obtain ⟨eq,heq⟩:∃ eq,eq=decide (T=s):=⟨_,rfl⟩
 by_cases hne:T=s
 case neg=>
  have HE2:=hid (HSQ.out.2 hne)
  have hbq:(T == s)=false:=by simpa using hne
  clear HSQ hne heq
  go_enter Tryz.func16,Tryz.ntmps16
  go_wp2_with fail
  (with_reducible refine (HC1.out _).mono ?_)
  rintro e u1 ⟨rfl,hb⟩
  have HB1:=hid hb
  have HB2:=hid (HB1.out.alloc HB1.out.size (.cells #[] 53))
  clear hb
  go_wp2_with fail
  go_ret2
  rw [HE2.out]
  exact GotE.none 14 _ _ HB2.out
 case pos=>
 have HE2:=hid (HSQ.out.1 hne)
 have hbq:(T == s)=true:=by simpa using hne
 clear HSQ hne heq
 obtain ⟨kn,u,er,hg⟩:∃ kn u er,Cw.getI b=(kn,u,er):=⟨_,_,_,rfl⟩
 obtain ⟨g1,g2,g3,g4⟩:=getI_all hg
 obtain ⟨u0,rfl⟩:∃ u0:Nat,u=(u0:Int):=⟨u.toNat,by omega⟩
 obtain ⟨n0,rfl⟩:∃ n0:Nat,kn=(n0:Int):=⟨kn.toNat,by omega⟩
 have HBAD:Hid (er ≠ 0\/1000 < (n0:Int)->E=([],13)):=hid (fun h=>by rw [HE2.out]; unfold pbodyS; rw [hg]; simp only; rw [if_pos h])
 have HST:Hid (¬ (er ≠ 0\/1000 < (n0:Int))->EnSt b E n0 0 u0 []):=hid (fun h=>⟨by rw [HE2.out]; unfold pbodyS; rw [hg]; simp only; rw [if_neg h]; simp,rfl,by omega⟩)
 have HC2:=hid (fun W=>cnum_any (b:=b) (k:=0) (u:=u0) (n:=(n0:Int)) (er:=er) (by simpa using hg) false W (by omega) (by have:=HBL.out; omega))
 rw [Nat.zero_add,Bool.false_or] at HC2
 unfold cval at HC2
 rw [show ((0:Nat):Int)=0 from rfl] at HC2
 clear hg HE2 g1
 go_enter Tryz.func16,Tryz.ntmps16
 go_wp2_with fail
 (with_reducible refine (HC1.out _).mono ?_)
 rintro e u1 ⟨rfl,hb⟩
 have HB1:=hid hb
 clear hb HC1 hsl hex
 go_wp2_with fail
 (with_reducible refine (HC2.out _).mono ?_)
 rintro e u2 ⟨rfl,hb⟩
 have HB2:=hid (HB1.out.trans (hb.mono HB1.out.size))
 clear hb HC2 HB1
 by_cases hbad:er ≠ 0\/1000 < (n0:Int)
 case pos=>
  have HE4:=hid (HBAD.out hbad)
  obtain ⟨cb,hcb⟩:∃ cb,cb=u2.heap.size:=⟨_,rfl⟩
  obtain ⟨u4,hu4⟩:∃ u4,u4=u2.alloc (.cells #[.string ⟨b.toArray⟩,.int .i64 (u0:Int),.bool true] 84):=⟨_,rfl⟩
  have hb4:Below u2.heap.size u2 u4:=by rw [hu4]; exact (Below.refl _ _).alloc (Nat.le_refl _) _
  have HK4:Hid (BK cb #[.string ⟨b.toArray⟩,.int .i64 (u0:Int),.bool true] 84 u4):=hid (by rw [hu4,hcb]; exact BK.new _ _ _)
  have HB4:=hid (HB2.out.trans (hb4.mono HB2.out.size))
  have hs4:u4.heap.size=cb + 1:=by rw [hu4,hcb]; simp
  obtain ⟨u5,hu5⟩:∃ u5,u5=u4.alloc (.cells #[] 53):=⟨_,rfl⟩
  have hb5:Below u4.heap.size u4 u5:=by rw [hu5]; exact (Below.refl _ _).alloc (Nat.le_refl _) _
  have HK5:=hid (HK4.out.below hb5)
  have HB5:=hid (HB4.out.trans (hb5.mono HB4.out.size))
  have HO5:Hid (u5.ownsRow (cb + 1) 53 7 (.slice (some ⟨cb + 1,0,none⟩) 0 0) 0 (gcs peCs [])):=hid (by
   rw [hu5,<-hs4]
   exact own_empty u4 _ _ _ (Nat.le_refl _))
  have HCB:Hid (w.heap.size<=cb):=hid (by rw [hcb]; exact HB2.out.size)
  have hu54:=hu5
  rw [hu4] at hu54
  have HU5:=hid hu54
  have HCQ:=hid hcb
  clear hb4 hb5 hu4 hu5 hu54 hs4 hcb HK4 HB4
  clear HBAD HST
  by_cases he:er=0
  ·subst he
   have hi2:1000 < (n0:Int):=hbad.elim (fun h=>absurd rfl h) id
   clear hbad
   go_wp2_with fail
   rw [<-HU5.out,<-HCQ.out]
   go_loopw [8] (fun i wr=>i = .int .i64 0/\Hid (wr=u5)) (fun _ _=>0)
   case atStart=>exact ⟨rfl,hid rfl⟩
   case round=>
    obtain ⟨rfl,HWR⟩:=hrel
    have hwr:=HWR.out
    rw [hwr]
    clear hwr HWR
    obtain ⟨c0,c1,c2⟩:=BK.c3 (show BK _ #[.string ⟨b.toArray⟩,.int .i64 (u0:Int),.bool true] _ _ from HK5.out)
    by_cases h0:0 < n0
    ·have h0i:(0:Int) < (n0:Int):=by omega
     go_wp2_with fail
     go_ret2
     rw [HE4.out]
     exact GotE.none 13 _ _ (HB5.out.alloc HB5.out.size _)
    ·exfalso; omega
  ·have hb0:(er != 0)=true:=by simpa using he
   clear hbad he
   go_wp2_with fail
   rw [<-HU5.out,<-HCQ.out]
   go_loopw [8] (fun i wr=>i = .int .i64 0/\Hid (wr=u5)) (fun _ _=>0)
   case atStart=>exact ⟨rfl,hid rfl⟩
   case round=>
    obtain ⟨rfl,HWR⟩:=hrel
    have hwr:=HWR.out
    rw [hwr]
    clear hwr HWR
    obtain ⟨c0,c1,c2⟩:=BK.c3 (show BK _ #[.string ⟨b.toArray⟩,.int .i64 (u0:Int),.bool true] _ _ from HK5.out)
    by_cases h0:0 < n0
    ·have h0i:(0:Int) < (n0:Int):=by omega
     go_wp2_with fail
     go_ret2
     rw [HE4.out]
     exact GotE.none 13 _ _ (HB5.out.alloc HB5.out.size _)
    ·have h0i:¬ (0:Int) < (n0:Int):=by omega
     go_wp2_with fail
     go_ret2
     rw [HE4.out]
     exact GotE.none 13 _ _ (HB5.out.alloc HB5.out.size _)
 case neg=>
 have HS0:=hid (HST.out hbad)
 have hn1:¬ 1000 < (n0:Int):=fun h=>hbad (.inr h)
 have hdn:decide (1000 < (n0:Int))=false:=by simpa using hn1
 obtain rfl:er=0:=by
  by_cases e:er=0
  ·exact e
  ·exact absurd (.inl e) hbad
 clear hbad HBAD HST
 obtain ⟨cb,hcb⟩:∃ cb,cb=u2.heap.size:=⟨_,rfl⟩
 obtain ⟨u4,hu4⟩:∃ u4,u4=u2.alloc (.cells #[.string ⟨b.toArray⟩,.int .i64 (u0:Int),.bool false] 84):=⟨_,rfl⟩
 have hb4:Below u2.heap.size u2 u4:=by rw [hu4]; exact (Below.refl _ _).alloc (Nat.le_refl _) _
 have HK4:Hid (BK cb #[.string ⟨b.toArray⟩,.int .i64 (u0:Int),.bool false] 84 u4):=hid (by rw [hu4,hcb]; exact BK.new _ _ _)
 have HB4:=hid (HB2.out.trans (hb4.mono HB2.out.size))
 have hs4:u4.heap.size=cb + 1:=by rw [hu4,hcb]; simp
 obtain ⟨u5,hu5⟩:∃ u5,u5=u4.alloc (.cells #[] 53):=⟨_,rfl⟩
 have hb5:Below u4.heap.size u4 u5:=by rw [hu5]; exact (Below.refl _ _).alloc (Nat.le_refl _) _
 have HK5:=hid (HK4.out.below hb5)
 have HB5:=hid (HB4.out.trans (hb5.mono HB4.out.size))
 have HO5:Hid (u5.ownsRow (cb + 1) 53 7 (.slice (some ⟨cb + 1,0,none⟩) 0 0) 0 (gcs peCs [])):=hid (by
  rw [hu5,<-hs4]
  exact own_empty u4 _ _ _ (Nat.le_refl _))
 have HCB:Hid (w.heap.size<=cb):=hid (by rw [hcb]; exact HB2.out.size)
 have hu54:=hu5
 rw [hu4] at hu54
 have HU5:=hid hu54
 have HCQ:=hid hcb
 clear hb4 hb5 hu4 hu5 hu54 hs4 hcb HK4 HB4
 go_wp2_with fail
 rw [<-HU5.out,<-HCQ.out]
 go_loopw [7,8] (fun v i wr=>∃ (k p:Nat) (bad:Bool) (ls:List Pe),k<=n0/\i = .int .i64 (k:Int)/\Hid (QSx b E n0 k p bad ls)/\Hid (BK cb #[.string ⟨b.toArray⟩,.int .i64 (p:Int),.bool bad] 84 wr)/\Hid (wr.ownsRow (cb + 1) 53 7 v k (gcs peCs ls))/\Hid (Below w.heap.size w wr)) (fun _ i _=>n0 - (intOf i).toNat)
 case atStart=>exact ⟨0,u0,false,[],by omega,rfl,hid ⟨fun _=>HS0.out,(fun h=>by cases h),rfl,HS0.out.le⟩,HK5,HO5,HB5⟩
 case round=>
  clear HS0 HK5 HO5 HB5 HU5 HCQ HB2
  obtain ⟨k,p,bad,ls,hk,rfl,HQ,HK,HO,HB⟩:=hrel
  obtain ⟨va,vc,rfl,hvc⟩:=ownsRow_sliceN HO.out
  obtain ⟨hq1,hq2,hq3,hq4⟩:=HQ.out
  obtain ⟨c0,c1,c2⟩:=BK.c3 (show BK _ #[.string ⟨b.toArray⟩,.int .i64 (p:Int),.bool bad] _ _ from HK.out)
  cases bad with
  | true=>
   have HE4:=hid (hq2 rfl)
   clear hq1 hq2 hq3 HQ HO
   by_cases hlt:k < n0
   ·have h0i:(k:Int) < (n0:Int):=by omega
    go_wp2_with fail
    go_ret2
    rw [HE4.out]
    exact GotE.none 13 _ _ (HB.out.alloc HB.out.size _)
   ·have h0i:¬ (k:Int) < (n0:Int):=by omega
    go_wp2_with fail
    go_ret2
    rw [HE4.out]
    exact GotE.none 13 _ _ (HB.out.alloc HB.out.size _)
  | false=>
   have HS:=hid (hq1 rfl)
   have HLN:=hid hq3
   have hpm:p<=m:=by rw [<-HBL.out]; exact hq4
   clear hq1 hq2 hq3 hq4 HQ
   by_cases hlt:k < n0
   case neg=>
    obtain rfl:k=n0:=by omega
    have h0i:¬ (k:Int) < (k:Int):=by omega
    have HF:=hid HS.out.fin
    rw [HBL.out] at HF
    have HI:=hid (own_gin layPe HLN.out.symm HO.out)
    clear HS HO
    by_cases hp:p=m
    ·subst hp
     have HE4:Hid (E=(ls,0)):=hid (by rw [HF.out,if_pos rfl])
     clear HF
     go_wp2_with fail
     go_ret2
     rw [HE4.out]
     exact ⟨va,vc,by rw [HLN.out]; rfl,HI.out,HB.out⟩
    ·have hpe2:((p:Int) != (m:Int))=true:=by simp; omega
     have HE4:Hid (E=([],13)):=hid (by rw [HF.out,if_neg hp])
     clear HF hp
     go_wp2_with fail
     go_ret2
     rw [HE4.out]
     exact GotE.none 13 _ _ (HB.out.alloc HB.out.size _)
   case pos=>
   have h0i:(k:Int) < (n0:Int):=by omega
   have HC:=hid (cent_any b p wr (by rw [HBL.out]; exact hpm) (by rw [HBL.out]; exact hmn))
   unfold cval at HC
   go_wp2_with fail
   (with_reducible refine (HC.out).mono ?_)
   rintro e u6 ⟨x,p2,bad2,rfl,hx1,hx2,hp2,hb⟩
   have HX1:=hid hx1
   have HX2:=hid hx2
   have HP2:=hid hp2
   have hcs:cb < wr.heap.size:=HK.out.lt
   have hgs:=hb.size
   have HK6:=HK.out.below hb
   have HO6:=own_below HO.out hb
   have HB6:=HB.out.trans (hb.mono HB.out.size)
   obtain ⟨xb,hxb⟩:∃ xb,xb=u6.heap.size:=⟨_,rfl⟩
   clear hx1 hx2 hp2 hb HC HK HO HB c0 c1 c2
   obtain ⟨⟨d1,d2⟩,kd,⟨b1,b2⟩,off,len⟩:=x
   simp only [Pe.val] at *
   unfold cval
   obtain ⟨u8,hu8⟩:∃ u8,u8=(u6.alloc (.cells #[.int .u64 d1,.int .u64 d2,.int .i64 kd,.int .u64 b1,.int .u64 b2,.int .i64 (off:Int),.int .i64 (len:Int)] 53)).alloc (.cells #[.string ⟨b.toArray⟩,.int .i64 (p2:Int),.bool bad2] 84):=⟨_,rfl⟩
   have hb8:Below u6.heap.size u6 u8:=by rw [hu8]; exact ((Below.refl _ _).alloc (Nat.le_refl _) _).alloc (by simp) _
   have hx8:BK xb #[.int .u64 d1,.int .u64 d2,.int .i64 kd,.int .u64 b1,.int .u64 b2,.int .i64 (off:Int),.int .i64 (len:Int)] 53 u8:=by rw [hu8,hxb]; exact (BK.new _ _ _).alloc _
   have hr8:BK (xb + 1) #[.string ⟨b.toArray⟩,.int .i64 (p2:Int),.bool bad2] 84 u8:=by rw [hu8,hxb]; exact BK.new2 _ _ _ _
   have hk8:=HK6.below hb8
   have hb8w:=HB6.trans (hb8.mono HB6.size)
   have ho8:=own_below HO6 hb8
   have hgp:u8.grownBy (put3 u8 cb b p2 bad2) (some cb):=gown (gown (gset _ _ _ _) _ _) _ _
   have HK9:=hid (put3_law hk8 b p2 bad2)
   have HX9:=hid (put3_other hx8 (n:=cb) (by omega) b p2 bad2)
   have HO9:=hid (own_kept ho8 hgp (by omega))
   have HB9:=hid (put3_below hb8w HCB.out b p2 bad2)
   obtain ⟨u9,hu9⟩:∃ u9,u9=put3 u8 cb b p2 bad2:=⟨_,rfl⟩
   rw [<-hu9] at HK9 HX9 HO9 HB9
   unfold put3 at hu9
   obtain ⟨e0,e1,e2⟩:=BK.c3 (show BK _ #[.string ⟨b.toArray⟩,.int .i64 (p:Int),.bool false] _ _ from hk8)
   obtain ⟨fe0,fe1,fe2⟩:=BK.f3 (hk8)
   obtain ⟨r0,r1,r2⟩:=BK.c3 (show BK _ #[.string ⟨b.toArray⟩,.int .i64 (p2:Int),.bool bad2] _ _ from hr8)
   rw [hu8,hxb] at r0 r1 r2
   rw [hu8] at e0 e1 e2 fe0 fe1 fe2
   have hu98:=hu9
   rw [hu8] at hu98
   have HU9:=hid hu98
   have HXB:=hid hxb
   clear hu8 hb8 hx8 hr8 hk8 hb8w ho8 hgp hu9 hu98 hxb HK6 HO6 HB6
   go_wp2_with fail
   rw [<-HU9.out,<-HXB.out]
   clear HU9 HXB r0 r1 r2 e0 e1 e2 fe0 fe1 fe2
   have hxc:cb ≠ xb:=by have:=HX9.out.lt; intro e; rw [e] at HK9; have h1:=HK9.out; have h2:=HX9.out; unfold BK at h1 h2; rw [h1] at h2; cases h2
   go_loopw [11] (fun jv wr=>∃ (j:Nat),j<=k/\jv = .int .i64 (j:Int)/\Hid (BK cb #[.string ⟨b.toArray⟩,.int .i64 (p2:Int),.bool (bad2 || metB ls (d1,d2) j)] 84 wr)/\Hid (BK xb #[.int .u64 d1,.int .u64 d2,.int .i64 kd,.int .u64 b1,.int .u64 b2,.int .i64 (off:Int),.int .i64 (len:Int)] 53 wr)/\Hid (wr.ownsRow (cb + 1) 53 7 (.slice va k vc) k (gcs peCs ls))/\Hid (Below w.heap.size w wr)) (fun jv _=>k - (intOf jv).toNat)
   case atStart=>exact ⟨0,by omega,rfl,(by rw [metB_zero,Bool.or_false]; exact HK9),HX9,HO9,HB9⟩
   case round=>
    clear HK9 HX9 HO9 HB9
    obtain ⟨j,hj,rfl,HKI,HXI,HOI,HBI⟩:=hrel
    by_cases hjk:j < k
    ·have hjki:(j:Int) < (k:Int):=by omega
     have h1:j < ls.length:=by rw [HLN.out]; exact hjk
     obtain ⟨bl,ofl,haa,hltb,hc⟩:=(own_gin layPe HLN.out.symm HOI.out) j h1
     have y0:=hc 0 _ rfl
     have y1:=hc 1 _ rfl
     rw [Nat.add_zero] at y0
     have HMS:=hid (metB_succ (d:=(d1,d2)) h1)
     generalize ls[j]=y at y0 y1 HMS
     obtain ⟨⟨e1,e2⟩,ykd,yb,yo,yl⟩:=y
     simp only at y0 y1 HMS
     subst haa
     obtain ⟨bd,hbd⟩:∃ bd,bd=(bad2 || metB ls (d1,d2) j):=⟨_,rfl⟩
     rw [<-hbd] at HKI
     have heq:decide (((e1,e2):Int × Int)=(d1,d2))=(e1 == d1 && e2 == d2):=by
      rw [Bool.eq_iff_iff]; simp
     have HMS:Hid ((bad2 || metB ls (d1,d2) (j + 1))=(bd || (e1 == d1 && e2 == d2))):=hid (by rw [HMS.out,<-Bool.or_assoc,<-hbd,heq])
     have hqd:=fun W=>eql_dig e1 e2 d1 d2 W
     generalize (e1 == d1 && e2 == d2)=ev at HMS hqd
     clear hbd heq hc
     obtain ⟨c0,c1,c2⟩:=BK.c3 (show BK _ #[.string ⟨b.toArray⟩,.int .i64 (p2:Int),.bool bd] _ _ from HKI.out)
     obtain ⟨fc0,fc1,fc2⟩:=BK.f3 (HKI.out)
     obtain ⟨x0,x1,x2,x3,x4,x5,x6⟩:=BK.c7 (show BK _ #[.int .u64 d1,.int .u64 d2,.int .i64 kd,.int .u64 b1,.int .u64 b2,.int .i64 (off:Int),.int .i64 (len:Int)] _ _ from HXI.out)
     cases bd with
     | true=>
      rw [Bool.true_or] at HMS
      go_wp2_with fail
      go_region
      go_wp2_with fail
      go_roundw
      case rel=>exact ⟨j + 1,by omega,by go_num,hid (by rw [HMS.out]; exact (HKI.out.set 2 (.bool true)).below ((Below.refl _ _).drew)),hid ((HXI.out.other (c:=cb) (by omega) 2 (.bool true)).below ((Below.refl _ _).drew)),hid (own_below (own_kept HOI.out (gset _ _ _ _) (by omega)) ((Below.refl _ _).drew)),hid ((HBI.out.setCell (p:=⟨cb,2,none⟩) HCB.out (.bool true)).drew)⟩
      case measure=>simp [intOf]; omega
     | false=>
      rw [Bool.false_or] at HMS
      go_wp2_with fail
      go_region
      go_wp2_with fail
      go_roundw
      case rel=>exact ⟨j + 1,by omega,by go_num,hid (by rw [HMS.out]; exact (HKI.out.set 2 (.bool ev)).below ((Below.refl _ _).drew)),hid ((HXI.out.other (c:=cb) (by omega) 2 (.bool ev)).below ((Below.refl _ _).drew)),hid (own_below (own_kept HOI.out (gset _ _ _ _) (by omega)) ((Below.refl _ _).drew)),hid ((HBI.out.setCell (p:=⟨cb,2,none⟩) HCB.out (.bool ev)).drew)⟩
      case measure=>simp [intOf]; omega
    ·obtain rfl:j=k:=by omega
     have hjki:¬ (j:Int) < (j:Int):=by omega
     have HMA:Hid (metB ls (d1,d2) j=decide ((d1,d2) ∈ ls.map (·.d))):=hid (by rw [<-HLN.out,metB_all])
     have HQN:Hid (QSx b E n0 (j + 1) p2 (bad2 || metB ls (d1,d2) j) (ls ++ [⟨(d1,d2),kd,(b1,b2),off,len⟩])):=hid (by
      refine ⟨fun h=>?_,fun h=>?_,by rw [List.length_append,HLN.out]; rfl,HP2.out⟩
      ·simp only [Bool.or_eq_false_iff] at h
       obtain ⟨e1,e2⟩:=HX1.out h.1
       have e3:=h.2
       rw [HMA.out,decide_eq_false_iff_not] at e3
       rw [e2]
       exact HS.out.next hlt e1 e3
      ·cases hb2:bad2 with
       | true=>exact HS.out.none hlt (HX2.out hb2)
       | false=>
        rw [hb2,Bool.false_or,HMA.out,decide_eq_true_eq] at h
        exact HS.out.met hlt (HX1.out hb2).1 h)
     generalize (bad2 || metB ls (d1,d2) j)=bd at HKI HQN
     have hcl:=HKI.out.lt
     obtain ⟨v',W',hrun,hown',hg',_⟩:=append_pe HLN.out.symm HOI.out ⟨(d1,d2),kd,(b1,b2),off,len⟩ (by omega) (by omega)
     have HRUN:=hid hrun.out
     have HO5:=hid hown'
     have HK5:=hid ((HKI.out.alloc (.cells (peCs ⟨(d1,d2),kd,(b1,b2),off,len⟩).toArray 53)).grow hg' (fun g hg=>by have:=(HOI.out.lt g hg).1; omega))
     have HB5:Hid (Below w.heap.size w W'):=hid ((HBI.out.alloc HBI.out.size _).grown hg' (by simp; have:=HBI.out.size; omega) (fun g hg=>by have:=(HOI.out.lt g hg).1; have:=HCB.out; omega))
     obtain ⟨x0,x1,x2,x3,x4,x5,x6⟩:=BK.c7 (show BK _ #[.int .u64 d1,.int .u64 d2,.int .i64 kd,.int .u64 b1,.int .u64 b2,.int .i64 (off:Int),.int .i64 (len:Int)] _ _ from HXI.out)
     simp only [peCs] at HRUN
     clear hown' hg' hrun HX1 HX2 HP2 HS HMA HKI HXI HBI HOI
     go_wp2_with (at_builtin; refine Lib.wpList_append_run _ rfl _ _ _ _ rfl _ _ rfl rfl _ _ HRUN.out ?_)
     go_roundw
     case rel=>exact ⟨j + 1,p2,bd,_,by omega,by go_num,HQN,HK5,HO5,HB5⟩
     case measure=>simp [intOf] <;> omega
end Go.Proofs.YtijkieiihpiljaaGreat
