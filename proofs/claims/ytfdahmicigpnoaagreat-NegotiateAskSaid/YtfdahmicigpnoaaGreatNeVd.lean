/- The checks of negotiate.valid. -/
import Derived.Test.YtfdahmicigpnoaaGreatNeIn
set_option maxRecDepth 100000
set_option maxHeartbeats 16000000
open Go.Lib (hid)
namespace Go.Proofs.YtfdahmicigpnoaaGreat
open Go.RowKit Go.Shelf
set_option linter.unusedVariables false
theorem vd1_any (xs:List Itm) (tb:Nat) (t:Tk) (A:TkA) (w:World) (hk:BK tb (t.arr A) 67 w) (ht:TkIn w t A) (hb:TkB t) :
  Calls Tryz.prog 144 #[.pointer (some ⟨tb,0,none⟩)] w (GotIO xs (AscD t.want/\AscD t.common) w):=by
 obtain ⟨want,queue,asked,common,done⟩:=t
 obtain ⟨wa,wc,qa,qc,aa,ac,ca,cc⟩:=A
 obtain ⟨h1,h2,h3,h4,_,_,_,_⟩:=ht
 obtain ⟨l1,l2,l3,l4,o1,o2,o3,o4⟩:=hb
 simp only [Tk.arr] at *
 obtain ⟨nw,hnw⟩:∃ n,n=want.length:=⟨_,rfl⟩
 obtain ⟨nq,hnq⟩:∃ n,n=queue.length:=⟨_,rfl⟩
 obtain ⟨na,hna⟩:∃ n,n=asked.length:=⟨_,rfl⟩
 obtain ⟨nc,hnc⟩:∃ n,n=common.length:=⟨_,rfl⟩
 have HA1:=hid (asc_any wa want wc w h1 (by omega))
 have HA2:=hid (fun W (hW:Below w.heap.size w W)=>asc_any ca common cc W (h4.ahead hW) (by omega))
 rw [<-hnw] at HA1
 rw [<-hnc] at HA2
 rw [<-hnw,<-hnq,<-hna,<-hnc] at hk
 have HK:=hid hk
 clear hnw hnq hna hnc h1 h2 h3 h4 l1 l2 l3 l4 o1 o2 o3 o4 hk
 obtain ⟨k0,k1,k2,k3,k4⟩:=BK.c5 (show BK _ #[.slice wa nw wc,.slice qa nq qc,.slice aa na ac,.slice ca nc cc,.bool done] _ _ from HK.out)
 go_enter Tryz.func144,Tryz.ntmps144
 go_wp2_with fail
 (with_reducible refine (HA1.out).mono ?_)
 rintro e u ⟨b,rfl,hbi,hb⟩
 have HB1:=hid hb
 have HK1:=hid (HK.out.below hb)
 have HC:=hid (HA2.out u hb)
 clear hb HA1 HA2 k0 k1 k2 k3 k4
 cases b with
 | false=>
  have HNO:Hid (¬ (AscD want/\AscD common)):=hid (fun h=>by have:=hbi.2 h.1; cases this)
  clear hbi
  go_wp2_with fail
  go_ret
  exact GotIO.no HNO.out HB1.out
 | true=>
  have HW:=hid (hbi.1 rfl)
  clear hbi
  obtain ⟨k0,k1,k2,k3,k4⟩:=BK.c5 (show BK _ #[.slice wa nw wc,.slice qa nq qc,.slice aa na ac,.slice ca nc cc,.bool done] _ _ from HK1.out)
  go_wp2_with fail
  (with_reducible refine (HC.out).mono ?_)
  rintro e u2 ⟨b,rfl,hbi,hb⟩
  have HB2:=hid (HB1.out.trans (hb.mono HB1.out.size))
  have HI:=hid hbi
  clear hbi hb HC
  go_wp2_with fail
  go_ret
  exact ⟨b,rfl,⟨fun e=>⟨HW.out,HI.out.1 e⟩,fun e=>HI.out.2 e.2⟩,HB2.out⟩
theorem vd2_any (a:Option Addr) (xs:List Itm) (c:Nat) (pb tb:Nat) (t:Tk) (A:TkA) (w:World) (hp:PoolIn w a xs c) (hA:Asc xs) (hac:AcyS xs) (hxl:(xs.length:Int)<=500) (hkp:BK pb #[.slice a xs.length c] 23 w) (hk:BK tb (t.arr A) 67 w) (ht:TkIn w t A) (hb:TkB t) :
  Calls Tryz.prog 146 #[.pointer (some ⟨pb,0,none⟩),.pointer (some ⟨tb,0,none⟩)] w (GotIO xs (InOrd xs t) w):=by
 have HC:=hid (inOrder_any a xs c t A w hp hA hac hxl ht hb)
 obtain ⟨want,queue,asked,common,done⟩:=t
 obtain ⟨wa,wc,qa,qc,aa,ac,ca,cc⟩:=A
 obtain ⟨h1,h2,h3,h4,_,_,_,_⟩:=ht
 obtain ⟨l1,l2,l3,l4,o1,o2,o3,o4⟩:=hb
 simp only [Tk.arr] at *
 obtain ⟨nw,hnw⟩:∃ n,n=want.length:=⟨_,rfl⟩
 obtain ⟨nq,hnq⟩:∃ n,n=queue.length:=⟨_,rfl⟩
 obtain ⟨na,hna⟩:∃ n,n=asked.length:=⟨_,rfl⟩
 obtain ⟨nc,hnc⟩:∃ n,n=common.length:=⟨_,rfl⟩
 simp only [Tk.val,Tk.arr] at HC
 generalize xs.length=nx at HC hkp
 rw [<-hnw,<-hnq,<-hna,<-hnc] at HC hk
 have HK:=hid hk
 have HKP:=hid hkp
 clear hnw hnq hna hnc h1 h2 h3 h4 l1 l2 l3 l4 o1 o2 o3 o4 hk hkp hp hA hac hxl
 obtain ⟨k0,k1,k2,k3,k4⟩:=BK.c5 (show BK _ #[.slice wa nw wc,.slice qa nq qc,.slice aa na ac,.slice ca nc cc,.bool done] _ _ from HK.out)
 have p0:=BK.c1 (show BK _ #[.slice a nx c] _ _ from HKP.out)
 go_enter Tryz.func146,Tryz.ntmps146
 go_wp2_with fail
 (with_reducible refine (HC.out).mono ?_)
 rintro e u ⟨b,rfl,hbi,hb⟩
 have HB1:=hid hb
 have HI:=hid hbi
 clear hb HC hbi k0 k1 k2 k3 k4 p0
 go_wp2_with fail
 go_ret
 exact ⟨b,rfl,HI.out,HB1.out⟩
theorem vd4_any (a:Option Addr) (xs:List Itm) (c:Nat) (pb tb:Nat) (t:Tk) (A:TkA) (w:World) (hp:PoolIn w a xs c) (hA:Asc xs) (hac:AcyS xs) (hxl:(xs.length:Int)<=500) (hkp:BK pb #[.slice a xs.length c] 23 w) (hk:BK tb (t.arr A) 67 w) (ht:TkIn w t A) (hb:TkB t) :
  Calls Tryz.prog 149 #[.pointer (some ⟨pb,0,none⟩),.pointer (some ⟨tb,0,none⟩)] w (GotIO xs (Sep xs t) w):=by
 have HC:=hid (separate_any a xs c t A w hp hA hac hxl ht hb)
 obtain ⟨want,queue,asked,common,done⟩:=t
 obtain ⟨wa,wc,qa,qc,aa,ac,ca,cc⟩:=A
 obtain ⟨h1,h2,h3,h4,_,_,_,_⟩:=ht
 obtain ⟨l1,l2,l3,l4,o1,o2,o3,o4⟩:=hb
 simp only [Tk.arr] at *
 obtain ⟨nw,hnw⟩:∃ n,n=want.length:=⟨_,rfl⟩
 obtain ⟨nq,hnq⟩:∃ n,n=queue.length:=⟨_,rfl⟩
 obtain ⟨na,hna⟩:∃ n,n=asked.length:=⟨_,rfl⟩
 obtain ⟨nc,hnc⟩:∃ n,n=common.length:=⟨_,rfl⟩
 simp only [Tk.val,Tk.arr] at HC
 generalize xs.length=nx at HC hkp
 rw [<-hnw,<-hnq,<-hna,<-hnc] at HC hk
 have HK:=hid hk
 have HKP:=hid hkp
 clear hnw hnq hna hnc h1 h2 h3 h4 l1 l2 l3 l4 o1 o2 o3 o4 hk hkp hp hA hac hxl
 obtain ⟨k0,k1,k2,k3,k4⟩:=BK.c5 (show BK _ #[.slice wa nw wc,.slice qa nq qc,.slice aa na ac,.slice ca nc cc,.bool done] _ _ from HK.out)
 have p0:=BK.c1 (show BK _ #[.slice a nx c] _ _ from HKP.out)
 go_enter Tryz.func149,Tryz.ntmps149
 go_wp2_with fail
 (with_reducible refine (HC.out).mono ?_)
 rintro e u ⟨b,rfl,hbi,hb⟩
 have HB1:=hid hb
 have HI:=hid hbi
 clear hb HC hbi k0 k1 k2 k3 k4 p0
 go_wp2_with fail
 go_ret
 exact ⟨b,rfl,HI.out,HB1.out⟩
theorem nil_iff (l:List (Int × Int)):decide (l=[])=decide (l.length=0):=by
 cases l <;> simp
theorem vd5_any (xs:List Itm) (tb ib:Nat) (t:Tk) (A:TkA) (w:World) (hk:BK tb (t.arr A) 67 w) (hi:BK ib #[.bool (Idle t)] 4 w) :
  Calls Tryz.prog 151 #[.pointer (some ⟨tb,0,none⟩),.pointer (some ⟨ib,0,none⟩)] w (GotIO xs (t.done=(decide (t.want=[]) || Idle t)) w):=by
 generalize Idle t=I at hi ⊢
 obtain ⟨want,queue,asked,common,done⟩:=t
 obtain ⟨wa,wc,qa,qc,aa,ac,ca,cc⟩:=A
 simp only [Tk.arr] at *
 rw [nil_iff]
 generalize want.length=nw at hk ⊢
 generalize queue.length=nq at hk
 generalize asked.length=na at hk
 generalize common.length=nc at hk
 obtain ⟨k0,k1,k2,k3,k4⟩:=BK.c5 (show BK _ #[.slice wa nw wc,.slice qa nq qc,.slice aa na ac,.slice ca nc cc,.bool done] _ _ from hk)
 have i0:=BK.c1 (show BK _ #[.bool I] _ _ from hi)
 clear hk hi
 by_cases h:nw=0
 ·subst h
  go_enter Tryz.func151,Tryz.ntmps151
  go_wp2_with fail
  go_ret
  exact ⟨_,rfl,by cases done <;> simp,Below.refl _ _⟩
 ·have hb:((nw:Int) == 0)=false:=by simpa using h
  have hd:decide (nw=0)=false:=by simpa using h
  rw [hd]
  clear hd h
  go_enter Tryz.func151,Tryz.ntmps151
  go_wp2_with fail
  go_ret
  exact ⟨_,rfl,by cases done <;> cases I <;> simp,Below.refl _ _⟩
theorem vd6_any (xs:List Itm) (tb ib:Nat) (t:Tk) (A:TkA) (w:World) (hk:BK tb (t.arr A) 67 w) (hi:BK ib #[.bool (Idle t)] 4 w) :
  Calls Tryz.prog 152 #[.pointer (some ⟨tb,0,none⟩),.pointer (some ⟨ib,0,none⟩)] w (GotIO xs ((!decide (t.want=[]) || Idle t)=true) w):=by
 generalize Idle t=I at hi ⊢
 obtain ⟨want,queue,asked,common,done⟩:=t
 obtain ⟨wa,wc,qa,qc,aa,ac,ca,cc⟩:=A
 simp only [Tk.arr] at *
 rw [nil_iff]
 generalize want.length=nw at hk ⊢
 generalize queue.length=nq at hk
 generalize asked.length=na at hk
 generalize common.length=nc at hk
 obtain ⟨k0,k1,k2,k3,k4⟩:=BK.c5 (show BK _ #[.slice wa nw wc,.slice qa nq qc,.slice aa na ac,.slice ca nc cc,.bool done] _ _ from hk)
 have i0:=BK.c1 (show BK _ #[.bool I] _ _ from hi)
 clear hk hi
 by_cases h:nw=0
 ·subst h
  go_enter Tryz.func152,Tryz.ntmps152
  go_wp2_with fail
  go_ret
  exact ⟨_,rfl,by simp,Below.refl _ _⟩
 ·have hb:(0:Int) < (nw:Int):=by omega
  go_enter Tryz.func152,Tryz.ntmps152
  go_wp2_with fail
  go_ret
  exact ⟨_,rfl,by simp [h],Below.refl _ _⟩
end Go.Proofs.YtfdahmicigpnoaaGreat
