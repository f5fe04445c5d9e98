/- The reference: Same, Great. -/
import Derived.Test.YtfdahmicigpnoaaGreatNeRc
set_option maxRecDepth 100000
set_option maxHeartbeats 16000000
open Go.Lib (hid)
namespace Go.Proofs.YtfdahmicigpnoaaGreat
open Go.RowKit Go.Shelf
set_option linter.unusedVariables false
def greatT (t:Tk):Bool:=decide (20 < t.want.length) || decide (20 < t.queue.length) || decide (20 < t.asked.length) || decide (20 < t.common.length)
theorem tgreat_any (t:Tk) (A:TkA) (w:World) (hl:(t.want.length:Int)<=9223372036854775807/\(t.queue.length:Int)<=9223372036854775807/\(t.asked.length:Int)<=9223372036854775807/\(t.common.length:Int)<=9223372036854775807) :
  Calls Tryz.prog 32 #[t.val A] w fun e w'=>e = .returned (.bool (greatT t))/\Below w.heap.size w w':=by
 obtain ⟨want,queue,asked,common,done⟩:=t
 obtain ⟨wa,wc,qa,qc,aa,ac,ca,cc⟩:=A
 obtain ⟨R,hR⟩:∃ R,R=greatT ⟨want,queue,asked,common,done⟩:=⟨_,rfl⟩
 rw [<-hR]
 unfold greatT at hR
 simp only [Tk.val,Tk.arr] at hl hR ⊢
 generalize want.length=nw at hl hR ⊢
 generalize queue.length=nq at hl hR ⊢
 generalize asked.length=na at hl hR ⊢
 generalize common.length=nc at hl hR ⊢
 obtain ⟨l1,l2,l3,l4⟩:=hl
 have HR:=hid hR
 clear hR
 obtain ⟨w0,hw0⟩:∃ w0,w0=w.alloc (.cells #[.slice wa nw wc,.slice qa nq qc,.slice aa na ac,.slice ca nc cc,.bool done] 67):=⟨_,rfl⟩
 have HB0:Hid (Below w.heap.size w w0):=hid (by rw [hw0]; exact (Below.refl _ _).alloc (Nat.le_refl _) _)
 have hk:BK w.heap.size #[.slice wa nw wc,.slice qa nq qc,.slice aa na ac,.slice ca nc cc,.bool done] 67 w0:=by rw [hw0]; exact BK.new _ _ _
 obtain ⟨k0,k1,k2,k3,k4⟩:=BK.c5 (show BK _ #[.slice wa nw wc,.slice qa nq qc,.slice aa na ac,.slice ca nc cc,.bool done] _ _ from hk)
 rw [hw0] at k0 k1 k2 k3 k4
 have HW0:=hid hw0
 clear hw0 hk
 by_cases h1:20 < nw
 ·have i1:(20:Int) < (nw:Int):=by omega
  have HX:Hid (R=true):=hid (by rw [HR.out]; simp [h1])
  clear HR h1
  go_enter Tryz.func32,Tryz.ntmps32
  go_wp2_with fail
  go_ret
  rw [HX.out,<-HW0.out]
  exact ⟨rfl,HB0.out⟩
 have i1:¬ (20:Int) < (nw:Int):=by omega
 by_cases h2:20 < nq
 ·have i2:(20:Int) < (nq:Int):=by omega
  have HX:Hid (R=true):=hid (by rw [HR.out]; simp [h2])
  clear HR h1 h2
  go_enter Tryz.func32,Tryz.ntmps32
  go_wp2_with fail
  go_ret
  rw [HX.out,<-HW0.out]
  exact ⟨rfl,HB0.out⟩
 have i2:¬ (20:Int) < (nq:Int):=by omega
 by_cases h3:20 < na
 ·have i3:(20:Int) < (na:Int):=by omega
  have HX:Hid (R=true):=hid (by rw [HR.out]; simp [h3])
  clear HR h1 h2 h3
  go_enter Tryz.func32,Tryz.ntmps32
  go_wp2_with fail
  go_ret
  rw [HX.out,<-HW0.out]
  exact ⟨rfl,HB0.out⟩
 have i3:¬ (20:Int) < (na:Int):=by omega
 by_cases h4:20 < nc
 ·have i4:(20:Int) < (nc:Int):=by omega
  have HX:Hid (R=true):=hid (by rw [HR.out]; simp [h4])
  clear HR h1 h2 h3 h4
  go_enter Tryz.func32,Tryz.ntmps32
  go_wp2_with fail
  go_ret
  rw [HX.out,<-HW0.out]
  exact ⟨rfl,HB0.out⟩
 have i4:¬ (20:Int) < (nc:Int):=by omega
 have HX:Hid (R=false):=hid (by rw [HR.out]; simp [h1,h2,h3,h4])
 clear HR h1 h2 h3 h4
 go_enter Tryz.func32,Tryz.ntmps32
 go_wp2_with fail
 go_ret
 rw [HX.out,<-HW0.out]
 exact ⟨rfl,HB0.out⟩
theorem tsame_any (t:Tk) (A B:TkA) (w:World) (ha:TkDg w t A) (hb:TkDg w t B) (hl:(t.want.length:Int)<=1000000/\(t.queue.length:Int)<=1000000/\(t.asked.length:Int)<=1000000/\(t.common.length:Int)<=1000000) :
  Calls Tryz.prog 38 #[t.val A,t.val B] w fun e w'=>e = .returned (.bool true)/\Below w.heap.size w w':=by
 obtain ⟨want,queue,asked,common,done⟩:=t
 obtain ⟨wa,wc,qa,qc,aa,ac,ca,cc⟩:=A
 obtain ⟨xa,xc,ya,yc,za,zc,va,vc⟩:=B
 obtain ⟨h1,h2,h3,h4⟩:=ha
 obtain ⟨g1,g2,g3,g4⟩:=hb
 simp only [Tk.val,Tk.arr] at *
 obtain ⟨l1,l2,l3,l4⟩:=hl
 have HS1:=hid (fun W (hW:Below w.heap.size w W)=>same13_any wa xa want want wc xc W (h1.ahead hW) (g1.ahead hW) (by omega))
 have HS2:=hid (fun W (hW:Below w.heap.size w W)=>same13_any qa ya queue queue qc yc W (h2.ahead hW) (g2.ahead hW) (by omega))
 have HS3:=hid (fun W (hW:Below w.heap.size w W)=>same13_any aa za asked asked ac zc W (h3.ahead hW) (g3.ahead hW) (by omega))
 have HS4:=hid (fun W (hW:Below w.heap.size w W)=>same13_any ca va common common cc vc W (h4.ahead hW) (g4.ahead hW) (by omega))
 simp only [decide_true] at HS1 HS2 HS3 HS4
 generalize want.length=nw at HS1 ⊢
 generalize queue.length=nq at HS2 ⊢
 generalize asked.length=na at HS3 ⊢
 generalize common.length=nc at HS4 ⊢
 obtain ⟨w0,hw0⟩:∃ w0,w0=(w.alloc (.cells #[.slice wa nw wc,.slice qa nq qc,.slice aa na ac,.slice ca nc cc,.bool done] 67)).alloc (.cells #[.slice xa nw xc,.slice ya nq yc,.slice za na zc,.slice va nc vc,.bool done] 67):=⟨_,rfl⟩
 have HBX:Hid (BK w.heap.size #[.slice wa nw wc,.slice qa nq qc,.slice aa na ac,.slice ca nc cc,.bool done] 67 w0/\BK (w.heap.size + 1) #[.slice xa nw xc,.slice ya nq yc,.slice za na zc,.slice va nc vc,.bool done] 67 w0/\Below w.heap.size w w0):=hid (by rw [hw0]; exact box2)
 have HK0:=hid HBX.out.1
 have HL0:=hid HBX.out.2.1
 have HB0:=hid HBX.out.2.2
 have HC1:=hid (HS1.out w0 HB0.out)
 have hde:(done == done)=true:=by simp
 rw [hw0] at HC1
 have HW0:=hid hw0
 clear hw0 HBX h1 h2 h3 h4 g1 g2 g3 g4 l1 l2 l3 l4 HS1
 go_enter Tryz.func38,Tryz.ntmps38
 go_wp2_with fail
 (with_reducible refine (HC1.out).mono ?_)
 rintro e u1 ⟨rfl,hb⟩
 rw [<-HW0.out] at hb
 have HB1:=hid (HB0.out.trans (hb.mono HB0.out.size))
 have HK1:=hid (HK0.out.below hb)
 have HL1:=hid (HL0.out.below hb)
 have HC2:=hid (HS2.out u1 HB1.out)
 obtain ⟨k0,k1,k2,k3,k4⟩:=BK.c5 (show BK _ #[.slice wa nw wc,.slice qa nq qc,.slice aa na ac,.slice ca nc cc,.bool done] _ _ from HK1.out)
 obtain ⟨l0,l1,l2,l3,l4⟩:=BK.c5 (show BK _ #[.slice xa nw xc,.slice ya nq yc,.slice za na zc,.slice va nc vc,.bool done] _ _ from HL1.out)
 clear hb HB0 HK0 HL0 HC1 HS2 HW0
 go_wp2_with fail
 (with_reducible refine (HC2.out).mono ?_)
 rintro e u2 ⟨rfl,hb⟩
 have HB2:=hid (HB1.out.trans (hb.mono HB1.out.size))
 have HK2:=hid (HK1.out.below hb)
 have HL2:=hid (HL1.out.below hb)
 have HC3:=hid (HS3.out u2 HB2.out)
 clear k0 k1 k2 k3 k4 l0 l1 l2 l3 l4
 obtain ⟨k0,k1,k2,k3,k4⟩:=BK.c5 (show BK _ #[.slice wa nw wc,.slice qa nq qc,.slice aa na ac,.slice ca nc cc,.bool done] _ _ from HK2.out)
 obtain ⟨l0,l1,l2,l3,l4⟩:=BK.c5 (show BK _ #[.slice xa nw xc,.slice ya nq yc,.slice za na zc,.slice va nc vc,.bool done] _ _ from HL2.out)
 clear hb HB1 HK1 HL1 HC2 HS3
 go_wp2_with fail
 (with_reducible refine (HC3.out).mono ?_)
 rintro e u3 ⟨rfl,hb⟩
 have HB3:=hid (HB2.out.trans (hb.mono HB2.out.size))
 have HK3:=hid (HK2.out.below hb)
 have HL3:=hid (HL2.out.below hb)
 have HC4:=hid (HS4.out u3 HB3.out)
 clear k0 k1 k2 k3 k4 l0 l1 l2 l3 l4
 obtain ⟨k0,k1,k2,k3,k4⟩:=BK.c5 (show BK _ #[.slice wa nw wc,.slice qa nq qc,.slice aa na ac,.slice ca nc cc,.bool done] _ _ from HK3.out)
 obtain ⟨l0,l1,l2,l3,l4⟩:=BK.c5 (show BK _ #[.slice xa nw xc,.slice ya nq yc,.slice za na zc,.slice va nc vc,.bool done] _ _ from HL3.out)
 clear hb HB2 HK2 HL2 HC3 HS4
 go_wp2_with fail
 (with_reducible refine (HC4.out).mono ?_)
 rintro e u4 ⟨rfl,hb⟩
 have HB4:=hid (HB3.out.trans (hb.mono HB3.out.size))
 clear hb
 go_wp2_with fail
 go_ret
 exact ⟨rfl,HB4.out⟩
end Go.Proofs.YtfdahmicigpnoaaGreat
