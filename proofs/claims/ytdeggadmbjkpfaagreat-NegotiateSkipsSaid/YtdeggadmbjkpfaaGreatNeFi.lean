/- fine of the statements about negotiations. -/
import Derived.Test.YtdeggadmbjkpfaaGreatNeLv
import Derived.Test.YtdeggadmbjkpfaaGreatNeOp
import Derived.Test.YtdeggadmbjkpfaaGreatK7
import Derived.Test.YtdeggadmbjkpfaaGreatK9
set_option maxRecDepth 100000
set_option maxHeartbeats 16000000
namespace Go.Proofs.YtdeggadmbjkpfaaGreat
open Go.RowKit Go.Shelf Go.Sort
set_option linter.unusedVariables false
noncomputable def fineT (x:Tlk):Bool:=(validS x.cl && validS x.sv && decide (x.hd.length ≤ 20) && decide (x.wt.length ≤ 20)) && (decide ((ancS x.cl x.hd).2=0) && decide ((runS x.cl x.sv).2=0))
theorem fine15_any (x:Tlk) (A:TlA) (w:World) (h:TlCame w x A) :
  Calls Tryz.prog 25 #[.agg (x.arr A)] w fun e w'=>e = .returned (.bool (fineT x)) ∧ Below w.heap.size w w':=by
 obtain ⟨cl,sv,hd,wt,mo⟩:=x
 obtain ⟨ca,cc,sa,sc,ha,hc,wa,wc⟩:=A
 obtain ⟨h1,h2,h3,h4,_⟩:=h
 simp only at h1 h2 h3 h4
 have k1:=h1.cap
 have k2:=h2.cap
 have k3:=h3.cap
 have k4:=h4.cap
 unfold maxLen at k1 k2 k3 k4
 have HV1:=Lib.hid (fun W (hW:Below w.heap.size w W)=>valid15_any ca cl cc W (h1.its.ahead hW) (by omega) (fun x hx=>by have:=(h1.dat x hx).2; unfold maxLen at this; omega))
 have HV2:=Lib.hid (fun W (hW:Below w.heap.size w W)=>valid15_any sa sv sc W (h2.its.ahead hW) (by omega) (fun x hx=>by have:=(h2.dat x hx).2; unfold maxLen at this; omega))
 have HAN:=Lib.hid (fun (hv:HV cl) (hl:hd.length ≤ 20) W (hW:Below w.heap.size w W)=>rancestors_any ca cl cc ha hd hc W (h1.its.ahead hW) hv.asc hv.acy (by have:=hv.le; omega) (fun x hx=>by have:=hv.dat x hx; omega) (h3.dig.ahead hW) (by omega) h3.ok)
 have HUN:=Lib.hid (fun (hv:HV cl) (hv2:HV sv) W (hW:Below w.heap.size w W)=>runion_any ca sa cl sv cc sc W (h1.its.ahead hW) (h2.its.ahead hW) (by omega) hv.asc (by have:=hv.le; omega) (by have:=hv2.le; omega))
 obtain ⟨R,hR⟩:∃ R,R=fineT ⟨cl,sv,hd,wt,mo⟩:=⟨_,rfl⟩
 rw [← hR]
 unfold fineT at hR
 simp only at hR
 have HR:=Lib.hid hR
 simp only [Tlk.arr]
 have HT1:=Lib.hid (fun (h:validS cl=true)=>validS_true h)
 have HT2:=Lib.hid (fun (h:validS sv=true)=>validS_true h)
 generalize validS cl=b1 at HV1 HR HT1
 generalize validS sv=b2 at HV2 HR HT2
 generalize (ancS cl hd)=AR at HAN HR
 generalize (runS cl sv)=UR at HUN HR
 generalize cl.length=ncl at HV1 HAN HUN ⊢
 generalize sv.length=nsv at HV2 HUN ⊢
 generalize hd.length=nh at HAN HR ⊢
 generalize wt.length=nt at HR ⊢
 obtain ⟨w0,hw0⟩:∃ w0,w0=w.alloc (.cells #[.slice ca ncl cc,.slice sa nsv sc,.slice ha nh hc,.slice wa nt wc,.int .u8 mo] 45):=⟨_,rfl⟩
 have HB0:Hid (Below w.heap.size w w0):=Lib.hid (by rw [hw0]; exact (Below.refl _ _).alloc (Nat.le_refl _) _)
 have HK0:Hid (BK w.heap.size #[.slice ca ncl cc,.slice sa nsv sc,.slice ha nh hc,.slice wa nt wc,.int .u8 mo] 45 w0):=Lib.hid (by rw [hw0]; exact BK.new _ _ _)
 have HC1:=Lib.hid (HV1.out w0 HB0.out)
 rw [hw0] at HC1
 have HW0:=Lib.hid hw0
 clear hw0 hR h1 h2 h3 h4 k1 k2 k3 k4 HV1
 go_enter Tryz.func25,Tryz.ntmps25
 go_wp2_with fail
 (with_reducible refine (HC1.out).mono ?_)
 rintro e u ⟨rfl,hb⟩
 rw [← HW0.out] at hb
 have HB1:=Lib.hid (HB0.out.trans (hb.mono HB0.out.size))
 have HK1:=Lib.hid (HK0.out.below hb)
 clear hb HC1 HW0 HB0 HK0
 cases b1 with
 | false=>
  have HX:Hid (R=false):=Lib.hid (by rw [HR.out]; simp)
  clear HR HT1 HT2 HAN HUN
  go_wp2_with fail
  go_ret
  exact ⟨by rw [HX.out]; rfl,HB1.out⟩
 | true=>
  have HV:=Lib.hid (HT1.out rfl)
  have HC2:=Lib.hid (HV2.out u HB1.out)
  obtain ⟨k0,k1,k2,k3,k4⟩:=BK.c5 (show BK _ #[.slice ca ncl cc,.slice sa nsv sc,.slice ha nh hc,.slice wa nt wc,.int .u8 mo] _ _ from HK1.out)
  clear HT1 HV2
  go_wp2_with fail
  (with_reducible refine (HC2.out).mono ?_)
  rintro e u2 ⟨rfl,hb⟩
  have HB2:=Lib.hid (HB1.out.trans (hb.mono HB1.out.size))
  have HK2:=Lib.hid (HK1.out.below hb)
  clear hb HC2 HB1 HK1 k0 k1 k2 k3 k4
  cases b2 with
  | false=>
   have HX:Hid (R=false):=Lib.hid (by rw [HR.out]; simp)
   clear HR HT2 HAN HUN
   go_wp2_with fail
   go_ret
   exact ⟨by rw [HX.out]; rfl,HB2.out⟩
  | true=>
   have HVS:=Lib.hid (HT2.out rfl)
   obtain ⟨k0,k1,k2,k3,k4⟩:=BK.c5 (show BK _ #[.slice ca ncl cc,.slice sa nsv sc,.slice ha nh hc,.slice wa nt wc,.int .u8 mo] _ _ from HK2.out)
   by_cases hh:nh ≤ 20
   ·by_cases ht:nt ≤ 20
    ·have hhi:¬ (20:Int) < (nh:Int):=by omega
     have hti:¬ (20:Int) < (nt:Int):=by omega
     have HC3:=Lib.hid (HAN.out HV.out hh u2 HB2.out)
     have HX:Hid (R=(decide (AR.2=0) && decide (UR.2=0))):=Lib.hid (by rw [HR.out]; simp [hh,ht])
     obtain ⟨an,ea⟩:=AR
     obtain ⟨un,eu⟩:=UR
     simp only at HC3 HX HUN
     clear HR HT2 HAN hh ht
     go_wp2_with fail
     (with_reducible refine (HC3.out).mono ?_)
     rintro e u3 ⟨xa,xc,rfl,hdg,hxc,hb⟩
     simp only at hdg hxc ⊢
     have HB3:=Lib.hid (HB2.out.trans (hb.mono HB2.out.size))
     have HK3:=Lib.hid (HK2.out.below hb)
     have HC4:=Lib.hid (HUN.out HV.out HVS.out u3 HB3.out)
     clear hdg hxc hb HC3 HB2 HK2 k0 k1 k2 k3 k4 HUN HV HVS
     obtain ⟨k0,k1,k2,k3,k4⟩:=BK.c5 (show BK _ #[.slice ca ncl cc,.slice sa nsv sc,.slice ha nh hc,.slice wa nt wc,.int .u8 mo] _ _ from HK3.out)
     generalize an.length=nan
     go_wp2_with fail
     (with_reducible refine (HC4.out).mono ?_)
     rintro e u4 ⟨ya,yc,rfl,hits,hb⟩
     simp only at hits ⊢
     have HB4:=Lib.hid (HB3.out.trans (hb.mono HB3.out.size))
     generalize un.length=nun
     clear hits hb HC4 HB3 HK3 k0 k1 k2 k3 k4
     by_cases hea:ea=0
     ·subst hea
      by_cases heu:eu=0
      ·subst heu
       have HX2:Hid (R=true):=Lib.hid (by rw [HX.out]; simp)
       clear HX
       go_wp2_with fail
       go_ret
       exact ⟨by rw [HX2.out]; rfl,HB4.out⟩
      ·have hee:(eu == 0)=false:=by simpa using heu
       have HX2:Hid (R=false):=Lib.hid (by rw [HX.out]; simp [heu])
       clear HX heu
       go_wp2_with fail
       go_ret
       exact ⟨by rw [HX2.out]; rfl,HB4.out⟩
     ·have hee:(ea == 0)=false:=by simpa using hea
      have HX2:Hid (R=false):=Lib.hid (by rw [HX.out]; simp [hea])
      clear HX hea
      go_wp2_with fail
      go_ret
      exact ⟨by rw [HX2.out]; rfl,HB4.out⟩
    ·have hhi:¬ (20:Int) < (nh:Int):=by omega
     have hti:(20:Int) < (nt:Int):=by omega
     have HX:Hid (R=false):=Lib.hid (by rw [HR.out]; simp [ht])
     clear HR HT2 HAN HUN
     go_wp2_with fail
     go_ret
     exact ⟨by rw [HX.out]; rfl,HB2.out⟩
   ·have hhi:(20:Int) < (nh:Int):=by omega
    have HX:Hid (R=false):=Lib.hid (by rw [HR.out]; simp [hh])
    clear HR HT2 HAN HUN
    go_wp2_with fail
    go_ret
    exact ⟨by rw [HX.out]; rfl,HB2.out⟩
end Go.Proofs.YtdeggadmbjkpfaaGreat
