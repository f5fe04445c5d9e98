/- The walk of the statement NegotiateServe. -/
import Derived.Test.YtdeggadmbjkpfaaGreatNeRt
import Derived.Test.YtdeggadmbjkpfaaGreatNeAn
import Derived.Test.YtdeggadmbjkpfaaGreatNeSe
import Derived.Test.YtdeggadmbjkpfaaGreatNeAw
import Derived.Test.YtdeggadmbjkpfaaGreatNeLv
set_option maxRecDepth 100000
set_option maxHeartbeats 16000000
namespace Go.Proofs.YtdeggadmbjkpfaaGreat.negotiateServe
open Go.RowKit Go.Shelf
set_option linter.unusedVariables false
theorem send_len {xs:List Itm} {want com:List (Int × Int)} (h:((reachS xs want).1.length:Int) ≤ 100000):((sendS xs want com).1.length:Int) ≤ 100000:=by
 unfold sendS
 split
 ·simp
 ·split
  ·simp
  ·have:=List.length_filter_le (fun d=>!decide (d ∈ (reachS xs com).1)) (reachS xs want).1
   simp only
   omega
theorem walk (a:Option Addr) (xs:List Itm) (c:Nat) (wa:Option Addr) (want:List (Int × Int)) (wc:Nat) (ca:Option Addr) (com:List (Int × Int)) (cc:Nat) (w:World) (hp:PoolCame w a xs c) (hw:Digs w.heap.size w wa want) (hwc:want.length ≤ wc ∧ wc ≤ maxLen) (hwo:∀ d ∈ want,OkD d) (hc:Digs w.heap.size w ca com) (hcc:com.length ≤ cc ∧ cc ≤ maxLen) (hco:∀ d ∈ com,OkD d) :
  Calls Tryz.prog 5 #[.slice a xs.length c,.slice wa want.length wc,.slice ca com.length cc] w fun e w'=>e = .returned (.bool true) ∧ Below w.heap.size w w':=by
 have hml:=hp.cap
 unfold maxLen at hml hwc hcc
 have hcap:xs.length ≤ c:=by omega
 have HVA:=Lib.hid (valid15_any a xs c w hp.its (by omega) (fun x hx=>by have:=(hp.dat x hx).2; unfold maxLen at this; omega))
 have HAW:=Lib.hid awake15_any
 have HIT:=Lib.hid hp.its
 have HDW:=Lib.hid hw
 have HDC:=Lib.hid hc
 obtain ⟨nw,hnw⟩:∃ n,n=want.length:=⟨_,rfl⟩
 obtain ⟨nc,hnc⟩:∃ n,n=com.length:=⟨_,rfl⟩
 have hnwl:(nw:Int) ≤ 9223372036854775807:=by omega
 have hncl:(nc:Int) ≤ 9223372036854775807:=by omega
 have hwcap:=hwc.1
 clear hp hml hw hc
 cases hv:validS xs with
 | false=>
  rw [← hnw,← hnc]
  rw [hv] at HVA
  clear hnw hnc HIT HDW HDC hwc hcc hwo hco hv hcap hwcap
  generalize xs.length=n at HVA ⊢
  go_enter Tryz.func5,Tryz.ntmps5
  go_wp2_with fail
  (with_reducible refine (HVA.out).mono ?_)
  rintro e u ⟨rfl,hb⟩
  have HB1:=Lib.hid hb
  have HA1:=Lib.hid (HAW.out u)
  clear hb HVA
  go_wp2_with fail
  (with_reducible refine (HA1.out).mono ?_)
  rintro e u2 ⟨rfl,hb⟩
  have HB2:=Lib.hid (HB1.out.trans (hb.mono HB1.out.size))
  clear hb
  go_wp2_with fail
  go_ret
  exact ⟨rfl,HB2.out⟩
 | true=>
  rw [hv] at HVA
  have hV:=validS_true hv
  have HV:=Lib.hid hV
  clear hv
  by_cases hn1:20 < nw
  ·rw [← hnw,← hnc]
   have hi1:(20:Int) < (nw:Int):=by omega
   clear hnw hnc HIT HDW HDC hwc hcc hwo hco hcap hwcap hV
   generalize xs.length=n at HVA ⊢
   go_enter Tryz.func5,Tryz.ntmps5
   go_wp2_with fail
   (with_reducible refine (HVA.out).mono ?_)
   rintro e u ⟨rfl,hb⟩
   have HB1:=Lib.hid hb
   have HA1:=Lib.hid (HAW.out u)
   clear hb HVA
   go_wp2_with fail
   (with_reducible refine (HA1.out).mono ?_)
   rintro e u2 ⟨rfl,hb⟩
   have HB2:=Lib.hid (HB1.out.trans (hb.mono HB1.out.size))
   clear hb
   go_wp2_with fail
   go_ret
   exact ⟨rfl,HB2.out⟩
  ·have hi1:¬ (20:Int) < (nw:Int):=by omega
   by_cases hn2:20 < nc
   ·rw [← hnw,← hnc]
    have hi2:(20:Int) < (nc:Int):=by omega
    clear hnw hnc HIT HDW HDC hwc hcc hwo hco hcap hwcap hV
    generalize xs.length=n at HVA ⊢
    go_enter Tryz.func5,Tryz.ntmps5
    go_wp2_with fail
    (with_reducible refine (HVA.out).mono ?_)
    rintro e u ⟨rfl,hb⟩
    have HB1:=Lib.hid hb
    have HA1:=Lib.hid (HAW.out u)
    clear hb HVA
    go_wp2_with fail
    (with_reducible refine (HA1.out).mono ?_)
    rintro e u2 ⟨rfl,hb⟩
    have HB2:=Lib.hid (HB1.out.trans (hb.mono HB1.out.size))
    clear hb
    go_wp2_with fail
    go_ret
    exact ⟨rfl,HB2.out⟩
   ·have hi2:¬ (20:Int) < (nc:Int):=by omega
    have hle:=hV.le
    have hd1:∀ x ∈ xs,(x.data.length:Int) ≤ 1000000:=fun x hx=>by have:=hV.dat x hx; omega
    have HPI:=Lib.hid (fun W (hW:Below w.heap.size w W)=>hV.pin (W:=W) (a:=a) (c:=c) (HIT.out.ahead hW) hcap)
    have HC1:=Lib.hid (fun W (hW:Below w.heap.size w W)=>send_any a xs c wa want wc ca com cc W (HPI.out W hW) hV.asc hle (HDW.out.ahead hW) hwo (by omega) (HDC.out.ahead hW) hco (by omega))
    have HC2:=Lib.hid (fun W (hW:Below w.heap.size w W)=>rsend_any a xs c wa want wc ca com cc W (HIT.out.ahead hW) hV.asc hd1 hle (HDW.out.ahead hW) hwo (by omega) (HDC.out.ahead hW) hco (by omega))
    have HC3:=Lib.hid (fun W (hW:Below w.heap.size w W)=>answer_any a xs c wa want wc W (HPI.out W hW) hV.asc hV.acy (by omega) (HDW.out.ahead hW) hwo (by omega))
    have HC4:=Lib.hid (fun W (hW:Below w.heap.size w W)=>ranswer_any a xs c wa want wc W (HIT.out.ahead hW) hV.asc hV.acy (by omega) hd1 (HDW.out.ahead hW) hwo (by omega) hwcap)
    have hsl:((sendS xs want com).1.length:Int) ≤ 100000:=send_len (reach_facts (xs:=xs) (l:=want) hle (by omega) hwo).1
    have hal:((answS xs want).length:Int) ≤ 20:=by have:=answS_len xs want; omega
    rw [← hnw] at HC1 HC2 HC3 HC4 ⊢
    rw [← hnc] at HC1 HC2 ⊢
    generalize sendS xs want com=SR at HC1 HC2 hsl
    generalize answS xs want=AS at HC3 HC4 hal
    obtain ⟨sl,se⟩:=SR
    simp only at hsl
    obtain ⟨ns,hns⟩:∃ n,n=sl.length:=⟨_,rfl⟩
    obtain ⟨na,hna⟩:∃ n,n=AS.length:=⟨_,rfl⟩
    have HNS:=Lib.hid hns
    have HNA:=Lib.hid hna
    rw [← hns] at hsl
    rw [← hna] at hal
    clear hnw hnc HIT HDW HDC hwc hcc hwo hco hcap hwcap hV hle hd1 HPI hns hna
    generalize xs.length=n at HVA HC1 HC2 HC3 HC4 ⊢
    go_enter Tryz.func5,Tryz.ntmps5
    go_wp2_with fail
    (with_reducible refine (HVA.out).mono ?_)
    rintro e u ⟨rfl,hb⟩
    have HB1:=Lib.hid hb
    have HX1:=Lib.hid (HC1.out u hb)
    clear hb HVA HC1
    go_wp2_with fail
    (with_reducible refine (HX1.out).mono ?_)
    rintro e u1 ⟨sa,sc,rfl,hown,hb⟩
    simp only at hown ⊢
    rw [← HNS.out]
    have HB2:=Lib.hid (HB1.out.trans (hb.mono HB1.out.size))
    have HX2:=Lib.hid (HC2.out u1 HB2.out)
    have HS2:=Lib.hid (ownsRow_digs hown)
    clear hown hb HX1 HB1 HC2
    go_wp2_with fail
    (with_reducible refine (HX2.out).mono ?_)
    rintro e u2 ⟨ra,rc,rfl,hdg,hrc,hb⟩
    simp only at hdg hrc ⊢
    rw [← HNS.out] at hrc ⊢
    have HB3:=Lib.hid (HB2.out.trans (hb.mono HB2.out.size))
    have HX3:=Lib.hid (HC3.out u2 HB3.out)
    have HS3:=Lib.hid (HS2.out.ahead hb)
    have HR3:=Lib.hid hdg
    clear hdg hb HX2 HB2 HC3 HS2
    go_wp2_with fail
    (with_reducible refine (HX3.out).mono ?_)
    rintro e u3 ⟨⟨pa,pc,rfl,hown,hb⟩,_⟩
    rw [← HNA.out]
    have HB4:=Lib.hid (HB3.out.trans (hb.mono HB3.out.size))
    have HX4:=Lib.hid (HC4.out u3 HB4.out)
    have HS4:=Lib.hid (HS3.out.ahead hb)
    have HR4:=Lib.hid (HR3.out.ahead hb)
    have HP4:=Lib.hid (ownsRow_digs hown)
    clear hown hb HX3 HB3 HC4 HS3 HR3
    go_wp2_with fail
    (with_reducible refine (HX4.out).mono ?_)
    rintro e u4 ⟨qa,qc,rfl,hown,hb⟩
    rw [← HNA.out]
    have HB5:=Lib.hid (HB4.out.trans (hb.mono HB4.out.size))
    have HS5:=Lib.hid (HS4.out.ahead hb)
    have HR5:=Lib.hid (HR4.out.ahead hb)
    have HX5:=Lib.hid (same13_any pa qa AS AS pc qc u4 (HP4.out.ahead hb) (ownsRow_digs hown) (by rw [← HNA.out]; omega))
    rw [← HNA.out,show decide (AS=AS)=true by simp] at HX5
    clear hown hb HX4 HB4 HS4 HR4 HP4
    go_wp2_with fail
    (with_reducible refine (HX5.out).mono ?_)
    rintro e u5 ⟨rfl,hb⟩
    have HB6:=Lib.hid (HB5.out.trans (hb.mono HB5.out.size))
    have HX6:=Lib.hid (same13_any sa ra sl sl sc rc u5 (HS5.out.ahead hb) (HR5.out.ahead hb) (by rw [← HNS.out]; omega))
    rw [← HNS.out] at HX6
    have hdt:decide (sl=sl)=true:=by simp
    rw [hdt] at HX6
    clear hb HX5 HB5 HS5 HR5 hdt
    go_wp2_with fail
    (with_reducible refine (HX6.out).mono ?_)
    rintro e u6 ⟨rfl,hb⟩
    have HB7:=Lib.hid (HB6.out.trans (hb.mono HB6.out.size))
    have HX7:=Lib.hid (HAW.out u6)
    clear hb HX6 HB6
    go_wp2_with fail
    (with_reducible refine (HX7.out).mono ?_)
    rintro e u7 ⟨rfl,hb⟩
    have HB8:=Lib.hid (HB7.out.trans (hb.mono HB7.out.size))
    clear hb HX7 HB7
    go_wp2_with fail
    go_ret
    exact ⟨rfl,HB8.out⟩
end Go.Proofs.YtdeggadmbjkpfaaGreat.negotiateServe
