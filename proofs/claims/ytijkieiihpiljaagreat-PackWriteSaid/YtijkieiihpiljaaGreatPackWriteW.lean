/- The walk of the statement PackWrite. -/
import Derived.Test.YtijkieiihpiljaaGreatPkLw
import Derived.Test.YtijkieiihpiljaaGreatPkKg
set_option maxRecDepth 100000
set_option maxHeartbeats 16000000
open Go.Lib (hid)
namespace Go.Proofs.YtijkieiihpiljaaGreat.packWrite
open Go.RowKit Go.Shelf
set_option linter.unusedVariables false
theorem walk (a:Option Addr) (xs:List Itm) (c:Nat) (la:Option Addr) (l:List (Int × Int)) (lc:Nat) (ba:Option Addr) (base:List (Int × Int)) (bc:Nat) (w:World) (hp:PoolCame w a xs c) (hl:Digs w.heap.size w la l) (hlc:l.length<=lc/\lc<=maxLen) (hlo:∀ d ∈ l,OkD d) (hb:Digs w.heap.size w ba base) (hbc:base.length<=bc/\bc<=maxLen) (hbo:∀ d ∈ base,OkD d) :
  Calls Tryz.prog 3 #[.slice a xs.length c,.slice la l.length lc,.slice ba base.length bc] w fun e w'=>e = .returned (.bool true)/\Below w.heap.size w w':=by
 have HAW:=hid awake10_any
 have HCS:=hid (small2_any hp la ba l.length base.length lc bc (by omega) (by omega))
 have HP1:=hid (fun (hs:sm2 xs l.length base.length=true) W (hW:Below w.heap.size w W)=>pack_any (lc:=lc) (bc:=bc) ((sm2_ok hs).pool hp) (hp.its.ahead hW) (hl.ahead hW) (hb.ahead hW) hlo hbo (by have:=(sm2_ok hs).m; omega) (by have:=(sm2_ok hs).k; omega))
 have HP2:=hid (fun (hs:sm2 xs l.length base.length=true) W (hW:Below w.heap.size w W)=>rpackw_any (bc:=bc) ((sm2_ok hs).pool hp) (hp.its.ahead hW) (hl.ahead hW) (hb.ahead hW) hlo hbo (by have:=(sm2_ok hs).m; omega) hlc.1 (by have:=(sm2_ok hs).k; omega))
 obtain ⟨b,hbs⟩:∃ b,b=sm2 xs l.length base.length:=⟨_,rfl⟩
 rw [<-hbs] at HCS HP1 HP2
 generalize packS xs l base=R1 at HP1 HP2
 obtain ⟨T1,e1⟩:=R1
 simp only at HP1 HP2
 clear hbs hl hb hlo hbo hp
 generalize xs.length=n at HCS HP1 HP2 ⊢
 generalize l.length=m at hlc HCS HP1 HP2 ⊢
 generalize base.length=k at hbc HCS HP1 HP2 ⊢
 clear hlc hbc
 cases b with
 | false=>
  clear HP1 HP2
  go_enter Tryz.func3,Tryz.ntmps3
  go_wp2_with fail
  (with_reducible refine (HCS.out).mono ?_)
  rintro e u ⟨rfl,hb⟩
  have HB1:=hid hb
  have HC:=hid (HAW.out u)
  clear hb
  go_wp2_with fail
  (with_reducible refine (HC.out).mono ?_)
  rintro e u2 ⟨rfl,hb⟩
  have HB2:=hid (HB1.out.trans (hb.mono HB1.out.size))
  clear hb HC
  go_wp2_with fail
  go_ret
  exact ⟨rfl,HB2.out⟩
 | true=>
  go_enter Tryz.func3,Tryz.ntmps3
  go_wp2_with fail
  (with_reducible refine (HCS.out).mono ?_)
  rintro e u ⟨rfl,hb⟩
  have HB1:=hid hb
  have HC:=hid (HP1.out (by first | rfl | trivial) u hb)
  clear hb HCS HP1
  go_wp2_with fail
  (with_reducible refine (HC.out).mono ?_)
  rintro e u2 ⟨rfl,hb⟩
  have HB2:=hid (HB1.out.trans (hb.mono HB1.out.size))
  have HC2:=hid (HP2.out (by first | rfl | trivial) u2 HB2.out)
  clear hb HC HP2
  go_wp2_with fail
  (with_reducible refine (HC2.out).mono ?_)
  rintro e u3 ⟨rfl,hb⟩
  have HB3:=hid (HB2.out.trans (hb.mono HB2.out.size))
  have HC3:=hid (HAW.out u3)
  clear hb HC2 HAW
  have h1:(T1 == T1)=true:=by simp
  have h2:(e1 == e1)=true:=by simp
  go_wp2_with fail
  (with_reducible refine (HC3.out).mono ?_)
  rintro e u4 ⟨rfl,hb⟩
  have HB4:=hid (HB3.out.trans (hb.mono HB3.out.size))
  clear hb HC3
  go_wp2_with fail
  go_ret
  exact ⟨rfl,HB4.out⟩
end Go.Proofs.YtijkieiihpiljaaGreat.packWrite
