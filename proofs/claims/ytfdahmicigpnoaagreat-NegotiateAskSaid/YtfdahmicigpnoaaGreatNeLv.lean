/- valid of the statements about negotiations. -/
import Derived.Test.YtfdahmicigpnoaaGreatK12
set_option maxRecDepth 100000
set_option maxHeartbeats 16000000
open Go.Lib (hid)
namespace Go.Proofs.YtfdahmicigpnoaaGreat
open Go.RowKit Go.Shelf Go.Sort
set_option linter.unusedVariables false
theorem valid15_any (a:Option Addr) (xs:List Itm) (c:Nat) (w:World) (hp:Its w.heap.size w a xs) (hl:(xs.length:Int)<=9223372036854775807) (hd:∀ x ∈ xs,(x.data.length:Int)<=9223372036854775807) :
  Calls Tryz.prog 31 #[.slice a xs.length c] w fun e w'=>e = .returned (.bool (validS xs))/\Below w.heap.size w w':=by
 have HG:=hid (pgreat_any a xs c w hp hl hd)
 obtain ⟨R,hR⟩:∃ R,R=validS xs:=⟨_,rfl⟩
 rw [<-hR]
 unfold validS at hR
 cases hg:pgreatS xs with
 | true=>
  rw [hg] at HG hR
  have HR:Hid (R=false):=hid (by rw [hR]; rfl)
  clear hR hg hp hl hd
  generalize xs.length=n at HG ⊢
  go_enter Tryz.func31,Tryz.ntmps31
  go_wp2_with fail
  (with_reducible refine (HG.out).mono ?_)
  rintro e u ⟨rfl,rfl⟩
  go_wp2_with fail
  go_ret
  exact ⟨by rw [HR.out]; rfl,Below.refl _ _⟩
 | false=>
  rw [hg] at HG hR
  obtain ⟨h1,h2⟩:=pgreatS_false hg
  have HC:=hid (rpcheck_any a xs c w hp (by omega) (fun x hx=>by have:=h2 x hx; omega))
  by_cases hc:checkP xs=0
  ·rw [hc] at HC
   have HY:=hid (fun W (hW:Below w.heap.size w W)=>rcycle_any a xs c W (hp.ahead hW) (checkP_zero hc).2 (by omega) (fun x hx=>by have:=h2 x hx; omega))
   have HR:Hid (R = !cycS xs):=hid (by rw [hR,hc]; simp)
   clear hR hg hp hl hd h1 h2 hc
   generalize xs.length=n at HG HC HY ⊢
   generalize cycS xs=cy at HY HR
   go_enter Tryz.func31,Tryz.ntmps31
   go_wp2_with fail
   (with_reducible refine (HG.out).mono ?_)
   rintro e u ⟨rfl,rfl⟩
   go_wp2_with fail
   (with_reducible refine (HC.out).mono ?_)
   rintro e u ⟨rfl,hb⟩
   have HY1:=hid (HY.out u hb)
   have HB:=hid hb
   clear hb HC HG HY
   go_wp2_with fail
   (with_reducible refine (HY1.out).mono ?_)
   rintro e u2 ⟨rfl,hb⟩
   have HB2:=hid (HB.out.trans (hb.mono HB.out.size))
   clear hb HY1
   go_wp2_with fail
   go_ret
   exact ⟨by rw [HR.out]; rfl,HB2.out⟩
  ·have HR:Hid (R=false):=hid (by rw [hR]; simp [hc])
   have hcc:(checkP xs == 0)=false:=by simpa using hc
   clear hR hg hp hl hd h1 h2 hc
   generalize xs.length=n at HG HC ⊢
   generalize checkP xs=ck at HC hcc
   go_enter Tryz.func31,Tryz.ntmps31
   go_wp2_with fail
   (with_reducible refine (HG.out).mono ?_)
   rintro e u ⟨rfl,rfl⟩
   go_wp2_with fail
   (with_reducible refine (HC.out).mono ?_)
   rintro e u ⟨rfl,hb⟩
   have HB:=hid hb
   clear hb HC HG
   go_wp2_with fail
   go_ret
   exact ⟨by rw [HR.out]; rfl,HB.out⟩
end Go.Proofs.YtfdahmicigpnoaaGreat
