/- ascending, in both programs. -/
import Derived.Test.YtfdahmicigpnoaaGreatNeTr
set_option maxRecDepth 100000
set_option maxHeartbeats 16000000
open Go.Lib (hid)
namespace Go.Proofs.YtfdahmicigpnoaaGreat
open Go.RowKit Go.Shelf
set_option linter.unusedVariables false
theorem cmpB_any (x y x' y':Int) (w:World):Calls Tryz.prog 75 #[.agg #[.int .u64 x,.int .u64 y],.agg #[.int .u64 x',.int .u64 y']] w fun e w'=>e = .returned (.int .i64 (cmpD (x,y) (x',y')))/\Below w.heap.size w w':=
 (cmpD_any x y x' y' w).mono fun e w' h=>⟨h.1,h.2.below⟩
def GotAsc (w:World) (l:List (Int × Int)) (e:Ending) (w':World):Prop:=∃ b,e = .returned (.bool b)/\(b=true ↔ AscD l)/\Below w.heap.size w w'
theorem asc_any (a:Option Addr) (l:List (Int × Int)) (c:Nat) (w:World) (hl:Digs w.heap.size w a l) (hn:(l.length:Int)<=1000000) :
  Calls Tryz.prog 145 #[.slice a l.length c] w (GotAsc w l):=by
 have HL:=hid hl
 obtain ⟨n,hnn⟩:∃ n,n=l.length:=⟨_,rfl⟩
 have HN:=hid hnn
 rw [<-hnn] at hn ⊢
 clear hl hnn
 go_enter Tryz.func145,Tryz.ntmps145
 go_wp2_with fail
 go_loopw [3] (fun i wr=>∃ k:Nat,1<=k/\(k<=n\/k=1)/\i = .int .i64 k/\Hid (∀ j (h:j + 1 < l.length),j + 1 < k->cmpD l[j] l[j + 1] < 0)/\Hid (Below w.heap.size w wr)) (fun i _=>n - (intOf i).toNat)
 case atStart=>exact ⟨1,by omega,.inr rfl,rfl,hid (fun j h hj=>by omega),hid (Below.refl _ _)⟩
 case round=>
  obtain ⟨k,hk1,hk,rfl,HJ,HB⟩:=hrel
  by_cases hkn:k < n
  ·have hki:(k:Int) < (n:Int):=by omega
   obtain ⟨j,hj⟩:∃ j,k=j + 1:=⟨k - 1,by omega⟩
   have hjk:(k:Int) - 1=(j:Int):=by omega
   have hjw:IntKind.i64.wrap ((k:Int) - 1)=(j:Int):=by rw [hjk]; exact wrap_i64 (by omega) (by omega)
   have hjn:(j:Int) < (n:Int):=by omega
   have h1:k < l.length:=by have:=HN.out; omega
   have h3:j < l.length:=by omega
   obtain ⟨b0,of0,haa,hb0,q0,q1⟩:=(HL.out.ahead HB.out) k h1
   obtain ⟨b1,of1,haa1,hb1,r0,r1⟩:=(HL.out.ahead HB.out) j h3
   have HLx:=HL
   subst haa
   cases haa1
   have HJ2:Hid (cmpD l[j] l[k] < 0->∀ i (h:i + 1 < l.length),i + 1 < k + 1->cmpD l[i] l[i + 1] < 0):=hid (fun hc i h hi=>by
    by_cases e:i + 1 < k
    ·exact HJ.out i h e
    ·have e2:i=j:=by omega
     subst e2; subst hj; exact hc)
   have HNO:Hid (¬ cmpD l[j] l[k] < 0->¬ AscD l):=hid (fun hc ha=>hc (by
    have:=ascD_adj' ha j (by omega)
    subst hj; exact this))
   generalize l[k]=dk at q0 q1 HJ2 HNO
   generalize l[j]=dj at r0 r1 HJ2 HNO
   obtain ⟨x1,y1⟩:=dk
   obtain ⟨x0,y0⟩:=dj
   simp only at q0 q1 r0 r1
   have HCM:=hid (fun W=>cmpB_any x0 y0 x1 y1 W)
   generalize cmpD (x0,y0) (x1,y1)=cv at HCM HJ2 HNO
   have HAR:=hid (fun d os=>Calls.regrown_of (w:=wr) (d:=d) (os:=os) (HCM.out _))
   have f0:=cell_regrown q0
   have f1:=cell_regrown q1
   have f2:=cell_regrown r0
   have f3:=cell_regrown r1
   clear HCM hj HJ
   by_cases hc:cv < 0
   ·have dc:decide (0<=cv)=false:=by simp; omega
    have HJ3:=hid (HJ2.out hc)
    clear HJ2 HNO
    go_wp2_with fail
    refine wp_region_quiet_below (by kernel_rfl) (by kernel_rfl) ?_
    repeat (any_goals (first | go_big_quiet_step (first | (with_reducible exact HAR.out _ _)) | quiet_step (first | (with_reducible exact HAR.out _ _))))
    refine wpQuiet_nil ?_
    intro w3 hw3
    have hbq:=below_rg hw3
    have HB5:=hid (HB.out.trans (hbq.mono HB.out.size))
    clear hbq hw3 HB HAR f0 f1 f2 f3 q0 q1 r0 r1
    go_wp2_with fail
    go_roundw
    case rel=>exact ⟨k + 1,by omega,.inl (by omega),by go_num,HJ3,HB5⟩
    case measure=>simp [intOf] <;> omega
   ·have dc:decide (0<=cv)=true:=by simp; omega
    have HNA:=hid (HNO.out hc)
    clear HJ2 HNO
    go_wp2_with fail
    refine wp_region_quiet_below (by kernel_rfl) (by kernel_rfl) ?_
    repeat (any_goals (first | go_big_quiet_step (first | (with_reducible exact HAR.out _ _)) | quiet_step (first | (with_reducible exact HAR.out _ _))))
    refine wpQuiet_nil ?_
    intro w3 hw3
    have hbq:=below_rg hw3
    have HB5:=hid (HB.out.trans (hbq.mono HB.out.size))
    clear hbq hw3 HB HAR f0 f1 f2 f3 q0 q1 r0 r1
    go_wp2_with fail
    go_ret
    exact ⟨false,rfl,by simpa using HNA.out,HB5.out⟩
  ·have hki:¬ (k:Int) < (n:Int):=by omega
   have HA:Hid (AscD l):=hid (ascD_adj (fun j h=>HJ.out j h (by have:=HN.out; omega)))
   clear HJ
   go_wp2_with fail
   go_ret
   exact ⟨true,rfl,by simpa using HA.out,HB.out⟩
theorem rasc_any (a:Option Addr) (l:List (Int × Int)) (c:Nat) (w:World) (hl:Digs w.heap.size w a l) (hn:(l.length:Int)<=1000000) :
  Calls Tryz.prog 153 #[.slice a l.length c] w (GotAsc w l):=by
 have HL:=hid hl
 obtain ⟨n,hnn⟩:∃ n,n=l.length:=⟨_,rfl⟩
 have HN:=hid hnn
 rw [<-hnn] at hn ⊢
 clear hl hnn
 go_enter Tryz.func153,Tryz.ntmps153
 go_wp2_with fail
 go_loopw [3] (fun i wr=>∃ k:Nat,1<=k/\(k<=n\/k=1)/\i = .int .i64 k/\Hid (∀ j (h:j + 1 < l.length),j + 1 < k->cmpD l[j] l[j + 1] < 0)/\Hid (Below w.heap.size w wr)) (fun i _=>n - (intOf i).toNat)
 case atStart=>exact ⟨1,by omega,.inr rfl,rfl,hid (fun j h hj=>by omega),hid (Below.refl _ _)⟩
 case round=>
  obtain ⟨k,hk1,hk,rfl,HJ,HB⟩:=hrel
  by_cases hkn:k < n
  ·have hki:(k:Int) < (n:Int):=by omega
   obtain ⟨j,hj⟩:∃ j,k=j + 1:=⟨k - 1,by omega⟩
   have hjk:(k:Int) - 1=(j:Int):=by omega
   have hjw:IntKind.i64.wrap ((k:Int) - 1)=(j:Int):=by rw [hjk]; exact wrap_i64 (by omega) (by omega)
   have hjn:(j:Int) < (n:Int):=by omega
   have h1:k < l.length:=by have:=HN.out; omega
   have h3:j < l.length:=by omega
   obtain ⟨b0,of0,haa,hb0,q0,q1⟩:=(HL.out.ahead HB.out) k h1
   obtain ⟨b1,of1,haa1,hb1,r0,r1⟩:=(HL.out.ahead HB.out) j h3
   have HLx:=HL
   subst haa
   cases haa1
   have HJ2:Hid (cmpD l[j] l[k] < 0->∀ i (h:i + 1 < l.length),i + 1 < k + 1->cmpD l[i] l[i + 1] < 0):=hid (fun hc i h hi=>by
    by_cases e:i + 1 < k
    ·exact HJ.out i h e
    ·have e2:i=j:=by omega
     subst e2; subst hj; exact hc)
   have HNO:Hid (¬ cmpD l[j] l[k] < 0->¬ AscD l):=hid (fun hc ha=>hc (by
    have:=ascD_adj' ha j (by omega)
    subst hj; exact this))
   generalize l[k]=dk at q0 q1 HJ2 HNO
   generalize l[j]=dj at r0 r1 HJ2 HNO
   obtain ⟨x1,y1⟩:=dk
   obtain ⟨x0,y0⟩:=dj
   simp only at q0 q1 r0 r1
   have HCM:=hid (fun W=>refCmp_any x0 y0 x1 y1 W)
   generalize cmpD (x0,y0) (x1,y1)=cv at HCM HJ2 HNO
   have HAR:=hid (fun d os=>Calls.regrown_of (w:=wr) (d:=d) (os:=os) (HCM.out _))
   have f0:=cell_regrown q0
   have f1:=cell_regrown q1
   have f2:=cell_regrown r0
   have f3:=cell_regrown r1
   clear HCM hj HJ
   by_cases hc:cv < 0
   ·have dc:decide (0<=cv)=false:=by simp; omega
    have HJ3:=hid (HJ2.out hc)
    clear HJ2 HNO
    go_wp2_with fail
    refine wp_region_quiet_below (by kernel_rfl) (by kernel_rfl) ?_
    repeat (any_goals (first | go_big_quiet_step (first | (with_reducible exact HAR.out _ _)) | quiet_step (first | (with_reducible exact HAR.out _ _))))
    refine wpQuiet_nil ?_
    intro w3 hw3
    have hbq:=below_rg hw3
    have HB5:=hid (HB.out.trans (hbq.mono HB.out.size))
    clear hbq hw3 HB HAR f0 f1 f2 f3 q0 q1 r0 r1
    go_wp2_with fail
    go_roundw
    case rel=>exact ⟨k + 1,by omega,.inl (by omega),by go_num,HJ3,HB5⟩
    case measure=>simp [intOf] <;> omega
   ·have dc:decide (0<=cv)=true:=by simp; omega
    have HNA:=hid (HNO.out hc)
    clear HJ2 HNO
    go_wp2_with fail
    refine wp_region_quiet_below (by kernel_rfl) (by kernel_rfl) ?_
    repeat (any_goals (first | go_big_quiet_step (first | (with_reducible exact HAR.out _ _)) | quiet_step (first | (with_reducible exact HAR.out _ _))))
    refine wpQuiet_nil ?_
    intro w3 hw3
    have hbq:=below_rg hw3
    have HB5:=hid (HB.out.trans (hbq.mono HB.out.size))
    clear hbq hw3 HB HAR f0 f1 f2 f3 q0 q1 r0 r1
    go_wp2_with fail
    go_ret
    exact ⟨false,rfl,by simpa using HNA.out,HB5.out⟩
  ·have hki:¬ (k:Int) < (n:Int):=by omega
   have HA:Hid (AscD l):=hid (ascD_adj (fun j h=>HJ.out j h (by have:=HN.out; omega)))
   clear HJ
   go_wp2_with fail
   go_ret
   exact ⟨true,rfl,by simpa using HA.out,HB.out⟩
end Go.Proofs.YtfdahmicigpnoaaGreat
