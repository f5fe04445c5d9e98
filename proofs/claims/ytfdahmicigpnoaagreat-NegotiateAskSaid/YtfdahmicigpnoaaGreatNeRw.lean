/- The reference: within and without. -/
import Derived.Test.YtfdahmicigpnoaaGreatNePq
import Derived.Test.YtfdahmicigpnoaaGreatK9
set_option maxRecDepth 100000
set_option maxHeartbeats 16000000
open Go.Lib (hid)
namespace Go.Proofs.YtfdahmicigpnoaaGreat
open Go.RowKit Go.Shelf
set_option linter.unusedVariables false
theorem within_any (a:Option Addr) (l:List (Int × Int)) (c:Nat) (b:Option Addr) (o:List (Int × Int)) (cb:Nat) (w:World) (hl:Digs w.heap.size w a l) (ho:Digs w.heap.size w b o) (hn:(l.length:Int)<=100000) (hm:(o.length:Int)<=1000000000) :
  Calls Tryz.prog 155 #[.slice a l.length c,.slice b o.length cb] w (GotDs w (l.filter fun d=>decide (d ∈ o))):=by
 have HIN:=hid (fun x y W (hW:Below w.heap.size w W)=>rin_any b o cb x y W (ho.ahead hW) (by omega))
 have HL:=hid hl
 obtain ⟨n,hnn⟩:∃ n,n=l.length:=⟨_,rfl⟩
 have HN:=hid hnn
 rw [<-hnn] at hn ⊢
 generalize o.length=no at HIN ⊢
 have HB0:Hid (Below w.heap.size w (w.alloc (.cells #[] 41))):=hid ((Below.refl _ _).alloc (Nat.le_refl _) _)
 have HO0:Hid ((w.alloc (.cells #[] 41)).ownsRow w.heap.size 41 2 (.slice (some ⟨w.heap.size,0,none⟩) 0 0) 0 (dcells [])):=hid (own_empty w w.heap.size 41 2 (Nat.le_refl _))
 clear hl ho hm hnn
 go_enter Tryz.func155,Tryz.ntmps155
 go_wp2_with fail
 go_loopw [5,6] (fun v i wr=>∃ (k m:Nat) (out:List (Int × Int)) (va:Option Addr) (vc:Nat),k<=n/\v = .slice va m vc/\i = .int .i64 k/\m<=k/\Hid (m=out.length)/\Hid (out=(l.take k).filter fun d=>decide (d ∈ o))/\Hid (wr.ownsRow w.heap.size 41 2 (.slice va m vc) m (dcells out))/\Hid (Below w.heap.size w wr)) (fun _ i _=>n - (intOf i).toNat)
 case atStart=>exact ⟨0,0,[],_,0,by omega,rfl,rfl,by omega,hid rfl,hid (by simp),HO0,HB0⟩
 case round=>
  clear HO0 HB0
  obtain ⟨k,m,out,va,vc,hk,rfl,rfl,hmk,HM,HOUT,HO,HE⟩:=hrel
  by_cases hkn:k < n
  ·have hki:(k:Int) < (n:Int):=by omega
   have h1:k < l.length:=by have:=HN.out; omega
   obtain ⟨b0,of0,haa,hb0,q0,q1⟩:=(HL.out.ahead HE.out) k h1
   have HLx:=HL
   subst haa
   have HF:=hid (filt_snoc (fun d=>decide (d ∈ o)) h1)
   rw [<-HOUT.out] at HF
   generalize l[k]=d at q0 q1 HF
   obtain ⟨d1,d2⟩:=d
   simp only at q0 q1
   have HC:=hid (HIN.out d1 d2 wr HE.out)
   have hbw:=HE.out.size
   cases hin:decide ((d1,d2) ∈ o) with
   | true=>
    rw [hin] at HC
    have HOUT3:Hid (out ++ [(d1,d2)]=(l.take (k + 1)).filter fun d=>decide (d ∈ o)):=hid (by rw [HF.out,hin]; simp)
    clear HF hin HOUT
    go_wp2_with fail
    (with_reducible refine (HC.out).mono ?_)
    rintro e u9 ⟨rfl,hb⟩
    have HE9:=hid (HE.out.trans (hb.mono HE.out.size))
    have hov:=own_below HO.out hb
    obtain ⟨_,_,haa,_,r0,r1⟩:=(HLx.out.ahead HE9.out) k h1
    have r0':=(hb.cell (p:=⟨b0,of0 + k * 2,none⟩) hb0).trans q0
    have r1':=(hb.cell (p:=⟨b0,of0 + k * 2 + 1,none⟩) hb0).trans q1
    rw [HM.out] at hov
    obtain ⟨v',W',hrun,hown,hgr,_⟩:=append_one hov d1 d2 (by rw [<-HM.out]; omega) HE9.out.size
    obtain ⟨va',vc',rfl,_⟩:=ownsRow_sliceN hown
    have hl2:(out ++ [(d1,d2)]).length=m + 1:=by rw [List.length_append,<-HM.out]; rfl
    rw [hl2,<-HM.out] at hrun
    rw [hl2] at hown
    rw [<-HM.out] at hgr hov
    have HM3:Hid (m + 1=(out ++ [(d1,d2)]).length):=hid hl2.symm
    have HO3:=hid hown
    have HE3:Hid (Below w.heap.size w W'):=hid (below_own (HE9.out.alloc HE9.out.size _) (hov.alloc _) hgr (Nat.le_refl _))
    have HRUN:=hid hrun
    clear hrun hown hgr hl2 hov HE9 hb HC HE HO haa r0 r1 q0 q1
    go_wp2_with (at_builtin; refine Lib.wpList_append_run _ rfl _ _ _ _ rfl _ _ rfl rfl _ _ HRUN.out ?_)
    go_roundw
    case rel=>exact ⟨k + 1,m + 1,out ++ [(d1,d2)],va',vc',by omega,rfl,by go_num,by omega,HM3,HOUT3,HO3,HE3⟩
    case measure=>simp [intOf] <;> omega
   | false=>
    rw [hin] at HC
    have HOUT3:Hid (out=(l.take (k + 1)).filter fun d=>decide (d ∈ o)):=hid (by rw [HF.out,hin]; simp)
    clear HF hin HOUT
    go_wp2_with fail
    (with_reducible refine (HC.out).mono ?_)
    rintro e u9 ⟨rfl,hb⟩
    have HE9:=hid (HE.out.trans (hb.mono HE.out.size))
    have HO9:=hid (own_below HO.out hb)
    clear hb HC HE HO q0 q1
    go_wp2_with fail
    go_roundw
    case rel=>exact ⟨k + 1,m,out,va,vc,by omega,rfl,by go_num,by omega,HM,HOUT3,HO9,HE9⟩
    case measure=>simp [intOf] <;> omega
  ·have hki:¬ (k:Int) < (n:Int):=by omega
   have htk:l.take k=l:=List.take_of_length_le (by have:=HN.out; omega)
   rw [htk] at HOUT
   clear htk
   go_wp2_with fail
   go_ret
   rw [<-HOUT.out]
   exact ⟨va,vc,by rw [<-HM.out]; rfl,by rw [<-HM.out]; exact HO.out,HE.out⟩
theorem without_any (a:Option Addr) (l:List (Int × Int)) (c:Nat) (b:Option Addr) (o:List (Int × Int)) (cb:Nat) (w:World) (hl:Digs w.heap.size w a l) (ho:Digs w.heap.size w b o) (hn:(l.length:Int)<=100000) (hm:(o.length:Int)<=1000000000) :
  Calls Tryz.prog 91 #[.slice a l.length c,.slice b o.length cb] w (GotDs w (l.filter fun d=>!decide (d ∈ o))):=by
 have HIN:=hid (fun x y W (hW:Below w.heap.size w W)=>rin_any b o cb x y W (ho.ahead hW) (by omega))
 have HL:=hid hl
 obtain ⟨n,hnn⟩:∃ n,n=l.length:=⟨_,rfl⟩
 have HN:=hid hnn
 rw [<-hnn] at hn ⊢
 generalize o.length=no at HIN ⊢
 have HB0:Hid (Below w.heap.size w (w.alloc (.cells #[] 41))):=hid ((Below.refl _ _).alloc (Nat.le_refl _) _)
 have HO0:Hid ((w.alloc (.cells #[] 41)).ownsRow w.heap.size 41 2 (.slice (some ⟨w.heap.size,0,none⟩) 0 0) 0 (dcells [])):=hid (own_empty w w.heap.size 41 2 (Nat.le_refl _))
 clear hl ho hm hnn
 go_enter Tryz.func91,Tryz.ntmps91
 go_wp2_with fail
 go_loopw [5,6] (fun v i wr=>∃ (k m:Nat) (out:List (Int × Int)) (va:Option Addr) (vc:Nat),k<=n/\v = .slice va m vc/\i = .int .i64 k/\m<=k/\Hid (m=out.length)/\Hid (out=(l.take k).filter fun d=>!decide (d ∈ o))/\Hid (wr.ownsRow w.heap.size 41 2 (.slice va m vc) m (dcells out))/\Hid (Below w.heap.size w wr)) (fun _ i _=>n - (intOf i).toNat)
 case atStart=>exact ⟨0,0,[],_,0,by omega,rfl,rfl,by omega,hid rfl,hid (by simp),HO0,HB0⟩
 case round=>
  clear HO0 HB0
  obtain ⟨k,m,out,va,vc,hk,rfl,rfl,hmk,HM,HOUT,HO,HE⟩:=hrel
  by_cases hkn:k < n
  ·have hki:(k:Int) < (n:Int):=by omega
   have h1:k < l.length:=by have:=HN.out; omega
   obtain ⟨b0,of0,haa,hb0,q0,q1⟩:=(HL.out.ahead HE.out) k h1
   have HLx:=HL
   subst haa
   have HF:=hid (filt_snoc (fun d=>!decide (d ∈ o)) h1)
   rw [<-HOUT.out] at HF
   generalize l[k]=d at q0 q1 HF
   obtain ⟨d1,d2⟩:=d
   simp only at q0 q1
   have HC:=hid (HIN.out d1 d2 wr HE.out)
   have hbw:=HE.out.size
   cases hin:decide ((d1,d2) ∈ o) with
   | false=>
    rw [hin] at HC
    have HOUT3:Hid (out ++ [(d1,d2)]=(l.take (k + 1)).filter fun d=>!decide (d ∈ o)):=hid (by rw [HF.out,hin]; simp)
    clear HF hin HOUT
    go_wp2_with fail
    (with_reducible refine (HC.out).mono ?_)
    rintro e u9 ⟨rfl,hb⟩
    have HE9:=hid (HE.out.trans (hb.mono HE.out.size))
    have hov:=own_below HO.out hb
    obtain ⟨_,_,haa,_,r0,r1⟩:=(HLx.out.ahead HE9.out) k h1
    have r0':=(hb.cell (p:=⟨b0,of0 + k * 2,none⟩) hb0).trans q0
    have r1':=(hb.cell (p:=⟨b0,of0 + k * 2 + 1,none⟩) hb0).trans q1
    rw [HM.out] at hov
    obtain ⟨v',W',hrun,hown,hgr,_⟩:=append_one hov d1 d2 (by rw [<-HM.out]; omega) HE9.out.size
    obtain ⟨va',vc',rfl,_⟩:=ownsRow_sliceN hown
    have hl2:(out ++ [(d1,d2)]).length=m + 1:=by rw [List.length_append,<-HM.out]; rfl
    rw [hl2,<-HM.out] at hrun
    rw [hl2] at hown
    rw [<-HM.out] at hgr hov
    have HM3:Hid (m + 1=(out ++ [(d1,d2)]).length):=hid hl2.symm
    have HO3:=hid hown
    have HE3:Hid (Below w.heap.size w W'):=hid (below_own (HE9.out.alloc HE9.out.size _) (hov.alloc _) hgr (Nat.le_refl _))
    have HRUN:=hid hrun
    clear hrun hown hgr hl2 hov HE9 hb HC HE HO haa r0 r1 q0 q1
    go_wp2_with (at_builtin; refine Lib.wpList_append_run _ rfl _ _ _ _ rfl _ _ rfl rfl _ _ HRUN.out ?_)
    go_roundw
    case rel=>exact ⟨k + 1,m + 1,out ++ [(d1,d2)],va',vc',by omega,rfl,by go_num,by omega,HM3,HOUT3,HO3,HE3⟩
    case measure=>simp [intOf] <;> omega
   | true=>
    rw [hin] at HC
    have HOUT3:Hid (out=(l.take (k + 1)).filter fun d=>!decide (d ∈ o)):=hid (by rw [HF.out,hin]; simp)
    clear HF hin HOUT
    go_wp2_with fail
    (with_reducible refine (HC.out).mono ?_)
    rintro e u9 ⟨rfl,hb⟩
    have HE9:=hid (HE.out.trans (hb.mono HE.out.size))
    have HO9:=hid (own_below HO.out hb)
    clear hb HC HE HO q0 q1
    go_wp2_with fail
    go_roundw
    case rel=>exact ⟨k + 1,m,out,va,vc,by omega,rfl,by go_num,by omega,HM,HOUT3,HO9,HE9⟩
    case measure=>simp [intOf] <;> omega
  ·have hki:¬ (k:Int) < (n:Int):=by omega
   have htk:l.take k=l:=List.take_of_length_le (by have:=HN.out; omega)
   rw [htk] at HOUT
   clear htk
   go_wp2_with fail
   go_ret
   rw [<-HOUT.out]
   exact ⟨va,vc,by rw [<-HM.out]; rfl,by rw [<-HM.out]; exact HO.out,HE.out⟩
end Go.Proofs.YtfdahmicigpnoaaGreat
