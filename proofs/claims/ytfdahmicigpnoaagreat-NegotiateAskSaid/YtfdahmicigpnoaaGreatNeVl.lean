/- negotiate.valid. -/
import Derived.Test.YtfdahmicigpnoaaGreatNeVd
import Derived.Test.YtfdahmicigpnoaaGreatNeV3
import Derived.Laws.EntriesVeiled
set_option maxRecDepth 100000
set_option maxHeartbeats 16000000
open Go.Lib (hid)
namespace Go.Proofs.YtfdahmicigpnoaaGreat
open Go.RowKit Go.Shelf
set_option linter.unusedVariables false
theorem box2 {w:World} {cs ds:Array Value} {t:TypeId}:BK w.heap.size cs t ((w.alloc (.cells cs t)).alloc (.cells ds t))/\BK (w.heap.size + 1) ds t ((w.alloc (.cells cs t)).alloc (.cells ds t))/\Below w.heap.size w ((w.alloc (.cells cs t)).alloc (.cells ds t)):=
 ⟨(BK.new _ _ _).alloc _,BK.new2 _ _ _ _,((Below.refl _ _).alloc (Nat.le_refl _) _).alloc (by simp) _⟩
def chkP (xs:List Itm) (t:Tk):Nat->Prop
 | 0=>AscD t.want/\AscD t.common
 | 1=>InOrd xs t
 | 2=>(t.queue ++ t.asked).Nodup
 | 3=>Sep xs t
 | 4=>t.done=(decide (t.want=[]) || Idle t)
 | 5=>(!decide (t.want=[]) || Idle t)=true
 | _=>True
theorem chkP_all {xs:List Itm} (ha:AcyS xs) (t:Tk):(∀ j,j < 6->chkP xs t j) ↔ ValidT xs t:=by
 rw [valid_prog ha]
 constructor
 ·intro h
  exact ⟨h 0 (by omega),h 1 (by omega),h 2 (by omega),h 3 (by omega),h 4 (by omega),h 5 (by omega)⟩
 ·rintro ⟨h0,h1,h2,h3,h4,h5⟩ j hj
  match j,hj with
  | 0,_=>exact h0
  | 1,_=>exact h1
  | 2,_=>exact h2
  | 3,_=>exact h3
  | 4,_=>exact h4
  | 5,_=>exact h5
theorem nvalid_any (a:Option Addr) (xs:List Itm) (c:Nat) (t:Tk) (A:TkA) (w:World) (hp:PoolIn w a xs c) (hA:Asc xs) (hac:AcyS xs) (hxl:(xs.length:Int)<=500) (ht:TkIn w t A) (hb:TkB t) :
  Calls Tryz.prog 84 #[t.val A,.slice a xs.length c] w (GotIO xs (ValidT xs t) w):=by
 have HCK:=hid (chkP_all hac t)
 have hI0:Idle t=(decide (t.queue.length=0) && decide (t.asked.length=0)):=by unfold Idle; rw [nil_iff,nil_iff]
 have HI:=hid hI0
 obtain ⟨w4,hw4⟩:∃ w4,w4=(((w.alloc (.cells (t.arr A) 67)).alloc (.cells #[.slice a xs.length c] 23)).alloc (.cells #[.bool (Idle t)] 4)).alloc (.cells #[.func (.func 144) #[] #[.pointer (some ⟨w.heap.size,0,none⟩)],.func (.func 146) #[] #[.pointer (some ⟨w.heap.size + 1,0,none⟩),.pointer (some ⟨w.heap.size,0,none⟩)],.func (.func 148) #[] #[.pointer (some ⟨w.heap.size,0,none⟩)],.func (.func 149) #[] #[.pointer (some ⟨w.heap.size + 1,0,none⟩),.pointer (some ⟨w.heap.size,0,none⟩)],.func (.func 151) #[] #[.pointer (some ⟨w.heap.size,0,none⟩),.pointer (some ⟨w.heap.size + 2,0,none⟩)],.func (.func 152) #[] #[.pointer (some ⟨w.heap.size,0,none⟩),.pointer (some ⟨w.heap.size + 2,0,none⟩)]] 26):=⟨_,rfl⟩
 have hb4:Below w.heap.size w w4:=by rw [hw4]; exact ((((Below.refl _ _).alloc (Nat.le_refl _) _).alloc (by simp) _).alloc (by simp; omega) _).alloc (by simp; omega) _
 have hk1:BK w.heap.size (t.arr A) 67 w4:=by rw [hw4]; exact (((BK.new _ _ _).alloc _).alloc _).alloc _
 have hk2:BK (w.heap.size + 1) #[.slice a xs.length c] 23 w4:=by rw [hw4]; exact ((BK.new2 _ _ _ _).alloc _).alloc _
 have hk3:BK (w.heap.size + 2) #[.bool (Idle t)] 4 w4:=by
  rw [hw4]
  have h1:=BK.new2 (w.alloc (.cells (t.arr A) 67)) (.cells #[.slice a xs.length c] 23) #[.bool (Idle t)] 4
  rw [World.size_alloc] at h1
  exact h1.alloc _
 have hk4:BK (w.heap.size + 3) #[.func (.func 144) #[] #[.pointer (some ⟨w.heap.size,0,none⟩)],.func (.func 146) #[] #[.pointer (some ⟨w.heap.size + 1,0,none⟩),.pointer (some ⟨w.heap.size,0,none⟩)],.func (.func 148) #[] #[.pointer (some ⟨w.heap.size,0,none⟩)],.func (.func 149) #[] #[.pointer (some ⟨w.heap.size + 1,0,none⟩),.pointer (some ⟨w.heap.size,0,none⟩)],.func (.func 151) #[] #[.pointer (some ⟨w.heap.size,0,none⟩),.pointer (some ⟨w.heap.size + 2,0,none⟩)],.func (.func 152) #[] #[.pointer (some ⟨w.heap.size,0,none⟩),.pointer (some ⟨w.heap.size + 2,0,none⟩)]] 26 w4:=by
  rw [hw4]
  have h1:=BK.new (((w.alloc (.cells (t.arr A) 67)).alloc (.cells #[.slice a xs.length c] 23)).alloc (.cells #[.bool (Idle t)] 4)) #[.func (.func 144) #[] #[.pointer (some ⟨w.heap.size,0,none⟩)],.func (.func 146) #[] #[.pointer (some ⟨w.heap.size + 1,0,none⟩),.pointer (some ⟨w.heap.size,0,none⟩)],.func (.func 148) #[] #[.pointer (some ⟨w.heap.size,0,none⟩)],.func (.func 149) #[] #[.pointer (some ⟨w.heap.size + 1,0,none⟩),.pointer (some ⟨w.heap.size,0,none⟩)],.func (.func 151) #[] #[.pointer (some ⟨w.heap.size,0,none⟩),.pointer (some ⟨w.heap.size + 2,0,none⟩)],.func (.func 152) #[] #[.pointer (some ⟨w.heap.size,0,none⟩),.pointer (some ⟨w.heap.size + 2,0,none⟩)]] 26
  rw [World.size_alloc,World.size_alloc,World.size_alloc] at h1
  exact h1
 have HC0:=hid (fun W (hW:Below w4.heap.size w4 W)=>vd1_any xs w.heap.size t A W (hk1.below hW) (ht.ahead (hb4.trans (hW.mono hb4.size))) hb)
 have HC1:=hid (fun W (hW:Below w4.heap.size w4 W)=>vd2_any a xs c (w.heap.size + 1) w.heap.size t A W (hp.below (hb4.trans (hW.mono hb4.size))) hA hac hxl (hk2.below hW) (hk1.below hW) (ht.ahead (hb4.trans (hW.mono hb4.size))) hb)
 have HC2:=hid (fun W (hW:Below w4.heap.size w4 W)=>vd3_any xs w.heap.size t A W (hk1.below hW) (ht.ahead (hb4.trans (hW.mono hb4.size))) hb)
 have HC3:=hid (fun W (hW:Below w4.heap.size w4 W)=>vd4_any a xs c (w.heap.size + 1) w.heap.size t A W (hp.below (hb4.trans (hW.mono hb4.size))) hA hac hxl (hk2.below hW) (hk1.below hW) (ht.ahead (hb4.trans (hW.mono hb4.size))) hb)
 have HC4:=hid (fun W (hW:Below w4.heap.size w4 W)=>vd5_any xs w.heap.size (w.heap.size + 2) t A W (hk1.below hW) (hk3.below hW))
 have HC5:=hid (fun W (hW:Below w4.heap.size w4 W)=>vd6_any xs w.heap.size (w.heap.size + 2) t A W (hk1.below hW) (hk3.below hW))
 have HP:Hid (∀ j,chkP xs t j=match j with | 0=>(AscD t.want/\AscD t.common) | 1=>InOrd xs t | 2=>(t.queue ++ t.asked).Nodup | 3=>Sep xs t | 4=>t.done=(decide (t.want=[]) || Idle t) | 5=>(!decide (t.want=[]) || Idle t)=true | _=>True):=hid (fun j=>by unfold chkP; rfl)
 change Hid (∀ W,Below w4.heap.size w4 W->Calls Tryz.prog 144 #[.pointer (some ⟨w.heap.size,0,none⟩)] W (GotIO xs (chkP xs t 0) W)) at HC0
 change Hid (∀ W,Below w4.heap.size w4 W->Calls Tryz.prog 146 #[.pointer (some ⟨w.heap.size + 1,0,none⟩),.pointer (some ⟨w.heap.size,0,none⟩)] W (GotIO xs (chkP xs t 1) W)) at HC1
 change Hid (∀ W,Below w4.heap.size w4 W->Calls Tryz.prog 148 #[.pointer (some ⟨w.heap.size,0,none⟩)] W (GotIO xs (chkP xs t 2) W)) at HC2
 change Hid (∀ W,Below w4.heap.size w4 W->Calls Tryz.prog 149 #[.pointer (some ⟨w.heap.size + 1,0,none⟩),.pointer (some ⟨w.heap.size,0,none⟩)] W (GotIO xs (chkP xs t 3) W)) at HC3
 change Hid (∀ W,Below w4.heap.size w4 W->Calls Tryz.prog 151 #[.pointer (some ⟨w.heap.size,0,none⟩),.pointer (some ⟨w.heap.size + 2,0,none⟩)] W (GotIO xs (chkP xs t 4) W)) at HC4
 change Hid (∀ W,Below w4.heap.size w4 W->Calls Tryz.prog 152 #[.pointer (some ⟨w.heap.size,0,none⟩),.pointer (some ⟨w.heap.size + 2,0,none⟩)] W (GotIO xs (chkP xs t 5) W)) at HC5
 have HB4:=hid hb4
 have HK4:=hid hk4
 clear HP hk1 hk2 hk3 hk4 hb4 hp hA hac hxl ht hb hI0
 generalize chkP xs t=P at HCK HC0 HC1 HC2 HC3 HC4 HC5
 generalize ValidT xs t=VT at HCK ⊢
 generalize Idle t=I at hw4 HI
 generalize xs.length=nx at hw4 ⊢
 obtain ⟨want,queue,asked,common,done⟩:=t
 obtain ⟨wa,wc,qa,qc,aa,ac,ca,cc⟩:=A
 simp only [Tk.val,Tk.arr] at hw4 HI ⊢
 have HW4:=hid hw4
 generalize want.length=nw at HW4 ⊢
 generalize queue.length=nq at HW4 HI ⊢
 generalize asked.length=na at HW4 HI ⊢
 generalize common.length=nc at HW4 ⊢
 clear hw4
 obtain ⟨b1,hb1⟩:∃ b,((nq:Int) == 0)=b:=⟨_,rfl⟩
 obtain ⟨b2,hb2⟩:∃ b,((na:Int) == 0)=b:=⟨_,rfl⟩
 have HI2:Hid (I=(b1 && b2)):=hid (by rw [HI.out,<-hb1,<-hb2]; congr 1 <;> (rw [Bool.eq_iff_iff]; simp))
 clear HI
 cases b1 with
 | false=>
  have hI:I=false:=HI2.out
  have H4:=HW4
  rw [hI] at H4
  clear hI HI2
  go_enter Tryz.func84,Tryz.ntmps84
  go_wp2_with fail
  rw [<-H4.out]
  clear H4 HW4 hb1 hb2
  go_loopw [28] (fun i wr=>∃ k:Nat,k<=6/\i = .int .i64 k/\Hid (∀ j,j < k->P j)/\Hid (Below w4.heap.size w4 wr)) (fun i _=>6 - (intOf i).toNat)
  case atStart=>exact ⟨0,by omega,rfl,hid (fun j h=>by omega),hid (Below.refl _ _)⟩
  case round=>
   obtain ⟨k,hk,rfl,HJ,HB⟩:=hrel
   have HKF:=hid (HK4.out.below HB.out)
   obtain ⟨f0,f1,f2,f3,f4,f5⟩:=BK.c6 (show BK _ #[.func (.func 144) #[] #[.pointer (some ⟨w.heap.size,0,none⟩)],.func (.func 146) #[] #[.pointer (some ⟨w.heap.size + 1,0,none⟩),.pointer (some ⟨w.heap.size,0,none⟩)],.func (.func 148) #[] #[.pointer (some ⟨w.heap.size,0,none⟩)],.func (.func 149) #[] #[.pointer (some ⟨w.heap.size + 1,0,none⟩),.pointer (some ⟨w.heap.size,0,none⟩)],.func (.func 151) #[] #[.pointer (some ⟨w.heap.size,0,none⟩),.pointer (some ⟨w.heap.size + 2,0,none⟩)],.func (.func 152) #[] #[.pointer (some ⟨w.heap.size,0,none⟩),.pointer (some ⟨w.heap.size + 2,0,none⟩)]] _ _ from HKF.out)
   clear HKF
   rcases (by omega:k=0\/k=1\/k=2\/k=3\/k=4\/k=5\/k=6) with rfl | rfl | rfl | rfl | rfl | rfl | rfl
   ·have HC:=hid (HC0.out wr HB.out)
    go_wp2_with fail
    (with_reducible refine (HC.out).mono ?_)
    rintro e u ⟨b,rfl,hbi,hb⟩
    have HBI:=hid hbi
    have HBn:=hid (HB.out.trans (hb.mono HB.out.size))
    clear hbi hb HC HB f0 f1 f2 f3 f4 f5
    cases b with
    | false=>
     have HNO:Hid (¬ VT):=hid (fun h=>by have:=HBI.out.2 (HCK.out.2 h 0 (by omega)); cases this)
     clear HBI HJ
     go_wp2_with fail
     go_ret
     exact GotIO.no HNO.out (HB4.out.trans (HBn.out.mono HB4.out.size))
    | true=>
     have HJ2:Hid (∀ j,j < 1->P j):=hid (fun j hj=>by
      by_cases e:j < 0
      ·exact HJ.out j e
      ·obtain rfl:j=0:=by omega
       exact HBI.out.1 rfl)
     clear HBI HJ
     go_wp2_with fail
     go_roundw
     case rel=>exact ⟨1,by omega,by go_num,HJ2,HBn⟩
     case measure=>simp [intOf] <;> omega
   ·have HC:=hid (HC1.out wr HB.out)
    go_wp2_with fail
    (with_reducible refine (HC.out).mono ?_)
    rintro e u ⟨b,rfl,hbi,hb⟩
    have HBI:=hid hbi
    have HBn:=hid (HB.out.trans (hb.mono HB.out.size))
    clear hbi hb HC HB f0 f1 f2 f3 f4 f5
    cases b with
    | false=>
     have HNO:Hid (¬ VT):=hid (fun h=>by have:=HBI.out.2 (HCK.out.2 h 1 (by omega)); cases this)
     clear HBI HJ
     go_wp2_with fail
     go_ret
     exact GotIO.no HNO.out (HB4.out.trans (HBn.out.mono HB4.out.size))
    | true=>
     have HJ2:Hid (∀ j,j < 2->P j):=hid (fun j hj=>by
      by_cases e:j < 1
      ·exact HJ.out j e
      ·obtain rfl:j=1:=by omega
       exact HBI.out.1 rfl)
     clear HBI HJ
     go_wp2_with fail
     go_roundw
     case rel=>exact ⟨2,by omega,by go_num,HJ2,HBn⟩
     case measure=>simp [intOf] <;> omega
   ·have HC:=hid (HC2.out wr HB.out)
    go_wp2_with fail
    (with_reducible refine (HC.out).mono ?_)
    rintro e u ⟨b,rfl,hbi,hb⟩
    have HBI:=hid hbi
    have HBn:=hid (HB.out.trans (hb.mono HB.out.size))
    clear hbi hb HC HB f0 f1 f2 f3 f4 f5
    cases b with
    | false=>
     have HNO:Hid (¬ VT):=hid (fun h=>by have:=HBI.out.2 (HCK.out.2 h 2 (by omega)); cases this)
     clear HBI HJ
     go_wp2_with fail
     go_ret
     exact GotIO.no HNO.out (HB4.out.trans (HBn.out.mono HB4.out.size))
    | true=>
     have HJ2:Hid (∀ j,j < 3->P j):=hid (fun j hj=>by
      by_cases e:j < 2
      ·exact HJ.out j e
      ·obtain rfl:j=2:=by omega
       exact HBI.out.1 rfl)
     clear HBI HJ
     go_wp2_with fail
     go_roundw
     case rel=>exact ⟨3,by omega,by go_num,HJ2,HBn⟩
     case measure=>simp [intOf] <;> omega
   ·have HC:=hid (HC3.out wr HB.out)
    go_wp2_with fail
    (with_reducible refine (HC.out).mono ?_)
    rintro e u ⟨b,rfl,hbi,hb⟩
    have HBI:=hid hbi
    have HBn:=hid (HB.out.trans (hb.mono HB.out.size))
    clear hbi hb HC HB f0 f1 f2 f3 f4 f5
    cases b with
    | false=>
     have HNO:Hid (¬ VT):=hid (fun h=>by have:=HBI.out.2 (HCK.out.2 h 3 (by omega)); cases this)
     clear HBI HJ
     go_wp2_with fail
     go_ret
     exact GotIO.no HNO.out (HB4.out.trans (HBn.out.mono HB4.out.size))
    | true=>
     have HJ2:Hid (∀ j,j < 4->P j):=hid (fun j hj=>by
      by_cases e:j < 3
      ·exact HJ.out j e
      ·obtain rfl:j=3:=by omega
       exact HBI.out.1 rfl)
     clear HBI HJ
     go_wp2_with fail
     go_roundw
     case rel=>exact ⟨4,by omega,by go_num,HJ2,HBn⟩
     case measure=>simp [intOf] <;> omega
   ·have HC:=hid (HC4.out wr HB.out)
    go_wp2_with fail
    (with_reducible refine (HC.out).mono ?_)
    rintro e u ⟨b,rfl,hbi,hb⟩
    have HBI:=hid hbi
    have HBn:=hid (HB.out.trans (hb.mono HB.out.size))
    clear hbi hb HC HB f0 f1 f2 f3 f4 f5
    cases b with
    | false=>
     have HNO:Hid (¬ VT):=hid (fun h=>by have:=HBI.out.2 (HCK.out.2 h 4 (by omega)); cases this)
     clear HBI HJ
     go_wp2_with fail
     go_ret
     exact GotIO.no HNO.out (HB4.out.trans (HBn.out.mono HB4.out.size))
    | true=>
     have HJ2:Hid (∀ j,j < 5->P j):=hid (fun j hj=>by
      by_cases e:j < 4
      ·exact HJ.out j e
      ·obtain rfl:j=4:=by omega
       exact HBI.out.1 rfl)
     clear HBI HJ
     go_wp2_with fail
     go_roundw
     case rel=>exact ⟨5,by omega,by go_num,HJ2,HBn⟩
     case measure=>simp [intOf] <;> omega
   ·have HC:=hid (HC5.out wr HB.out)
    go_wp2_with fail
    (with_reducible refine (HC.out).mono ?_)
    rintro e u ⟨b,rfl,hbi,hb⟩
    have HBI:=hid hbi
    have HBn:=hid (HB.out.trans (hb.mono HB.out.size))
    clear hbi hb HC HB f0 f1 f2 f3 f4 f5
    cases b with
    | false=>
     have HNO:Hid (¬ VT):=hid (fun h=>by have:=HBI.out.2 (HCK.out.2 h 5 (by omega)); cases this)
     clear HBI HJ
     go_wp2_with fail
     go_ret
     exact GotIO.no HNO.out (HB4.out.trans (HBn.out.mono HB4.out.size))
    | true=>
     have HJ2:Hid (∀ j,j < 6->P j):=hid (fun j hj=>by
      by_cases e:j < 5
      ·exact HJ.out j e
      ·obtain rfl:j=5:=by omega
       exact HBI.out.1 rfl)
     clear HBI HJ
     go_wp2_with fail
     go_roundw
     case rel=>exact ⟨6,by omega,by go_num,HJ2,HBn⟩
     case measure=>simp [intOf] <;> omega
   ·have HYS:Hid VT:=hid (HCK.out.1 (fun j hj=>HJ.out j hj))
    clear HJ f0 f1 f2 f3 f4 f5
    go_wp2_with fail
    go_ret
    exact GotIO.yes HYS.out (HB4.out.trans (HB.out.mono HB4.out.size))
 | true=>
  have hI:I=b2:=HI2.out
  have H4:=HW4
  rw [hI] at H4
  clear hI HI2
  go_enter Tryz.func84,Tryz.ntmps84
  go_wp2_with fail
  rw [<-H4.out]
  clear H4 HW4 hb1 hb2
  go_loopw [28] (fun i wr=>∃ k:Nat,k<=6/\i = .int .i64 k/\Hid (∀ j,j < k->P j)/\Hid (Below w4.heap.size w4 wr)) (fun i _=>6 - (intOf i).toNat)
  case atStart=>exact ⟨0,by omega,rfl,hid (fun j h=>by omega),hid (Below.refl _ _)⟩
  case round=>
   obtain ⟨k,hk,rfl,HJ,HB⟩:=hrel
   have HKF:=hid (HK4.out.below HB.out)
   obtain ⟨f0,f1,f2,f3,f4,f5⟩:=BK.c6 (show BK _ #[.func (.func 144) #[] #[.pointer (some ⟨w.heap.size,0,none⟩)],.func (.func 146) #[] #[.pointer (some ⟨w.heap.size + 1,0,none⟩),.pointer (some ⟨w.heap.size,0,none⟩)],.func (.func 148) #[] #[.pointer (some ⟨w.heap.size,0,none⟩)],.func (.func 149) #[] #[.pointer (some ⟨w.heap.size + 1,0,none⟩),.pointer (some ⟨w.heap.size,0,none⟩)],.func (.func 151) #[] #[.pointer (some ⟨w.heap.size,0,none⟩),.pointer (some ⟨w.heap.size + 2,0,none⟩)],.func (.func 152) #[] #[.pointer (some ⟨w.heap.size,0,none⟩),.pointer (some ⟨w.heap.size + 2,0,none⟩)]] _ _ from HKF.out)
   clear HKF
   rcases (by omega:k=0\/k=1\/k=2\/k=3\/k=4\/k=5\/k=6) with rfl | rfl | rfl | rfl | rfl | rfl | rfl
   ·have HC:=hid (HC0.out wr HB.out)
    go_wp2_with fail
    (with_reducible refine (HC.out).mono ?_)
    rintro e u ⟨b,rfl,hbi,hb⟩
    have HBI:=hid hbi
    have HBn:=hid (HB.out.trans (hb.mono HB.out.size))
    clear hbi hb HC HB f0 f1 f2 f3 f4 f5
    cases b with
    | false=>
     have HNO:Hid (¬ VT):=hid (fun h=>by have:=HBI.out.2 (HCK.out.2 h 0 (by omega)); cases this)
     clear HBI HJ
     go_wp2_with fail
     go_ret
     exact GotIO.no HNO.out (HB4.out.trans (HBn.out.mono HB4.out.size))
    | true=>
     have HJ2:Hid (∀ j,j < 1->P j):=hid (fun j hj=>by
      by_cases e:j < 0
      ·exact HJ.out j e
      ·obtain rfl:j=0:=by omega
       exact HBI.out.1 rfl)
     clear HBI HJ
     go_wp2_with fail
     go_roundw
     case rel=>exact ⟨1,by omega,by go_num,HJ2,HBn⟩
     case measure=>simp [intOf] <;> omega
   ·have HC:=hid (HC1.out wr HB.out)
    go_wp2_with fail
    (with_reducible refine (HC.out).mono ?_)
    rintro e u ⟨b,rfl,hbi,hb⟩
    have HBI:=hid hbi
    have HBn:=hid (HB.out.trans (hb.mono HB.out.size))
    clear hbi hb HC HB f0 f1 f2 f3 f4 f5
    cases b with
    | false=>
     have HNO:Hid (¬ VT):=hid (fun h=>by have:=HBI.out.2 (HCK.out.2 h 1 (by omega)); cases this)
     clear HBI HJ
     go_wp2_with fail
     go_ret
     exact GotIO.no HNO.out (HB4.out.trans (HBn.out.mono HB4.out.size))
    | true=>
     have HJ2:Hid (∀ j,j < 2->P j):=hid (fun j hj=>by
      by_cases e:j < 1
      ·exact HJ.out j e
      ·obtain rfl:j=1:=by omega
       exact HBI.out.1 rfl)
     clear HBI HJ
     go_wp2_with fail
     go_roundw
     case rel=>exact ⟨2,by omega,by go_num,HJ2,HBn⟩
     case measure=>simp [intOf] <;> omega
   ·have HC:=hid (HC2.out wr HB.out)
    go_wp2_with fail
    (with_reducible refine (HC.out).mono ?_)
    rintro e u ⟨b,rfl,hbi,hb⟩
    have HBI:=hid hbi
    have HBn:=hid (HB.out.trans (hb.mono HB.out.size))
    clear hbi hb HC HB f0 f1 f2 f3 f4 f5
    cases b with
    | false=>
     have HNO:Hid (¬ VT):=hid (fun h=>by have:=HBI.out.2 (HCK.out.2 h 2 (by omega)); cases this)
     clear HBI HJ
     go_wp2_with fail
     go_ret
     exact GotIO.no HNO.out (HB4.out.trans (HBn.out.mono HB4.out.size))
    | true=>
     have HJ2:Hid (∀ j,j < 3->P j):=hid (fun j hj=>by
      by_cases e:j < 2
      ·exact HJ.out j e
      ·obtain rfl:j=2:=by omega
       exact HBI.out.1 rfl)
     clear HBI HJ
     go_wp2_with fail
     go_roundw
     case rel=>exact ⟨3,by omega,by go_num,HJ2,HBn⟩
     case measure=>simp [intOf] <;> omega
   ·have HC:=hid (HC3.out wr HB.out)
    go_wp2_with fail
    (with_reducible refine (HC.out).mono ?_)
    rintro e u ⟨b,rfl,hbi,hb⟩
    have HBI:=hid hbi
    have HBn:=hid (HB.out.trans (hb.mono HB.out.size))
    clear hbi hb HC HB f0 f1 f2 f3 f4 f5
    cases b with
    | false=>
     have HNO:Hid (¬ VT):=hid (fun h=>by have:=HBI.out.2 (HCK.out.2 h 3 (by omega)); cases this)
     clear HBI HJ
     go_wp2_with fail
     go_ret
     exact GotIO.no HNO.out (HB4.out.trans (HBn.out.mono HB4.out.size))
    | true=>
     have HJ2:Hid (∀ j,j < 4->P j):=hid (fun j hj=>by
      by_cases e:j < 3
      ·exact HJ.out j e
      ·obtain rfl:j=3:=by omega
       exact HBI.out.1 rfl)
     clear HBI HJ
     go_wp2_with fail
     go_roundw
     case rel=>exact ⟨4,by omega,by go_num,HJ2,HBn⟩
     case measure=>simp [intOf] <;> omega
   ·have HC:=hid (HC4.out wr HB.out)
    go_wp2_with fail
    (with_reducible refine (HC.out).mono ?_)
    rintro e u ⟨b,rfl,hbi,hb⟩
    have HBI:=hid hbi
    have HBn:=hid (HB.out.trans (hb.mono HB.out.size))
    clear hbi hb HC HB f0 f1 f2 f3 f4 f5
    cases b with
    | false=>
     have HNO:Hid (¬ VT):=hid (fun h=>by have:=HBI.out.2 (HCK.out.2 h 4 (by omega)); cases this)
     clear HBI HJ
     go_wp2_with fail
     go_ret
     exact GotIO.no HNO.out (HB4.out.trans (HBn.out.mono HB4.out.size))
    | true=>
     have HJ2:Hid (∀ j,j < 5->P j):=hid (fun j hj=>by
      by_cases e:j < 4
      ·exact HJ.out j e
      ·obtain rfl:j=4:=by omega
       exact HBI.out.1 rfl)
     clear HBI HJ
     go_wp2_with fail
     go_roundw
     case rel=>exact ⟨5,by omega,by go_num,HJ2,HBn⟩
     case measure=>simp [intOf] <;> omega
   ·have HC:=hid (HC5.out wr HB.out)
    go_wp2_with fail
    (with_reducible refine (HC.out).mono ?_)
    rintro e u ⟨b,rfl,hbi,hb⟩
    have HBI:=hid hbi
    have HBn:=hid (HB.out.trans (hb.mono HB.out.size))
    clear hbi hb HC HB f0 f1 f2 f3 f4 f5
    cases b with
    | false=>
     have HNO:Hid (¬ VT):=hid (fun h=>by have:=HBI.out.2 (HCK.out.2 h 5 (by omega)); cases this)
     clear HBI HJ
     go_wp2_with fail
     go_ret
     exact GotIO.no HNO.out (HB4.out.trans (HBn.out.mono HB4.out.size))
    | true=>
     have HJ2:Hid (∀ j,j < 6->P j):=hid (fun j hj=>by
      by_cases e:j < 5
      ·exact HJ.out j e
      ·obtain rfl:j=5:=by omega
       exact HBI.out.1 rfl)
     clear HBI HJ
     go_wp2_with fail
     go_roundw
     case rel=>exact ⟨6,by omega,by go_num,HJ2,HBn⟩
     case measure=>simp [intOf] <;> omega
   ·have HYS:Hid VT:=hid (HCK.out.1 (fun j hj=>HJ.out j hj))
    clear HJ f0 f1 f2 f3 f4 f5
    go_wp2_with fail
    go_ret
    exact GotIO.yes HYS.out (HB4.out.trans (HB.out.mono HB4.out.size))
end Go.Proofs.YtfdahmicigpnoaaGreat
