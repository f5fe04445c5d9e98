/- The reference: Answer, Send. -/
import Derived.Test.YtdeggadmbjkpfaaGreatNeRw
import Derived.Test.YtdeggadmbjkpfaaGreatNePq
import Derived.Test.YtdeggadmbjkpfaaGreatK9
import Derived.Test.YtdeggadmbjkpfaaGreatK7
set_option maxRecDepth 100000
set_option maxHeartbeats 16000000
namespace Go.Proofs.YtdeggadmbjkpfaaGreat
open Go.RowKit Go.Shelf
set_option linter.unusedVariables false
theorem dslice_at (b0 of0 n c k:Nat) (h:k < n) (hc:n ≤ c):∃ (A1:Option Addr) (c1:Nat),(∀ B W (ds:List (Int × Int)) (hk:k < ds.length),Digs B W (some ⟨b0,of0,none⟩) ds → Digs B W A1 [ds[k]]) ∧ ∀ W,(Instr.slice 24 (.slice (some ⟨b0,of0,none⟩) n c) (some (.int .i64 k)) (some (.int .i64 (k + 1))) none).run Tryz.prog W = .ok (.slice A1 1 c1) W:=by
 refine ⟨if c=k then some ⟨b0,of0,none⟩ else (some ⟨b0,of0,none⟩:Option Addr).map (·.add (k * 2)),c - k,fun B W ps hl hp=>?_,fun W=>?_⟩
 ·rw [if_neg (by omega)]
  intro i hi
  obtain ⟨b,off,ha,hlt,h0,h1⟩:=hp k hl
  cases ha
  obtain rfl:i=0:=by simpa using hi
  refine ⟨b0,of0 + k * 2,by simp [Go.WideShapes.add_plain],hlt,?_,?_⟩
  ·simpa using h0
  ·simpa using h1
 ·rw [run_slice_lh (P:=Tryz.prog) W 24 (some ⟨b0,of0,none⟩) n c (by kernel_rfl) .i64 .i64 k (k + 1) (by omega) (by omega) (by omega),size_dig]
  simp [sliced,Result.andThen]
  try omega
theorem ranswer_any (a:Option Addr) (xs:List Itm) (c:Nat) (la:Option Addr) (l:List (Int × Int)) (lc:Nat) (w:World) (hp:Its w.heap.size w a xs) (hA:Asc xs) (hac:AcyS xs) (hn:(xs.length:Int) ≤ 500) (hd:∀ x ∈ xs,(x.data.length:Int) ≤ 1000000) (hl:Digs w.heap.size w la l) (hok:∀ d ∈ l,OkD d) (hll:(l.length:Int) ≤ 1000) (hlc:l.length ≤ lc) :
  Calls Tryz.prog 24 #[.slice a xs.length c,.slice la l.length lc] w (GotDs w (answS xs l)):=by
 have HAN:=Lib.hid (fun W d A1 c1 (hW:Below w.heap.size w W) (h:Digs W.heap.size W A1 [d]) (ho:OkD d)=>rancestors_any a xs c A1 [d] c1 W (hp.ahead hW) hA hac hn hd h (by simp) (by simpa using ho))
 have HIN:=Lib.hid (fun W ba bl bc x y (h:Digs W.heap.size W ba bl) (hb:(bl.length:Int) ≤ 9223372036854775807)=>rin_any ba bl bc x y W h hb)
 have HTK:=Lib.hid (fun k (h:k < l.length)=>answ_take xs h)
 have HFIN:=Lib.hid (show answS xs (l.take l.length)=answS xs l by rw [List.take_length])
 have HL:=Lib.hid hl
 have HOK:=Lib.hid hok
 obtain ⟨n,hnn⟩:∃ n,n=l.length:=⟨_,rfl⟩
 have HN:=Lib.hid hnn
 rw [← hnn] at hll hlc ⊢
 generalize xs.length=nx at HAN ⊢
 have HB0:Hid (Below w.heap.size w (w.alloc (.cells #[] 52))):=Lib.hid ((Below.refl _ _).alloc (Nat.le_refl _) _)
 have HO0:Hid ((w.alloc (.cells #[] 52)).ownsRow w.heap.size 52 2 (.slice (some ⟨w.heap.size,0,none⟩) 0 0) 0 (dcells [])):=Lib.hid (own_empty w w.heap.size 52 2 (Nat.le_refl _))
 clear hp hA hac hd hl hok hnn
 go_enter Tryz.func24,Tryz.ntmps24
 go_wp2_with fail
 go_loopw [5,6] (fun v i wr=>∃ (k m:Nat) (out:List (Int × Int)) (va:Option Addr) (vc:Nat),k ≤ n ∧ v = .slice va m vc ∧ i = .int .i64 k ∧ m ≤ k ∧ Hid (m=out.length) ∧ Hid (out=answS xs (l.take k)) ∧ Hid (wr.ownsRow w.heap.size 52 2 (.slice va m vc) m (dcells out)) ∧ Hid (Below w.heap.size w wr)) (fun _ i _=>n - (intOf i).toNat)
 case atStart=>exact ⟨0,0,[],_,0,by omega,rfl,rfl,by omega,Lib.hid rfl,Lib.hid (by simp [answS]),HO0,HB0⟩
 case round=>
  clear HO0 HB0
  obtain ⟨k,m,out,va,vc,hk,rfl,rfl,hmk,HM,HOUT,HO,HE⟩:=hrel
  by_cases hkn:k < n
  ·have hki:(k:Int) < (n:Int):=by omega
   have h1:k < l.length:=by have:=HN.out; omega
   obtain ⟨b0,of0,haa,hb0,q0,q1⟩:=(HL.out.ahead HE.out) k h1
   have HLx:=HL
   subst haa
   have hokd:=HOK.out _ (List.getElem_mem h1)
   obtain ⟨A1,c1,hds,hsl⟩:=dslice_at b0 of0 n lc k hkn hlc
   have HD1:=Lib.hid (hds _ _ _ h1 (HL.out.ahead HE.out))
   have HC1:=Lib.hid (HAN.out wr _ A1 c1 HE.out HD1.out hokd)
   have HF:=Lib.hid (HTK.out k h1)
   rw [← HOUT.out] at HF
   unfold answF at HF
   generalize l[k]=d at q0 q1 HC1 HF
   obtain ⟨d1,d2⟩:=d
   simp only at q0 q1
   simp only [List.length_cons,List.length_nil,Nat.zero_add] at HC1
   generalize ancS xs [(d1,d2)]=AR at HC1 HF
   obtain ⟨an,er⟩:=AR
   simp only at HC1 HF
   have hkw:IntKind.i64.wrap ((k:Int) + 1)=(k:Int) + 1:=wrap_i64 (by omega) (by omega)
   clear hds HD1 hokd
   go_wp2_with fail
   (with_reducible refine (HC1.out).mono ?_)
   rintro e u1 ⟨ra,rc,rfl,hdr,hrc,hb⟩
   simp only at hdr hrc ⊢
   have HE1:=Lib.hid (HE.out.trans (hb.mono HE.out.size))
   have HO1:=Lib.hid (own_below HO.out hb)
   generalize an.length=nan
   have r0:=(hb.cell (p:=⟨b0,of0 + k * 2,none⟩) hb0).trans q0
   have r1:=(hb.cell (p:=⟨b0,of0 + k * 2 + 1,none⟩) hb0).trans q1
   clear hdr hrc hb HC1 HE HO q0 q1
   by_cases he:er=0
   ·subst he
    have HC2:=Lib.hid (HIN.out u1 va out vc d1 d2 (own_digs HM.out HO1.out) (by have:=HM.out; omega))
    rw [← HM.out] at HC2
    cases hin:decide ((d1,d2) ∈ out) with
    | true=>
     have HOUT3:Hid (out=answS xs (l.take (k + 1))):=Lib.hid (by rw [HF.out]; simp at hin; simp [hin])
     rw [hin] at HC2
     clear HF hin HOUT
     go_wp2_with fail
     (with_reducible refine (HC2.out).mono ?_)
     rintro e u2 ⟨rfl,hb⟩
     have HE2:=Lib.hid (HE1.out.trans (hb.mono HE1.out.size))
     have HO2:=Lib.hid (own_below HO1.out hb)
     clear hb HC2 HE1 HO1 r0 r1
     go_wp2_with fail
     go_roundw
     case rel=>exact ⟨k + 1,m,out,va,vc,by omega,rfl,by go_num,by omega,HM,HOUT3,HO2,HE2⟩
     case measure=>simp [intOf] <;> omega
    | false=>
     have HOUT3:Hid (out ++ [(d1,d2)]=answS xs (l.take (k + 1))):=Lib.hid (by rw [HF.out]; simp at hin; simp [hin])
     rw [hin] at HC2
     clear HF hin HOUT
     go_wp2_with fail
     (with_reducible refine (HC2.out).mono ?_)
     rintro e u2 ⟨rfl,hb⟩
     have HE2:=Lib.hid (HE1.out.trans (hb.mono HE1.out.size))
     have hov:=own_below HO1.out hb
     obtain ⟨_,_,haa,hb1,_,_⟩:=(HLx.out.ahead HE2.out) k h1
     have hbx:b0 < u1.heap.size:=by
      obtain ⟨_,_,h2,h3,_,_⟩:=(HLx.out.ahead HE1.out) k h1
      cases h2; exact h3
     have s0:=(hb.cell (p:=⟨b0,of0 + k * 2,none⟩) hbx).trans r0
     have s1:=(hb.cell (p:=⟨b0,of0 + k * 2 + 1,none⟩) hbx).trans r1
     rw [HM.out] at hov
     obtain ⟨v',W',hrun,hown,hgr,_⟩:=append_one hov d1 d2 (by rw [← HM.out]; omega) HE2.out.size
     obtain ⟨va',vc',rfl,_⟩:=ownsRow_sliceN hown
     have hl2:(out ++ [(d1,d2)]).length=m + 1:=by rw [List.length_append,← HM.out]; rfl
     rw [hl2,← HM.out] at hrun
     rw [hl2] at hown
     rw [← HM.out] at hgr hov
     have HM3:Hid (m + 1=(out ++ [(d1,d2)]).length):=Lib.hid hl2.symm
     have HO3:=Lib.hid hown
     have HE3:Hid (Below w.heap.size w W'):=Lib.hid (below_own (HE2.out.alloc HE2.out.size _) (hov.alloc _) hgr (Nat.le_refl _))
     have HRUN:=Lib.hid hrun
     clear hrun hown hgr hl2 hov HE2 hb HC2 HE1 HO1 haa r0 r1 hbx
     go_wp2_with (at_builtin; refine Lib.wpList_append_run _ rfl _ _ _ _ rfl _ _ rfl rfl _ _ HRUN.out ?_)
     go_roundw
     case rel=>exact ⟨k + 1,m + 1,out ++ [(d1,d2)],va',vc',by omega,rfl,by go_num,by omega,HM3,HOUT3,HO3,HE3⟩
     case measure=>simp [intOf] <;> omega
   ·have hee:(er == 0)=false:=by simpa using he
    have HOUT3:Hid (out=answS xs (l.take (k + 1))):=Lib.hid (by rw [HF.out]; simp [he])
    clear HF he HOUT
    go_wp2_with fail
    go_roundw
    case rel=>exact ⟨k + 1,m,out,va,vc,by omega,rfl,by go_num,by omega,HM,HOUT3,HO1,HE1⟩
    case measure=>simp [intOf] <;> omega
  ·have hki:¬ (k:Int) < (n:Int):=by omega
   have hkl:k=l.length:=by have:=HN.out; omega
   have HX:Hid (answS xs l=out):=Lib.hid (by rw [HOUT.out,hkl,List.take_length])
   clear HOUT hkl
   go_wp2_with fail
   go_ret
   rw [HX.out]
   exact ⟨va,vc,by rw [← HM.out]; rfl,by rw [← HM.out]; exact HO.out,HE.out⟩
end Go.Proofs.YtdeggadmbjkpfaaGreat
