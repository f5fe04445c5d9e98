/- The reference: Send. -/
import Derived.Test.YtdeggadmbjkpfaaGreatNeRs
set_option maxRecDepth 100000
set_option maxHeartbeats 16000000
namespace Go.Proofs.YtdeggadmbjkpfaaGreat
open Go.RowKit Go.Shelf
set_option linter.unusedVariables false
theorem append_two (u:World) (wa:Option Addr) (want:List (Int × Int)) (wc:Nat) (ca:Option Addr) (com:List (Int × Int)) (cc:Nat) (hw:Digs u.heap.size u wa want) (hc:Digs u.heap.size u ca com) (hl:((want.length + com.length:Nat):Int) ≤ 1000000) :
  ∃ a1 c1 W1 a2 c2 W2,Hid ((Builtin.append_ #[24,24] 24 #[.slice (some ⟨u.heap.size,0,none⟩) 0 0,.slice wa want.length wc]).run Tryz.prog (u.alloc (.cells #[] 52)) = .ok (.slice a1 want.length c1) W1) ∧ Hid ((Builtin.append_ #[24,24] 24 #[.slice a1 want.length c1,.slice ca com.length cc]).run Tryz.prog W1 = .ok (.slice a2 (want ++ com).length c2) W2) ∧ W2.ownsRow u.heap.size 52 2 (.slice a2 (want ++ com).length c2) (want ++ com).length (dcells (want ++ com)) ∧ Below u.heap.size u W2:=by
 have hb0:Below u.heap.size u (u.alloc (.cells #[] 52)):=(Below.refl _ _).alloc (Nat.le_refl _) _
 have ho0:=own_empty u u.heap.size 52 2 (Nat.le_refl _)
 obtain ⟨v1,W1,hrun1,hown1,hg1,_⟩:=append_digs (u.alloc (.cells #[] 52)) u.heap.size 24 (.slice (some ⟨u.heap.size,0,none⟩) 0 0) [] ho0 wa want wc (hw.ahead hb0) (by simp; omega) hb0.size
 have hb1:=below_own hb0 ho0 hg1 (Nat.le_refl _)
 rw [List.nil_append] at hown1
 obtain ⟨a1,c1,rfl,_⟩:=ownsRow_sliceN hown1
 obtain ⟨v2,W2,hrun2,hown2,hg2,_⟩:=append_digs W1 u.heap.size 24 (.slice a1 want.length c1) want hown1 ca com cc (hc.ahead hb1) (by omega) hb1.size
 have hb2:=below_own hb1 hown1 hg2 (Nat.le_refl _)
 obtain ⟨a2,c2,rfl,_⟩:=ownsRow_sliceN hown2
 exact ⟨a1,c1,W1,a2,c2,W2,Lib.hid hrun1,Lib.hid hrun2,hown2,hb2⟩
theorem GotR.bad {w w':World} (a:Option Addr) (er:Int) (h:Below w.heap.size w w'):GotR w ([],er) (.returned (.tuple #[.slice a 0 0,.int .i64 er])) w':=⟨a,0,rfl,Digs.nil _ _ _,Nat.le_refl _,h⟩
theorem rsend_any (a:Option Addr) (xs:List Itm) (c:Nat) (wa:Option Addr) (want:List (Int × Int)) (wc:Nat) (ca:Option Addr) (com:List (Int × Int)) (cc:Nat) (w:World) (hp:Its w.heap.size w a xs) (hA:Asc xs) (hd:∀ x ∈ xs,(x.data.length:Int) ≤ 1000000) (hxl:xs.length ≤ 40) (hw:Digs w.heap.size w wa want) (hwo:∀ d ∈ want,OkD d) (hwl:(want.length:Int) ≤ 45) (hc:Digs w.heap.size w ca com) (hco:∀ d ∈ com,OkD d) (hcl:(com.length:Int) ≤ 45) :
  Calls Tryz.prog 22 #[.slice a xs.length c,.slice wa want.length wc,.slice ca com.length cc] w (GotR w (sendS xs want com)):=by
 have HCO:=Lib.hid (fun p q W (hW:Below w.heap.size w W)=>rcmt_any a xs c p q W (hp.ahead hW) hA (by omega) hd)
 have HRW:=Lib.hid (fun W (hW:Below w.heap.size w W)=>rreach_any a xs c wa want wc W (hp.ahead hW) hA (hw.ahead hW) (by omega) (by omega) hd)
 have HRC:=Lib.hid (fun W (hW:Below w.heap.size w W)=>rreach_any a xs c ca com cc W (hp.ahead hW) hA (hc.ahead hW) (by omega) (by omega) hd)
 have HFW:=Lib.hid (reach_facts (xs:=xs) (l:=want) hxl (by omega) hwo)
 have HFC:=Lib.hid (reach_facts (xs:=xs) (l:=com) hxl (by omega) hco)
 have HCE:Hid (∀ k (h:k < (want ++ com).length),comE xs ((want ++ com).take k)=0 → ((commitS xs (want ++ com)[k]).2=0 → comE xs ((want ++ com).take (k + 1))=0) ∧ ((commitS xs (want ++ com)[k]).2 ≠ 0 → comE xs (want ++ com)=(commitS xs (want ++ com)[k]).2)):=Lib.hid (fun k h h0=>comE_take xs h h0)
 obtain ⟨R,hR⟩:∃ R,R=sendS xs want com:=⟨_,rfl⟩
 rw [← hR]
 unfold sendS at hR
 have HR:=Lib.hid hR
 obtain ⟨a1,c1,W1,a2,c2,W2,HRUN1,HRUN2,hown,hb2⟩:=append_two w wa want wc ca com cc hw hc (by omega)
 have HB2:=Lib.hid hb2
 have HAL:=Lib.hid (own_digs rfl hown)
 have hal:((want ++ com).length:Int) ≤ 90:=by rw [List.length_append]; omega
 generalize hRW:reachS xs want=rw at HRW HFW HR
 generalize hRC:reachS xs com=rc at HRC HFC HR
 clear hRW hRC
 obtain ⟨ra,rb⟩:=rw
 obtain ⟨ta,tb⟩:=rc
 simp only at HFW HFC HR
 generalize want ++ com=all at HCE HR hal HAL HRUN2
 obtain ⟨n,hn⟩:∃ n,n=all.length:=⟨_,rfl⟩
 rw [← hn] at hal HRUN2
 have HN:=Lib.hid hn
 obtain ⟨nra,hnra⟩:∃ n,n=ra.length:=⟨_,rfl⟩
 obtain ⟨nrb,hnrb⟩:∃ n,n=rb.length:=⟨_,rfl⟩
 obtain ⟨nta,hnta⟩:∃ n,n=ta.length:=⟨_,rfl⟩
 obtain ⟨ntb,hntb⟩:∃ n,n=tb.length:=⟨_,rfl⟩
 have HNRA:=Lib.hid hnra
 have HNRB:=Lib.hid hnrb
 have HNTA:=Lib.hid hnta
 have HNTB:=Lib.hid hntb
 have hra:=HFW.out.1
 have hrb:=HFW.out.2.1
 have hta:=HFC.out.1
 have htb:=HFC.out.2.1
 rw [← hnra] at hra
 rw [← hnrb] at hrb
 rw [← hnta] at hta
 rw [← hntb] at htb
 generalize want.length=nw at HRW HRUN1 HRUN2 ⊢
 generalize com.length=nc at HRC HRUN2 ⊢
 generalize xs.length=nx at HCO HRW HRC ⊢
 clear hR hn hnra hnrb hnta hntb hp hA hd hxl hw hwo hwl hc hco hcl hown hb2
 go_enter Tryz.func22,Tryz.ntmps22
 have tok1:True:=trivial
 go_wp2_with (at_builtin; first | (have _t:=tok1; refine Lib.wpList_append_run _ rfl _ _ _ _ rfl _ _ rfl rfl _ _ HRUN1.out ?_; clear _t tok1) | (refine Lib.wpList_append_run _ rfl _ _ _ _ rfl _ _ rfl rfl _ _ HRUN2.out ?_))
 clear HRUN1 HRUN2
 go_loopw [9] (fun i wr=>∃ k:Nat,k ≤ n ∧ i = .int .i64 k ∧ Hid (comE xs (all.take k)=0) ∧ Hid (Below W2.heap.size W2 wr)) (fun i _=>n - (intOf i).toNat)
 case atStart=>exact ⟨0,by omega,rfl,Lib.hid (by simp [comE]),Lib.hid (Below.refl _ _)⟩
 case round=>
  obtain ⟨k,hk,rfl,HJ,HE⟩:=hrel
  have HB:=Lib.hid (HB2.out.trans (HE.out.mono HB2.out.size))
  by_cases hkn:k < n
  ·have hki:(k:Int) < (n:Int):=by omega
   have h1:k < all.length:=by have:=HN.out; omega
   obtain ⟨b0,of0,haa,hb0,q0,q1⟩:=(HAL.out.ahead HE.out) k h1
   have HAx:=HAL
   subst haa
   have HX:=Lib.hid (HCE.out k h1 HJ.out)
   generalize all[k]=d at q0 q1 HX
   obtain ⟨d1,d2⟩:=d
   simp only at q0 q1
   have HC:=Lib.hid (HCO.out d1 d2 wr HB.out)
   generalize commitS xs (d1,d2)=CR at HC HX
   obtain ⟨⟨kind,data,ents,⟨t1,t2⟩,pars,author,time,msg⟩,er⟩:=CR
   simp only at HC HX
   clear HAx HJ
   go_wp2_with fail
   (with_reducible refine (HC.out).mono ?_)
   rintro e u3 ⟨ea,ec,pa,pc,rfl,hob,hb⟩
   simp only [Ob.val]
   have HB3:=Lib.hid (HB.out.trans (hb.mono HB.out.size))
   have HE3:=Lib.hid (HE.out.trans (hb.mono HE.out.size))
   generalize pars.length=np
   generalize ents.length=ne
   obtain ⟨v2,hv2⟩:∃ v2,v2=u3.alloc (.cells #[.int .i64 kind,.string ⟨data.toArray⟩,.slice ea ne ec,.int .u64 t1,.int .u64 t2,.slice pa np pc,.string ⟨author.toArray⟩,.int .i64 time,.string ⟨msg.toArray⟩] 76):=⟨_,rfl⟩
   have hbv:Below u3.heap.size u3 v2:=by rw [hv2]; exact (Below.refl _ _).alloc (Nat.le_refl _) _
   have HB4:=Lib.hid (HB3.out.trans (hbv.mono HB3.out.size))
   have HE4:=Lib.hid (HE3.out.trans (hbv.mono HE3.out.size))
   have HV2:=Lib.hid hv2
   clear hob hb hbv hv2 HC HB HE HB3 HE3 q0 q1
   by_cases he:er=0
   ·subst he
    have HJ2:=Lib.hid (HX.out.1 rfl)
    clear HX
    go_wp2_with fail
    rw [← HV2.out]
    go_roundw
    case rel=>exact ⟨k + 1,by omega,by go_num,HJ2,HE4⟩
    case measure=>simp [intOf] <;> omega
   ·have hee:(er != 0)=true:=by simpa using he
    have HR2:Hid (R=([],er)):=Lib.hid (by rw [HR.out,HX.out.2 he,if_pos he])
    have HB5:Hid (Below w.heap.size w (v2.alloc (.cells #[] 52))):=Lib.hid (HB4.out.alloc HB4.out.size _)
    clear HX HR he
    go_wp2_with fail
    rw [← HV2.out]
    go_ret2
    rw [HR2.out]
    exact GotR.bad _ er HB5.out
  ·have hki:¬ (k:Int) < (n:Int):=by omega
   have htk:all.take k=all:=List.take_of_length_le (by have:=HN.out; omega)
   rw [htk] at HJ
   have HR2:Hid (R=if ¬ (∀ d ∈ rb,d ∈ tb) then ([],8) else (ra.filter fun d=>!decide (d ∈ ta),0)):=Lib.hid (by rw [HR.out,HJ.out]; simp)
   obtain ⟨x0,hx0⟩:∃ x0,x0=wr:=⟨_,rfl⟩
   rw [← hx0] at HB ⊢
   have HC1:=Lib.hid (HRW.out x0 HB.out)
   clear hx0 htk HJ HE HR HCE HAL HB2 HRW HCO
   go_wp2_with fail
   (with_reducible refine (HC1.out).mono ?_)
   rintro e u1 ⟨pa,pc,sa,sc,rfl,ho1,ho2,hb⟩
   simp only at ho1 ho2 ⊢
   rw [← HNRA.out,← HNRB.out]
   have HB2:=Lib.hid (HB.out.trans (hb.mono HB.out.size))
   have HP1:=Lib.hid ho1
   have HS1:=Lib.hid ho2
   have HC2:=Lib.hid (HRC.out u1 HB2.out)
   clear ho1 ho2 hb HC1 HB HRC
   go_wp2_with fail
   (with_reducible refine (HC2.out).mono ?_)
   rintro e u2 ⟨ea,ec,fa,fc,rfl,ho1,ho2,hb⟩
   simp only at ho1 ho2 ⊢
   rw [← HNTA.out,← HNTB.out]
   have HB3:=Lib.hid (HB2.out.trans (hb.mono HB2.out.size))
   have HP2:=Lib.hid (HP1.out.ahead hb)
   have HS2:=Lib.hid (HS1.out.ahead hb)
   have HQ2:=Lib.hid ho1
   have HC3:=Lib.hid (without_any sa rb sc fa tb fc u2 HS2.out ho2 (by rw [← HNRB.out]; exact hrb) (by rw [← HNTB.out]; omega))
   rw [← HNRB.out,← HNTB.out] at HC3
   clear ho1 ho2 hb HC2 HB2 HP1 HS1
   have HWN:Hid ((rb.filter fun d=>!decide (d ∈ tb)).length=0 ↔ ∀ d ∈ rb,d ∈ tb):=Lib.hid (by
    rw [List.length_eq_zero_iff,List.filter_eq_nil_iff]; simp)
   generalize (rb.filter fun d=>!decide (d ∈ tb))=F at HC3 HWN
   go_wp2_with fail
   (with_reducible refine (HC3.out).mono ?_)
   rintro e u3 ⟨xa,xc,rfl,hown,hb⟩
   have HB4:=Lib.hid (HB3.out.trans (hb.mono HB3.out.size))
   have HP3:=Lib.hid (HP2.out.ahead hb)
   have HQ3:=Lib.hid (HQ2.out.ahead hb)
   generalize F.length=nf at HWN
   clear hown hb HC3 HB3 HP2 HQ2 HS2
   by_cases hnf:nf=0
   ·subst hnf
    have hall:=HWN.out.1 rfl
    have HR3:Hid (R=(ra.filter fun d=>!decide (d ∈ ta),0)):=Lib.hid (by rw [HR2.out,if_neg (fun h=>h hall)])
    have HC4:=Lib.hid (without_any pa ra pc ea ta ec u3 HP3.out HQ3.out (by rw [← HNRA.out]; exact hra) (by rw [← HNTA.out]; omega))
    rw [← HNRA.out,← HNTA.out] at HC4
    clear hall HWN HR2
    go_wp2_with fail
    (with_reducible refine (HC4.out).mono ?_)
    rintro e u4 ⟨ya,yc,rfl,hown,hb⟩
    have HB5:=Lib.hid (HB4.out.trans (hb.mono HB4.out.size))
    have HO:=Lib.hid hown
    clear hown hb
    go_wp2_with fail
    go_ret2
    rw [HR3.out]
    exact ⟨ya,yc,rfl,ownsRow_digs HO.out,by obtain ⟨_,_,e,h⟩:=ownsRow_sliceN HO.out; cases e; exact h,HB5.out⟩
   ·have hnb:(0:Int) < (nf:Int):=by omega
    have HR3:Hid (R=([],8)):=Lib.hid (by rw [HR2.out,if_pos (fun h=>hnf (HWN.out.2 h))])
    have HB5:Hid (Below w.heap.size w (u3.alloc (.cells #[] 52))):=Lib.hid (HB4.out.alloc HB4.out.size _)
    clear HWN HR2 hnf
    go_wp2_with fail
    go_ret2
    rw [HR3.out]
    exact GotR.bad _ 8 HB5.out
end Go.Proofs.YtdeggadmbjkpfaaGreat
