/- Deltas: the reference's match, and Diff. -/
import Derived.Test.YtijkieiihpiljaaGreatP2
import Derived.Test.YtijkieiihpiljaaGreatP1
set_option maxRecDepth 100000
set_option maxHeartbeats 16000000
open Go.Lib (hid)
namespace Go.Proofs.YtijkieiihpiljaaGreat
open Go.RowKit Go.Shelf
set_option linter.unusedVariables false
theorem lcp_next {a b:List UInt8} {n:Nat} (h:n<=lcp a b):(n + 1<=lcp a b) ↔ ∃ (h1:n < a.length) (h2:n < b.length),a[n]=b[n]:=by
 rw [lcp_ge] at h ⊢
 obtain ⟨h1,h2,h3⟩:=h
 constructor
 ·rintro ⟨g1,g2,g3⟩
  refine ⟨by omega,by omega,?_⟩
  rw [List.take_succ_eq_append_getElem (by omega),List.take_succ_eq_append_getElem (l:=b) (by omega),h3] at g3
  exact (List.cons.inj (List.append_cancel_left g3)).1
 ·rintro ⟨g1,g2,g3⟩
  refine ⟨by omega,by omega,?_⟩
  rw [List.take_succ_eq_append_getElem (by omega),List.take_succ_eq_append_getElem (l:=b) (by omega),h3,g3]
theorem idx_at (s:List UInt8) (k:Nat) (hs:k < s.length):∀ w,(Instr.index 9 (.string ⟨s.toArray⟩) (.int .i64 (k:Int))).run Tryz.prog w = .ok (.int .u8 ((s.getD k 0).toNat:Int)) w:=by
 obtain ⟨d,_,_,h3,h4⟩:=idx ⟨s.toArray⟩ k (by rw [ba_len]; exact hs)
 intro w
 rw [h4,h3]
theorem getD_get {s:List UInt8} {k:Nat} (h:k < s.length):s.getD k 0=s[k]:=by simp [List.getD,h]
theorem rmatch_any (a b:List UInt8) (i k:Nat) (w:World) (hi:i<=a.length) (hk:k<=b.length) (ha:(a.length:Int)<=1000000) (hb:(b.length:Int)<=1000000) :
  Calls Tryz.prog 123 #[.string ⟨a.toArray⟩,.int .i64 (i:Int),.string ⟨b.toArray⟩,.int .i64 (k:Int)] w fun e w'=>e = .returned (.int .i64 (lcp (a.drop i) (b.drop k):Int))/\Below w.heap.size w w':=by
 have HID:Hid (∀ j (h:j < a.length),∀ w,(Instr.index 9 (.string ⟨a.toArray⟩) (.int .i64 (j:Int))).run Tryz.prog w = .ok (.int .u8 ((a.getD j 0).toNat:Int)) w):=hid (fun j h=>idx_at a j h)
 have HJD:Hid (∀ j (h:j < b.length),∀ w,(Instr.index 9 (.string ⟨b.toArray⟩) (.int .i64 (j:Int))).run Tryz.prog w = .ok (.int .u8 ((b.getD j 0).toNat:Int)) w):=hid (fun j h=>idx_at b j h)
 obtain ⟨L,hL⟩:∃ L,L=lcp (a.drop i) (b.drop k):=⟨_,rfl⟩
 have hle:=lcp_le (a.drop i) (b.drop k)
 rw [List.length_drop,List.length_drop,<-hL] at hle
 have HNX:Hid (∀ n,n<=L->((n + 1<=L) ↔ (i + n < a.length/\k + n < b.length/\a.getD (i + n) 0=b.getD (k + n) 0))):=hid (fun n hn=>by
  rw [hL] at hn ⊢
  rw [lcp_next hn]
  simp only [List.length_drop,List.getElem_drop]
  constructor
  ·rintro ⟨h1,h2,h3⟩; exact ⟨by omega,by omega,by rw [getD_get (by omega),getD_get (by omega)]; exact h3⟩
  ·rintro ⟨h1,h2,h3⟩; rw [getD_get h1,getD_get h2] at h3; exact ⟨by omega,by omega,h3⟩)
 rw [<-hL]
 clear hL
 have hsa:=ba_len a
 have hsb:=ba_len b
 obtain ⟨na,hna⟩:∃ na,na=a.length:=⟨_,rfl⟩
 obtain ⟨nb,hnb⟩:∃ nb,nb=b.length:=⟨_,rfl⟩
 have HA:=hid hna
 have HB:=hid hnb
 rw [<-hna] at hsa hi ha hle
 rw [<-hnb] at hsb hk hb hle
 clear hna hnb
 have HW0:=hid (Below.refl w.heap.size w)
 go_enter Tryz.func123,Tryz.ntmps123
 go_wp2_with fail
 go_loopw [9] (fun n wr=>∃ j:Nat,j<=L/\n = .int .i64 (j:Int)/\Hid (Below w.heap.size w wr)) (fun n _=>L - (intOf n).toNat)
 case atStart=>exact ⟨0,by omega,rfl,HW0⟩
 case round=>
  clear HW0
  obtain ⟨j,hj,rfl,HW⟩:=hrel
  have hw1:IntKind.i64.wrap ((i:Int) + (j:Int))=((i + j:Nat):Int):=by rw [wrap_i64 (by omega) (by omega)]; omega
  have hw2:IntKind.i64.wrap ((k:Int) + (j:Int))=((k + j:Nat):Int):=by rw [wrap_i64 (by omega) (by omega)]; omega
  have hnx:=HNX.out j hj
  have hia:∀ h:i + j < a.length,∀ w,(Instr.index 9 (.string ⟨a.toArray⟩) (.int .i64 ((i + j:Nat):Int))).run Tryz.prog w = .ok (.int .u8 ((a.getD (i + j) 0).toNat:Int)) w:=fun h=>HID.out (i + j) h
  have hib:∀ h:k + j < b.length,∀ w,(Instr.index 9 (.string ⟨b.toArray⟩) (.int .i64 ((k + j:Nat):Int))).run Tryz.prog w = .ok (.int .u8 ((b.getD (k + j) 0).toNat:Int)) w:=fun h=>HJD.out (k + j) h
  obtain ⟨p,hp⟩:∃ p,p=i + j:=⟨_,rfl⟩
  obtain ⟨q,hq⟩:∃ q,q=k + j:=⟨_,rfl⟩
  have hpn:p<=na:=by omega
  have hqn:q<=nb:=by omega
  have hwj:IntKind.i64.wrap ((j:Int) + 1)=(j:Int) + 1:=wrap_i64 (by omega) (by omega)
  simp only [<-hp] at hw1 hia hnx
  simp only [<-hq] at hw2 hib hnx
  rw [<-HA.out,<-HB.out] at hnx
  rw [<-HA.out] at hia
  rw [<-HB.out] at hib
  have HEND:Hid (¬ j + 1<=L->(j:Int)=(L:Int)):=hid (fun h=>by omega)
  by_cases h1:p < na
  ·have h1i:(p:Int) < (na:Int):=by omega
   by_cases h2:q < nb
   ·have h2i:(q:Int) < (nb:Int):=by omega
    have i1:=hia h1
    have i2:=hib h2
    by_cases h3:a.getD p 0=b.getD q 0
    ·have hL1:j + 1<=L:=hnx.2 ⟨h1,h2,h3⟩
     rw [h3] at i1
     generalize (b.getD q 0).toNat=x at i1 i2
     clear h3 hnx hia hib HNX HID HJD hp hq h1 h2 HEND
     go_upto_region 2 with (fail)
     refine wp_region_quiet_below (by kernel_rfl) (by kernel_rfl) ?_
     repeat (any_goals (first | go_big_quiet_step (fail) | quiet_step (fail)))
     refine wpQuiet_nil ?_
     intro w5 hw5
     have hb5:=hid (below_rg hw5)
     clear hw5
     go_wp2_with fail
     go_roundw
     case rel=>exact ⟨j + 1,hL1,by go_num,hid (HW.out.trans (hb5.out.mono HW.out.size))⟩
     case measure=>simp [intOf] <;> omega
    ·have hne:¬ j + 1<=L:=fun h=>by
      obtain ⟨_,_,h4⟩:=hnx.1 h
      exact h3 h4
     have hjl:=HEND.out hne
     have hxy:((((a.getD p 0).toNat:Int)) == ((b.getD q 0).toNat:Int))=false:=by
      simp only [beq_eq_false_iff_ne,ne_eq]
      intro h
      exact h3 (UInt8.toNat_inj.1 (by omega))
     generalize (b.getD q 0).toNat=x at i2 hxy
     generalize (a.getD p 0).toNat=y at i1 hxy
     have HJL:=hid hjl
     clear h3 hnx hia hib HNX HID HJD hp hq h1 h2 hjl HEND hne
     go_upto_region 2 with (fail)
     refine wp_region_quiet_below (by kernel_rfl) (by kernel_rfl) ?_
     repeat (any_goals (first | go_big_quiet_step (fail) | quiet_step (fail)))
     refine wpQuiet_nil ?_
     intro w5 hw5
     have hb5:=hid (below_rg hw5)
     clear hw5
     go_wp2_with fail
     go_ret
     exact ⟨by rw [HJL.out]; rfl,HW.out.trans (hb5.out.mono HW.out.size)⟩
   ·have h2i:¬ (q:Int) < (nb:Int):=by omega
    have hne:¬ j + 1<=L:=fun h=>by
     obtain ⟨_,h4,_⟩:=hnx.1 h
     exact h2 h4
    have HJL:=hid (HEND.out hne)
    clear hnx hia hib HNX HID HJD hp hq h1 h2 HEND hne
    go_upto_region 2 with (fail)
    refine wp_region_quiet_below (by kernel_rfl) (by kernel_rfl) ?_
    repeat (any_goals (first | go_big_quiet_step (fail) | quiet_step (fail)))
    refine wpQuiet_nil ?_
    intro w5 hw5
    have hb5:=hid (below_rg hw5)
    clear hw5
    go_wp2_with fail
    go_ret
    exact ⟨by rw [HJL.out]; rfl,HW.out.trans (hb5.out.mono HW.out.size)⟩
  ·have h1i:¬ (p:Int) < (na:Int):=by omega
   have hne:¬ j + 1<=L:=fun h=>by
    obtain ⟨h4,_,_⟩:=hnx.1 h
    exact h1 h4
   have HJL:=hid (HEND.out hne)
   clear hnx hia hib HNX HID HJD hp hq h1 HEND hne
   go_upto_region 2 with (fail)
   refine wp_region_quiet_below (by kernel_rfl) (by kernel_rfl) ?_
   repeat (any_goals (first | go_big_quiet_step (fail) | quiet_step (fail)))
   refine wpQuiet_nil ?_
   intro w5 hw5
   have hb5:=hid (below_rg hw5)
   clear hw5
   go_wp2_with fail
   go_ret
   exact ⟨by rw [HJL.out]; rfl,HW.out.trans (hb5.out.mono HW.out.size)⟩
end Go.Proofs.YtijkieiihpiljaaGreat
