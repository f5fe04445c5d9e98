/- Joined texts: PkRp, PkRe, PkRr, PkDd, PkRz, PkRf. -/
import Derived.Test.YtijkieiihpiljaaGreatP2
import Derived.Test.YtijkieiihpiljaaGreatP5
import Derived.Test.YtijkieiihpiljaaGreatP3
import Derived.Test.YtijkieiihpiljaaGreatK6
import Derived.Test.YtijkieiihpiljaaGreatK5
import Derived.Test.YtijkieiihpiljaaGreatP1
import Derived.Test.YtijkieiihpiljaaGreatP4
/- Packs: the reference's Apply and Encode of a delta. -/
set_option maxRecDepth 100000
set_option maxHeartbeats 16000000
open Go.Lib (hid)
namespace Go.Proofs.YtijkieiihpiljaaGreat
open Go.RowKit Go.Shelf
set_option linter.unusedVariables false
theorem rdapply_any (A:List UInt8) (a:Option Addr) (l:List Dop) (c:Nat) (w:World) (hl:GIn opCs 3 w.heap.size w a l) (hA:(A.length:Int)<=140737488355328) (hll:(l.length:Int)<=9223372036854775807) (hs:∀ o ∈ l,o.data.length<=1099511627776/\o.len<=1099511627776/\o.off<=1099511627776) :
  Calls Tryz.prog 93 #[.string ⟨A.toArray⟩,.slice a l.length c] w fun e w'=>e = .returned (.tuple #[.string ⟨(applyD A l).1.toArray⟩,.int .i64 (applyD A l).2])/\Below w.heap.size w w':=by
 obtain ⟨R,hR⟩:∃ R,R=applyD A l:=⟨_,rfl⟩
 rw [<-hR]
 have HBAD:Hid (checkD l A.length ≠ 0->R=([],checkD l A.length)):=hid (fun h=>hR.trans (applyD_bad h))
 have HOK:Hid (checkD l A.length=0->R=(l.flatMap (outO A),0)):=hid (fun h=>hR.trans (applyD_ok h))
 have HFT:Hid (checkD l A.length=0->DFit A l):=hid dfit_of
 have HC:=hid (rdcheck_any a l c A.length w hl (by omega) hll hs)
 have hsz:=ba_len A
 obtain ⟨n,hn⟩:∃ n,n=A.length:=⟨_,rfl⟩
 rw [<-hn] at HC hsz
 obtain ⟨m,hm⟩:∃ m,m=l.length:=⟨_,rfl⟩
 rw [<-hm] at HC ⊢
 have HM:=hid hm
 have HL:=hid hl
 obtain ⟨ce,hce⟩:∃ ce,ce=checkD l A.length:=⟨_,rfl⟩
 rw [<-hce] at HBAD HOK HFT
 rw [hn,<-hce,<-hn] at HC
 have HNA:=hid hn
 have hmb:(m:Int)<=9223372036854775807:=by omega
 clear hR hl hs hm hce hn
 by_cases hc0:ce=0
 case neg=>
  have hne:(ce != 0)=true:=by simpa using hc0
  have HR:=hid (HBAD.out hc0)
  clear HBAD HOK HFT hc0
  go_enter Tryz.func93,Tryz.ntmps93
  go_wp2_with fail
  (with_reducible refine (HC.out).mono ?_)
  rintro e u1 ⟨rfl,hb⟩
  have HB1:=hid hb
  clear hb HC
  go_wp2_with fail
  go_ret2
  rw [HR.out]
  exact ⟨rfl,HB1.out⟩
 case pos=>
 subst hc0
 have HR:=hid (HOK.out rfl)
 have HF:=hid (HFT.out rfl)
 clear HBAD HOK HFT
 go_enter Tryz.func93,Tryz.ntmps93
 go_wp2_with fail
 (with_reducible refine (HC.out).mono ?_)
 rintro e u1 ⟨rfl,hb⟩
 have HB:=hid hb
 clear hb HC
 go_wp2_with fail
 go_loopw [7,8] (fun s i wr=>∃ (k:Nat) (T:List UInt8),k<=m/\i = .int .i64 (k:Int)/\s = .string ⟨T.toArray⟩/\Hid (T=(l.take k).flatMap (outO A))/\Hid (Below w.heap.size w wr)) (fun _ i _=>m - (intOf i).toNat)
 case atStart=>exact ⟨0,[],by omega,rfl,rfl,hid rfl,HB⟩
 case round=>
  obtain ⟨k,T,hk,rfl,rfl,HT,HW⟩:=hrel
  clear HB
  by_cases hlt:k < m
  ·have hkn:(k:Int) < (m:Int):=by omega
   have h1:k < l.length:=by rw [<-HM.out]; exact hlt
   obtain ⟨b0,of0,haa,hbb,q0,q1,q2⟩:=op_cells (HL.out.ahead HW.out) h1
   have hft:=HF.out.fit _ (List.getElem_mem h1)
   have hin:=HF.out.inr _ (List.getElem_mem h1)
   have hsi:=HF.out.siz (k + 1)
   have hft2:=flat_take (a:=A) h1
   rw [hft2,List.length_append] at hsi
   rw [<-HT.out] at hft2 hsi
   have HT2:=hid hft2
   have hou:=out_len hft hin
   generalize l[k]=o at q0 q1 q2 hft hin hsi HT2 hou
   have hal:=HF.out.al
   rw [<-HNA.out] at hal
   have HO1:Hid (0 < o.len->outO A o=(A.drop o.off).take (o.off + o.len - o.off)/\o.off<=o.off + o.len/\o.off + o.len<=n):=hid (fun h=>⟨by rw [out_copy hft h,Nat.add_sub_cancel_left],by omega,by rw [HNA.out]; exact hin h⟩)
   have HO2:Hid (o.len=0->outO A o=o.data):=hid (fun h=>out_ins h)
   obtain ⟨D,hD⟩:∃ D,D=outO A o:=⟨_,rfl⟩
   rw [<-hD] at HO1 HO2 HT2 hsi
   have hcat:(⟨T.toArray⟩:ByteArray) ++ ⟨D.toArray⟩=⟨(T ++ D).toArray⟩:=by rw [ba_append]
   have hlT:=ba_len T
   have hlD:=ba_len D
   obtain ⟨off,len,data⟩:=o
   simp only at *
   rw [haa]
   have HT3:Hid (T ++ D=(l.take (k + 1)).flatMap (outO A)):=hid HT2.out.symm
   clear hft hin hou hD HT HT2 hft2 h1
   by_cases hl0:0 < len
   ·have hli:0 < (len:Int):=by omega
    obtain ⟨e1,e2,e3⟩:=HO1.out hl0
    obtain ⟨en,hen⟩:∃ en,en=off + len:=⟨_,rfl⟩
    have hwr:IntKind.i64.wrap ((off:Int) + (len:Int))=(en:Int):=by rw [wrap_i64 (by omega) (by omega)]; omega
    have hsl:=fun W=>sl_mid A off en (by omega) (by rw [<-HNA.out]; omega) W
    rw [<-hen] at e1 e3
    rw [<-e1] at hsl
    have hex:(⟨A.toArray⟩:ByteArray).extract off en=⟨D.toArray⟩:=by rw [ex_mid,<-e1]
    obtain ⟨lT,hlTn⟩:∃ lT,lT=T.length:=⟨_,rfl⟩
    obtain ⟨lD,hlDn⟩:∃ lD,lD=D.length:=⟨_,rfl⟩
    rw [<-hlTn,<-hlDn] at hsi
    rw [<-hlTn] at hlT
    rw [<-hlDn] at hlD
    clear HO1 HO2 e1 hlTn hlDn hen e2 e3 haa
    go_wp2_with fail
    go_region
    go_wp2_with fail
    go_roundw
    case rel=>exact ⟨k + 1,T ++ D,by omega,by go_num,rfl,HT3,hid HW.out.drew⟩
    case measure=>simp [intOf] <;> omega
   ·have hli:¬ 0 < (len:Int):=by omega
    have e1:=HO2.out (by omega)
    subst e1
    clear HO1 HO2 haa
    go_wp2_with fail
    go_roundw
    case rel=>exact ⟨k + 1,T ++ D,by omega,by go_num,rfl,HT3,HW⟩
    case measure=>simp [intOf] <;> omega
  ·obtain rfl:k=m:=by omega
   have hkn:¬ (k:Int) < (k:Int):=by omega
   have HTK:Hid (R=(T,0)):=hid (by rw [HR.out,HT.out,List.take_of_length_le (by rw [<-HM.out]; omega)])
   clear HT HR
   go_wp2_with fail
   go_ret2
   rw [HTK.out]
   exact ⟨rfl,HW.out⟩
theorem rpi (n:Nat) (h1:(n:Int)<=1099511627776) (w:World):Calls Tryz.prog 78 #[.int .i64 (n:Int)] w fun e w'=>e = .returned (.tuple #[.string ⟨(Cw.enc n).toArray⟩,.int .i64 0])/\Below w.heap.size w w':=by
 have h:=refPutInt_any (n:Int) w
 have:putI (n:Int)=(Cw.enc n,0):=by unfold putI; rw [if_pos ((Cw.inR_iff _).2 ⟨by omega,h1⟩)]; simp
 rw [this] at h
 exact h
theorem rpt (T:List UInt8) (h:T.length<=65536) (w:World):Calls Tryz.prog 83 #[.string ⟨T.toArray⟩] w fun e w'=>e = .returned (.tuple #[.string ⟨(putT T).1.toArray⟩,.int .i64 0])/\Below w.heap.size w w':=by
 have h1:=refPutText_any ⟨T.toArray⟩ w (by rw [ba_len]; omega)
 have h2:putT T=((putT T).1,0):=by unfold putT; rw [if_pos h]
 simp only at h1
 rw [h2] at h1
 exact h1
theorem putT_len {T:List UInt8} (h:T.length<=65536):(putT T).1.length<=65546:=by
 unfold putT
 rw [if_pos h,List.length_append]
 have:=enc_length T.length
 omega
theorem encO_bound {o:Dop} (h:o.data.length<=65536):(encO o).length<=65556:=by
 unfold encO
 rw [List.length_append]
 have:=enc_length o.len
 have:=enc_length o.off
 have:=putT_len h
 split <;> omega
theorem encs_bound:∀ (l:List Dop),(∀ o ∈ l,o.data.length<=65536)->(l.flatMap encO).length<=65556 * l.length
 | [],_=>by simp
 | o :: l,h=>by
  rw [List.flatMap_cons,List.length_append,List.length_cons]
  have h1:=encO_bound (h o (by simp))
  have h2:=encs_bound l (fun x hx=>h x (List.mem_cons_of_mem _ hx))
  omega
theorem check_data {l:List Dop} (h:checkD l 65536=0):(∀ o ∈ l,fitO o/\o.data.length<=65536/\(o.len:Int)<=1099511627776/\(o.off:Int)<=1099511627776)/\l.length<=65536:=by
 obtain ⟨h1,h2⟩:=check_small h
 obtain ⟨g1,g2⟩:=chk_fit l 0 h2 (by omega)
 refine ⟨fun o ho=>?_,by omega⟩
 obtain ⟨k1,k2,k3⟩:=g1 o ho
 refine ⟨k1,?_⟩
 rcases k1 with ⟨c1,c2⟩ | ⟨c1,c2,c3⟩
 ·have:=k3 c1
  rw [c2]
  simp only [List.length_nil]
  omega
 ·unfold sizeO at k2
  rw [if_neg (by omega)] at k2
  omega
theorem encs_take {l:List Dop} {k:Nat} (h:k < l.length):(l.take (k + 1)).flatMap encO=(l.take k).flatMap encO ++ encO l[k]:=by
 rw [List.take_succ_eq_append_getElem h,List.flatMap_append]
 simp
theorem rdenc_any (a:Option Addr) (l:List Dop) (c:Nat) (w:World) (hl:GIn opCs 3 w.heap.size w a l) (hll:(l.length:Int)<=9223372036854775807) (hs:∀ o ∈ l,o.data.length<=1099511627776/\o.len<=1099511627776/\o.off<=1099511627776) :
  Calls Tryz.prog 81 #[.slice a l.length c] w fun e w'=>e = .returned (.tuple #[.string ⟨(encL l).1.toArray⟩,.int .i64 (encL l).2])/\Below w.heap.size w w':=by
 obtain ⟨R,hR⟩:∃ R,R=encL l:=⟨_,rfl⟩
 rw [<-hR]
 have HBAD:Hid (checkD l 65536 ≠ 0->R=([],checkD l 65536)):=hid (fun h=>hR.trans (by unfold encL; rw [if_pos h]))
 have HOK:Hid (checkD l 65536=0->R=(Cw.enc l.length ++ l.flatMap encO,0)):=hid (fun h=>hR.trans (by unfold encL; rw [if_neg (by simp [h])]))
 have HFT:Hid (checkD l 65536=0->(∀ o ∈ l,fitO o/\o.data.length<=65536/\(o.len:Int)<=1099511627776/\(o.off:Int)<=1099511627776)/\l.length<=65536):=hid check_data
 have HC:=hid (rdcheck_any a l c 65536 w hl (by omega) hll hs)
 rw [show ((65536:Nat):Int)=65536 from rfl] at HC
 obtain ⟨m,hm⟩:∃ m,m=l.length:=⟨_,rfl⟩
 rw [<-hm] at HC HFT HOK ⊢
 have HM:=hid hm
 have HL:=hid hl
 generalize checkD l 65536=ce at HC HBAD HOK HFT
 clear hR hl hs hm
 by_cases hc0:ce=0
 case neg=>
  have hne:(ce != 0)=true:=by simpa using hc0
  have HR:=hid (HBAD.out hc0)
  clear HBAD HOK HFT hc0
  go_enter Tryz.func81,Tryz.ntmps81
  go_wp2_with fail
  (with_reducible refine (HC.out).mono ?_)
  rintro e u1 ⟨rfl,hb⟩
  have HB1:=hid hb
  clear hb HC
  go_wp2_with fail
  go_ret2
  rw [HR.out]
  exact ⟨rfl,HB1.out⟩
 case pos=>
 subst hc0
 have HR:=hid (HOK.out rfl)
 obtain ⟨hF,hmb⟩:=HFT.out rfl
 have HF:=hid hF
 have HPM:=hid (fun W=>rpi m (by omega) W)
 clear HBAD HOK HFT hF
 go_enter Tryz.func81,Tryz.ntmps81
 go_wp2_with fail
 (with_reducible refine (HC.out).mono ?_)
 rintro e u1 ⟨rfl,hb⟩
 have HB:=hid hb
 clear hb HC
 go_wp2_with fail
 (with_reducible refine (HPM.out _).mono ?_)
 rintro e u2 ⟨rfl,hb2⟩
 have HB2:=hid (HB.out.trans (hb2.mono HB.out.size))
 have hen:=enc_length m
 obtain ⟨E,hE⟩:∃ E,E=Cw.enc m:=⟨_,rfl⟩
 rw [<-hE] at HR hen ⊢
 clear hb2 HPM hE HB
 go_wp2_with fail
 go_loopw [5,7] (fun s i wr=>∃ (k:Nat) (T:List UInt8),k<=m/\i = .int .i64 (k:Int)/\s = .string ⟨T.toArray⟩/\Hid (T=E ++ (l.take k).flatMap encO)/\Hid (Below w.heap.size w wr)) (fun _ i _=>m - (intOf i).toNat)
 case atStart=>exact ⟨0,E,by omega,rfl,rfl,hid (by simp),HB2⟩
 case round=>
  clear HB2
  obtain ⟨k,T,hk,rfl,rfl,HT,HW⟩:=hrel
  by_cases hlt:k < m
  ·have hkn:(k:Int) < (m:Int):=by omega
   have h1:k < l.length:=by rw [<-HM.out]; exact hlt
   have hlT:=ba_len T
   have hTl:T.length<=10 + 65556 * 65536:=by
    rw [HT.out,List.length_append]
    have:=encs_bound (l.take k) (fun o ho=>(HF.out o (List.mem_of_mem_take ho)).2.1)
    rw [List.length_take] at this
    have:min k l.length<=65536:=by omega
    omega
   obtain ⟨b0,of0,haa,hbb,q0,q1,q2⟩:=op_cells (HL.out.ahead HW.out) h1
   have HCE:Hid (∀ W,Below wr.heap.size wr W->Below w.heap.size w W/\W.cell? ⟨b0,of0 + k * 3,none⟩=some (.int .i64 (l[k].off:Int))/\W.cell? ⟨b0,of0 + k * 3 + 1,none⟩=some (.int .i64 (l[k].len:Int))/\W.cell? ⟨b0,of0 + k * 3 + 2,none⟩=some (.string ⟨l[k].data.toArray⟩)):=hid (fun W hW=>⟨HW.out.trans (hW.mono HW.out.size),(hW.cell (p:=⟨b0,of0 + k * 3,none⟩) hbb).trans q0,(hW.cell (p:=⟨b0,of0 + k * 3 + 1,none⟩) hbb).trans q1,(hW.cell (p:=⟨b0,of0 + k * 3 + 2,none⟩) hbb).trans q2⟩)
   obtain ⟨f1,f2,f3,f4⟩:=HF.out _ (List.getElem_mem h1)
   have HT2:=hid (encs_take h1)
   generalize l[k]=o at q0 q1 q2 f1 f2 f3 f4 HT2 HCE
   have HP1:=hid (fun W=>rpi o.len f3 W)
   have HP2:=hid (fun W=>rpt o.data f2 W)
   have HP3:=hid (fun W=>rpi o.off f4 W)
   have HE:Hid (encO o=Cw.enc o.len ++ (if 0 < o.len then Cw.enc o.off else (putT o.data).1)):=hid (by
    unfold encO
    by_cases hc:0 < o.len
    ·rw [if_pos ((fit_copy f1).2 hc),if_pos hc]
    ·rw [if_neg (fun h=>hc ((fit_copy f1).1 h)),if_neg hc])
   have HT3:Hid (T ++ encO o=E ++ (l.take (k + 1)).flatMap encO):=hid (by rw [HT2.out,HT.out,List.append_assoc])
   have hx1:=enc_length o.len
   have hx2:=enc_length o.off
   have hx3:=putT_len f2
   generalize Cw.enc o.len=X1 at HP1 HE hx1
   generalize (putT o.data).1=X2 at HP2 HE hx3
   generalize Cw.enc o.off=X3 at HP3 HE hx2
   generalize encO o=EO at HE HT3
   obtain ⟨off,len,data⟩:=o
   simp only at *
   subst haa
   have hl1:=ba_len X1
   have hl2:=ba_len X2
   have hl3:=ba_len X3
   have hc1:(⟨T.toArray⟩:ByteArray) ++ ⟨X1.toArray⟩=⟨(T ++ X1).toArray⟩:=by rw [ba_append]
   have hlc:=ba_len (T ++ X1)
   rw [List.length_append] at hlc
   clear HT HT2 f1 f2 f3 f4 h1
   go_wp2_with fail
   (with_reducible refine (HP1.out _).mono ?_)
   rintro e v1 ⟨rfl,hb1⟩
   obtain ⟨_,r0,r1,r2⟩:=HCE.out _ hb1
   clear q0 q1 q2
   go_wp2_with fail
   (with_reducible refine (HP2.out _).mono ?_)
   rintro e v2 ⟨rfl,hb2⟩
   have hb12:=hb1.trans (hb2.mono hb1.size)
   obtain ⟨hw2,s0,s1,s2⟩:=HCE.out _ hb12
   have HW2:=hid hw2
   have HB12:=hid hb12
   clear r0 r1 r2 hb1 hb2 hw2 hb12
   by_cases hl0:0 < len
   ·have hli:0 < (len:Int):=by omega
    have HE2:Hid (T ++ X1 ++ X3=T ++ EO):=hid (by rw [HE.out,if_pos hl0,List.append_assoc])
    have hc2:(⟨(T ++ X1).toArray⟩:ByteArray) ++ ⟨X3.toArray⟩=⟨(T ++ EO).toArray⟩:=by rw [ba_append,<-HE2.out]
    clear HE HE2
    go_wp2_with fail
    (with_reducible refine (HP3.out _).mono ?_)
    rintro e v3 ⟨rfl,hb3⟩
    have hb13:=HB12.out.trans (hb3.mono HB12.out.size)
    obtain ⟨hw3,_⟩:=HCE.out _ hb13
    have HW3:=hid hw3
    clear hb3 hb13 hw3 s0 s1 s2 HCE HW HW2 HB12
    go_wp2_with fail
    go_roundw
    case rel=>exact ⟨k + 1,T ++ EO,by omega,by go_num,rfl,HT3,HW3⟩
    case measure=>simp [intOf] <;> omega
   ·have hli:¬ 0 < (len:Int):=by omega
    have HE2:Hid (T ++ X1 ++ X2=T ++ EO):=hid (by rw [HE.out,if_neg hl0,List.append_assoc])
    have hc2:(⟨(T ++ X1).toArray⟩:ByteArray) ++ ⟨X2.toArray⟩=⟨(T ++ EO).toArray⟩:=by rw [ba_append,<-HE2.out]
    clear HE HE2 HCE HW HB12
    go_wp2_with fail
    go_roundw
    case rel=>exact ⟨k + 1,T ++ EO,by omega,by go_num,rfl,HT3,HW2⟩
    case measure=>simp [intOf] <;> omega
  ·obtain rfl:k=m:=by omega
   have hkn:¬ (k:Int) < (k:Int):=by omega
   have HTK:Hid (R=(T,0)):=hid (by rw [HR.out,HT.out,List.take_of_length_le (by rw [<-HM.out]; omega)])
   clear HT HR
   go_wp2_with fail
   go_ret2
   rw [HTK.out]
   exact ⟨rfl,HW.out⟩
theorem datI_hit {xs:List Itm} {d:Int × Int} {k:Nat} (hk:k < xs.length) (he:xs[k].d=d) (hb:∀ j (hj:j < xs.length),j < k->xs[j].d ≠ d):datI xs d=(xs[k].data,0):=by
 have:xs.find? (fun x=>decide (x.d=d))=some xs[k]:=by
  rw [List.find?_eq_some_iff_getElem]
  refine ⟨by simpa using he,k,hk,rfl,fun j hj=>?_⟩
  simpa using hb j (by omega) hj
 unfold datI
 rw [this]
theorem datI_miss {xs:List Itm} {d:Int × Int} (hb:∀ j (hj:j < xs.length),xs[j].d ≠ d):datI xs d=([],8):=by
 have:xs.find? (fun x=>decide (x.d=d))=none:=by
  rw [List.find?_eq_none]
  intro x hx
  obtain ⟨j,hj,rfl⟩:=List.getElem_of_mem hx
  simpa using hb j hj
 unfold datI
 rw [this]
theorem rdata_any (a:Option Addr) (xs:List Itm) (c:Nat) (d1 d2:Int) (w:World) (hp:Its w.heap.size w a xs) (hn:(xs.length:Int)<=9223372036854775807) :
  Calls Tryz.prog 79 #[.slice a xs.length c,.agg #[.int .u64 d1,.int .u64 d2]] w fun e w'=>e = .returned (.tuple #[.string ⟨(datI xs (d1,d2)).1.toArray⟩,.bool ((datI xs (d1,d2)).2 == 0)])/\Below w.heap.size w w':=by
 obtain ⟨wa,hwa⟩:∃ wa,wa=w.alloc (.cells #[.int .u64 d1,.int .u64 d2] 41):=⟨_,rfl⟩
 have hba:Below w.heap.size w wa:=by rw [hwa]; exact (Below.refl _ _).alloc (Nat.le_refl _) _
 have HB:=hid hba
 have HD:Hid (BK w.heap.size #[.int .u64 d1,.int .u64 d2] 41 wa):=hid (by rw [hwa]; exact BK.new _ _ _)
 have HP:=hid hp
 have HWA:=hid hwa
 obtain ⟨R,hR⟩:∃ R,R=datI xs (d1,d2):=⟨_,rfl⟩
 rw [<-hR]
 have HHIT:Hid (∀ k (hk:k < xs.length),xs[k].d=(d1,d2)->(∀ j (hj:j < xs.length),j < k->xs[j].d ≠ (d1,d2))->R=(xs[k].data,0)):=hid (fun k hk h1 h2=>hR.trans (datI_hit hk h1 h2))
 have HMISS:Hid ((∀ j (hj:j < xs.length),xs[j].d ≠ (d1,d2))->R=([],8)):=hid (fun h=>hR.trans (datI_miss h))
 obtain ⟨n,hnn⟩:∃ n,n=xs.length:=⟨_,rfl⟩
 rw [<-hnn] at hn ⊢
 have HN:=hid hnn
 clear hwa hba hp hR hnn
 go_enter Tryz.func79,Tryz.ntmps79
 go_wp2_with fail
 rw [<-HWA.out]
 clear HWA
 go_loopw [6] (fun i wr=>∃ k:Nat,k<=n/\i = .int .i64 (k:Int)/\Hid (∀ j (hj:j < xs.length),j < k->xs[j].d ≠ (d1,d2))/\Hid (Below w.heap.size w wr)/\Hid (BK w.heap.size #[.int .u64 d1,.int .u64 d2] 41 wr)) (fun i _=>n - (intOf i).toNat)
 case atStart=>exact ⟨0,by omega,rfl,hid (fun j _ h=>by omega),HB,HD⟩
 case round=>
  clear HB HD
  obtain ⟨k,hk,rfl,HL,HB,HD⟩:=hrel
  by_cases hlt:k < n
  ·have hkn:(k:Int) < (n:Int):=by omega
   have h1:k < xs.length:=by rw [<-HN.out]; exact hlt
   obtain ⟨b0,of0,haa,hbb,q0,q1,q2⟩:=(HP.out.ahead HB.out) k h1
   have HH:=hid (HHIT.out k h1)
   have HNX:Hid (xs[k].d ≠ (d1,d2)->∀ j (hj:j < xs.length),j < k + 1->xs[j].d ≠ (d1,d2)):=hid (fun h j hj hjk=>by
    by_cases e:j=k
    ·subst e; exact h
    ·exact HL.out j hj (by omega))
   generalize xs[k]=x at q0 q1 q2 HH HNX
   obtain ⟨⟨x1,x2⟩,data⟩:=x
   simp only at q0 q1 q2 HH HNX
   obtain ⟨g0,g1⟩:=BK.c2 (show BK _ #[.int .u64 d1,.int .u64 d2] _ _ from HD.out)
   have heq:=fun W=>eql_dig x1 x2 d1 d2 W
   by_cases he:(x1,x2)=(d1,d2)
   ·have hb:(x1 == d1 && x2 == d2)=true:=by
     simp only [Prod.mk.injEq] at he
     simp [he.1,he.2]
    rw [hb] at heq
    have HR:=hid (HH.out he HL.out)
    have HBB:=hid HB.out.drew
    have hbd:Below wr.heap.size wr wr.drew:=(Below.refl _ _).drew
    have r2:=(hbd.cell (p:=⟨b0,of0 + k * 3 + 2,none⟩) hbb).trans q2
    rw [haa]
    clear HH HNX HL HB HD HHIT HMISS he hb haa hbd
    go_wp2_with fail
    go_region
    clear q0 q1 q2 g0 g1 heq
    go_wp2_with fail
    go_ret2
    rw [HR.out]
    exact ⟨rfl,HBB.out⟩
   ·have hb:(x1 == d1 && x2 == d2)=false:=by
     cases h:(x1 == d1 && x2 == d2) with
     | false=>rfl
     | true=>exact absurd (by simp only [Bool.and_eq_true,beq_iff_eq] at h; rw [h.1,h.2]) he
    rw [hb] at heq
    have HL2:=hid (HNX.out he)
    have HBB:=hid HB.out.drew
    have HDD:=hid (HD.out.below ((Below.refl _ _).drew))
    rw [haa]
    clear HH HNX HL HB HD HMISS he hb
    go_wp2_with fail
    go_region
    clear q0 q1 q2 g0 g1 heq
    go_wp2_with fail
    go_roundw
    case rel=>exact ⟨k + 1,by omega,by go_num,HL2,HBB,HDD⟩
    case measure=>simp [intOf] <;> omega
  ·obtain rfl:k=n:=by omega
   have hkn:¬ (k:Int) < (k:Int):=by omega
   have HR:=hid (HMISS.out (fun j hj=>HL.out j hj (by rw [HN.out]; exact hj)))
   clear HL HHIT HMISS HD
   go_wp2_with fail
   go_ret2
   rw [HR.out]
   exact ⟨rfl,HB.out⟩
def rightE (T:List UInt8) (d:Int × Int):Int:=if (decodeS T).2 ≠ 0 then 13 else if digS T ≠ d then 15 else 0
theorem rightS_is (T:List UInt8) (d:Int × Int):pcompS.rightS T d=if rightE T d ≠ 0 then ([],rightE T d) else (T,0):=by
 unfold pcompS.rightS rightE
 split
 ·simp
 ·split <;> simp
theorem rright_any (T:List UInt8) (d1 d2:Int) (w:World) (hl:(T.length:Int)<=1000000) :
  Calls Tryz.prog 94 #[.string ⟨T.toArray⟩,.agg #[.int .u64 d1,.int .u64 d2]] w fun e w'=>e = .returned (.int .i64 (rightE T (d1,d2)))/\Below w.heap.size w w':=by
 obtain ⟨wa,hwa⟩:∃ wa,wa=w.alloc (.cells #[.int .u64 d1,.int .u64 d2] 41):=⟨_,rfl⟩
 have hba:Below w.heap.size w wa:=by rw [hwa]; exact (Below.refl _ _).alloc (Nat.le_refl _) _
 have HB:=hid hba
 have HD:Hid (BK w.heap.size #[.int .u64 d1,.int .u64 d2] 41 wa):=hid (by rw [hwa]; exact BK.new _ _ _)
 have HDE:=hid (rdecode_any T wa hl)
 have HOF:=hid (fun W=>refOf_any T W (by omega))
 have HWA:=hid hwa
 obtain ⟨R,hR⟩:∃ R,R=rightE T (d1,d2):=⟨_,rfl⟩
 rw [<-hR]
 unfold rightE at hR
 obtain ⟨o,oe,hoo⟩:∃ o oe,decodeS T=(o,oe):=⟨_,_,rfl⟩
 obtain ⟨D1,D2,hdd⟩:∃ D1 D2,digS T=(D1,D2):=⟨_,_,rfl⟩
 rw [hoo,hdd] at hR
 rw [hoo] at HDE
 rw [hdd] at HOF
 rw [hwa] at HDE
 simp only at hR HDE HOF
 have HR:=hid hR
 have hqn:=fun W=>neq_dig D1 D2 d1 d2 W
 unfold GotO at HDE
 clear hwa hba hR hoo hdd
 go_enter Tryz.func94,Tryz.ntmps94
 go_wp2_with fail
 (with_reducible refine (HDE.out).mono ?_)
 rintro e u ⟨ea,ec,pa,pc,rfl,hob,hb⟩
 rw [<-HWA.out] at hb
 have hd:=HD.out.below hb
 have hbb:=HB.out.trans (hb.mono HB.out.size)
 have hdl:=hd.lt
 obtain ⟨kind,data,ents,⟨t1,t2⟩,pars,author,time,msg⟩:=o
 simp only [Ob.val]
 generalize ents.length=ne
 generalize pars.length=np
 obtain ⟨u2,hu2⟩:∃ u2,u2=u.alloc (.cells #[.int .i64 kind,.string ⟨data.toArray⟩,.slice ea ne ec,.int .u64 t1,.int .u64 t2,.slice pa np pc,.string ⟨author.toArray⟩,.int .i64 time,.string ⟨msg.toArray⟩] 56):=⟨_,rfl⟩
 have hbu:Below u.heap.size u u2:=by rw [hu2]; exact (Below.refl _ _).alloc (Nat.le_refl _) _
 have hd2:=hd.below hbu
 have HB2:=hid (hbb.trans (hbu.mono hbb.size))
 have HU2:=hid hu2
 clear hob HDE HWA HB HD hd hbb hb
 by_cases hoe:oe=0
 case neg=>
  have hne:(oe != 0)=true:=by simpa using hoe
  have HR2:Hid (R=13):=hid (by rw [HR.out,if_pos hoe])
  clear HR hoe hd2 hbu hu2
  go_wp2_with fail
  rw [<-HU2.out]
  go_ret
  exact ⟨by rw [HR2.out]; rfl,HB2.out⟩
 case pos=>
 subst hoe
 have HR2:Hid (R=if (D1,D2) ≠ (d1,d2) then 15 else 0):=hid (by rw [HR.out,if_neg (by simp)])
 have HRO:=hid (fun d os=>Calls.regrown_of (w:=u2) (d:=d) (os:=os) (HOF.out _))
 obtain ⟨g0,g1⟩:=BK.c2 (show BK _ #[.int .u64 d1,.int .u64 d2] _ _ from hd2)
 have f0:=cell_regrown g0
 have f1:=cell_regrown g1
 clear hu2 hbu hd2 HR HOF
 by_cases hne:(D1,D2)=(d1,d2)
 case neg=>
  have hb:(D1 == d1 && D2 == d2)=false:=by
   cases h:(D1 == d1 && D2 == d2) with
   | false=>rfl
   | true=>exact absurd (by simp only [Bool.and_eq_true,beq_iff_eq] at h; rw [h.1,h.2]) hne
  have HR3:Hid (R=15):=hid (by rw [HR2.out,if_pos hne])
  rw [hb] at hqn
  simp only [Bool.not_false] at hqn
  clear HR2 hne hb
  go_upto_region 4 with (fail)
  rw [<-HU2.out]
  refine wp_region_quiet_below (by kernel_rfl) (by kernel_rfl) ?_
  repeat (any_goals (first | go_big_quiet_step (first | (with_reducible exact HRO.out _ _)) | quiet_step (first | (with_reducible exact HRO.out _ _))))
  refine wpQuiet_nil ?_
  intro w4 hw4
  have HB4:=hid (HB2.out.trans ((below_rg hw4).mono HB2.out.size))
  clear hw4 HU2 g0 g1 f0 f1 HRO hqn
  go_wp2_with fail
  go_ret
  exact ⟨by rw [HR3.out]; rfl,HB4.out⟩
 case pos=>
 have hb:(D1 == d1 && D2 == d2)=true:=by
  simp only [Prod.mk.injEq] at hne
  simp [hne.1,hne.2]
 have HR3:Hid (R=0):=hid (by rw [HR2.out,if_neg (by simp [hne])])
 rw [hb] at hqn
 simp only [Bool.not_true] at hqn
 clear HR2 hne hb
 go_upto_region 4 with (fail)
 rw [<-HU2.out]
 refine wp_region_quiet_below (by kernel_rfl) (by kernel_rfl) ?_
 repeat (any_goals (first | go_big_quiet_step (first | (with_reducible exact HRO.out _ _)) | quiet_step (first | (with_reducible exact HRO.out _ _))))
 refine wpQuiet_nil ?_
 intro w4 hw4
 have HB4:=hid (HB2.out.trans ((below_rg hw4).mono HB2.out.size))
 clear hw4 HU2 g0 g1 f0 f1 HRO hqn
 go_wp2_with fail
 go_ret
 exact ⟨by rw [HR3.out]; rfl,HB4.out⟩
structure RSt (s:List UInt8) (u:Nat) (R:List Dop × Int) (k:Nat) (r:List UInt8) (b:Bool) (l:List Dop):Prop where
 len:l.length=k
 small:∀ o ∈ l,o.data.length<=1099511627776/\o.len<=1099511627776/\o.off<=1099511627776
 rl:r.length<=s.length
 good:b=true->∃ p,r=s.drop p/\DeSt s u k p l
 bad:b=false->R=([],13)
theorem RSt.down {s:List UInt8} {u k:Nat} {R:List Dop × Int} {r r':List UInt8} {l:List Dop} (h:RSt s u R k r true l) (hr:R=([],13)) (hl:r'.length<=s.length) (o:Dop) (ho:o.data.length<=1099511627776/\o.len<=1099511627776/\o.off<=1099511627776):RSt s u R (k + 1) r' false (l ++ [o]):=by
 refine ⟨by simp [h.len],fun x hx=>?_,hl,(fun e=>by cases e),fun _=>hr⟩
 rcases List.mem_append.1 hx with hx | hx
 ·exact h.small x hx
 ·rw [List.mem_singleton.1 hx]; exact ho
theorem RSt.up {s:List UInt8} {u k j:Nat} {R:List Dop × Int} {r:List UInt8} {l:List Dop} (h:RSt s u R k r true l) {o:Dop} (ho:opS r=some (o,j)):RSt s u R (k + 1) (r.drop j) true (l ++ [o]):=by
 obtain ⟨p,rfl,hd⟩:=h.good rfl
 have h1:=hd.next ho
 obtain ⟨_,_,_,h4,_,_,h5,h6⟩:=opS_split ho
 refine ⟨by simp [h.len],fun x hx=>?_,?_,fun _=>⟨p + j,by rw [List.drop_drop],h1⟩,fun e=>by cases e⟩
 ·rcases List.mem_append.1 hx with hx | hx
  ·exact h.small x hx
  ·rw [List.mem_singleton.1 hx]; exact ⟨by omega,h5,h6⟩
 ·rw [List.drop_drop,List.length_drop]; omega
theorem RSt.room {s:List UInt8} {u k:Nat} {R:List Dop × Int} {r:List UInt8} {l:List Dop} (h:RSt s u R k r true l):k<=s.length:=by
 obtain ⟨p,rfl,hd⟩:=h.good rfl
 have:=hd.at_.room
 rw [List.length_drop,List.length_drop] at this
 omega
theorem RSt.none {s:List UInt8} {u k n:Nat} {R:List Dop × Int} {r:List UInt8} {l:List Dop} (h:RSt s u R k r true l) (hn:opsGo n (s.drop u) []=Option.none->R=([],13)) (hk:k < n) (ho:opS r=Option.none):R=([],13):=by
 obtain ⟨p,rfl,hd⟩:=h.good rfl
 exact hn (opsGo_none k hd.go hk ho)
theorem RSt.fin {s:List UInt8} {u n:Nat} {r:List UInt8} {l:List Dop} (h:RSt s u (decD s) n r true l) (hg:Cw.getI s=((n:Int),(u:Int),0)):decD s=if (encL l).2 ≠ 0\/(encL l).1 ≠ s then ([],13) else (l,0):=by
 obtain ⟨p,rfl,hd⟩:=h.good rfl
 exact decD_ref hg (by simpa using hd.at_) rfl (by simpa using hd.go)
theorem rddec_any (s:List UInt8) (w:World) (hl:(s.length:Int)<=1000000):Calls Tryz.prog 92 #[.string ⟨s.toArray⟩] w (GotD w (decD s).1 (decD s).2):=by
 obtain ⟨n,u,er,hg⟩:∃ n u er,Cw.getI s=(n,u,er):=⟨_,_,_,rfl⟩
 obtain ⟨h1,h2,h3,h4⟩:=getI_all hg
 obtain ⟨n0,rfl⟩:∃ n0:Nat,n=(n0:Int):=⟨n.toNat,by omega⟩
 obtain ⟨u0,rfl⟩:∃ u0:Nat,u=(u0:Int):=⟨u.toNat,by omega⟩
 have HG:=hid (rdnum_any hg w (by omega))
 obtain ⟨R,hR⟩:∃ R,R=decD s:=⟨_,rfl⟩
 have HFI:Hid (∀ r l,er=0->RSt s u0 R n0 r true l->R=if (encL l).2 ≠ 0\/(encL l).1 ≠ s then ([],13) else (l,0)):=hid (fun r l he h=>by
  subst he
  rw [hR] at h ⊢
  exact h.fin hg)
 have HNO:Hid (er=0->opsGo n0 (s.drop u0) []=Option.none->R=([],13)):=hid (fun he h=>by
  subst he
  rw [hR]
  exact decD_none hg h)
 have HST:Hid (RSt s u0 R 0 (s.drop u0) (er == 0) []):=hid (by
  refine ⟨rfl,fun o ho=>by simp at ho,by rw [List.length_drop]; omega,fun _=>⟨u0,rfl,DeSt.start (by omega)⟩,fun h=>?_⟩
  rw [hR]
  exact decD_bad hg (by simpa using h))
 rw [<-hR]
 obtain ⟨m,hm⟩:∃ m,m=s.length:=⟨_,rfl⟩
 have HM:=hid hm
 have hsz:(⟨s.toArray⟩:ByteArray).size=m:=by rw [ba_len,hm]
 rw [<-hm] at hl h4
 obtain ⟨r0,hr0⟩:∃ r0,r0=s.drop u0:=⟨_,rfl⟩
 rw [<-hr0] at HG HST
 obtain ⟨b0,hb0⟩:∃ b0,b0=(er == 0):=⟨_,rfl⟩
 rw [<-hb0] at HG HST
 have HER:Hid (b0=true->er=0):=hid (fun h=>by rw [hb0] at h; simpa using h)
 clear hg hR hm hr0 hb0
 go_enter Tryz.func92,Tryz.ntmps92
 go_wp2_with fail
 (with_reducible refine (HG.out).mono ?_)
 rintro e w1 ⟨rfl,hb⟩
 have HB0:=hid hb
 clear hb HG
 go_wp2_with fail
 go_loopw [5,6,7,8] (fun a t v i wr=>∃ (k:Nat) (r:List UInt8) (b:Bool) (ls:List Dop),k<=n0/\a = .string ⟨r.toArray⟩/\t = .bool b/\i = .int .i64 (k:Int)/\Hid (RSt s u0 R k r b ls/\(b=true->er=0))/\Hid (wr.ownsRow w.heap.size 180 3 v k (gcs opCs ls))/\Hid (Below w.heap.size w wr)) (fun _ _ _ i _=>n0 - (intOf i).toNat)
 case atStart=>exact ⟨0,r0,b0,[],by omega,rfl,rfl,rfl,hid ⟨HST.out,HER.out⟩,hid (World.ownsRow_nil _ _ _ _),HB0⟩
 case round=>
  clear HST HB0 HER
  obtain ⟨k,r,b,ls,hk,rfl,rfl,rfl,HS,HO,HB⟩:=hrel
  obtain ⟨va,vc,rfl,hvc⟩:=ownsRow_sliceN HO.out
  by_cases hgo:k < n0/\b=true
  ·obtain ⟨hlt,rfl⟩:=hgo
   have hkn:(k:Int) < (n0:Int):=by omega
   have hkm0:=HS.out.1.room
   rw [<-HM.out] at hkm0
   have hkm:(k:Int)<=(m:Int):=by omega
   have hkb:(k:Int)<=1000000:=by omega
   have her:=HS.out.2 rfl
   have HLN:=hid HS.out.1.len
   have HBAD:=hid (fun h=>HS.out.1.none (HNO.out her) hlt h)
   have HDN:=hid (fun (hr:R=([],13)) (r':List UInt8) (hl:r'.length<=s.length) (o:Dop) ho=>HS.out.1.down (r':=r') hr hl o ho)
   have HUP:=hid (fun (o:Dop) (j:Nat) (h:opS r=some (o,j))=>HS.out.1.up h)
   have hrl:=HS.out.1.rl
   have hrm:(r.length:Int)<=1000000:=by rw [<-HM.out] at hrl; omega
   obtain ⟨n1,u1,e1,hg1⟩:∃ n1 u1 e1,Cw.getI r=(n1,u1,e1):=⟨_,_,_,rfl⟩
   obtain ⟨k1,k2,k3,k4⟩:=getI_all hg1
   obtain ⟨x1,rfl⟩:∃ x1:Nat,n1=(x1:Int):=⟨n1.toNat,by omega⟩
   obtain ⟨y1,rfl⟩:∃ y1:Nat,u1=(y1:Int):=⟨u1.toNat,by omega⟩
   have hx1:x1<=1099511627776:=by omega
   obtain ⟨v0,hv0⟩:∃ v0,v0=wr.alloc (.cells #[.int .i64 0,.int .i64 0,.string ⟨#[]⟩] 180):=⟨_,rfl⟩
   have hbv0:Below wr.heap.size wr v0:=by rw [hv0]; exact (Below.refl _ _).alloc (Nat.le_refl _) _
   have hxv0:BK wr.heap.size #[.int .i64 0,.int .i64 0,.string ⟨#[]⟩] 180 v0:=by rw [hv0]; exact BK.new _ _ _
   have HN1:=hid (rdnum_any hg1 v0 (by omega))
   rw [hv0] at HN1
   have HBV0:=hid hbv0
   have HXV0:=hid hxv0
   have HV0:=hid hv0
   have HBD1:=hid (fun (h:e1 ≠ 0)=>HBAD.out (opS_bad hg1 h))
   have HCP:Hid (e1=0->0 < x1->∀ m2 v2 e2,Cw.getI (r.drop y1)=(m2,v2,e2)->opS r=if e2 ≠ 0 then Option.none else some (⟨m2.toNat,x1,[]⟩,y1 + v2.toNat)):=hid (fun h hx m2 v2 e2 h2=>by subst h; exact opS_copy hg1 hx h2)
   have HIN:Hid (e1=0->x1=0->∀ t v2 e2,Cw.getT (r.drop y1)=(t,v2,e2)->opS r=if e2 ≠ 0 then Option.none else some (⟨0,0,t⟩,y1 + v2.toNat)):=hid (fun h hx m2 v2 e2 h2=>by subst h; subst hx; exact opS_ins hg1 h2)
   have HRL:Hid ((r.drop y1).length<=s.length):=hid (by rw [List.length_drop]; omega)
   have hr1:((r.drop y1).length:Int)<=1000000:=by rw [List.length_drop]; omega
   have HDD:Hid (∀ j,(r.drop y1).drop j=r.drop (y1 + j)):=hid (fun j=>by rw [List.drop_drop])
   obtain ⟨r1,hr1e⟩:∃ r1,r1=r.drop y1:=⟨_,rfl⟩
   rw [<-hr1e] at HN1 HCP HIN HRL hr1 HDD
   obtain ⟨b1,hb1e⟩:∃ b1,b1=(e1 == 0):=⟨_,rfl⟩
   rw [<-hb1e] at HN1
   clear hg1 k1 k2 k3 k4 hbv0 hxv0 hv0 hr1e hrl
   go_wp2_with fail
   (with_reducible refine (HN1.out).mono ?_)
   rintro e v1 ⟨rfl,hb1⟩
   rw [<-HV0.out] at hb1
   have hbv1:=HBV0.out.trans (hb1.mono HBV0.out.size)
   have hxv1:=HXV0.out.below hb1
   obtain ⟨v2,hv2⟩:∃ v2,v2=v1.setCell ⟨wr.heap.size,1,none⟩ (.int .i64 (x1:Int)):=⟨_,rfl⟩
   have hxv2:BK wr.heap.size #[.int .i64 0,.int .i64 (x1:Int),.string ⟨#[]⟩] 180 v2:=by rw [hv2]; exact hxv1.set 1 _
   have hbv2:Below wr.heap.size wr v2:=by rw [hv2]; exact hbv1.setCell (by simp) _
   obtain ⟨f0,f1,f2⟩:=BK.c3 (show BK _ #[.int .i64 0,.int .i64 0,.string ⟨#[]⟩] _ _ from hxv1)
   obtain ⟨ff0,ff1,ff2⟩:=BK.f3 (hxv1)
   obtain ⟨g0,g1,g2⟩:=BK.c3 (show BK _ #[.int .i64 0,.int .i64 (x1:Int),.string ⟨#[]⟩] _ _ from hxv2)
   rw [hv2] at g0 g1 g2
   have HV2:=hid hv2
   have HX2:=hid hxv2
   have HB2:=hid hbv2
   clear hb1 hbv1 hxv1 hv2 hxv2 hbv2 HN1 HBV0 HXV0 HV0
   cases b1 with
   | false=>
    have he1:e1 ≠ 0:=by simpa using hb1e.symm
    have HS1:Hid (RSt s u0 R (k + 1) r1 false (ls ++ [⟨0,x1,[]⟩])/\(false=true->er=0)):=hid ⟨HDN.out (HBD1.out he1) r1 HRL.out ⟨0,x1,[]⟩ ⟨by simp,hx1,by simp⟩,fun h=>by cases h⟩
    clear hb1e he1 HCP HIN HDD HBD1 HUP HBAD HDN
    have HB9:=hid (HB.out.trans ((HB2.out).mono HB.out.size))
    obtain ⟨z0,z1,z2⟩:=BK.c3 (show BK _ #[.int .i64 (0:Int),.int .i64 (x1:Int),.string ⟨[].toArray⟩] _ _ from HX2.out)
    obtain ⟨v',W',hrun,hown',hg',_⟩:=append_op HLN.out.symm (own_below HO.out HB2.out) ⟨0,x1,[]⟩ hkb HB9.out.size
    have HB4:Hid (Below w.heap.size w W'):=hid ((HB9.out.alloc HB9.out.size _).grown hg' (by have:=HB9.out.size; simp; omega) (fun i hi=>by have:=(HO.out.lt i hi).1; omega))
    have hsz9:v2.heap.size=v1.heap.size:=by rw [HV2.out]; simp
    simp only [opCs] at hrun
    rw [hsz9,HV2.out] at hrun
    rw [HV2.out] at z0 z1 z2
    have HRUN:=hid hrun.out
    have HO4:=hid hown'
    have HS9:=hid HS1.out
    clear hrun hown' hg' HB9 HB HO HB2 HX2 HLN hsz9 HV2
    go_wp2_with (at_builtin; refine Lib.wpList_append_run _ rfl _ _ _ _ rfl _ _ rfl rfl _ _ HRUN.out ?_)
    go_roundw
    case rel=>exact ⟨k + 1,r1,false,_,by omega,rfl,rfl,by go_num,HS9,HO4,HB4⟩
    case measure=>simp [intOf] <;> omega
   | true=>
    have he1:e1=0:=by simpa using hb1e.symm
    clear HBD1 hb1e
    by_cases hx0:0 < x1
    ·have hxi:0 < (x1:Int):=by omega
     obtain ⟨n2,u2,e2,hg2⟩:∃ n2 u2 e2,Cw.getI r1=(n2,u2,e2):=⟨_,_,_,rfl⟩
     obtain ⟨k1,k2,k3,k4⟩:=getI_all hg2
     obtain ⟨x2,rfl⟩:∃ x2:Nat,n2=(x2:Int):=⟨n2.toNat,by omega⟩
     obtain ⟨y2,rfl⟩:∃ y2:Nat,u2=(y2:Int):=⟨u2.toNat,by omega⟩
     have hop:=HCP.out he1 hx0 _ _ _ hg2
     simp only [Int.toNat_natCast] at hop
     have HS1:Hid (RSt s u0 R (k + 1) (r1.drop y2) (e2 == 0) (ls ++ [⟨x2,x1,[]⟩])/\((e2 == 0)=true->er=0)):=hid (by
      refine ⟨?_,fun _=>her⟩
      by_cases h:e2=0
      ·subst h
       rw [if_neg (by simp)] at hop
       rw [HDD.out]
       exact HUP.out _ _ hop
      ·rw [if_pos h] at hop
       rw [show (e2 == 0)=false by simpa using h]
       exact HDN.out (HBAD.out hop) _ (by have:=HRL.out; rw [List.length_drop]; omega) ⟨x2,x1,[]⟩ ⟨by simp,hx1,by show x2<=_; omega⟩)
     have HN2:=hid (rdnum_any hg2 v2 (by omega))
     rw [HV2.out] at HN2
     generalize (e2 == 0)=b2 at HS1 HN2
     generalize r1.drop y2=r2 at HS1 HN2
     clear hop HCP HIN HDD HUP HBAD HDN k1 k2 k3 k4 hg2 he1 HRL
     go_wp2_with fail
     (with_reducible refine (HN2.out).mono ?_)
     rintro e v3 ⟨rfl,hb3⟩
     rw [<-HV2.out] at hb3
     have hbv3:=HB2.out.trans (hb3.mono HB2.out.size)
     have hxv3:=HX2.out.below hb3
     obtain ⟨v4,hv4⟩:∃ v4,v4=v3.setCell ⟨wr.heap.size,0,none⟩ (.int .i64 (x2:Int)):=⟨_,rfl⟩
     have HX4:Hid (BK wr.heap.size #[.int .i64 (x2:Int),.int .i64 (x1:Int),.string ⟨#[]⟩] 180 v4):=hid (by rw [hv4]; exact hxv3.set 0 _)
     have HB4':Hid (Below wr.heap.size wr v4):=hid (by rw [hv4]; exact hbv3.setCell (by simp) _)
     clear f0 f1 f2 ff0 ff1 ff2 g0 g1 g2 HN2
     obtain ⟨h0,h1,h2⟩:=BK.c3 (show BK _ #[.int .i64 0,.int .i64 (x1:Int),.string ⟨#[]⟩] _ _ from hxv3)
     obtain ⟨fh0,fh1,fh2⟩:=BK.f3 (hxv3)
     have HV4:=hid hv4
     clear hb3 hbv3 hxv3 hv4 HX2 HB2 HV2
     have HB9:=hid (HB.out.trans ((HB4'.out).mono HB.out.size))
     obtain ⟨z0,z1,z2⟩:=BK.c3 (show BK _ #[.int .i64 (x2:Int),.int .i64 (x1:Int),.string ⟨[].toArray⟩] _ _ from HX4.out)
     obtain ⟨v',W',hrun,hown',hg',_⟩:=append_op HLN.out.symm (own_below HO.out HB4'.out) ⟨x2,x1,[]⟩ hkb HB9.out.size
     have HB4:Hid (Below w.heap.size w W'):=hid ((HB9.out.alloc HB9.out.size _).grown hg' (by have:=HB9.out.size; simp; omega) (fun i hi=>by have:=(HO.out.lt i hi).1; omega))
     have hsz9:v4.heap.size=v3.heap.size:=by rw [HV4.out]; simp
     simp only [opCs] at hrun
     rw [hsz9,HV4.out] at hrun
     rw [HV4.out] at z0 z1 z2
     have HRUN:=hid hrun.out
     have HO4:=hid hown'
     have HS9:=hid HS1.out
     clear hrun hown' hg' HB9 HB HO HB4' HX4 HLN hsz9 HV4
     go_wp2_with (at_builtin; refine Lib.wpList_append_run _ rfl _ _ _ _ rfl _ _ rfl rfl _ _ HRUN.out ?_)
     go_roundw
     case rel=>exact ⟨k + 1,r2,b2,_,by omega,rfl,rfl,by go_num,HS9,HO4,HB4⟩
     case measure=>simp [intOf] <;> omega
    ·obtain rfl:x1=0:=by omega
     obtain ⟨tx,v2',e2,hg2⟩:∃ tx v2 e2,Cw.getT r1=(tx,v2,e2):=⟨_,_,_,rfl⟩
     obtain ⟨k1,k2,k3⟩:=getT_all hg2
     obtain ⟨y2,rfl⟩:∃ y2:Nat,v2' = (y2:Int):=⟨v2'.toNat,by omega⟩
     have hop:=HIN.out he1 rfl _ _ _ hg2
     simp only [Int.toNat_natCast] at hop
     have HS1:Hid (RSt s u0 R (k + 1) (r1.drop y2) (e2 == 0) (ls ++ [⟨0,0,tx⟩])/\((e2 == 0)=true->er=0)):=hid (by
      refine ⟨?_,fun _=>her⟩
      by_cases h:e2=0
      ·subst h
       rw [if_neg (by simp)] at hop
       rw [HDD.out]
       exact HUP.out _ _ hop
      ·rw [if_pos h] at hop
       rw [show (e2 == 0)=false by simpa using h]
       exact HDN.out (HBAD.out hop) _ (by have:=HRL.out; rw [List.length_drop]; omega) ⟨0,0,tx⟩ ⟨by show tx.length<=_; omega,by simp,by simp⟩)
     have HT:Hid (∀ X,Calls Tryz.prog 90 #[.string ⟨r1.toArray⟩] X fun e w'=>e = .returned (.tuple #[.string ⟨tx.toArray⟩,.int .i64 (y2:Int),.int .i64 e2])/\X=w'):=hid (fun X=>by
      have:=refGetText_any ⟨r1.toArray⟩ X (by rw [ba_len]; omega)
      simp only at this
      rw [hg2] at this
      exact this)
     have hsl:=fun W=>sl_lo r1 y2 (by omega) W
     have hex:(⟨r1.toArray⟩:ByteArray).extract y2 r1.length=⟨(r1.drop y2).toArray⟩:=by rw [ex_mid,List.take_of_length_le (by simp)]
     generalize r1.drop y2=r2 at HS1 hsl hex
     clear hop HCP HIN HDD HUP HBAD HDN k1 k2 hg2 he1 HRL
     have HV2':Hid (v2=v1.setCell ⟨wr.heap.size,1,none⟩ (.int .i64 0)):=hid HV2.out
     have HX2':Hid (BK wr.heap.size #[.int .i64 0,.int .i64 0,.string ⟨#[]⟩] 180 v2):=hid HX2.out
     have g1':(v1.setCell ⟨wr.heap.size,1,none⟩ (.int .i64 0)).cell? ⟨wr.heap.size,1,none⟩=some (.int .i64 0):=g1
     clear HV2 HX2 g1
     go_wp2_with fail
     (with_reducible refine (HT.out _).mono ?_)
     rintro e v3 ⟨rfl,rfl⟩
     go_wp2_with fail
     rw [<-HV2'.out]
     clear f0 f1 f2 ff0 ff1 ff2 g0 g1' g2 HT HV2'
     obtain ⟨q0,q1,q2⟩:=BK.c3 (show BK _ #[.int .i64 0,.int .i64 0,.string ⟨#[]⟩] _ _ from HX2'.out)
     obtain ⟨fq0,fq1,fq2⟩:=BK.f3 (HX2'.out)
     obtain ⟨v4,hv4⟩:∃ v4,v4=(v2.setCell ⟨wr.heap.size,2,none⟩ (.string ⟨tx.toArray⟩)).drew:=⟨_,rfl⟩
     have HX4:Hid (BK wr.heap.size #[.int .i64 0,.int .i64 0,.string ⟨tx.toArray⟩] 180 v4):=hid (by rw [hv4]; exact (show BK wr.heap.size #[.int .i64 0,.int .i64 0,.string ⟨tx.toArray⟩] 180 _ from HX2'.out.set 2 _).below ((Below.refl _ _).drew))
     have HB4':Hid (Below wr.heap.size wr v4):=hid (by rw [hv4]; exact (HB2.out.setCell (by simp) _).drew)
     have HV4:=hid hv4
     clear hv4 HX2' HB2
     go_region
     clear q0 q1 q2 fq0 fq1 fq2
     have HB9:=hid (HB.out.trans ((HB4'.out).mono HB.out.size))
     obtain ⟨z0,z1,z2⟩:=BK.c3 (show BK _ #[.int .i64 (0:Int),.int .i64 (0:Int),.string ⟨tx.toArray⟩] _ _ from HX4.out)
     obtain ⟨v',W',hrun,hown',hg',_⟩:=append_op HLN.out.symm (own_below HO.out HB4'.out) ⟨0,0,tx⟩ hkb HB9.out.size
     have HB4:Hid (Below w.heap.size w W'):=hid ((HB9.out.alloc HB9.out.size _).grown hg' (by have:=HB9.out.size; simp; omega) (fun i hi=>by have:=(HO.out.lt i hi).1; omega))
     have hsz9:v4.heap.size=v2.heap.size:=by rw [HV4.out]; simp
     simp only [opCs] at hrun
     rw [hsz9,HV4.out] at hrun
     rw [HV4.out] at z0 z1 z2
     have HRUN:=hid hrun.out
     have HO4:=hid hown'
     have HS9:=hid HS1.out
     clear hrun hown' hg' HB9 HB HO HB4' HX4 HLN hsz9 HV4
     go_wp2_with (at_builtin; refine Lib.wpList_append_run _ rfl _ _ _ _ rfl _ _ rfl rfl _ _ HRUN.out ?_)
     go_roundw
     case rel=>exact ⟨k + 1,r2,(e2 == 0),_,by omega,rfl,rfl,by go_num,HS9,HO4,HB4⟩
     case measure=>simp [intOf] <;> omega
  ·have HLE:=hid HS.out.1.len
   have HI:=hid (own_gin layOp HLE.out.symm HO.out)
   have HEN:=hid (rdenc_any va ls vc wr (HI.out.mono (by have:=HB.out.size; omega)) (by rw [HLE.out]; omega) HS.out.1.small)
   rw [HLE.out] at HEN
   obtain ⟨T,te,hte⟩:∃ T te,encL ls=(T,te):=⟨_,_,rfl⟩
   rw [hte] at HEN
   simp only at HEN
   have hlt:=ba_len T
   cases b with
   | false=>
    have HR:=hid (HS.out.1.bad rfl)
    clear hte HFI HNO HS
    by_cases hkn0:k < n0
    ·have hkn:(k:Int) < (n0:Int):=by omega
     go_wp2_with fail
     (with_reducible refine (HEN.out).mono ?_)
     rintro e u2 ⟨rfl,hb⟩
     have HB1:=hid (HB.out.trans (hb.mono HB.out.size))
     clear hb
     go_wp2_with fail
     go_ret2
     rw [HR.out]
     exact GotD.no 13 HB1.out
    ·have hkn:¬ (k:Int) < (n0:Int):=by omega
     go_wp2_with fail
     (with_reducible refine (HEN.out).mono ?_)
     rintro e u2 ⟨rfl,hb⟩
     have HB1:=hid (HB.out.trans (hb.mono HB.out.size))
     clear hb
     go_wp2_with fail
     go_ret2
     rw [HR.out]
     exact GotD.no 13 HB1.out
   | true=>
    obtain rfl:k=n0:=by
     by_cases e:k < n0
     ·exact absurd ⟨e,rfl⟩ hgo
     ·omega
    have hkn:¬ (k:Int) < (k:Int):=by omega
    have hRR:=HFI.out r ls (HS.out.2 rfl) HS.out.1
    rw [hte] at hRR
    simp only at hRR
    have HRR:=hid hRR
    clear hte HFI HNO HS hRR hgo
    by_cases hte0:te=0
    ·subst hte0
     by_cases hts:T=s
     ·have HR:Hid (R=(ls,0)):=hid (by rw [HRR.out,if_neg (by simp [hts])])
      subst hts
      clear HRR
      go_wp2_with fail
      (with_reducible refine (HEN.out).mono ?_)
      rintro e u2 ⟨rfl,hb⟩
      have HB1:=hid (HB.out.trans (hb.mono HB.out.size))
      have HI1:=hid (own_gin layOp HLE.out.symm (own_below HO.out hb))
      clear hb
      go_wp2_with fail
      go_ret2
      rw [HR.out]
      exact ⟨va,vc,by rw [HLE.out]; rfl,HI1.out,HB1.out⟩
     ·have hbq:(T == s)=false:=by simpa using hts
      have HR:Hid (R=([],13)):=hid (by rw [HRR.out,if_pos (.inr hts)])
      clear HRR hts
      go_wp2_with fail
      (with_reducible refine (HEN.out).mono ?_)
      rintro e u2 ⟨rfl,hb⟩
      have HB1:=hid (HB.out.trans (hb.mono HB.out.size))
      clear hb
      go_wp2_with fail
      go_ret2
      rw [HR.out]
      exact GotD.no 13 HB1.out
    ·have hne:(te != 0)=true:=by simpa using hte0
     have HR:Hid (R=([],13)):=hid (by rw [HRR.out,if_pos (.inl hte0)])
     clear HRR hte0
     go_wp2_with fail
     (with_reducible refine (HEN.out).mono ?_)
     rintro e u2 ⟨rfl,hb⟩
     have HB1:=hid (HB.out.trans (hb.mono HB.out.size))
     clear hb
     go_wp2_with fail
     go_ret2
     rw [HR.out]
     exact GotD.no 13 HB1.out
theorem datI_err (xs:List Itm) (d:Int × Int) (h:(datI xs d).2 ≠ 0):datI xs d=([],8):=by
 unfold datI at h ⊢
 cases hf:xs.find? (fun x=>decide (x.d=d)) with
 | none=>rfl
 | some x=>rw [hf] at h; simp at h
theorem right_err {t:List UInt8} {d:Int × Int} (h:(pcompS.rightS t d).2 ≠ 0):(pcompS.rightS t d).1=[]:=by
 unfold pcompS.rightS at h ⊢
 split
 ·rfl
 ·rename_i h1
  rw [if_neg h1] at h
  split
  ·rfl
  ·rename_i h2; rw [if_neg h2] at h; simp at h
theorem dat_err {R:Rdr}:∀ (n i:Nat),i < n->i < R.l.length->(R.dat i).2 ≠ 0->(R.dat i).1=[]
 | 0,i,h,_=>by omega
 | n + 1,i,h,hi=>by
  have hS:(srcS R.xs R.l R.dat i R.l[i].base).2 ≠ 0->(srcS R.xs R.l R.dat i R.l[i].base).1=[]:=by
   unfold srcS
   cases hx:idxE R.l R.l[i].base with
   | none=>intro h; simp only at h ⊢; rw [datI_err _ _ h]
   | some j=>
    simp only
    by_cases hj:j < i
    ·rw [if_pos hj]; exact dat_err n j (by omega) (by omega)
    ·rw [if_neg hj]; intro h; rw [datI_err _ _ h]
  have hd:R.dat i=pcompS R.s (srcS R.xs R.l R.dat i R.l[i].base) R.l[i]:=datS_eq hi
  rw [hd]
  generalize srcS R.xs R.l R.dat i R.l[i].base=sr at *
  generalize R.l[i]=x at *
  unfold pcompS
  intro h
  split
  ·rename_i h0
   rw [if_pos h0] at h
   split
   ·rename_i h1; exact hS h1
   ·rename_i h1
    rw [if_neg h1] at h
    split
    ·rfl
    ·rename_i h2
     rw [if_neg h2] at h
     split
     ·rfl
     ·rename_i h3; rw [if_neg h3] at h; exact right_err h
  ·rename_i h0
   rw [if_neg h0] at h
   exact right_err h
theorem src_hit {xs:List Itm} {l:List Pe} {dat:Nat->List UInt8 × Int} {k i:Nat} {d:Int × Int} (hn:(l.map (·.d)).Nodup) (hk:k < l.length) (he:l[k].d=d) (hi:k < i):srcS xs l dat i d=dat k:=by
 unfold srcS
 rw [<-he,idxE_at hn hk]
 simp only
 rw [if_pos hi]
theorem src_pass {xs:List Itm} {l:List Pe} {dat:Nat->List UInt8 × Int} {k:Nat} {d:Int × Int} (hk:k < l.length) (he:l[k].d ≠ d):srcS xs l dat (k + 1) d=srcS xs l dat k d:=by
 unfold srcS
 cases h:idxE l d with
 | none=>rfl
 | some j=>
  simp only
  obtain ⟨hj,hjd,_⟩:=idxE_some h
  have:j ≠ k:=fun e=>he (by subst e; exact hjd)
  by_cases hjk:j < k
  ·rw [if_pos hjk,if_pos (by omega)]
  ·rw [if_neg hjk,if_neg (by omega)]
theorem src_zero {xs:List Itm} {l:List Pe} {dat:Nat->List UInt8 × Int} {d:Int × Int}:srcS xs l dat 0 d=datI xs d:=by
 unfold srcS
 cases h:idxE l d <;> rfl
def ReadS (R:Rdr) (i:Nat):Prop:=∀ W:World,GIn peCs 7 W.heap.size W R.ea R.l->Its W.heap.size W R.pa R.xs->Calls Tryz.prog 47 #[.string ⟨R.s.toArray⟩,.slice R.ea R.l.length R.ec,.int .i64 (i:Int),.slice R.pa R.xs.length R.pc] W fun e w'=>e = .returned (.tuple #[.string ⟨(R.dat i).1.toArray⟩,.int .i64 (R.dat i).2])/\Below W.heap.size W w'
theorem read_of (R:Rdr) (hR:R.Ok) (i:Nat) (hi:i < R.l.length) (hrd:∀ j,j < i->ReadS R j):ReadS R i:=by
 intro w hG hIt
 have hil:(i:Int)<=1000:=by have:=hR.ll; omega
 have hxl:=hR.xl
 have HRD:=hid hrd
 have HGI:=hid hG
 have HIT:=hid hIt
 obtain ⟨k0,hek⟩:=hR.ents.at_ _ (List.getElem_mem hi)
 have hpe:=(entryS_at hek).1
 have hsl:=hR.sl
 have hroom:R.l[i].off + R.l[i].len<=R.s.length:=by have:=hpe.hi; rw [List.length_take] at this; omega
 have hlen:=hpe.tl
 have hkd:=hpe.kind
 have hdat:R.dat i=pcompS R.s (srcS R.xs R.l R.dat i R.l[i].base) R.l[i]:=datS_eq hi
 have hsrl:=src_len hR i (Nat.le_of_lt hi) R.l[i].base
 obtain ⟨bl,ofl,hea,hlt,q0,q1,q2,q3,q4,q5,q6⟩:=pe_cells hG hi
 obtain ⟨T,er,hSR⟩:∃ T er,R.dat i=(T,er):=⟨_,_,rfl⟩
 have HSR:=hid (hSR.symm.trans hdat)
 have HDE:=hid (dat_err (R:=R) (i + 1) i (by omega) hi)
 rw [hSR] at HDE ⊢
 generalize hxx:R.l[i]=x at *
 obtain ⟨⟨d1,d2⟩,kd,⟨b1,b2⟩,off,len⟩:=x
 simp only at q0 q1 q2 q3 q4 q5 q6 hroom hlen hkd HSR hsrl HDE ⊢
 clear hSR hdat hek hpe hrd hG hIt hxx
 obtain ⟨wb,hwb⟩:∃ wb,wb=w.alloc (.cells #[.int .u64 d1,.int .u64 d2,.int .i64 kd,.int .u64 b1,.int .u64 b2,.int .i64 (off:Int),.int .i64 (len:Int)] 53):=⟨_,rfl⟩
 have hbb:Below w.heap.size w wb:=by rw [hwb]; exact (Below.refl _ _).alloc (Nat.le_refl _) _
 have HE0:Hid (BK w.heap.size #[.int .u64 d1,.int .u64 d2,.int .i64 kd,.int .u64 b1,.int .u64 b2,.int .i64 (off:Int),.int .i64 (len:Int)] 53 wb):=hid (by rw [hwb]; exact BK.new _ _ _)
 have HB0:=hid hbb
 have HWB:=hid hwb
 obtain ⟨nl,hnl⟩:∃ nl,nl=R.l.length:=⟨_,rfl⟩
 obtain ⟨nx,hnx⟩:∃ nx,nx=R.xs.length:=⟨_,rfl⟩
 have hii:i < nl:=by rw [hnl]; exact hi
 have HNL:=hid hnl
 have HNX:=hid hnx
 rw [<-hnl,<-hnx]
 rw [hea]
 obtain ⟨pe,hpe⟩:∃ pe,pe=off + len:=⟨_,rfl⟩
 have hwr:IntKind.i64.wrap ((off:Int) + (len:Int))=(pe:Int):=by rw [wrap_i64 (by omega) (by omega)]; omega
 have hsm:=fun W=>sl_mid R.s off pe (by omega) (by omega) W
 have hex:(⟨R.s.toArray⟩:ByteArray).extract off pe=⟨((R.s.drop off).take len).toArray⟩:=by rw [ex_mid,hpe,Nat.add_sub_cancel_left]
 rw [show pe - off=len by omega] at hsm
 have hdl:=dropTake_len R.s off len hroom
 obtain ⟨D0,hD0⟩:∃ D0,D0=(R.s.drop off).take len:=⟨_,rfl⟩
 have hss:=ba_len R.s
 rw [<-hD0] at hsm hex hdl
 have HD0:=hid hD0
 have HEA:=hid hea
 obtain ⟨e0,e1,e2,e3,e4,e5,e6⟩:=BK.c7 (show BK _ #[.int .u64 d1,.int .u64 d2,.int .i64 kd,.int .u64 b1,.int .u64 b2,.int .i64 (off:Int),.int .i64 (len:Int)] _ _ from HE0.out)
 rw [hwb] at e0 e1 e2 e3 e4 e5 e6
 clear hD0 hpe hwb hbb hnl hnx hea
 rcases hkd with rfl | rfl
 ·have HT:Hid ((T,er)=pcompS.rightS D0 (d1,d2)):=hid (by rw [HSR.out,HD0.out]; unfold pcompS; rw [if_neg (by simp)])
  obtain ⟨D,hDD⟩:∃ D,D=D0:=⟨_,rfl⟩
  rw [<-hDD] at HT hdl hsm hex
  have hDl:(D.length:Int)<=65536:=by omega
  clear hDD HSR HD0 HRD
  have HE:=hid HE0.out
  have HBT:=hid HB0.out
  go_enter Tryz.func47,Tryz.ntmps47
  go_wp2_with fail
  rw [<-HWB.out]
  rw [<-HWB.out] at e0 e1 e2 e3 e4 e5 e6
  clear HWB HE0 HB0 q0 q1 q2 q3 q4 q5 q6
  have HRI:=hid (rright_any D d1 d2 wb (by omega))
  have HT2:=hid (HT.out.trans (rightS_is D (d1,d2)))
  generalize rightE D (d1,d2)=re at HRI HT2
  obtain ⟨y0,y1,y2,y3,y4,y5,y6⟩:=BK.c7 (show BK _ #[.int .u64 d1,.int .u64 d2,.int .i64 0,.int .u64 b1,.int .u64 b2,.int .i64 (off:Int),.int .i64 (len:Int)] _ _ from HE.out)
  clear HT
  go_wp2_with fail
  (with_reducible refine (HRI.out).mono ?_)
  rintro e u9 ⟨rfl,hb9⟩
  have HB9:=hid (HBT.out.trans (hb9.mono HBT.out.size))
  clear HRI hb9 y0 y1 y2 y3 y4 y5 y6 HE HBT
  by_cases hre:re=0
  ·subst hre
   have hte:=HT2.out
   rw [if_neg (by simp)] at hte
   simp only [Prod.mk.injEq] at hte
   obtain ⟨hte1,hte2⟩:=hte
   subst hte1
   subst hte2
   clear HT2
   go_wp2_with fail
   go_ret2
   exact ⟨rfl,HB9.out⟩
  ·have hne:(re != 0)=true:=by simpa using hre
   have hte:=HT2.out
   rw [if_pos hre] at hte
   simp only [Prod.mk.injEq] at hte
   obtain ⟨hte1,hte2⟩:=hte
   subst hte1
   subst hte2
   clear HT2 hre
   go_wp2_with fail
   go_ret2
   exact ⟨rfl,HB9.out⟩
 ·have HK1:Hid ((T,er)=if (srcS R.xs R.l R.dat i (b1,b2)).2 ≠ 0 then srcS R.xs R.l R.dat i (b1,b2) else if (decD D0).2 ≠ 0 then ([],13) else if (applyD (srcS R.xs R.l R.dat i (b1,b2)).1 (decD D0).1).2 ≠ 0 then ([],13) else pcompS.rightS (applyD (srcS R.xs R.l R.dat i (b1,b2)).1 (decD D0).1).1 (d1,d2)):=hid (by rw [HSR.out,HD0.out]; unfold pcompS; rw [if_pos rfl])
  have HND:=hid hR.ents.nd
  have HDT:=hid (rdata_any R.pa R.xs R.pc b1 b2 wb (HIT.out.ahead HB0.out) (by omega))
  obtain ⟨A0,a0,hAA⟩:∃ A0 a0,datI R.xs (b1,b2)=(A0,a0):=⟨_,_,rfl⟩
  have HST:Hid (∃ e2,srcS R.xs R.l R.dat 0 (b1,b2)=(A0,e2)/\(a0 == 0)=(e2 == 0)/\(e2 ≠ 0->A0=[]/\e2=8)):=hid ⟨a0,by rw [src_zero,hAA],rfl,fun h=>by
   have:=datI_err R.xs (b1,b2) (by rw [hAA]; exact h)
   rw [hAA] at this
   simpa using this⟩
  rw [hAA,<-HNX.out] at HDT
  simp only at HDT
  generalize (a0 == 0)=t0 at HST HDT
  have HSL:=hid hsrl
  clear hAA HSR HD0 hsrl
  go_enter Tryz.func47,Tryz.ntmps47
  go_wp2_with fail
  rw [<-HWB.out]
  clear e0 e1 e2 e3 e4 e5 e6 q0 q1 q2 q3 q4 q5 q6 HWB
  (with_reducible refine (HDT.out).mono ?_)
  rintro e u1 ⟨rfl,hb1⟩
  have HE1:=hid (HE0.out.below hb1)
  have HB1:=hid (HB0.out.trans (hb1.mono HB0.out.size))
  clear hb1 HDT HE0 HB0
  go_wp2_with fail
  go_loopw [12,13,14] (fun a t c wr=>∃ (k:Nat) (fr:List UInt8) (th:Bool),k<=i/\a = .string ⟨fr.toArray⟩/\t = .bool th/\c = .int .i64 (k:Int)/\Hid (∃ e2,srcS R.xs R.l R.dat k (b1,b2)=(fr,e2)/\th=(e2 == 0)/\(e2 ≠ 0->fr=[]/\e2=8))/\Hid (BK w.heap.size #[.int .u64 d1,.int .u64 d2,.int .i64 1,.int .u64 b1,.int .u64 b2,.int .i64 (off:Int),.int .i64 (len:Int)] 53 wr)/\Hid (Below w.heap.size w wr)) (fun _ _ c _=>i - (intOf c).toNat)
  case atStart=>exact ⟨0,A0,t0,by omega,rfl,rfl,rfl,HST,HE1,HB1⟩
  case round=>
   clear HST HE1 HB1
   obtain ⟨k,fr,th,hk,rfl,rfl,rfl,HS,HE,HB⟩:=hrel
   by_cases hlt:k < i
   ·have hki:(k:Int) < (i:Int):=by omega
    have hkl:k < R.l.length:=by omega
    have hkn:k < nl:=by omega
    obtain ⟨bk,ofk,hek,hblt,q0,q1,q2,q3,q4,q5,q6⟩:=pe_cells (HGI.out.below HB.out (Nat.le_refl _)) hkl
    rw [HEA.out] at hek
    obtain ⟨rfl,rfl⟩:bl=bk/\ofl=ofk:=by simpa using hek
    clear q2 q3 q4 q5 q6
    have HHIT:Hid (R.l[k].d=(b1,b2)->srcS R.xs R.l R.dat i (b1,b2)=R.dat k/\srcS R.xs R.l R.dat (k + 1) (b1,b2)=R.dat k):=hid (fun h=>⟨src_hit HND.out hkl h hlt,src_hit HND.out hkl h (by omega)⟩)
    have HPASS:Hid (R.l[k].d ≠ (b1,b2)->srcS R.xs R.l R.dat (k + 1) (b1,b2)=srcS R.xs R.l R.dat k (b1,b2)):=hid (fun h=>src_pass hkl h)
    generalize R.l[k].d=dk at q0 q1 HHIT HPASS
    obtain ⟨c1,c2⟩:=dk
    simp only at q0 q1
    have heq:=fun W=>eql_dig c1 c2 b1 b2 W
    have HBD:=hid HB.out.drew
    have HED:=hid (HE.out.below ((Below.refl _ _).drew))
    obtain ⟨e0,e1,e2,e3,e4,e5,e6⟩:=BK.c7 (show BK _ #[.int .u64 d1,.int .u64 d2,.int .i64 1,.int .u64 b1,.int .u64 b2,.int .i64 (off:Int),.int .i64 (len:Int)] _ _ from HE.out)
    by_cases he:(c1,c2)=(b1,b2)
    ·have hb:(c1 == b1 && c2 == b2)=true:=by
      simp only [Prod.mk.injEq] at he
      simp [he.1,he.2]
     rw [hb] at heq
     obtain ⟨hs1,hs2⟩:=HHIT.out he
     obtain ⟨S,se,hdk⟩:∃ S se,R.dat k=(S,se):=⟨_,_,rfl⟩
     have HCALL:=hid (HRD.out k hlt wr.drew ((HGI.out.below HBD.out (Nat.le_refl _)).mono HBD.out.size) (HIT.out.ahead HBD.out))
     rw [hdk,<-HNL.out,<-HNX.out,HEA.out] at HCALL
     simp only at HCALL
     rw [hdk] at hs1 hs2
     have HS1:=hid hs1
     have HS2:=hid hs2
     clear he hb HHIT HPASS hdk hs1 hs2 HS HE HB
     go_wp2_with fail
     go_region
     clear e0 e1 e2 e3 e4 e5 e6 q0 q1 heq
     go_wp2_with fail
     (with_reducible refine (HCALL.out).mono ?_)
     rintro e u2 ⟨rfl,hb2⟩
     have HB2:=hid (HBD.out.trans (hb2.mono HBD.out.size))
     have HE2:=hid (HED.out.below hb2)
     clear hb2 HCALL HBD HED
     by_cases hse:se=0
     ·subst hse
      have HS3:Hid (∃ e2,srcS R.xs R.l R.dat (k + 1) (b1,b2)=(S,e2)/\true=(e2 == 0)/\(e2 ≠ 0->S=[]/\e2=8)):=hid ⟨0,HS2.out,rfl,fun h=>absurd rfl h⟩
      clear HS1 HS2
      go_wp2_with fail
      go_roundw
      case rel=>exact ⟨k + 1,S,true,by omega,rfl,rfl,by go_num,HS3,HE2,HB2⟩
      case measure=>simp [intOf] <;> omega
     ·have hne:(se != 0)=true:=by simpa using hse
      have hte:=HK1.out
      rw [HS1.out] at hte
      simp only at hte
      rw [if_pos hse] at hte
      simp only [Prod.mk.injEq] at hte
      obtain ⟨hte1,hte2⟩:=hte
      have HNIL:=HDE (by rw [hte2]; exact hse)
      subst hte2
      subst HNIL
      clear HK1 HS1 HS2 hse
      go_wp2_with fail
      go_ret2
      exact ⟨rfl,HB2.out⟩
    ·have hb:(c1 == b1 && c2 == b2)=false:=by
      cases h:(c1 == b1 && c2 == b2) with
      | false=>rfl
      | true=>exact absurd (by simp only [Bool.and_eq_true,beq_iff_eq] at h; rw [h.1,h.2]) he
     rw [hb] at heq
     have HS3:Hid (∃ e2,srcS R.xs R.l R.dat (k + 1) (b1,b2)=(fr,e2)/\th=(e2 == 0)/\(e2 ≠ 0->fr=[]/\e2=8)):=hid (by rw [HPASS.out he]; exact HS.out)
     clear he hb HHIT HPASS HS HE HB
     go_wp2_with fail
     go_region
     clear e0 e1 e2 e3 e4 e5 e6 q0 q1 heq
     go_wp2_with fail
     go_roundw
     case rel=>exact ⟨k + 1,fr,th,by omega,rfl,rfl,by go_num,HS3,HED,HBD⟩
     case measure=>simp [intOf] <;> omega
   ·obtain rfl:k=i:=by omega
    have hki:¬ (k:Int) < (k:Int):=by omega
    obtain ⟨e2,hs1,hs2,hs3⟩:=HS.out
    have hK:=HK1.out
    have hSL:=HSL.out
    rw [hs1] at hK hSL
    simp only at hK hSL
    have HK2:=hid hK
    clear hK hs1 HS HK1 HSL
    by_cases he2:e2=0
    case neg=>
     obtain ⟨rfl,rfl⟩:=hs3 he2
     have hth:th=false:=by rw [hs2]; rfl
     subst hth
     have hte:=HK2.out
     rw [if_pos he2] at hte
     simp only [Prod.mk.injEq] at hte
     obtain ⟨hte1,hte2⟩:=hte
     subst hte1
     subst hte2
     clear HK2 he2 hs2 hs3
     go_wp2_with fail
     go_ret2
     exact ⟨rfl,HB.out⟩
    case pos=>
    subst he2
    have hth:th=true:=by rw [hs2]; rfl
    subst hth
    clear hs2 hs3
    obtain ⟨l,de,hdd⟩:∃ l de,decD D0=(l,de):=⟨_,_,rfl⟩
    have HDD:=hid (rddec_any D0 wr (by omega))
    unfold GotD at HDD
    rw [hdd] at HDD
    simp only at HDD
    have HR2:Hid ((T,er)=if de ≠ 0 then ([],13) else if (applyD fr l).2 ≠ 0 then ([],13) else pcompS.rightS (applyD fr l).1 (d1,d2)):=hid (by rw [HK2.out,if_neg (by simp),hdd])
    have HGD:Hid (de=0->(l.length:Int)<=D0.length/\∀ o ∈ l,o.data.length<=1099511627776/\o.len<=1099511627776/\o.off<=1099511627776):=hid (fun h=>by
     subst h
     obtain ⟨_,_,h3,h4⟩:=decD_good hdd
     exact ⟨h3,fun o ho=>⟨by have:=(h4 o ho).1; omega,(h4 o ho).2⟩⟩)
    clear hdd HK2
    go_wp2_with fail
    (with_reducible refine (HDD.out).mono ?_)
    rintro e u3 ⟨da,dc,rfl,hgl,hb3⟩
    have HE3:=hid (HE.out.below hb3)
    have HB3:=hid (HB.out.trans (hb3.mono HB.out.size))
    clear HDD hb3 HE HB
    by_cases hde:de=0
    case neg=>
     have hne:(de != 0)=true:=by simpa using hde
     have hte:=HR2.out
     rw [if_pos hde] at hte
     simp only [Prod.mk.injEq] at hte
     obtain ⟨hte1,hte2⟩:=hte
     subst hte1
     subst hte2
     clear HR2 HGD hde
     go_wp2_with fail
     go_ret2
     exact ⟨rfl,HB3.out⟩
    case pos=>
    obtain ⟨hll,hlo⟩:=HGD.out hde
    subst hde
    obtain ⟨D,ae,haa⟩:∃ A ae,applyD fr l=(A,ae):=⟨_,_,rfl⟩
    have HA:=hid (rdapply_any fr da l dc u3 hgl (by omega) (by omega) hlo)
    rw [haa] at HA
    simp only at HA
    have HR3:Hid ((T,er)=if ae ≠ 0 then ([],13) else pcompS.rightS D (d1,d2)):=hid (by rw [HR2.out,if_neg (by simp),haa])
    have HDL:Hid (ae=0->(D.length:Int)<=65536):=hid (fun h=>by subst h; exact apply_len haa)
    generalize l.length=ln at *
    clear haa HR2 HGD hlo hgl
    go_wp2_with fail
    (with_reducible refine (HA.out).mono ?_)
    rintro e u4 ⟨rfl,hb4⟩
    have HE:=hid (HE3.out.below hb4)
    have HBT:=hid (HB3.out.trans (hb4.mono HB3.out.size))
    clear HA hb4 HE3 HB3
    by_cases hae:ae=0
    case neg=>
     have hne:(ae != 0)=true:=by simpa using hae
     have hte:=HR3.out
     rw [if_pos hae] at hte
     simp only [Prod.mk.injEq] at hte
     obtain ⟨hte1,hte2⟩:=hte
     subst hte1
     subst hte2
     clear HR3 HDL hae
     go_wp2_with fail
     go_ret2
     exact ⟨rfl,HBT.out⟩
    case pos=>
    have hDl:=HDL.out hae
    subst hae
    have HT:Hid ((T,er)=pcompS.rightS D (d1,d2)):=hid (by rw [HR3.out,if_neg (by simp)])
    clear HR3 HDL
    have HRI:=hid (rright_any D d1 d2 u4 (by omega))
    have HT2:=hid (HT.out.trans (rightS_is D (d1,d2)))
    generalize rightE D (d1,d2)=re at HRI HT2
    obtain ⟨y0,y1,y2,y3,y4,y5,y6⟩:=BK.c7 (show BK _ #[.int .u64 d1,.int .u64 d2,.int .i64 1,.int .u64 b1,.int .u64 b2,.int .i64 (off:Int),.int .i64 (len:Int)] _ _ from HE.out)
    clear HT
    go_wp2_with fail
    (with_reducible refine (HRI.out).mono ?_)
    rintro e u9 ⟨rfl,hb9⟩
    have HB9:=hid (HBT.out.trans (hb9.mono HBT.out.size))
    clear HRI hb9 y0 y1 y2 y3 y4 y5 y6 HE HBT
    by_cases hre:re=0
    ·subst hre
     have hte:=HT2.out
     rw [if_neg (by simp)] at hte
     simp only [Prod.mk.injEq] at hte
     obtain ⟨hte1,hte2⟩:=hte
     subst hte1
     subst hte2
     clear HT2
     go_wp2_with fail
     go_ret2
     exact ⟨rfl,HB9.out⟩
    ·have hne:(re != 0)=true:=by simpa using hre
     have hte:=HT2.out
     rw [if_pos hre] at hte
     simp only [Prod.mk.injEq] at hte
     obtain ⟨hte1,hte2⟩:=hte
     subst hte1
     subst hte2
     clear HT2 hre
     go_wp2_with fail
     go_ret2
     exact ⟨rfl,HB9.out⟩
theorem read_all {R:Rdr} (hR:R.Ok):∀ (n i:Nat),i < n->i < R.l.length->ReadS R i
 | 0,i,h,_=>by omega
 | n + 1,i,h,hi=>read_of R hR i hi (fun j hj=>read_all hR n j (by omega) (by omega))
theorem rpfind_any (s:List UInt8) (xs:List Itm) (pa:Option Addr) (pc:Nat) (d1 d2:Int) (w:World) (hl:(s.length:Int)<=70368744177664) (hits:Its w.heap.size w pa xs) (hp:PoolR xs pc):Calls Tryz.prog 18 #[.string ⟨s.toArray⟩,.agg #[.int .u64 d1,.int .u64 d2],.slice pa xs.length pc] w fun e w'=>e = .returned (.tuple #[.string ⟨(findP s xs (d1,d2)).1.toArray⟩,.int .i64 (findP s xs (d1,d2)).2])/\Below w.heap.size w w':=by
 obtain ⟨wa,hwa⟩:∃ wa,wa=w.alloc (.cells #[.int .u64 d1,.int .u64 d2] 41):=⟨_,rfl⟩
 have hba:Below w.heap.size w wa:=by rw [hwa]; exact (Below.refl _ _).alloc (Nat.le_refl _) _
 have HB:=hid hba
 have HD:Hid (BK w.heap.size #[.int .u64 d1,.int .u64 d2] 41 wa):=hid (by rw [hwa]; exact BK.new _ _ _)
 have HE:=hid (rentries10_any s wa hl)
 unfold GotE at HE
 have hok0:EntsOk (s.take (s.length - 16)) (entriesS s).1/\(entriesS s).1.length<=1000:=by
  by_cases h:(entriesS s).2=0
  ·obtain ⟨g1,g2,_⟩:=entriesS_ok (s:=s) (l:=(entriesS s).1) (by rw [<-h])
   exact ⟨g1,g2⟩
  ·rw [entriesS_bad h]; exact ⟨EntsOk.nil _,by simp⟩
 have HOK:=hid hok0
 have HP:=hid hp
 have HL:=hid hl
 have HITS:=hid hits
 have HWA:=hid hwa
 rw [hwa] at HE
 obtain ⟨F,hF⟩:∃ F,F=findP s xs (d1,d2):=⟨_,rfl⟩
 rw [<-hF]
 unfold findP at hF
 obtain ⟨l,er,hE⟩:∃ l er,entriesS s=(l,er):=⟨_,_,rfl⟩
 rw [hE] at hF HE HOK
 simp only at hF HE HOK
 have HF:=hid hF
 have hll:=HOK.out.2
 obtain ⟨n,hn⟩:∃ n,n=l.length:=⟨_,rfl⟩
 have HN:=hid hn
 rw [<-hn] at hll
 simp only [<-hn] at HE
 obtain ⟨nx,hnx⟩:∃ nx,nx=xs.length:=⟨_,rfl⟩
 have HNX:=hid hnx
 rw [<-hnx]
 clear hwa hba hits hp hok0 hn hl hnx hF hE
 go_enter Tryz.func18,Tryz.ntmps18
 go_wp2_with fail
 (with_reducible refine (HE.out).mono ?_)
 rintro e u ⟨a,c,rfl,hgi,hb⟩
 rw [<-HWA.out] at hb
 have hbb:=HB.out.trans (hb.mono HB.out.size)
 have hd:=HD.out.below hb
 by_cases her:er=0
 case neg=>
  have hne:(er != 0)=true:=by simpa using her
  have hte:=HF.out
  rw [if_pos her] at hte
  subst hte
  clear HF HE HOK
  go_wp2_with fail
  go_ret2
  exact ⟨rfl,hbb⟩
 case pos=>
 subst her
 have HF2:Hid (F=match idxE l (d1,d2) with
  | some i=>datS s xs l i
  | none=>([],8)):=hid (by rw [HF.out,if_neg (by simp)]; cases idxE l (d1,d2) <;> rfl)
 have HGI:=hid hgi
 have HBU:=hid hbb
 have HDU:=hid hd
 have HU:Hid (Below u.heap.size u u):=hid (Below.refl _ _)
 clear HF HE HB HD hb hbb hd hgi HWA
 go_wp2_with fail
 go_loopw [10] (fun i wr=>∃ k:Nat,k<=n/\i = .int .i64 (k:Int)/\Hid (∀ j (hj:j < l.length),j < k->l[j].d ≠ (d1,d2))/\Hid (Below w.heap.size w wr)/\Hid (BK w.heap.size #[.int .u64 d1,.int .u64 d2] 41 wr)/\Hid (Below u.heap.size u wr)) (fun i _=>n - (intOf i).toNat)
 case atStart=>exact ⟨0,by omega,rfl,hid (fun j _ h=>by omega),HBU,HDU,HU⟩
 case round=>
  clear HBU HDU HU
  obtain ⟨k,hk,rfl,HLL,HB,HD,HU⟩:=hrel
  by_cases hlt:k < n
  ·have hkn:(k:Int) < (n:Int):=by omega
   have h1:k < l.length:=by rw [<-HN.out]; exact hlt
   obtain ⟨bk,ofk,hek,hblt,q0,q1,q2,q3,q4,q5,q6⟩:=pe_cells (HGI.out.below HU.out (Nat.le_refl _)) h1
   clear q2 q3 q4 q5 q6
   have HH:Hid (l[k].d=(d1,d2)->F=datS s xs l k):=hid (fun h=>by rw [HF2.out,<-h,idxE_at HOK.out.1.nd h1])
   have HNXT:Hid (l[k].d ≠ (d1,d2)->∀ j (hj:j < l.length),j < k + 1->l[j].d ≠ (d1,d2)):=hid (fun h j hj hjk=>by
    by_cases e:j=k
    ·subst e; exact h
    ·exact HLL.out j hj (by omega))
   generalize l[k].d=x at q0 q1 HH HNXT
   obtain ⟨x1,x2⟩:=x
   simp only at q0 q1
   obtain ⟨g0,g1⟩:=BK.c2 (show BK _ #[.int .u64 d1,.int .u64 d2] _ _ from HD.out)
   have heq:=fun W=>eql_dig x1 x2 d1 d2 W
   have HBB:=hid HB.out.drew
   have HUU:=hid HU.out.drew
   by_cases he:(x1,x2)=(d1,d2)
   ·have hb:(x1 == d1 && x2 == d2)=true:=by
     simp only [Prod.mk.injEq] at he
     simp [he.1,he.2]
    rw [hb] at heq
    have hok:Rdr.Ok ⟨0,s,l,a,c,xs,pa,pc⟩:=⟨HP.out.asc,HP.out.val,HP.out.dig,HP.out.xl,HP.out.xd,HP.out.pc,HL.out,HOK.out.1,HOK.out.2⟩
    have hR:=read_all hok (k + 1) k (by omega) h1 wr.drew ((HGI.out.below HUU.out (Nat.le_refl _)).mono HUU.out.size) (HITS.out.ahead HBB.out)
    have hF:=HH.out he
    unfold Rdr.dat at hR
    simp only at hR
    rw [<-hF,<-HN.out,<-HNX.out] at hR
    have HR:=hid hR
    clear HH HNXT HLL HB HD HU HUU he hb hok hR hF HF2
    rw [hek] at HR ⊢
    go_wp2_with fail
    go_region
    clear q0 q1 g0 g1 heq
    go_wp2_with fail
    (with_reducible refine (HR.out).mono ?_)
    rintro e2 u2 ⟨rfl,hb2⟩
    have HB9:=hid (HBB.out.trans (hb2.mono HBB.out.size))
    clear hb2 HR HBB
    go_wp2_with fail
    go_ret2
    exact ⟨rfl,HB9.out⟩
   ·have hb:(x1 == d1 && x2 == d2)=false:=by
     cases h:(x1 == d1 && x2 == d2) with
     | false=>rfl
     | true=>exact absurd (by simp only [Bool.and_eq_true,beq_iff_eq] at h; rw [h.1,h.2]) he
    rw [hb] at heq
    have HL2:=hid (HNXT.out he)
    have HDD:=hid (HD.out.below ((Below.refl _ _).drew))
    clear HH HNXT HLL HB HD HU he hb
    rw [hek]
    go_wp2_with fail
    go_region
    clear q0 q1 g0 g1 heq
    go_wp2_with fail
    go_roundw
    case rel=>exact ⟨k + 1,by omega,by go_num,HL2,HBB,HDD,HUU⟩
    case measure=>simp [intOf] <;> omega
  ·obtain rfl:k=n:=by omega
   have hkn:¬ (k:Int) < (k:Int):=by omega
   have hnone:idxE l (d1,d2)=none:=idxE_none.2 (fun e he h=>by
    obtain ⟨j,hj,rfl⟩:=List.getElem_of_mem he
    exact HLL.out j hj (by rw [HN.out]; exact hj) h)
   have HR:Hid (F=([],8)):=hid (by rw [HF2.out,hnone])
   clear HLL HF2 HD hnone
   go_wp2_with fail
   go_ret2
   rw [HR.out]
   exact ⟨rfl,HB.out⟩
end Go.Proofs.YtijkieiihpiljaaGreat
