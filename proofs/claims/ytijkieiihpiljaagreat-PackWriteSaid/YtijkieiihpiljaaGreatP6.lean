/- Joined texts: PkRp, PkRe, PkRr, PkDd, PkRz, PkRf. -/
import Derived.Test.YtijkieiihpiljaaGreatP2
import Derived.Test.YtijkieiihpiljaaGreatP5
import Derived.Test.YtijkieiihpiljaaGreatP3
import Derived.Test.YtijkieiihpiljaaGreatK6
import Derived.Test.YtijkieiihpiljaaGreatK5
import Derived.Test.YtijkieiihpiljaaGreatP1
import Derived.Test.YtijkieiihpiljaaGreatP4
/- Packs: the reference's Apply and Encode of a delta. -/
set_option maxRecDepth 100000
set_option maxHeartbeats 16000000
open Go.Lib (hid)
namespace Go.Proofs.YtijkieiihpiljaaGreat
open Go.RowKit Go.Shelf
set_option linter.unusedVariables false
theorem rpi (n:Nat) (h1:(n:Int)<=1099511627776) (w:World):Calls Tryz.prog 78 #[.int .i64 (n:Int)] w fun e w'=>e = .returned (.tuple #[.string ⟨(Cw.enc n).toArray⟩,.int .i64 0])/\Below w.heap.size w w':=by
 have h:=refPutInt_any (n:Int) w
 have:putI (n:Int)=(Cw.enc n,0):=by unfold putI; rw [if_pos ((Cw.inR_iff _).2 ⟨by omega,h1⟩)]; simp
 rw [this] at h
 exact h
theorem rpt (T:List UInt8) (h:T.length<=65536) (w:World):Calls Tryz.prog 83 #[.string ⟨T.toArray⟩] w fun e w'=>e = .returned (.tuple #[.string ⟨(putT T).1.toArray⟩,.int .i64 0])/\Below w.heap.size w w':=by
 have h1:=refPutText_any ⟨T.toArray⟩ w (by rw [ba_len]; omega)
 have h2:putT T=((putT T).1,0):=by unfold putT; rw [if_pos h]
 simp only at h1
 rw [h2] at h1
 exact h1
theorem putT_len {T:List UInt8} (h:T.length<=65536):(putT T).1.length<=65546:=by
 unfold putT
 rw [if_pos h,List.length_append]
 have:=enc_length T.length
 omega
theorem encO_bound {o:Dop} (h:o.data.length<=65536):(encO o).length<=65556:=by
 unfold encO
 rw [List.length_append]
 have:=enc_length o.len
 have:=enc_length o.off
 have:=putT_len h
 split <;> omega
theorem encs_bound:∀ (l:List Dop),(∀ o ∈ l,o.data.length<=65536)->(l.flatMap encO).length<=65556 * l.length
 | [],_=>by simp
 | o :: l,h=>by
  rw [List.flatMap_cons,List.length_append,List.length_cons]
  have h1:=encO_bound (h o (by simp))
  have h2:=encs_bound l (fun x hx=>h x (List.mem_cons_of_mem _ hx))
  omega
theorem check_data {l:List Dop} (h:checkD l 65536=0):(∀ o ∈ l,fitO o/\o.data.length<=65536/\(o.len:Int)<=1099511627776/\(o.off:Int)<=1099511627776)/\l.length<=65536:=by
 obtain ⟨h1,h2⟩:=check_small h
 obtain ⟨g1,g2⟩:=chk_fit l 0 h2 (by omega)
 refine ⟨fun o ho=>?_,by omega⟩
 obtain ⟨k1,k2,k3⟩:=g1 o ho
 refine ⟨k1,?_⟩
 rcases k1 with ⟨c1,c2⟩ | ⟨c1,c2,c3⟩
 ·have:=k3 c1
  rw [c2]
  simp only [List.length_nil]
  omega
 ·unfold sizeO at k2
  rw [if_neg (by omega)] at k2
  omega
theorem encs_take {l:List Dop} {k:Nat} (h:k < l.length):(l.take (k + 1)).flatMap encO=(l.take k).flatMap encO ++ encO l[k]:=by
 rw [List.take_succ_eq_append_getElem h,List.flatMap_append]
 simp
theorem rdenc_any (a:Option Addr) (l:List Dop) (c:Nat) (w:World) (hl:GIn opCs 3 w.heap.size w a l) (hll:(l.length:Int)<=9223372036854775807) (hs:∀ o ∈ l,o.data.length<=1099511627776/\o.len<=1099511627776/\o.off<=1099511627776) :
  Calls Tryz.prog 81 #[.slice a l.length c] w fun e w'=>e = .returned (.tuple #[.string ⟨(encL l).1.toArray⟩,.int .i64 (encL l).2])/\Below w.heap.size w w':=by
 obtain ⟨R,hR⟩:∃ R,R=encL l:=⟨_,rfl⟩
 rw [<-hR]
 have HBAD:Hid (checkD l 65536 ≠ 0->R=([],checkD l 65536)):=hid (fun h=>hR.trans (by unfold encL; rw [if_pos h]))
 have HOK:Hid (checkD l 65536=0->R=(Cw.enc l.length ++ l.flatMap encO,0)):=hid (fun h=>hR.trans (by unfold encL; rw [if_neg (by simp [h])]))
 have HFT:Hid (checkD l 65536=0->(∀ o ∈ l,fitO o/\o.data.length<=65536/\(o.len:Int)<=1099511627776/\(o.off:Int)<=1099511627776)/\l.length<=65536):=hid check_data
 have HC:=hid (rdcheck_any a l c 65536 w hl (by omega) hll hs)
 rw [show ((65536:Nat):Int)=65536 from rfl] at HC
 obtain ⟨m,hm⟩:∃ m,m=l.length:=⟨_,rfl⟩
 rw [<-hm] at HC HFT HOK ⊢
 have HM:=hid hm
 have HL:=hid hl
 generalize checkD l 65536=ce at HC HBAD HOK HFT
 clear hR hl hs hm
 by_cases hc0:ce=0
 case neg=>
  have hne:(ce != 0)=true:=by simpa using hc0
  have HR:=hid (HBAD.out hc0)
  clear HBAD HOK HFT hc0
  go_enter Tryz.func81,Tryz.ntmps81
  go_wp2_with fail
  (with_reducible refine (HC.out).mono ?_)
  rintro e u1 ⟨rfl,hb⟩
  have HB1:=hid hb
  clear hb HC
  go_wp2_with fail
  go_ret2
  rw [HR.out]
  exact ⟨rfl,HB1.out⟩
 case pos=>
 subst hc0
 have HR:=hid (HOK.out rfl)
 obtain ⟨hF,hmb⟩:=HFT.out rfl
 have HF:=hid hF
 have HPM:=hid (fun W=>rpi m (by omega) W)
 clear HBAD HOK HFT hF
 go_enter Tryz.func81,Tryz.ntmps81
 go_wp2_with fail
 (with_reducible refine (HC.out).mono ?_)
 rintro e u1 ⟨rfl,hb⟩
 have HB:=hid hb
 clear hb HC
 go_wp2_with fail
 (with_reducible refine (HPM.out _).mono ?_)
 rintro e u2 ⟨rfl,hb2⟩
 have HB2:=hid (HB.out.trans (hb2.mono HB.out.size))
 have hen:=enc_length m
 obtain ⟨E,hE⟩:∃ E,E=Cw.enc m:=⟨_,rfl⟩
 rw [<-hE] at HR hen ⊢
 clear hb2 HPM hE HB
 go_wp2_with fail
 go_loopw [5,7] (fun s i wr=>∃ (k:Nat) (T:List UInt8),k<=m/\i = .int .i64 (k:Int)/\s = .string ⟨T.toArray⟩/\Hid (T=E ++ (l.take k).flatMap encO)/\Hid (Below w.heap.size w wr)) (fun _ i _=>m - (intOf i).toNat)
 case atStart=>exact ⟨0,E,by omega,rfl,rfl,hid (by simp),HB2⟩
 case round=>
  clear HB2
  obtain ⟨k,T,hk,rfl,rfl,HT,HW⟩:=hrel
  by_cases hlt:k < m
  ·have hkn:(k:Int) < (m:Int):=by omega
   have h1:k < l.length:=by rw [<-HM.out]; exact hlt
   have hlT:=ba_len T
   have hTl:T.length<=10 + 65556 * 65536:=by
    rw [HT.out,List.length_append]
    have:=encs_bound (l.take k) (fun o ho=>(HF.out o (List.mem_of_mem_take ho)).2.1)
    rw [List.length_take] at this
    have:min k l.length<=65536:=by omega
    omega
   obtain ⟨b0,of0,haa,hbb,q0,q1,q2⟩:=op_cells (HL.out.ahead HW.out) h1
   have HCE:Hid (∀ W,Below wr.heap.size wr W->Below w.heap.size w W/\W.cell? ⟨b0,of0 + k * 3,none⟩=some (.int .i64 (l[k].off:Int))/\W.cell? ⟨b0,of0 + k * 3 + 1,none⟩=some (.int .i64 (l[k].len:Int))/\W.cell? ⟨b0,of0 + k * 3 + 2,none⟩=some (.string ⟨l[k].data.toArray⟩)):=hid (fun W hW=>⟨HW.out.trans (hW.mono HW.out.size),(hW.cell (p:=⟨b0,of0 + k * 3,none⟩) hbb).trans q0,(hW.cell (p:=⟨b0,of0 + k * 3 + 1,none⟩) hbb).trans q1,(hW.cell (p:=⟨b0,of0 + k * 3 + 2,none⟩) hbb).trans q2⟩)
   obtain ⟨f1,f2,f3,f4⟩:=HF.out _ (List.getElem_mem h1)
   have HT2:=hid (encs_take h1)
   generalize l[k]=o at q0 q1 q2 f1 f2 f3 f4 HT2 HCE
   have HP1:=hid (fun W=>rpi o.len f3 W)
   have HP2:=hid (fun W=>rpt o.data f2 W)
   have HP3:=hid (fun W=>rpi o.off f4 W)
   have HE:Hid (encO o=Cw.enc o.len ++ (if 0 < o.len then Cw.enc o.off else (putT o.data).1)):=hid (by
    unfold encO
    by_cases hc:0 < o.len
    ·rw [if_pos ((fit_copy f1).2 hc),if_pos hc]
    ·rw [if_neg (fun h=>hc ((fit_copy f1).1 h)),if_neg hc])
   have HT3:Hid (T ++ encO o=E ++ (l.take (k + 1)).flatMap encO):=hid (by rw [HT2.out,HT.out,List.append_assoc])
   have hx1:=enc_length o.len
   have hx2:=enc_length o.off
   have hx3:=putT_len f2
   generalize Cw.enc o.len=X1 at HP1 HE hx1
   generalize (putT o.data).1=X2 at HP2 HE hx3
   generalize Cw.enc o.off=X3 at HP3 HE hx2
   generalize encO o=EO at HE HT3
   obtain ⟨off,len,data⟩:=o
   simp only at *
   subst haa
   have hl1:=ba_len X1
   have hl2:=ba_len X2
   have hl3:=ba_len X3
   have hc1:(⟨T.toArray⟩:ByteArray) ++ ⟨X1.toArray⟩=⟨(T ++ X1).toArray⟩:=by rw [ba_append]
   have hlc:=ba_len (T ++ X1)
   rw [List.length_append] at hlc
   clear HT HT2 f1 f2 f3 f4 h1
   go_wp2_with fail
   (with_reducible refine (HP1.out _).mono ?_)
   rintro e v1 ⟨rfl,hb1⟩
   obtain ⟨_,r0,r1,r2⟩:=HCE.out _ hb1
   clear q0 q1 q2
   go_wp2_with fail
   (with_reducible refine (HP2.out _).mono ?_)
   rintro e v2 ⟨rfl,hb2⟩
   have hb12:=hb1.trans (hb2.mono hb1.size)
   obtain ⟨hw2,s0,s1,s2⟩:=HCE.out _ hb12
   have HW2:=hid hw2
   have HB12:=hid hb12
   clear r0 r1 r2 hb1 hb2 hw2 hb12
   by_cases hl0:0 < len
   ·have hli:0 < (len:Int):=by omega
    have HE2:Hid (T ++ X1 ++ X3=T ++ EO):=hid (by rw [HE.out,if_pos hl0,List.append_assoc])
    have hc2:(⟨(T ++ X1).toArray⟩:ByteArray) ++ ⟨X3.toArray⟩=⟨(T ++ EO).toArray⟩:=by rw [ba_append,<-HE2.out]
    clear HE HE2
    go_wp2_with fail
    (with_reducible refine (HP3.out _).mono ?_)
    rintro e v3 ⟨rfl,hb3⟩
    have hb13:=HB12.out.trans (hb3.mono HB12.out.size)
    obtain ⟨hw3,_⟩:=HCE.out _ hb13
    have HW3:=hid hw3
    clear hb3 hb13 hw3 s0 s1 s2 HCE HW HW2 HB12
    go_wp2_with fail
    go_roundw
    case rel=>exact ⟨k + 1,T ++ EO,by omega,by go_num,rfl,HT3,HW3⟩
    case measure=>simp [intOf] <;> omega
   ·have hli:¬ 0 < (len:Int):=by omega
    have HE2:Hid (T ++ X1 ++ X2=T ++ EO):=hid (by rw [HE.out,if_neg hl0,List.append_assoc])
    have hc2:(⟨(T ++ X1).toArray⟩:ByteArray) ++ ⟨X2.toArray⟩=⟨(T ++ EO).toArray⟩:=by rw [ba_append,<-HE2.out]
    clear HE HE2 HCE HW HB12
    go_wp2_with fail
    go_roundw
    case rel=>exact ⟨k + 1,T ++ EO,by omega,by go_num,rfl,HT3,HW2⟩
    case measure=>simp [intOf] <;> omega
  ·obtain rfl:k=m:=by omega
   have hkn:¬ (k:Int) < (k:Int):=by omega
   have HTK:Hid (R=(T,0)):=hid (by rw [HR.out,HT.out,List.take_of_length_le (by rw [<-HM.out]; omega)])
   clear HT HR
   go_wp2_with fail
   go_ret2
   rw [HTK.out]
   exact ⟨rfl,HW.out⟩
theorem datI_hit {xs:List Itm} {d:Int × Int} {k:Nat} (hk:k < xs.length) (he:xs[k].d=d) (hb:∀ j (hj:j < xs.length),j < k->xs[j].d ≠ d):datI xs d=(xs[k].data,0):=by
 have:xs.find? (fun x=>decide (x.d=d))=some xs[k]:=by
  rw [List.find?_eq_some_iff_getElem]
  refine ⟨by simpa using he,k,hk,rfl,fun j hj=>?_⟩
  simpa using hb j (by omega) hj
 unfold datI
 rw [this]
theorem datI_miss {xs:List Itm} {d:Int × Int} (hb:∀ j (hj:j < xs.length),xs[j].d ≠ d):datI xs d=([],8):=by
 have:xs.find? (fun x=>decide (x.d=d))=none:=by
  rw [List.find?_eq_none]
  intro x hx
  obtain ⟨j,hj,rfl⟩:=List.getElem_of_mem hx
  simpa using hb j hj
 unfold datI
 rw [this]
theorem rdata_any (a:Option Addr) (xs:List Itm) (c:Nat) (d1 d2:Int) (w:World) (hp:Its w.heap.size w a xs) (hn:(xs.length:Int)<=9223372036854775807) :
  Calls Tryz.prog 79 #[.slice a xs.length c,.agg #[.int .u64 d1,.int .u64 d2]] w fun e w'=>e = .returned (.tuple #[.string ⟨(datI xs (d1,d2)).1.toArray⟩,.bool ((datI xs (d1,d2)).2 == 0)])/\Below w.heap.size w w':=by
 obtain ⟨wa,hwa⟩:∃ wa,wa=w.alloc (.cells #[.int .u64 d1,.int .u64 d2] 41):=⟨_,rfl⟩
 have hba:Below w.heap.size w wa:=by rw [hwa]; exact (Below.refl _ _).alloc (Nat.le_refl _) _
 have HB:=hid hba
 have HD:Hid (BK w.heap.size #[.int .u64 d1,.int .u64 d2] 41 wa):=hid (by rw [hwa]; exact BK.new _ _ _)
 have HP:=hid hp
 have HWA:=hid hwa
 obtain ⟨R,hR⟩:∃ R,R=datI xs (d1,d2):=⟨_,rfl⟩
 rw [<-hR]
 have HHIT:Hid (∀ k (hk:k < xs.length),xs[k].d=(d1,d2)->(∀ j (hj:j < xs.length),j < k->xs[j].d ≠ (d1,d2))->R=(xs[k].data,0)):=hid (fun k hk h1 h2=>hR.trans (datI_hit hk h1 h2))
 have HMISS:Hid ((∀ j (hj:j < xs.length),xs[j].d ≠ (d1,d2))->R=([],8)):=hid (fun h=>hR.trans (datI_miss h))
 obtain ⟨n,hnn⟩:∃ n,n=xs.length:=⟨_,rfl⟩
 rw [<-hnn] at hn ⊢
 have HN:=hid hnn
 clear hwa hba hp hR hnn
 go_enter Tryz.func79,Tryz.ntmps79
 go_wp2_with fail
 rw [<-HWA.out]
 clear HWA
 go_loopw [6] (fun i wr=>∃ k:Nat,k<=n/\i = .int .i64 (k:Int)/\Hid (∀ j (hj:j < xs.length),j < k->xs[j].d ≠ (d1,d2))/\Hid (Below w.heap.size w wr)/\Hid (BK w.heap.size #[.int .u64 d1,.int .u64 d2] 41 wr)) (fun i _=>n - (intOf i).toNat)
 case atStart=>exact ⟨0,by omega,rfl,hid (fun j _ h=>by omega),HB,HD⟩
 case round=>
  clear HB HD
  obtain ⟨k,hk,rfl,HL,HB,HD⟩:=hrel
  by_cases hlt:k < n
  ·have hkn:(k:Int) < (n:Int):=by omega
   have h1:k < xs.length:=by rw [<-HN.out]; exact hlt
   obtain ⟨b0,of0,haa,hbb,q0,q1,q2⟩:=(HP.out.ahead HB.out) k h1
   have HH:=hid (HHIT.out k h1)
   have HNX:Hid (xs[k].d ≠ (d1,d2)->∀ j (hj:j < xs.length),j < k + 1->xs[j].d ≠ (d1,d2)):=hid (fun h j hj hjk=>by
    by_cases e:j=k
    ·subst e; exact h
    ·exact HL.out j hj (by omega))
   generalize xs[k]=x at q0 q1 q2 HH HNX
   obtain ⟨⟨x1,x2⟩,data⟩:=x
   simp only at q0 q1 q2 HH HNX
   obtain ⟨g0,g1⟩:=BK.c2 (show BK _ #[.int .u64 d1,.int .u64 d2] _ _ from HD.out)
   have heq:=fun W=>eql_dig x1 x2 d1 d2 W
   by_cases he:(x1,x2)=(d1,d2)
   ·have hb:(x1 == d1 && x2 == d2)=true:=by
     simp only [Prod.mk.injEq] at he
     simp [he.1,he.2]
    rw [hb] at heq
    have HR:=hid (HH.out he HL.out)
    have HBB:=hid HB.out.drew
    have hbd:Below wr.heap.size wr wr.drew:=(Below.refl _ _).drew
    have r2:=(hbd.cell (p:=⟨b0,of0 + k * 3 + 2,none⟩) hbb).trans q2
    rw [haa]
    clear HH HNX HL HB HD HHIT HMISS he hb haa hbd
    go_wp2_with fail
    go_region
    clear q0 q1 q2 g0 g1 heq
    go_wp2_with fail
    go_ret2
    rw [HR.out]
    exact ⟨rfl,HBB.out⟩
   ·have hb:(x1 == d1 && x2 == d2)=false:=by
     cases h:(x1 == d1 && x2 == d2) with
     | false=>rfl
     | true=>exact absurd (by simp only [Bool.and_eq_true,beq_iff_eq] at h; rw [h.1,h.2]) he
    rw [hb] at heq
    have HL2:=hid (HNX.out he)
    have HBB:=hid HB.out.drew
    have HDD:=hid (HD.out.below ((Below.refl _ _).drew))
    rw [haa]
    clear HH HNX HL HB HD HMISS he hb
    go_wp2_with fail
    go_region
    clear q0 q1 q2 g0 g1 heq
    go_wp2_with fail
    go_roundw
    case rel=>exact ⟨k + 1,by omega,by go_num,HL2,HBB,HDD⟩
    case measure=>simp [intOf] <;> omega
  ·obtain rfl:k=n:=by omega
   have hkn:¬ (k:Int) < (k:Int):=by omega
   have HR:=hid (HMISS.out (fun j hj=>HL.out j hj (by rw [HN.out]; exact hj)))
   clear HL HHIT HMISS HD
   go_wp2_with fail
   go_ret2
   rw [HR.out]
   exact ⟨rfl,HB.out⟩
structure RSt (s:List UInt8) (u:Nat) (R:List Dop × Int) (k:Nat) (r:List UInt8) (b:Bool) (l:List Dop):Prop where
 len:l.length=k
 small:∀ o ∈ l,o.data.length<=1099511627776/\o.len<=1099511627776/\o.off<=1099511627776
 rl:r.length<=s.length
 good:b=true->∃ p,r=s.drop p/\DeSt s u k p l
 bad:b=false->R=([],13)
theorem RSt.down {s:List UInt8} {u k:Nat} {R:List Dop × Int} {r r':List UInt8} {l:List Dop} (h:RSt s u R k r true l) (hr:R=([],13)) (hl:r'.length<=s.length) (o:Dop) (ho:o.data.length<=1099511627776/\o.len<=1099511627776/\o.off<=1099511627776):RSt s u R (k + 1) r' false (l ++ [o]):=by
 refine ⟨by simp [h.len],fun x hx=>?_,hl,(fun e=>by cases e),fun _=>hr⟩
 rcases List.mem_append.1 hx with hx | hx
 ·exact h.small x hx
 ·rw [List.mem_singleton.1 hx]; exact ho
theorem RSt.up {s:List UInt8} {u k j:Nat} {R:List Dop × Int} {r:List UInt8} {l:List Dop} (h:RSt s u R k r true l) {o:Dop} (ho:opS r=some (o,j)):RSt s u R (k + 1) (r.drop j) true (l ++ [o]):=by
 obtain ⟨p,rfl,hd⟩:=h.good rfl
 have h1:=hd.next ho
 obtain ⟨_,_,_,h4,_,_,h5,h6⟩:=opS_split ho
 refine ⟨by simp [h.len],fun x hx=>?_,?_,fun _=>⟨p + j,by rw [List.drop_drop],h1⟩,fun e=>by cases e⟩
 ·rcases List.mem_append.1 hx with hx | hx
  ·exact h.small x hx
  ·rw [List.mem_singleton.1 hx]; exact ⟨by omega,h5,h6⟩
 ·rw [List.drop_drop,List.length_drop]; omega
theorem RSt.room {s:List UInt8} {u k:Nat} {R:List Dop × Int} {r:List UInt8} {l:List Dop} (h:RSt s u R k r true l):k<=s.length:=by
 obtain ⟨p,rfl,hd⟩:=h.good rfl
 have:=hd.at_.room
 rw [List.length_drop,List.length_drop] at this
 omega
theorem RSt.none {s:List UInt8} {u k n:Nat} {R:List Dop × Int} {r:List UInt8} {l:List Dop} (h:RSt s u R k r true l) (hn:opsGo n (s.drop u) []=Option.none->R=([],13)) (hk:k < n) (ho:opS r=Option.none):R=([],13):=by
 obtain ⟨p,rfl,hd⟩:=h.good rfl
 exact hn (opsGo_none k hd.go hk ho)
theorem RSt.fin {s:List UInt8} {u n:Nat} {r:List UInt8} {l:List Dop} (h:RSt s u (decD s) n r true l) (hg:Cw.getI s=((n:Int),(u:Int),0)):decD s=if (encL l).2 ≠ 0\/(encL l).1 ≠ s then ([],13) else (l,0):=by
 obtain ⟨p,rfl,hd⟩:=h.good rfl
 exact decD_ref hg (by simpa using hd.at_) rfl (by simpa using hd.go)
end Go.Proofs.YtijkieiihpiljaaGreat
