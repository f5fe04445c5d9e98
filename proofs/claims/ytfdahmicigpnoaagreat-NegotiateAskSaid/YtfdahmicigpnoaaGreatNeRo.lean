/- The reference: ordered, maximal. -/
import Derived.Test.YtfdahmicigpnoaaGreatNeRw
import Derived.Test.YtfdahmicigpnoaaGreatNeIn
import Derived.Test.YtfdahmicigpnoaaGreatK12
set_option maxRecDepth 100000
set_option maxHeartbeats 16000000
open Go.Lib (hid)
namespace Go.Proofs.YtfdahmicigpnoaaGreat
open Go.RowKit Go.Shelf
set_option linter.unusedVariables false
theorem ordered_any (a:Option Addr) (xs:List Itm) (c:Nat) (la:Option Addr) (l:List (Int × Int)) (lc:Nat) (w:World) (hp:Its w.heap.size w a xs) (hA:Asc xs) (hac:AcyS xs) (hn:(xs.length:Int)<=500) (hd:∀ x ∈ xs,(x.data.length:Int)<=1000000) (hl:Digs w.heap.size w la l) (hll:(l.length:Int)<=1000) (hok:∀ d ∈ l,OkD d) :
  Calls Tryz.prog 154 #[.slice a xs.length c,.slice la l.length lc] w (GotIO xs ((∀ d ∈ l,Kn xs d)/\AscH (depS xs) l) w):=by
 have HAN:=hid (rancestors_any a xs c la l lc w hp hA hac hn hd hl hll hok)
 have HOI:=hid (ordered_iff (xs:=xs) (l:=l))
 have HAL:Hid (((ancS xs l).1.length:Int)<=500):=hid (by
  by_cases h:(visS xs l []).2=0
  ·have hf:=vis_facts h hok
   have e:(ancS xs l).1=sortH (depS xs) (visS xs l []).1:=by unfold ancS; rw [if_neg (by simpa using h)]
   rw [e,(sortH_perm _ _).length_eq]
   have:=hf.le
   omega
  ·rw [ancS_err h]; simp)
 have HL:=hid hl
 generalize ancS xs l=AR at HAN HOI HAL
 obtain ⟨an,e⟩:=AR
 simp only at HOI HAL
 obtain ⟨n,hnn⟩:∃ n,n=l.length:=⟨_,rfl⟩
 rw [<-hnn] at hll HAN ⊢
 have HN:=hid hnn
 generalize xs.length=nx at HAN ⊢
 clear hp hA hac hd hl hok hnn
 go_enter Tryz.func154,Tryz.ntmps154
 go_wp2_with fail
 (with_reducible refine (HAN.out).mono ?_)
 rintro e u1 ⟨va,vc,rfl,hdg,hvc,hb⟩
 simp only at hdg hvc ⊢
 have HB1:=hid hb
 have HC1:=hid (within_any va an vc la l lc u1 hdg (HL.out.ahead hb) (by have:=HAL.out; omega) (by have:=HN.out; omega))
 rw [<-HN.out] at HC1
 obtain ⟨na,hna⟩:∃ n,n=an.length:=⟨_,rfl⟩
 have hnal:(na:Int)<=500:=by rw [hna]; exact HAL.out
 rw [<-hna] at HC1 ⊢
 have HFL:Hid (((an.filter fun d=>decide (d ∈ l)).length:Int)<=500):=hid (by have:=List.length_filter_le (fun d=>decide (d ∈ l)) an; omega)
 clear hdg hvc hb HAN hna
 generalize (an.filter fun d=>decide (d ∈ l))=F at HC1 HOI HFL
 by_cases he:e=0
 ·subst he
  have HL1:=hid (HL.out.ahead HB1.out)
  go_wp2_with fail
  (with_reducible refine (HC1.out).mono ?_)
  rintro e u2 ⟨fa,fc,rfl,hown,hb⟩
  have HB2:=hid (HB1.out.trans (hb.mono HB1.out.size))
  have HS:=hid (same13_any fa la F l fc lc u2 (ownsRow_digs hown) (HL1.out.ahead hb) (by have:=HFL.out; omega))
  rw [<-HN.out] at HS
  generalize F.length=nf at HS ⊢
  clear hown hb HC1 HB1 HL1
  go_wp2_with fail
  (with_reducible refine (HS.out).mono ?_)
  rintro e u3 ⟨rfl,hb⟩
  have HB3:=hid (HB2.out.trans (hb.mono HB2.out.size))
  clear hb HS HB2
  go_wp2_with fail
  go_ret
  refine ⟨_,rfl,?_,HB3.out⟩
  rw [decide_eq_true_eq,<-HOI.out]
  simp
 ·have hee:(e == 0)=false:=by simpa using he
  have HNO:Hid (¬ ((∀ d ∈ l,Kn xs d)/\AscH (depS xs) l)):=hid (fun h=>he (HOI.out.2 h).1)
  clear he HOI HC1
  go_wp2_with fail
  go_ret
  exact GotIO.no HNO.out HB1.out
theorem top_step (xs:List Itm) {l:List (Int × Int)} {j:Nat} (h:j < l.length) (d:Int × Int):(!(l.take (j + 1)).any fun c=>!decide (c=d) && (reachesS xs c d).1)=((!(l.take j).any fun c=>!decide (c=d) && (reachesS xs c d).1) && (!(reachesS xs l[j] d).1 || decide (l[j]=d))):=by
 rw [List.take_succ_eq_append_getElem h,List.any_append]
 simp only [List.any_cons,List.any_nil,Bool.or_false,Bool.not_or,Bool.not_and,Bool.not_not]
 congr 1
 exact Bool.or_comm _ _
def GotDc (w:World) (L:List (Int × Int)) (e:Ending) (w':World):Prop:=∃ a c,e = .returned (.slice a L.length c)/\Digs w'.heap.size w' a L/\L.length<=c/\Below w.heap.size w w'
theorem dig_eqb (x y x' y':Int):(x == x' && y == y')=decide ((x,y)=(x',y')):=by
 rw [Bool.eq_iff_iff]; simp
theorem maximal_any (a:Option Addr) (xs:List Itm) (c:Nat) (la:Option Addr) (l:List (Int × Int)) (lc:Nat) (w:World) (hp:Its w.heap.size w a xs) (hA:Asc xs) (hn:(xs.length:Int)<=500) (hd:∀ x ∈ xs,(x.data.length:Int)<=1000000) (hl:Digs w.heap.size w la l) (hll:(l.length:Int)<=1000) (hok:∀ d ∈ l,OkD d) :
  Calls Tryz.prog 92 #[.slice a xs.length c,.slice la l.length lc] w (GotDc w (maxS xs l)):=by
 have HRE:=hid (fun x y x' y' W (hW:Below w.heap.size w W) (ho:OkD (x,y))=>rreaches_any a xs c x y x' y' W (hp.ahead hW) hA hn hd ho)
 have HTS:=hid (fun j (h:j < l.length) d=>top_step xs h d)
 have HDF:=hid (fun i (h:i < l.length) acc=>drop_filter_hit (P:=topB xs l) h acc)
 have HTB:Hid (∀ d,topB xs l d = !(l.take l.length).any fun c=>!decide (c=d) && (reachesS xs c d).1):=hid (fun d=>by rw [List.take_length]; rfl)
 have HRX:Hid (maxS xs l=((l.drop 0).filter (topB xs l)).foldl withS []):=hid rfl
 have HL:=hid hl
 have HOK:=hid hok
 obtain ⟨R,hR⟩:∃ R,R=maxS xs l:=⟨_,rfl⟩
 rw [<-hR] at HRX ⊢
 obtain ⟨n,hnn⟩:∃ n,n=l.length:=⟨_,rfl⟩
 rw [<-hnn] at hll ⊢
 have HN:=hid hnn
 generalize xs.length=nx at HRE ⊢
 have HB0:Hid (Below w.heap.size w (w.alloc (.cells #[] 41))):=hid ((Below.refl _ _).alloc (Nat.le_refl _) _)
 clear hp hA hd hl hok hnn hR
 go_enter Tryz.func92,Tryz.ntmps92
 go_wp2_with fail
 go_loopw [5,6] (fun v i wr=>∃ (k m:Nat) (cur:List (Int × Int)) (ca:Option Addr) (cc:Nat),k<=n/\v = .slice ca m cc/\i = .int .i64 k/\m<=cc/\m<=k/\Hid (m=cur.length)/\Hid (Digs wr.heap.size wr ca cur)/\Hid (R=((l.drop k).filter (topB xs l)).foldl withS cur)/\Hid (Below w.heap.size w wr)) (fun _ i _=>n - (intOf i).toNat)
 case atStart=>exact ⟨0,0,[],_,0,by omega,rfl,rfl,by omega,by omega,hid rfl,hid (Digs.nil _ _ _),HRX,HB0⟩
 case round=>
  clear HRX HB0
  obtain ⟨k,m,cur,ca,cc,hk,rfl,rfl,hmc,hmk,HM,HD,HR,HE⟩:=hrel
  by_cases hkn:k < n
  ·have hki:(k:Int) < (n:Int):=by omega
   have h1:k < l.length:=by have:=HN.out; omega
   have HDR:=hid (HDF.out k h1 cur)
   have HTK:=hid (HTB.out l[k])
   obtain ⟨dk,hdk⟩:∃ dk,dk=l[k]:=⟨_,rfl⟩
   rw [<-hdk] at HDR HTK
   have HDK:=hid hdk
   obtain ⟨d1,d2⟩:=dk
   clear hdk
   have HK0:Hid (true = !(l.take 0).any fun c=>!decide (c=(d1,d2)) && (reachesS xs c (d1,d2)).1):=hid (by simp)
   go_wp2_with fail
   go_loopw [7,8] (fun kv i wr=>∃ (j:Nat) (K:Bool),j<=n/\kv = .bool K/\i = .int .i64 j/\Hid (K = !(l.take j).any fun c=>!decide (c=(d1,d2)) && (reachesS xs c (d1,d2)).1)/\Hid (Digs wr.heap.size wr ca cur)/\Hid (Below w.heap.size w wr)) (fun _ i _=>n - (intOf i).toNat)
   case atStart=>exact ⟨0,true,by omega,rfl,rfl,HK0,HD,HE⟩
   case round=>
    clear HK0 HD HE
    obtain ⟨j,K,hj,rfl,rfl,HK,HD,HE⟩:=hrel
    by_cases hjn:j < n
    ·have hji:(j:Int) < (n:Int):=by omega
     have h2:j < l.length:=by have:=HN.out; omega
     have hdl:=HL.out.ahead HE.out
     obtain ⟨b0,of0,haa,hb0,q0,q1⟩:=hdl j h2
     obtain ⟨b1,of1,haa1,hb1,r0,r1⟩:=hdl k h1
     have HLx:=HL
     clear hdl
     rw [haa] at haa1
     injection haa1 with haa1
     injection haa1 with e1 e2
     subst e1 e2
     subst haa
     have okc:=HOK.out _ (List.getElem_mem h2)
     have HST:=hid (HTS.out j h2 (d1,d2))
     rw [<-HDK.out] at r0 r1
     rw [<-HK.out] at HST
     generalize l[j]=cj at q0 q1 okc HST
     obtain ⟨c1,c2⟩:=cj
     simp only at q0 q1 r0 r1
     have HRC:=hid (fun W (hW:Below wr.heap.size wr W)=>HRE.out c1 c2 d1 d2 W (HE.out.trans (hW.mono HE.out.size)) okc)
     generalize reachesS xs (c1,c2) (d1,d2)=RR at HRC HST
     obtain ⟨is,er⟩:=RR
     simp only at HRC HST
     have HRG:=hid (fun d os=>Calls.regrown_of (w:=wr) (d:=d) (os:=os) (HRC.out _ (below_regrown wr d os)))
     obtain ⟨eb,heb⟩:∃ eb,eb=(c1 == d1 && c2 == d2):=⟨_,rfl⟩
     have qn:=fun W=>eql_dig c1 c2 d1 d2 W
     rw [<-heb] at qn
     rw [dig_eqb] at heb
     rw [<-heb] at HST
     have rq0:=cell_regrown q0
     have rq1:=cell_regrown q1
     have rr0:=cell_regrown r0
     have rr1:=cell_regrown r1
     clear heb HRC HK okc
     go_wp2_with fail
     refine wp_region_quiet_below (by kernel_rfl) (by kernel_rfl) ?_
     repeat (any_goals (first | go_big_quiet_step (first | (with_reducible exact HRG.out _ _)) | quiet_step (first | (with_reducible exact HRG.out _ _))))
     refine wpQuiet_nil ?_
     intro w5 hw5
     have hb5:=below_rg hw5
     have HE5:=hid (HE.out.trans (hb5.mono HE.out.size))
     have HD5:=hid (HD.out.ahead hb5)
     have s0:=(hb5.cell (p:=⟨b0,of0 + j * 2,none⟩) hb0).trans q0
     have s1:=(hb5.cell (p:=⟨b0,of0 + j * 2 + 1,none⟩) hb0).trans q1
     have t0:=(hb5.cell (p:=⟨b0,of0 + k * 2,none⟩) hb0).trans r0
     have t1:=(hb5.cell (p:=⟨b0,of0 + k * 2 + 1,none⟩) hb0).trans r1
     have rs0:=cell_regrown s0
     have rs1:=cell_regrown s1
     have rt0:=cell_regrown t0
     have rt1:=cell_regrown t1
     clear hb5 hw5 HE HD HRG rq0 rq1 rr0 rr1 q0 q1 r0 r1
     cases K with
     | false=>
      have HK2:Hid (false = !(l.take (j + 1)).any fun c=>!decide (c=(d1,d2)) && (reachesS xs c (d1,d2)).1):=hid (by rw [HST.out]; simp)
      clear HST
      go_wp2_with fail
      refine wp_region_quiet_below (by kernel_rfl) (by kernel_rfl) ?_
      repeat (any_goals (first | go_big_quiet_step (fail) | quiet_step (fail)))
      refine wpQuiet_nil ?_
      intro w6 hw6
      have hb6:=below_rg hw6
      have HE6:=hid (HE5.out.trans (hb6.mono HE5.out.size))
      have HD6:=hid (HD5.out.ahead hb6)
      clear hb6 hw6 HE5 HD5 rs0 rs1 rt0 rt1 s0 s1 t0 t1
      go_wp2_with fail
      go_roundw
      case rel=>exact ⟨j + 1,false,by omega,rfl,by go_num,HK2,HD6,HE6⟩
      case measure=>simp [intOf] <;> omega
     | true=>
      cases is with
      | false=>
       have HK2:Hid (true = !(l.take (j + 1)).any fun c=>!decide (c=(d1,d2)) && (reachesS xs c (d1,d2)).1):=hid (by rw [HST.out]; simp)
       clear HST
       go_wp2_with fail
       refine wp_region_quiet_below (by kernel_rfl) (by kernel_rfl) ?_
       repeat (any_goals (first | go_big_quiet_step (fail) | quiet_step (fail)))
       refine wpQuiet_nil ?_
       intro w6 hw6
       have hb6:=below_rg hw6
       have HE6:=hid (HE5.out.trans (hb6.mono HE5.out.size))
       have HD6:=hid (HD5.out.ahead hb6)
       clear hb6 hw6 HE5 HD5 rs0 rs1 rt0 rt1 s0 s1 t0 t1
       go_wp2_with fail
       go_roundw
       case rel=>exact ⟨j + 1,true,by omega,rfl,by go_num,HK2,HD6,HE6⟩
       case measure=>simp [intOf] <;> omega
      | true=>
       have HK2:Hid (eb = !(l.take (j + 1)).any fun c=>!decide (c=(d1,d2)) && (reachesS xs c (d1,d2)).1):=hid (by rw [HST.out]; simp)
       clear HST
       go_wp2_with fail
       refine wp_region_quiet_below (by kernel_rfl) (by kernel_rfl) ?_
       repeat (any_goals (first | go_big_quiet_step (fail) | quiet_step (fail)))
       refine wpQuiet_nil ?_
       intro w6 hw6
       have hb6:=below_rg hw6
       have HE6:=hid (HE5.out.trans (hb6.mono HE5.out.size))
       have HD6:=hid (HD5.out.ahead hb6)
       clear hb6 hw6 HE5 HD5 rs0 rs1 rt0 rt1 s0 s1 t0 t1
       go_wp2_with fail
       go_roundw
       case rel=>exact ⟨j + 1,eb,by omega,rfl,by go_num,HK2,HD6,HE6⟩
       case measure=>simp [intOf] <;> omega
    ·have hji:¬ (j:Int) < (n:Int):=by omega
     have hjl:j=l.length:=by have:=HN.out; omega
     have HKT:Hid (topB xs l (d1,d2)=K):=hid (by rw [HTK.out,HK.out,hjl])
     have HR2:Hid (R=((l.drop (k + 1)).filter (topB xs l)).foldl withS (if K=true then withS cur (d1,d2) else cur)):=hid (by rw [HR.out,HDR.out,HKT.out])
     obtain ⟨b1,of1,haa,hb1,r0,r1⟩:=(HL.out.ahead HE.out) k h1
     have HLx:=HL
     subst haa
     rw [<-HDK.out] at r0 r1
     simp only at r0 r1
     clear HK HKT HDR HTK hjl HR
     cases K with
     | false=>
      have HR3:Hid (R=((l.drop (k + 1)).filter (topB xs l)).foldl withS cur):=hid (by rw [HR2.out]; simp)
      clear HR2 r0 r1
      go_wp2_with fail
      go_roundw
      case rel=>exact ⟨k + 1,m,cur,ca,cc,by omega,rfl,by go_num,hmc,by omega,HM,HD,HR3,HE⟩
      case measure=>simp [intOf] <;> omega
     | true=>
      have HR3:Hid (R=((l.drop (k + 1)).filter (topB xs l)).foldl withS (withS cur (d1,d2))):=hid (by rw [HR2.out]; simp)
      have HC:=hid (rwith_any ca cur cc d1 d2 wr HD.out (by rw [<-HM.out]; exact hmc) (by rw [<-HM.out]; omega))
      have HWL:=hid (withS_len1 cur (d1,d2))
      rw [<-HM.out] at HC HWL
      generalize withS cur (d1,d2)=cur2 at HC HR3 HWL
      clear HR2
      go_wp2_with fail
      (with_reducible refine (HC.out).mono ?_)
      rintro e u9 ⟨da,dc,rfl,hdg,hdc,_,hb⟩
      obtain ⟨m2,hm2⟩:∃ m2,m2=cur2.length:=⟨_,rfl⟩
      rw [<-hm2] at hdc ⊢
      have hmk2:m2<=k + 1:=by have:=HWL.out; omega
      have HM2:=hid hm2
      have HE9:=hid (HE.out.trans (hb.mono HE.out.size))
      have HD9:=hid hdg
      clear hm2 hdg hb HC HE HD r0 r1
      go_wp2_with fail
      go_roundw
      case rel=>exact ⟨k + 1,m2,cur2,da,dc,by omega,rfl,by go_num,hdc,hmk2,HM2,HD9,HR3,HE9⟩
      case measure=>simp [intOf] <;> omega
  ·have hki:¬ (k:Int) < (n:Int):=by omega
   have hkl:k=l.length:=by have:=HN.out; omega
   have HX:Hid (R=cur):=hid (by rw [HR.out,hkl,List.drop_length]; rfl)
   clear HR hkl
   go_wp2_with fail
   go_ret
   rw [HX.out]
   exact ⟨ca,cc,by rw [<-HM.out]; rfl,HD.out,by rw [<-HM.out]; exact hmc,HE.out⟩
end Go.Proofs.YtfdahmicigpnoaaGreat
