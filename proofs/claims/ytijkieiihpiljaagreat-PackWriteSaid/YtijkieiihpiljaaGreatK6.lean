/- Joined texts: RsA, RsB, RsQ, RsC, RsD, RsE, RsF, RsG, RsH, RsR, RsI, RsL, RsM. -/
import Derived.Test.YtijkieiihpiljaaGreatK2
import Derived.Test.YtijkieiihpiljaaGreatK1
import Derived.Test.YtijkieiihpiljaaGreatK3
import Derived.Deep.OwnRows
import Derived.Test.YtijkieiihpiljaaGreatK5
/- The reference's zero and ValidName. -/
set_option maxRecDepth 100000
set_option maxHeartbeats 16000000
open Go.Lib (hid)
namespace Go.Proofs.YtijkieiihpiljaaGreat
open Go.RowKit
set_option linter.unusedVariables false
theorem rzero_any (x y:Int) (w:World):Calls Tryz.prog 157 #[.agg #[.int .u64 x,.int .u64 y]] w fun e w'=>e = .returned (.bool (x == 0 && y == 0))/\Below w.heap.size w w':=by
 cases h1:(x == 0) with
 | true=>
  go_enter Tryz.func157,Tryz.ntmps157
  go_wp2_with fail
  go_ret
  exact ⟨by simp,(Below.refl _ w).alloc (Nat.le_refl _) _⟩
 | false=>
  go_enter Tryz.func157,Tryz.ntmps157
  go_wp2_with fail
  go_ret
  exact ⟨by simp,(Below.refl _ w).alloc (Nat.le_refl _) _⟩
theorem letterB_iff (c:UInt8):letterB c=true ↔ ((97<=(c.toNat:Int)/\(c.toNat:Int)<=122)\/(65<=(c.toNat:Int)/\(c.toNat:Int)<=90)\/(48<=(c.toNat:Int)/\(c.toNat:Int)<=57)\/(c.toNat:Int)=46\/(c.toNat:Int)=95\/(c.toNat:Int)=45):=by
 have e:∀ k:UInt8,(c == k)=true ↔ (c.toNat:Int)=k.toNat:=fun k=>by
  rw [beq_iff_eq,<-UInt8.toNat_inj]; omega
 simp only [letterB,Bool.or_eq_true,Bool.and_eq_true,decide_eq_true_eq,e]
 simp
 omega
theorem rvalid_any (L:List UInt8) (w:World) (hs:(L.length:Int)<=9223372036854775807):Calls Tryz.prog 158 #[.string ⟨L.toArray⟩] w fun e w'=>e = .returned (.bool (nameB L))/\w=w':=by
 obtain ⟨R,hR⟩:∃ R,R=nameB L:=⟨_,rfl⟩
 rw [<-hR]
 unfold nameB at hR
 have HR:=hid hR
 clear hR
 by_cases h1:(L.length:Int) < 1
 ·have HF:Hid (R=false):=hid (by rw [HR.out,decide_eq_false (by omega)]; rfl)
  have d1:decide ((L.length:Int) < 1)=true:=by simpa using h1
  go_enter Tryz.func158,Tryz.ntmps158
  go_wp2_with fail
  go_ret
  exact ⟨by rw [HF.out]; rfl,rfl⟩
 ·by_cases h2:(24:Int) < L.length
  ·have HF:Hid (R=false):=hid (by rw [HR.out,decide_eq_false (show ¬ L.length<=24 by omega)]; simp)
   have d1:decide ((L.length:Int) < 1)=false:=by simpa using h1
   have d2:decide ((24:Int) < (L.length:Int))=true:=by simpa using h2
   go_enter Tryz.func158,Tryz.ntmps158
   go_wp2_with fail
   go_ret
   exact ⟨by rw [HF.out]; rfl,rfl⟩
  ·have d1:decide ((L.length:Int) < 1)=false:=by simp; omega
   have d2:decide ((24:Int) < (L.length:Int))=false:=by simp; omega
   have hl1:1<=(L.length:Int):=by omega
   have hl2:(L.length:Int)<=24:=by omega
   cases e1:(L == [46]) with
   | true=>
    have HF:Hid (R=false):=hid (by rw [HR.out,e1]; simp)
    go_enter Tryz.func158,Tryz.ntmps158
    go_wp2_with fail
    go_ret
    exact ⟨by rw [HF.out]; rfl,rfl⟩
   | false=>
    cases e2:(L == [46,46]) with
    | true=>
     have HF:Hid (R=false):=hid (by rw [HR.out,e2]; simp)
     go_enter Tryz.func158,Tryz.ntmps158
     go_wp2_with fail
     go_ret
     exact ⟨by rw [HF.out]; rfl,rfl⟩
    | false=>
     have HF:Hid (R=L.all letterB):=hid (by rw [HR.out,e1,e2,decide_eq_true (show 1<=L.length by omega),decide_eq_true (show L.length<=24 by omega)]; simp)
     go_enter Tryz.func158,Tryz.ntmps158
     go_wp2_with fail
     go_loop [3] (fun i=>∃ k:Nat,k<=L.length/\i = .int .i64 k/\Hid ((L.take k).all letterB=true)) (fun i=>L.length - (intOf i).toNat)
     case atStart=>exact ⟨0,by omega,rfl,hid rfl⟩
     case round=>
      obtain ⟨k,hk,rfl,HA⟩:=hrel
      by_cases hlt:k < L.length
      ·have HT:=hid (all_take hlt HA.out)
       have HBD:=hid (fun h=>all_bad (L:=L) hlt h)
       have HLB:=hid (letterB_iff L[k])
       obtain ⟨x,hx0,hx1,hxe,hidx⟩:=idx ⟨L.toArray⟩ k (by rw [ba_len]; exact hlt)
       have hxe2:((L[k].toNat:Nat):Int)=x:=by
        rw [hxe]
        have:(⟨L.toArray⟩:ByteArray).data.toList.getD k 0=L[k]:=by simp [List.getD,List.getElem?_eq_getElem hlt]
        rw [this]
       rw [hxe2] at HLB
       clear hxe hxe2
       cases hb:letterB L[k] with
       | true=>
        have hd:=HLB.out.1 hb
        have HN:Hid ((L.take (k + 1)).all letterB=true):=hid (by rw [HT.out,hb])
        clear hb HLB HT HBD
        rcases hd with ⟨a1,a2⟩ | ⟨a1,a2⟩ | ⟨a1,a2⟩ | rfl | rfl | rfl
        ·have t1:decide (97<=x)=true:=by simp; omega
         have t2:decide (x<=122)=true:=by simp; omega
         go_wp2_with fail
         go_round
         case rel=>exact ⟨k + 1,by omega,by go_num,HN⟩
         case measure=>simp [intOf]; omega
        ·have t1:decide (97<=x)=false:=by simp; omega
         have t3:decide (65<=x)=true:=by simp; omega
         have t4:decide (x<=90)=true:=by simp; omega
         go_wp2_with fail
         go_round
         case rel=>exact ⟨k + 1,by omega,by go_num,HN⟩
         case measure=>simp [intOf]; omega
        ·have t1:decide (97<=x)=false:=by simp; omega
         have t3:decide (65<=x)=false:=by simp; omega
         have t5:decide (48<=x)=true:=by simp; omega
         have t6:decide (x<=57)=true:=by simp; omega
         go_wp2_with fail
         go_round
         case rel=>exact ⟨k + 1,by omega,by go_num,HN⟩
         case measure=>simp [intOf]; omega
        ·go_wp2_with fail
         go_round
         case rel=>exact ⟨k + 1,by omega,by go_num,HN⟩
         case measure=>simp [intOf]; omega
        ·go_wp2_with fail
         go_round
         case rel=>exact ⟨k + 1,by omega,by go_num,HN⟩
         case measure=>simp [intOf]; omega
        ·go_wp2_with fail
         go_round
         case rel=>exact ⟨k + 1,by omega,by go_num,HN⟩
         case measure=>simp [intOf]; omega
       | false=>
        have hd:(0<=x/\x<=44)\/x=47\/(58<=x/\x<=64)\/(91<=x/\x<=94)\/x=96\/(123<=x/\x<=255):=by
         have h3:¬ ((97<=x/\x<=122)\/(65<=x/\x<=90)\/(48<=x/\x<=57)\/x=46\/x=95\/x=45):=fun h=>by have h2:=HLB.out.2 h; rw [hb] at h2; cases h2
         omega
        have HN:Hid (R=false):=hid (by rw [HF.out]; exact HBD.out hb)
        clear hb HLB HT HBD
        rcases hd with ⟨a1,a2⟩ | rfl | ⟨a1,a2⟩ | ⟨a1,a2⟩ | rfl | ⟨a1,a2⟩
        ·have t1:decide (97<=x)=false:=by simp; omega
         have t3:decide (65<=x)=false:=by simp; omega
         have t5:decide (48<=x)=false:=by simp; omega
         have e46:(x == 46)=false:=by rw [beq_eq_false_iff_ne]; omega
         have e95:(x == 95)=false:=by rw [beq_eq_false_iff_ne]; omega
         have e45:(x == 45)=false:=by rw [beq_eq_false_iff_ne]; omega
         go_wp2_with fail
         go_ret
         exact ⟨by rw [HN.out]; rfl,rfl⟩
        ·go_wp2_with fail
         go_ret
         exact ⟨by rw [HN.out]; rfl,rfl⟩
        ·have t1:decide (97<=x)=false:=by simp; omega
         have t3:decide (65<=x)=false:=by simp; omega
         have t5:decide (48<=x)=true:=by simp; omega
         have t6:decide (x<=57)=false:=by simp; omega
         have e46:(x == 46)=false:=by rw [beq_eq_false_iff_ne]; omega
         have e95:(x == 95)=false:=by rw [beq_eq_false_iff_ne]; omega
         have e45:(x == 45)=false:=by rw [beq_eq_false_iff_ne]; omega
         go_wp2_with fail
         go_ret
         exact ⟨by rw [HN.out]; rfl,rfl⟩
        ·have t1:decide (97<=x)=false:=by simp; omega
         have t3:decide (65<=x)=true:=by simp; omega
         have t4:decide (x<=90)=false:=by simp; omega
         have t5:decide (48<=x)=true:=by simp; omega
         have t6:decide (x<=57)=false:=by simp; omega
         have e46:(x == 46)=false:=by rw [beq_eq_false_iff_ne]; omega
         have e95:(x == 95)=false:=by rw [beq_eq_false_iff_ne]; omega
         have e45:(x == 45)=false:=by rw [beq_eq_false_iff_ne]; omega
         go_wp2_with fail
         go_ret
         exact ⟨by rw [HN.out]; rfl,rfl⟩
        ·go_wp2_with fail
         go_ret
         exact ⟨by rw [HN.out]; rfl,rfl⟩
        ·have t1:decide (97<=x)=true:=by simp; omega
         have t2:decide (x<=122)=false:=by simp; omega
         have t3:decide (65<=x)=true:=by simp; omega
         have t4:decide (x<=90)=false:=by simp; omega
         have t5:decide (48<=x)=true:=by simp; omega
         have t6:decide (x<=57)=false:=by simp; omega
         have e46:(x == 46)=false:=by rw [beq_eq_false_iff_ne]; omega
         have e95:(x == 95)=false:=by rw [beq_eq_false_iff_ne]; omega
         have e45:(x == 45)=false:=by rw [beq_eq_false_iff_ne]; omega
         go_wp2_with fail
         go_ret
         exact ⟨by rw [HN.out]; rfl,rfl⟩
      ·have HR2:Hid (R=true):=hid (by rw [HF.out,<-List.take_of_length_le (l:=L) (i:=k) (by omega)]; exact HA.out)
       go_wp2_with fail
       go_ret
       exact ⟨by rw [HR2.out]; rfl,rfl⟩
theorem leB_geq:∀ (a b:List UInt8),leB a b = !Op.bytesLess b a
 | [],[]=>rfl
 | [],b :: y=>rfl
 | a :: x,[]=>rfl
 | a :: x,b :: y=>by
  have ih:=leB_geq x y
  unfold leB at ih ⊢
  simp only [Op.bytesLess,List.cons_beq_cons]
  rcases Nat.lt_trichotomy a.toNat b.toNat with h | h | h
  ·have h1:a < b:=h
   have h2:¬ b < a:=fun h'=>by have h3:b.toNat < a.toNat:=h'; omega
   have h3:(b == a)=false:=by rw [beq_eq_false_iff_ne]; intro e; subst e; omega
   simp [h1,h2,h3]
  ·have e:a=b:=UInt8.toNat_inj.1 h
   subst e
   have h2:¬ a < a:=fun h'=>by have h3:a.toNat < a.toNat:=h'; omega
   simp only [h2,decide_false,Bool.false_or,beq_self_eq_true,Bool.true_and]
   exact ih
  ·have h1:b < a:=h
   have h2:¬ a < b:=fun h'=>by have h3:a.toNat < b.toNat:=h'; omega
   have h3:(a == b)=false:=by rw [beq_eq_false_iff_ne]; intro e; subst e; omega
   simp [h1,h2,h3]
theorem rentries_any (a:Option Addr) (es:List Ent) (c:Nat) (w:World) (hes:Ents w.heap.size w a es) (hn:(es.length:Int)<=9223372036854775807) (hnl:∀ e ∈ es,(e.name.length:Int)<=9223372036854775807) :
  Calls Tryz.prog 155 #[.slice a es.length c] w fun e w'=>e = .returned (.int .i64 (entsE es))/\Below w.heap.size w w':=by
 obtain ⟨R,hR⟩:∃ R,R=entsE es:=⟨_,rfl⟩
 rw [<-hR]
 obtain ⟨n,hnn⟩:∃ n,n=es.length:=⟨_,rfl⟩
 unfold entsE at hR
 rw [<-hnn] at hR hn ⊢
 have HN:=hid hnn
 have HES:=hid hes
 have HNL:=hid hnl
 clear hnn hes hnl
 by_cases h200:(200:Int) < n
 ·have HF:Hid (R=4):=hid (by rw [hR,if_pos (by omega)])
  have d1:decide ((200:Int) < (n:Int))=true:=by simpa using h200
  clear hR
  go_enter Tryz.func155,Tryz.ntmps155
  go_wp2_with fail
  go_ret
  exact ⟨by rw [HF.out]; rfl,Below.refl _ _⟩
 ·have HF:Hid (R=entGo none es):=hid (by rw [hR,if_neg (by omega)])
  have d1:decide ((200:Int) < (n:Int))=false:=by simpa using h200
  clear hR
  go_enter Tryz.func155,Tryz.ntmps155
  go_wp2_with fail
  go_loopw [3] (fun i wr=>∃ k:Nat,k<=n/\i = .int .i64 k/\Hid (Below w.heap.size w wr)/\Hid (ER es k)) (fun i _=>n - (intOf i).toNat)
  case atStart=>exact ⟨0,by omega,rfl,hid (Below.refl _ _),hid (ER.start es)⟩
  case round=>
   obtain ⟨k,hk,rfl,HB,HE⟩:=hrel
   have hws:=HB.out.size
   by_cases hlt:k < n
   ·have h1:k < es.length:=by rw [<-HN.out]; exact hlt
    obtain ⟨b0,o0,rfl,hb0,c0,c1,c2,c3⟩:=(HES.out.below HB.out (Nat.le_refl _)) k h1
    have HST:=hid (HE.out.step h1)
    have hl:=HNL.out _ (List.getElem_mem h1)
    generalize es[k]=en at c0 c1 c2 c3 HST hl
    obtain ⟨E,dir,d1,d2⟩:=en
    simp only at c0 c1 c2 c3 HST hl
    have hkn:(k:Int) < (n:Int):=by omega
    have HV:=hid (fun W=>rvalid_any E W hl)
    have HZ:=hid (fun W=>rzero_any d1 d2 W)
    cases hv:nameB E with
    | false=>
     rw [hv] at HV
     have HR:Hid (R=6):=hid (by rw [HF.out,HST.out,hv,if_pos rfl])
     clear hv HST HE
     go_wp2_with fail
     have hx:=HV.out wr
     (with_reducible refine hx.mono ?_)
     clear hx
     rintro e w' ⟨rfl,rfl⟩
     go_wp2_with fail
     go_ret
     exact ⟨by rw [HR.out]; rfl,HB.out⟩
    | true=>
     rw [hv] at HV
     have HST2:Hid (R=if prevB (prevN es k) E=true then 10 else if ((d1,d2):Int × Int)=(0,0) then 1 else entGo (prevN es (k + 1)) (es.drop (k + 1))):=hid (by rw [HF.out,HST.out,hv,if_neg (by simp)])
     clear hv HST HE
     by_cases hk0:k=0
     ·have g0:decide ((0:Int) < (k:Int))=false:=by simp; omega
      have g1:decide (0 < k)=false:=by simp; omega
      have HST3:Hid (R=if ((d1,d2):Int × Int)=(0,0) then 1 else entGo (prevN es (k + 1)) (es.drop (k + 1))):=hid (by rw [HST2.out,hk0]; rfl)
      clear HST2 hk0
      cases hz:(d1 == 0 && d2 == 0) with
      | true=>
       rw [hz] at HZ
       have HR:Hid (R=1):=hid (by
        rw [HST3.out,if_pos]
        simp only [Bool.and_eq_true,beq_iff_eq] at hz
        rw [hz.1,hz.2])
       clear hz HST3
       go_wp2_with fail
       have hx:=HV.out wr
       (with_reducible refine hx.mono ?_)
       clear hx
       rintro e w' ⟨rfl,rfl⟩
       go_wp2_with fail
       go_quiet (fail)
       go_wp2_with fail
       have hx:=HZ.out (wr.drewN nq)
       (with_reducible refine hx.mono ?_)
       clear hx
       rintro e w1 ⟨rfl,hb⟩
       have HB1:=hid ((below_drewN HB.out nq).trans (hb.mono hws))
       clear hb
       go_wp2_with fail
       go_ret
       exact ⟨by rw [HR.out]; rfl,HB1.out⟩
      | false=>
       rw [hz] at HZ
       have HR:Hid (ER es (k + 1)):=hid (by
        unfold ER
        rw [<-HF.out,HST3.out,if_neg]
        intro h
        simp only [Prod.mk.injEq] at h
        simp [h.1,h.2] at hz)
       clear hz HST3
       go_wp2_with fail
       have hx:=HV.out wr
       (with_reducible refine hx.mono ?_)
       clear hx
       rintro e w' ⟨rfl,rfl⟩
       go_wp2_with fail
       go_quiet (fail)
       go_wp2_with fail
       have hx:=HZ.out (wr.drewN nq)
       (with_reducible refine hx.mono ?_)
       clear hx
       rintro e w1 ⟨rfl,hb⟩
       have HB1:=hid ((below_drewN HB.out nq).trans (hb.mono hws))
       clear hb
       go_wp2_with fail
       go_roundw
       case rel=>exact ⟨k + 1,by omega,by go_num,HB1,HR⟩
       case measure=>simp [intOf]; omega
     ·have g0:decide ((0:Int) < (k:Int))=true:=by simp; omega
      have g1:decide (0 < k)=true:=by simp; omega
      obtain ⟨j,hj⟩:∃ j,k=j + 1:=⟨k - 1,by omega⟩
      have hj1:j < es.length:=by omega
      obtain ⟨b1,o1,hbe,hb1,q0,_,_,_⟩:=(HES.out.below HB.out (Nat.le_refl _)) j hj1
      cases hbe
      have hjk:(k:Int) - 1=(j:Int):=by omega
      have hjw:IntKind.i64.wrap ((k:Int) - 1)=(j:Int):=by rw [hjk]; exact wrap_i64 (by omega) (by omega)
      have hjb:(j:Int) < (n:Int):=by omega
      have HPV:Hid (prevN es k=some es[j].name):=hid (by rw [hj,prevN,List.getElem?_eq_getElem hj1]; rfl)
      generalize es[j].name=Q at q0 HPV
      cases hb:Op.bytesLess Q E with
      | false=>
       have HR:Hid (R=10):=hid (by rw [HST2.out,HPV.out,if_pos]; simp [prevB,leB_geq,hb])
       clear HST2 HPV hj hjk hk0
       go_wp2_with fail
       have hx:=HV.out wr
       (with_reducible refine hx.mono ?_)
       clear hx
       rintro e w' ⟨rfl,rfl⟩
       go_wp2_with fail
       go_quiet (fail)
       go_wp2_with fail
       go_ret
       exact ⟨by rw [HR.out]; rfl,below_drewN HB.out _⟩
      | true=>
       have HST3:Hid (R=if ((d1,d2):Int × Int)=(0,0) then 1 else entGo (prevN es (k + 1)) (es.drop (k + 1))):=hid (by rw [HST2.out,HPV.out,if_neg]; simp [prevB,leB_geq,hb])
       clear HST2 HPV hj hjk hk0
       cases hz:(d1 == 0 && d2 == 0) with
       | true=>
        rw [hz] at HZ
        have HR:Hid (R=1):=hid (by
         rw [HST3.out,if_pos]
         simp only [Bool.and_eq_true,beq_iff_eq] at hz
         rw [hz.1,hz.2])
        clear hz HST3
        go_wp2_with fail
        have hx:=HV.out wr
        (with_reducible refine hx.mono ?_)
        clear hx
        rintro e w' ⟨rfl,rfl⟩
        go_wp2_with fail
        go_quiet (fail)
        go_wp2_with fail
        have hx:=HZ.out (wr.drewN nq)
        (with_reducible refine hx.mono ?_)
        clear hx
        rintro e w1 ⟨rfl,hb⟩
        have HB1:=hid ((below_drewN HB.out nq).trans (hb.mono hws))
        clear hb
        go_wp2_with fail
        go_ret
        exact ⟨by rw [HR.out]; rfl,HB1.out⟩
       | false=>
        rw [hz] at HZ
        have HR:Hid (ER es (k + 1)):=hid (by
         unfold ER
         rw [<-HF.out,HST3.out,if_neg]
         intro h
         simp only [Prod.mk.injEq] at h
         simp [h.1,h.2] at hz)
        clear hz HST3
        go_wp2_with fail
        have hx:=HV.out wr
        (with_reducible refine hx.mono ?_)
        clear hx
        rintro e w' ⟨rfl,rfl⟩
        go_wp2_with fail
        go_quiet (fail)
        go_wp2_with fail
        have hx:=HZ.out (wr.drewN nq)
        (with_reducible refine hx.mono ?_)
        clear hx
        rintro e w1 ⟨rfl,hb⟩
        have HB1:=hid ((below_drewN HB.out nq).trans (hb.mono hws))
        clear hb
        go_wp2_with fail
        go_roundw
        case rel=>exact ⟨k + 1,by omega,by go_num,HB1,HR⟩
        case measure=>simp [intOf]; omega
   ·have HR:Hid (R=0):=hid (by rw [HF.out]; exact HE.out.fin (by rw [<-HN.out]; omega))
    go_wp2_with fail
    go_ret
    exact ⟨by rw [HR.out]; rfl,HB.out⟩
def qNum (r:RS):Int × RS:=if r.2=true\/(Cw.getI r.1).2.2 ≠ 0 then (0,(r.1,true)) else ((Cw.getI r.1).1,(r.1.drop (Cw.getI r.1).2.1.toNat,false))
def qStr (r:RS):List UInt8 × RS:=if r.2=true\/(Cw.getT r.1).2.2 ≠ 0 then ([],(r.1,true)) else ((Cw.getT r.1).1,(r.1.drop (Cw.getT r.1).2.1.toNat,false))
def qDig (r:RS):(Int × Int) × RS:=if r.2=true\/r.1.length < 16 then ((0,0),(r.1,true)) else ((fixS (r.1.take 8),fixS ((r.1.drop 8).take 8)),(r.1.drop 16,false))
def qEnt (r:RS):Ent × RS:=(⟨(qStr r).1,(qNum (qStr r).2).1 == 1,(qDig (qNum (qStr r).2).2).1⟩,(qDig (qNum (qStr r).2).2).2)
def qMany {α:Type} (get:RS->α × RS) (r:RS):List α × RS:=rList get (qNum r).1.toNat (qNum r).2
def qC (r:RS):Ob × RS:=
 (⟨3,[],[],(qDig r).1,(qMany qDig (qDig r).2).1,(qStr (qMany qDig (qDig r).2).2).1,(qNum (qStr (qMany qDig (qDig r).2).2).2).1,(qStr (qNum (qStr (qMany qDig (qDig r).2).2).2).2).1⟩,
  (qStr (qNum (qStr (qMany qDig (qDig r).2).2).2).2).2)
def readQ (s:List UInt8):Ob × RS:=
 if (qNum (s,false)).1=2 then ({ obZ with kind:=2,ents:=(qMany qEnt (qNum (s,false)).2).1 },(qMany qEnt (qNum (s,false)).2).2)
 else if (qNum (s,false)).1=3 then qC (qNum (s,false)).2
 else ({ obZ with kind:=(qNum (s,false)).1,data:=(qStr (qNum (s,false)).2).1 },(qStr (qNum (s,false)).2).2)
def decodeQ (s:List UInt8):Ob × Int:=if (readQ s).2.2=true\/(encodeS (readQ s).1).2 ≠ 0\/(encodeS (readQ s).1).1 ≠ s then (obZ,13) else ((readQ s).1,0)
theorem qNum_enc {n:Nat} (h:n<=1099511627776) (l:List UInt8):qNum (Cw.enc n ++ l,false)=((n:Int),(l,false)):=by
 unfold qNum
 simp only [Cw.getI_enc n h l]
 simp
theorem qStr_put {x:List UInt8} (h:x.length<=65536) (l:List UInt8):qStr (putX x ++ l,false)=(x,(l,false)):=by
 unfold qStr putX
 simp only [getT_put h l]
 simp only [Int.toNat_natCast,List.drop_left]
 simp
theorem qDig_be {d:Int × Int} (h:OkD d) (l:List UInt8):qDig (beD d ++ l,false)=(d,(l,false)):=by
 have h1:=rDig_be h l
 unfold rDig at h1
 unfold qDig
 have hl:¬ (beD d ++ l).length < 16:=by simp [beD_length]
 rw [if_neg (by simpa using hl)] at h1
 rw [if_neg (by simpa using hl)]
 exact h1
theorem qEnt_put {e:Ent} (hn:e.name.length<=65536) (h:OkD e.d) (l:List UInt8):qEnt (entX e ++ l,false)=(e,(l,false)):=by
 obtain ⟨nm,dir,d⟩:=e
 unfold qEnt entX
 simp only at hn h ⊢
 rw [List.append_assoc,qStr_put hn]
 simp only
 rw [List.append_assoc,qNum_enc (by cases dir <;> simp [dirN])]
 simp only
 have e2:(((dirN dir:Nat):Int) == 1)=dir:=by cases dir <;> rfl
 rw [qDig_be h,e2]
theorem qMany_put {α:Type} {get:RS->α × RS} {enc:α->List UInt8} (xs:List α) (l:List UInt8) (hm:xs.length<=1000000) (hg:∀ x ∈ xs,∀ l',get (enc x ++ l',false)=(x,(l',false))) :
  qMany get (Cw.enc xs.length ++ (xs.flatMap enc ++ l),false)=(xs,(l,false)):=by
 unfold qMany
 rw [qNum_enc (by omega)]
 simp only [Int.toNat_natCast]
 rw [rList_put xs l hg]
theorem readQ_put {o:Ob} (h:checkS o=0) (ho:OkO o) (hd:o.data.length<=65536) (l:List UInt8):readQ (bodyO o ++ l)=(o,(l,false)):=by
 have hk:=checkS_kind h
 unfold readQ bodyO
 rw [List.append_assoc,qNum_enc (by omega)]
 have e:((o.kind.toNat:Nat):Int)=o.kind:=by omega
 simp only [e]
 by_cases h2:o.kind=2
 ·rw [if_pos h2,if_pos h2,List.append_assoc]
  obtain ⟨he,hE⟩:=checkS_two h h2
  obtain ⟨hl,hg⟩:=entsE_parts hE
  rw [qMany_put o.ents l (by omega) (fun x hx l'=>qEnt_put (by have:=nameB_length (entGo_name hg x hx); omega) (ho.2.2 x hx) l')]
  simp only
  rw [<-he]
 ·rw [if_neg h2,if_neg h2]
  by_cases h3:o.kind=3
  ·rw [if_pos h3,if_pos h3]
   obtain ⟨he,hE⟩:=checkS_three h h3
   obtain ⟨c1,c2,c3,c4,c5,_⟩:=commitE_parts hE
   have hn:=nameB_length c2
   unfold qC
   simp only [List.append_assoc]
   rw [qDig_be ho.1]
   simp only
   rw [qMany_put o.pars _ (by omega) (fun x hx l'=>qDig_be (ho.2.1 x hx) l')]
   simp only
   rw [qStr_put (by omega)]
   simp only
   rw [qNum_enc (by omega)]
   simp only
   rw [qStr_put (by omega)]
   simp only
   rw [show ((o.time.toNat:Nat):Int)=o.time by omega,<-he]
  ·rw [if_neg h3,if_neg h3,qStr_put hd]
   simp only
   rw [<-checkS_one h (by omega)]
theorem qDig_ok (r:RS):OkD (qDig r).1:=by
 unfold qDig
 split
 ·exact (show OkD ((0:Int),(0:Int)) from ⟨⟨by decide,by decide⟩,by decide,by decide⟩)
 ·exact ⟨fixS_range _ (by rw [List.length_take]; omega),fixS_range _ (by rw [List.length_take]; omega)⟩
theorem readQ_ok (s:List UInt8):OkO (readQ s).1:=by
 have hz:OkD (0,0):=⟨⟨by decide,by decide⟩,by decide,by decide⟩
 unfold readQ
 split
 ·exact ⟨hz,by simp [obZ],(rList_all (P:=fun e:Ent=>OkD e.d) (fun r=>qDig_ok _) _ _).2⟩
 ·split
  ·exact ⟨qDig_ok _,(rList_all (P:=OkD) qDig_ok _ _).2,by simp [qC]⟩
  ·exact ⟨hz,by simp [obZ],by simp [obZ]⟩
theorem decodeQ_eq (s:List UInt8):decodeQ s=decodeS s:=by
 by_cases hq:(readQ s).2.2=true\/(encodeS (readQ s).1).2 ≠ 0\/(encodeS (readQ s).1).1 ≠ s
 ·have h1:decodeQ s=(obZ,13):=by unfold decodeQ; rw [if_pos hq]
  rw [h1]
  rcases decode_cases s with h | ⟨o,h⟩
  ·exact h.symm
  ·exfalso
   obtain ⟨he,ho⟩:=decode_good h
   obtain ⟨c1,c2,c3⟩:=encodeS_parts he
   have hr:=readQ_put c1 ho (by have:=body_data c1; omega) []
   rw [List.append_nil,<-c2] at hr
   rw [hr] at hq
   simp [he] at hq
 ·have h1:decodeQ s=((readQ s).1,0):=by unfold decodeQ; rw [if_neg hq]
  rw [h1]
  simp only [not_or,Classical.not_not] at hq
  have he:encodeS (readQ s).1=(s,0):=by rw [<-hq.2.1]; exact Prod.ext hq.2.2 rfl
  exact (decode_put he (readQ_ok s)).symm
def onlyB (o:Ob):Bool:=!(((o.kind == 2 || o.kind == 3) && !o.data.isEmpty) || (!(o.kind == 2) && decide (0 < o.ents.length))) && (o.kind == 3 || !hasC o)
def fieldsS (o:Ob):Int:=
 if o.kind < 1\/4 < o.kind then 9 else if onlyB o=false then 1 else if o.kind=2 then entsE o.ents else if o.kind=3 then commitE o else if 65536 < o.data.length then 4 else 0
theorem onlyB_is (o:Ob):onlyB o=(!(((o.kind == 2 || o.kind == 3) && !o.data.isEmpty) || (!(o.kind == 2) && decide (0 < o.ents.length))) && (o.kind == 3 || ((o.tree.1 == 0 && o.tree.2 == 0) && !decide (0 < o.pars.length) && o.author.isEmpty && (o.time == 0) && o.msg.isEmpty))):=by
 unfold onlyB
 rw [hasC_is]
 have e:∀ l:List UInt8,(l == [])=l.isEmpty:=fun l=>by cases l <;> rfl
 simp only [e,Bool.not_or,Bool.not_not]
theorem bcell {W w1:World} (hb:Below W.heap.size W w1):(∀ b o,b < W.heap.size->w1.cell? ⟨b,o,none⟩=W.cell? ⟨b,o,none⟩)/\(∀ b o,b < W.heap.size->w1.frozen? ⟨b,o,none⟩=W.frozen? ⟨b,o,none⟩):=
 ⟨fun b o h=>hb.cell (p:=⟨b,o,none⟩) h,fun b o h=>hb.frozen (p:=⟨b,o,none⟩) h⟩
theorem ronly_any (o:Ob) (ea:Option Addr) (ec:Nat) (pa:Option Addr) (pc:Nat) (w:World) :
  Calls Tryz.prog 154 #[o.val ea ec pa pc] w fun e w'=>e = .returned (.bool (onlyB o))/\Below w.heap.size w w':=by
 obtain ⟨R,hR⟩:∃ R,R=onlyB o:=⟨_,rfl⟩
 rw [<-hR]
 rw [onlyB_is] at hR
 obtain ⟨kind,data,ents,⟨t1,t2⟩,pars,author,time,msg⟩:=o
 simp only [Ob.val] at hR ⊢
 have HZ:=hid (fun W=>rzero_any t1 t2 W)
 generalize (t1 == 0 && t2 == 0)=zb at HZ hR
 generalize ents.length=ne at hR ⊢
 generalize pars.length=n at hR ⊢
 have HR:=hid hR
 clear hR
 have HB0:Hid (Below w.heap.size w (w.alloc (.cells #[.int .i64 kind,.string ⟨data.toArray⟩,.slice ea ne ec,.int .u64 t1,.int .u64 t2,.slice pa n pc,.string ⟨author.toArray⟩,.int .i64 time,.string ⟨msg.toArray⟩] 56))):=hid ((Below.refl _ w).alloc (Nat.le_refl _) _)
 by_cases hk3:kind=3
 ·subst hk3
  cases hde:data.isEmpty with
  | false=>
   have HF:Hid (R=false):=hid (by rw [HR.out,hde]; simp)
   clear HR
   go_enter Tryz.func154,Tryz.ntmps154
   go_wp2_with fail
   go_ret
   exact ⟨by rw [HF.out]; rfl,HB0.out⟩
  | true=>
   cases hne:decide (0 < ne) with
   | true=>
    have HF:Hid (R=false):=hid (by rw [HR.out,hde,hne]; simp)
    clear HR
    go_enter Tryz.func154,Tryz.ntmps154
    go_wp2_with fail
    go_ret
    exact ⟨by rw [HF.out]; rfl,HB0.out⟩
   | false=>
    have HF:Hid (R=true):=hid (by rw [HR.out,hde,hne]; simp)
    clear HR
    go_enter Tryz.func154,Tryz.ntmps154
    go_wp2_with fail
    go_ret
    exact ⟨by rw [HF.out]; rfl,HB0.out⟩
 ·have k3:(kind == 3)=false:=by simpa using hk3
  clear hk3
  have HR2:Hid (R=(!((kind == 2 && !data.isEmpty) || (!(kind == 2) && decide (0 < ne))) && (zb && !decide (0 < n) && author.isEmpty && (time == 0) && msg.isEmpty))):=hid (by rw [HR.out,k3]; simp)
  clear HR
  have key:(R=(zb && !decide (0 < n) && author.isEmpty && (time == 0) && msg.isEmpty))/\((kind=2/\data.isEmpty=true)\/(kind ≠ 2/\decide (0 < ne)=false))\/(R=false/\((kind=2/\data.isEmpty=false)\/(kind ≠ 2/\decide (0 < ne)=true))):=by
   have:=HR2.out
   by_cases h2:kind=2
   ·subst h2
    cases hde:data.isEmpty
    ·rw [hde] at this; right; exact ⟨by simpa using this,.inl ⟨rfl,rfl⟩⟩
    ·rw [hde] at this; left; exact ⟨by simpa using this,.inl ⟨rfl,rfl⟩⟩
   ·have h2':(kind == 2)=false:=by simpa using h2
    rw [h2'] at this
    cases hne:decide (0 < ne)
    ·rw [hne] at this; left; exact ⟨by simpa using this,.inr ⟨h2,rfl⟩⟩
    ·rw [hne] at this; right; exact ⟨by simpa using this,.inr ⟨h2,rfl⟩⟩
  clear HR2
  rcases key with ⟨hR,hk⟩ | ⟨hR,hk⟩
  ·have HR:=hid hR
   clear hR
   rcases hk with ⟨rfl,hde⟩ | ⟨hk2,hne⟩
   all_goals
    try (have k2:(kind == 2)=false:=by simpa using hk2)
    try (have k2':(kind != 2)=true:=by simpa using hk2)
    try clear hk2
    cases zb with
    | false=>
     have HF:Hid (R=false):=hid (by rw [HR.out]; simp)
     clear HR
     go_enter Tryz.func154,Tryz.ntmps154
     go_wp2_with fail
     (with_reducible refine (HZ.out _).mono ?_)
     rintro e u ⟨rfl,hb⟩
     have HB1:=hid (HB0.out.trans (hb.mono HB0.out.size))
     clear hb
     go_wp2_with fail
     go_ret
     exact ⟨by rw [HF.out]; rfl,HB1.out⟩
    | true=>
     cases hn:decide (0 < n) with
     | true=>
      have HF:Hid (R=false):=hid (by rw [HR.out,hn]; simp)
      clear HR
      have n1:((n:Int) == 0)=false:=by simp at hn; rw [beq_eq_false_iff_ne]; omega
      have n2:(n == 0)=false:=by simp at hn; rw [beq_eq_false_iff_ne]; omega
      go_enter Tryz.func154,Tryz.ntmps154
      go_wp2_with fail
      (with_reducible refine (HZ.out _).mono ?_)
      rintro e u ⟨rfl,hb⟩
      have HB1:=hid (HB0.out.trans (hb.mono HB0.out.size))
      obtain ⟨hc,hf⟩:=bcell hb
      clear hb
      go_wp2_with fail
      go_ret
      exact ⟨by rw [HF.out]; rfl,HB1.out⟩
     | false=>
      obtain rfl:n=0:=by simpa using hn
      clear hn
      cases hau:author.isEmpty with
      | false=>
       have HF:Hid (R=false):=hid (by rw [HR.out,hau]; simp)
       clear HR
       go_enter Tryz.func154,Tryz.ntmps154
       go_wp2_with fail
       (with_reducible refine (HZ.out _).mono ?_)
       rintro e u ⟨rfl,hb⟩
       have HB1:=hid (HB0.out.trans (hb.mono HB0.out.size))
       obtain ⟨hc,hf⟩:=bcell hb
       clear hb
       go_wp2_with fail
       go_ret
       exact ⟨by rw [HF.out]; rfl,HB1.out⟩
      | true=>
       cases hti:(time == 0) with
       | false=>
        have HF:Hid (R=false):=hid (by rw [HR.out,hti]; simp)
        clear HR
        go_enter Tryz.func154,Tryz.ntmps154
        go_wp2_with fail
        (with_reducible refine (HZ.out _).mono ?_)
        rintro e u ⟨rfl,hb⟩
        have HB1:=hid (HB0.out.trans (hb.mono HB0.out.size))
        obtain ⟨hc,hf⟩:=bcell hb
        clear hb
        go_wp2_with fail
        go_ret
        exact ⟨by rw [HF.out]; rfl,HB1.out⟩
       | true=>
        have HF:Hid (R=msg.isEmpty):=hid (by rw [HR.out,hti,hau]; simp)
        clear HR
        obtain rfl:time=0:=by simpa using hti
        clear hti
        go_enter Tryz.func154,Tryz.ntmps154
        go_wp2_with fail
        (with_reducible refine (HZ.out _).mono ?_)
        rintro e u ⟨rfl,hb⟩
        have HB1:=hid (HB0.out.trans (hb.mono HB0.out.size))
        obtain ⟨hc,hf⟩:=bcell hb
        clear hb
        go_wp2_with fail
        go_ret
        exact ⟨by rw [HF.out]; rfl,HB1.out⟩
  ·have HF:=hid hR
   clear hR
   rcases hk with ⟨rfl,hde⟩ | ⟨hk2,hne⟩
   ·go_enter Tryz.func154,Tryz.ntmps154
    go_wp2_with fail
    go_ret
    exact ⟨by rw [HF.out]; rfl,HB0.out⟩
   ·have k2:(kind == 2)=false:=by simpa using hk2
    have k2':(kind != 2)=true:=by simpa using hk2
    clear hk2
    go_enter Tryz.func154,Tryz.ntmps154
    go_wp2_with fail
    go_ret
    exact ⟨by rw [HF.out]; rfl,HB0.out⟩
theorem dig_ne {a b:Int} (h:(a == 0 && b == 0)=false):((a,b):Int × Int) ≠ (0,0):=by
 intro h2
 simp only [Prod.mk.injEq] at h2
 simp [h2.1,h2.2] at h
theorem dig_eq {a b:Int} (h:(a == 0 && b == 0)=true):((a,b):Int × Int)=(0,0):=by
 simp only [Bool.and_eq_true,beq_iff_eq] at h
 rw [h.1,h.2]
theorem rcommit_any (o:Ob) (ea:Option Addr) (ec:Nat) (pa:Option Addr) (pc:Nat) (w:World) (hd:Digs w.heap.size w pa o.pars) (hn:(o.pars.length:Int)<=9223372036854775807) (hau:(o.author.length:Int)<=9223372036854775807) (hms:(o.msg.length:Int)<=9223372036854775807) :
  Calls Tryz.prog 156 #[o.val ea ec pa pc] w fun e w'=>e = .returned (.int .i64 (commitE o))/\Below w.heap.size w w':=by
 obtain ⟨R,hR⟩:∃ R,R=commitE o:=⟨_,rfl⟩
 rw [<-hR]
 unfold commitE at hR
 obtain ⟨kind,data,ents,⟨t1,t2⟩,pars,author,time,msg⟩:=o
 simp only [Ob.val] at hd hn hau hms hR ⊢
 generalize ents.length=ne
 obtain ⟨n,hnn⟩:∃ n,n=pars.length:=⟨_,rfl⟩
 rw [<-hnn] at hn hR ⊢
 have HN:=hid hnn
 have HD:=hid hd
 clear hnn hd
 have HZ:=hid (fun W=>rzero_any t1 t2 W)
 have HZA:=hid (fun x y W=>rzero_any x y W)
 have HVA:=hid (fun W=>rvalid_any author W hau)
 obtain ⟨w0,hw0⟩:∃ w0,w0=w.alloc (.cells #[.int .i64 kind,.string ⟨data.toArray⟩,.slice ea ne ec,.int .u64 t1,.int .u64 t2,.slice pa n pc,.string ⟨author.toArray⟩,.int .i64 time,.string ⟨msg.toArray⟩] 56):=⟨_,rfl⟩
 have HK0:Hid (BK w.heap.size #[.int .i64 kind,.string ⟨data.toArray⟩,.slice ea ne ec,.int .u64 t1,.int .u64 t2,.slice pa n pc,.string ⟨author.toArray⟩,.int .i64 time,.string ⟨msg.toArray⟩] 56 w0):=hid (by rw [hw0]; exact BK.new _ _ _)
 have HB0:Hid (Below w.heap.size w w0):=hid (by rw [hw0]; exact (Below.refl _ w).alloc (Nat.le_refl _) _)
 have HW0:=hid hw0
 clear hw0
 cases hz:(t1 == 0 && t2 == 0) with
 | true=>
  rw [hz] at HZ
  have HR:Hid (R=1):=hid (by rw [hR,if_pos (dig_eq hz)])
  clear hz hR
  go_enter Tryz.func156,Tryz.ntmps156
  go_wp2_with fail
  (with_reducible refine (HZ.out _).mono ?_)
  rintro e u ⟨rfl,hb⟩
  rw [<-HW0.out] at hb
  have HB1:=hid (HB0.out.trans (hb.mono HB0.out.size))
  clear hb
  go_wp2_with fail
  go_ret
  exact ⟨by rw [HR.out]; rfl,HB1.out⟩
 | false=>
  rw [hz] at HZ
  rw [if_neg (dig_ne hz)] at hR
  clear hz
  by_cases h8:(8:Int) < n
  ·have HR:Hid (R=4):=hid (by rw [hR,if_pos (by omega)])
   have d8:decide ((8:Int) < (n:Int))=true:=by simpa using h8
   clear hR
   go_enter Tryz.func156,Tryz.ntmps156
   go_wp2_with fail
   (with_reducible refine (HZ.out _).mono ?_)
   rintro e u ⟨rfl,hb⟩
   rw [<-HW0.out] at hb
   have HB1:=hid (HB0.out.trans (hb.mono HB0.out.size))
   have HK1:=hid (HK0.out.below hb)
   have e4:u.cell? ⟨w.heap.size,5,none⟩=some (.slice pa n pc):=by rw [HK1.out.cell]; rfl
   clear hb
   go_wp2_with fail
   go_ret
   exact ⟨by rw [HR.out]; rfl,HB1.out⟩
  ·rw [if_neg (by omega)] at hR
   have HR:=hid hR
   have d8:decide ((8:Int) < (n:Int))=false:=by simpa using h8
   clear hR
   go_enter Tryz.func156,Tryz.ntmps156
   go_wp2_with fail
   (with_reducible refine (HZ.out _).mono ?_)
   rintro e u ⟨rfl,hb⟩
   rw [<-HW0.out] at hb
   have HB1:=hid (HB0.out.trans (hb.mono HB0.out.size))
   have HK1:=hid (HK0.out.below hb)
   have e4:u.cell? ⟨w.heap.size,5,none⟩=some (.slice pa n pc):=by rw [HK1.out.cell]; rfl
   have hus:w.heap.size < u.heap.size:=HK1.out.lt
   clear hb
   go_wp2_with fail
   go_loopw [3] (fun i wr=>∃ k:Nat,k<=n/\i = .int .i64 k/\Hid (Below w.heap.size w wr)/\Hid (PR pars k)/\w.heap.size < wr.heap.size/\Hid (BK w.heap.size #[.int .i64 kind,.string ⟨data.toArray⟩,.slice ea ne ec,.int .u64 t1,.int .u64 t2,.slice pa n pc,.string ⟨author.toArray⟩,.int .i64 time,.string ⟨msg.toArray⟩] 56 wr)) (fun i _=>n - (intOf i).toNat)
   case atStart=>exact ⟨0,by omega,rfl,HB1,hid (PR.start pars),hus,HK1⟩
   case round=>
    clear HB1 HK1 HB0 HK0 HW0 e4 HZ hus
    obtain ⟨k,hk,rfl,HB,HP,hws,HX⟩:=hrel
    have e4:wr.cell? ⟨w.heap.size,5,none⟩=some (.slice pa n pc):=by rw [HX.out.cell]; rfl
    by_cases hlt:k < n
    ·have h1:k < pars.length:=by rw [<-HN.out]; exact hlt
     obtain ⟨b0,o0,hpa,hb0,c0,c1⟩:=(HD.out.below HB.out (Nat.le_refl _)) k h1
     subst hpa
     have HST:=hid (HP.out.step h1)
     generalize hdk:pars[k]=dk at c0 c1 HST
     have HDK:=hid hdk
     clear hdk
     obtain ⟨x,y⟩:=dk
     simp only at c0 c1
     have HZ:=hid (fun W=>HZA.out x y W)
     have hkn:(k:Int) < (n:Int):=by omega
     cases hz:(x == 0 && y == 0) with
     | true=>
      rw [hz] at HZ
      have HRR:Hid (R=1):=hid (by
       have:parGo [] pars=1:=by rw [HST.out,if_pos (dig_eq hz)]
       rw [HR.out,this,if_pos (by decide)])
      clear hz HST
      go_wp2_with fail
      (with_reducible refine (HZ.out _).mono ?_)
      rintro e u2 ⟨rfl,hb⟩
      have HB2:=hid (HB.out.trans (hb.mono HB.out.size))
      clear hb
      go_wp2_with fail
      go_ret
      exact ⟨by rw [HRR.out]; rfl,HB2.out⟩
     | false=>
      rw [hz] at HZ
      have HST2:Hid (parGo [] pars=if (x,y) ∈ pars.take k then 7 else parGo (pars.take (k + 1)) (pars.drop (k + 1))):=hid (by rw [HST.out,if_neg (dig_ne hz)])
      clear hz HST
      go_wp2_with fail
      (with_reducible refine (HZ.out _).mono ?_)
      rintro e u2 ⟨rfl,hb⟩
      have HB2:=hid (HB.out.trans (hb.mono HB.out.size))
      have HX2:=hid (HX.out.below hb)
      have hw2:w.heap.size < u2.heap.size:=HX2.out.lt
      clear hb c0 c1 e4
      have e4:u2.cell? ⟨w.heap.size,5,none⟩=some (.slice (some ⟨b0,o0,none⟩) n pc):=by rw [HX2.out.cell]; rfl
      obtain ⟨_,_,hpa,_,c0,c1⟩:=(HD.out.below HB2.out (Nat.le_refl _)) k h1
      cases hpa
      rw [HDK.out] at c0 c1
      simp only at c0 c1
      go_wp2_with fail
      go_loopw [4] (fun i wj=>∃ j q:Nat,j<=k/\i = .int .i64 j/\wj=u2.drewN q/\Hid ((x,y) ∉ pars.take j)) (fun i _=>k - (intOf i).toNat)
      case atStart=>exact ⟨0,0,by omega,rfl,rfl,hid (by simp)⟩
      case round=>
       obtain ⟨j,q,hj,rfl,rfl,HT⟩:=hrel
       by_cases hjk:j < k
       ·have hj1:j < pars.length:=by omega
        obtain ⟨_,_,hpa,_,p0,p1⟩:=(HD.out.below HB2.out (Nat.le_refl _)) j hj1
        cases hpa
        have HMS:=hid (fun (h:pars[j] ≠ (x,y))=>mem_take_succ hj1 HT.out h)
        have HMT:Hid (pars[j]=(x,y)->(x,y) ∈ pars.take k):=hid (fun h=>by
         rw [<-h,List.mem_take_iff_getElem]
         exact ⟨j,by omega,rfl⟩)
        generalize pars[j]=dj at p0 p1 HMS HMT
        obtain ⟨x2,y2⟩:=dj
        simp only at p0 p1
        have hq:=fun W=>eql_dig x2 y2 x y W
        have hjk2:(j:Int) < (k:Int):=by omega
        have hjn:(j:Int) < (n:Int):=by omega
        have djk:decide (j < k)=true:=by simpa using hjk
        have djk2:decide ((j:Int) < (k:Int))=true:=by simpa using hjk
        cases hz:(x2 == x && y2 == y) with
        | true=>
         rw [hz] at hq
         have HRR:Hid (R=7):=hid (by
          simp only [Bool.and_eq_true,beq_iff_eq] at hz
          have:parGo [] pars=7:=by rw [HST2.out,if_pos (HMT.out (by rw [hz.1,hz.2]))]
          rw [HR.out,this,if_pos (by decide)])
         clear hz HMS HMT
         go_wp2_with fail
         go_quiet (fail)
         go_wp2_with fail
         go_ret
         exact ⟨by rw [HRR.out]; rfl,below_drewN (below_drewN HB2.out _) _⟩
        | false=>
         rw [hz] at hq
         have HT2:Hid ((x,y) ∉ pars.take (j + 1)):=hid (HMS.out (fun h=>by
          simp only [Prod.mk.injEq] at h
          simp [h.1,h.2] at hz))
         clear hz HMS HMT
         go_wp2_with fail
         go_quiet (fail)
         go_wp2_with fail
         go_roundw
         case rel=>exact ⟨j + 1,_,by omega,by go_num,by first | rfl | (simp only [World.drewN_drewN]; rfl),HT2⟩
         case measure=>simp [intOf] <;> omega
       ·obtain rfl:j=k:=by omega
        have HRR:Hid (PR pars (j + 1)):=hid (by
         unfold PR
         rw [HST2.out,if_neg HT.out])
        go_wp2_with fail
        go_roundw
        case rel=>exact ⟨j + 1,by omega,by go_num,hid (below_drewN HB2.out _),HRR,hw2,HX2⟩
        case measure=>simp [intOf] <;> omega
    ·have HP0:=hid (HP.out.fin (by rw [<-HN.out]; omega))
     have HR2:Hid (R=if nameB author=false then 6 else if time < 0\/1099511627776 < time then 2 else if 200 < msg.length then 4 else 0):=hid (by rw [HR.out,HP0.out,if_neg (by simp)])
     have e5:wr.cell? ⟨w.heap.size,6,none⟩=some (.string ⟨author.toArray⟩):=by rw [HX.out.cell]; rfl
     have e6:wr.cell? ⟨w.heap.size,7,none⟩=some (.int .i64 time):=by rw [HX.out.cell]; rfl
     have e7:wr.cell? ⟨w.heap.size,8,none⟩=some (.string ⟨msg.toArray⟩):=by rw [HX.out.cell]; rfl
     clear HR HP0 HP
     cases hv:nameB author with
     | false=>
      rw [hv] at HVA
      have HRR:Hid (R=6):=hid (by rw [HR2.out,hv,if_pos rfl])
      clear hv HR2
      go_wp2_with fail
      (with_reducible refine (HVA.out _).mono ?_)
      rintro e w' ⟨rfl,rfl⟩
      go_wp2_with fail
      go_ret
      exact ⟨by rw [HRR.out]; rfl,HB.out⟩
     | true=>
      rw [hv] at HVA
      have HR3:Hid (R=if time < 0\/1099511627776 < time then 2 else if 200 < msg.length then 4 else 0):=hid (by rw [HR2.out,hv,if_neg (by simp)])
      clear hv HR2
      by_cases ht:time < 0\/1099511627776 < time
      ·have HRR:Hid (R=2):=hid (by rw [HR3.out,if_pos ht])
       clear HR3
       go_wp2_with fail
       (with_reducible refine (HVA.out _).mono ?_)
       rintro e w' ⟨rfl,rfl⟩
       go_wp2_with fail
       all_goals first
        | (exfalso; omega)
        | (go_ret; exact ⟨by rw [HRR.out]; rfl,HB.out⟩)
      ·have HR4:Hid (R=if 200 < msg.length then 4 else 0):=hid (by rw [HR3.out,if_neg ht])
       have t1':decide (time < 0)=false:=by simp; omega
       have t2':decide (1099511627776 < time)=false:=by simp; omega
       clear HR3 ht
       by_cases hm:(200:Int) < msg.length
       ·have HRR:Hid (R=4):=hid (by rw [HR4.out,if_pos (by omega)])
        clear HR4
        go_wp2_with fail
        (with_reducible refine (HVA.out _).mono ?_)
        rintro e w' ⟨rfl,rfl⟩
        go_wp2_with fail
        go_ret
        exact ⟨by rw [HRR.out]; rfl,HB.out⟩
       ·have HRR:Hid (R=0):=hid (by rw [HR4.out,if_neg (by omega)])
        clear HR4
        go_wp2_with fail
        (with_reducible refine (HVA.out _).mono ?_)
        rintro e w' ⟨rfl,rfl⟩
        go_wp2_with fail
        go_ret
        exact ⟨by rw [HRR.out]; rfl,HB.out⟩
open Go.RowKit Go.Shelf
theorem rnum_any (n:Int) (h0:0<=n) (h1:n<=1099511627776) (w:World):Calls Tryz.prog 149 #[.int .i64 n] w fun e w'=>e = .returned (.string ⟨(Cw.enc n.toNat).toArray⟩)/\Below w.heap.size w w':=by
 have HP:Hid (∀ W,Calls Tryz.prog 78 #[.int .i64 n] W fun e w'=>e = .returned (.tuple #[.string ⟨(Cw.enc n.toNat).toArray⟩,.int .i64 0])/\Below W.heap.size W w'):=hid (fun W=>by
  have h:=refPutInt_any n W
  have:putI n=(Cw.enc n.toNat,0):=by unfold putI; rw [if_pos ((Cw.inR_iff n).2 ⟨h0,h1⟩)]
  rw [this] at h
  exact h)
 go_enter Tryz.func149,Tryz.ntmps149
 go_wp2_with fail
 (with_reducible refine (HP.out _).mono ?_)
 rintro e x ⟨rfl,hb⟩
 have HB:=hid hb
 clear hb
 go_wp2_with fail
 go_ret
 exact ⟨rfl,HB.out⟩
theorem rtext_any (s:List UInt8) (hs:(s.length:Int)<=65536) (w:World):Calls Tryz.prog 150 #[.string ⟨s.toArray⟩] w fun e w'=>e = .returned (.string ⟨(putX s).toArray⟩)/\Below w.heap.size w w':=by
 have HP:Hid (∀ W,Calls Tryz.prog 83 #[.string ⟨s.toArray⟩] W fun e w'=>e = .returned (.tuple #[.string ⟨(putX s).toArray⟩,.int .i64 0])/\Below W.heap.size W w'):=hid (fun W=>by
  have h:=refPutText_any ⟨s.toArray⟩ W (by rw [ba_len]; omega)
  have:putT s=(putX s,0):=by unfold putT; rw [if_pos (by omega)]; rfl
  rw [show (⟨s.toArray⟩:ByteArray).data.toList=s by simp,this] at h
  exact h)
 go_enter Tryz.func150,Tryz.ntmps150
 go_wp2_with fail
 (with_reducible refine (HP.out _).mono ?_)
 rintro e x ⟨rfl,hb⟩
 have HB:=hid hb
 clear hb
 go_wp2_with fail
 go_ret
 exact ⟨rfl,HB.out⟩
theorem be_snoc:∀ (k:Nat) (x:Int),be (k + 1) x=be k (x / 256) ++ [UInt8.ofNat (x % 256).toNat]
 | 0,x=>by simp [be]
 | k + 1,x=>by
  have ih:=be_snoc k x
  rw [be,ih]
  conv=>rhs; rw [be]
  rw [List.cons_append]
  congr 4
  rw [show 8 * (k + 1)=8 + 8 * k by omega,Int.pow_add,Int.ediv_mul,if_neg (fun h=>absurd h.1 (by decide)),Int.add_zero]
  rfl
theorem set_rep (A R:List UInt8) (m:Nat) (c:UInt8):(A ++ (List.replicate (m + 1) 0 ++ R)).set (A.length + m) c=A ++ (List.replicate m 0 ++ (c :: R)):=by
 rw [List.set_append_right _ _ (by omega),Nat.add_sub_cancel_left,List.replicate_succ',List.append_assoc,List.set_append_right _ _ (by simp)]
 simp
theorem bytes_set (L:List UInt8) (i:Nat) (c:Int) (h0:0<=c) (h1:c < 256):(Lib.byteCells L).toArray.setIfInBounds i (.int .u8 c)=(Lib.byteCells (L.set i (UInt8.ofNat c.toNat))).toArray:=by
 rw [List.setIfInBounds_toArray]
 congr 1
 unfold Lib.byteCells
 rw [List.map_set]
 congr 2
 simp
 omega
theorem own_bytes {W:World} {b:Nat} {L:List UInt8} (h:BK b (Lib.byteCells L).toArray 5 W) (hl:L.length<=1000000):W.ownsRow b 5 1 (.slice (some ⟨b,0,none⟩) L.length L.length) L.length (Lib.byteCells L):=by
 refine ⟨by rw [Lib.byteCells_length]; omega,.inr ⟨b,L.length,(Lib.byteCells L).toArray,rfl,Nat.le_refl _,h,Nat.le_refl _,by unfold maxLen; omega,by simp [Lib.byteCells_length],?_⟩⟩
 simp [List.take_of_length_le,Lib.byteCells_length]
theorem made_bytes:(madeCells #[Value.int .u8 0] 16)=(Lib.byteCells (List.replicate 16 0)).toArray:=by
 apply Array.ext'
 rw [toList_madeCells_one]
 rfl
theorem infoU8:(Tryz.prog.info? 5).map (fun i=>(i.zero,i.size,i.bytes))=some (some (.int .u8 0),1,1):=by kernel_rfl
theorem rbytes_any (x y:Int) (hx:0<=x/\x<=18446744073709551615) (hy:0<=y/\y<=18446744073709551615) (w:World):Calls Tryz.prog 41 #[.agg #[.int .u64 x,.int .u64 y]] w fun e w'=>e = .returned (.string ⟨(beD (x,y)).toArray⟩)/\Below w.heap.size w w':=by
 have hmk:=fun W=>run_make_row' (P:=Tryz.prog) 34 5 (.int .u8 0) 1 Tryz.underlying34 infoU8 rfl .i64 .i64 16 (by decide) (by decide) W
 rw [made_bytes] at hmk
 have hmk2:∀ W,(Instr.makeSlice 34 (.int .i64 16) (.int .i64 16)).run Tryz.prog W = .ok (.slice (some ⟨W.heap.size,0,none⟩) 16 16) (W.alloc (.cells (Lib.byteCells (List.replicate 16 0)).toArray 5)):=hmk
 clear hmk
 obtain ⟨Z0,hZ0⟩:∃ Z0:Array Value,Z0=(Lib.byteCells (List.replicate 16 0)).toArray:=⟨_,rfl⟩
 rw [<-hZ0] at hmk2
 have HZ0:=hid hZ0
 clear hZ0
 obtain ⟨u,hu⟩:∃ u,u=(w.alloc (.cells #[.int .u64 x,.int .u64 y] 41)).alloc (.cells Z0 5):=⟨_,rfl⟩
 have HKD:Hid (BK w.heap.size #[.int .u64 x,.int .u64 y] 41 u):=hid (by rw [hu]; exact (BK.new _ _ _).alloc _)
 have HKO:Hid (BK (w.heap.size + 1) Z0 5 u):=hid (by rw [hu]; exact BK.new2 _ _ _ _)
 have HBU:Hid (Below w.heap.size w u):=hid (by rw [hu]; exact ((Below.refl _ w).alloc (Nat.le_refl _) _).alloc (by simp) _)
 have HU:=hid hu
 clear hu
 go_enter Tryz.func41,Tryz.ntmps41
 go_wp2_with fail
 rw [<-HU.out]
 clear HU hmk2
 go_loopw [4] (fun i wr=>∃ (k:Nat),k<=2/\i = .int .i64 k/\Hid (Below w.heap.size w wr)/\Hid (BK w.heap.size #[.int .u64 x,.int .u64 y] 41 wr)/\Hid (BK (w.heap.size + 1) (Lib.byteCells (bePart x y k ++ List.replicate (16 - 8 * k) 0)).toArray 5 wr)) (fun i _=>2 - (intOf i).toNat)
 case atStart=>exact ⟨0,by omega,rfl,HBU,HKD,hid (by have:=HKO.out; rw [HZ0.out] at this; exact this)⟩
 case round=>
  clear HBU HKD HKO
  obtain ⟨k,hk,rfl,HB,HKD,HKO⟩:=hrel
  by_cases hlt:k < 2
  ·obtain ⟨n,hn0,hn1,hcn,HN⟩:∃ n:Int,0<=n/\n<=18446744073709551615/\wr.cell? ⟨w.heap.size,k,none⟩=some (.int .u64 n)/\Hid (bePart x y (k + 1)=bePart x y k ++ be 8 n/\(bePart x y k).length=8 * k/\16 - 8 * k=8 + (16 - 8 * (k + 1))):=by
    rcases (show k=0\/k=1 by omega) with rfl | rfl
    ·exact ⟨x,hx.1,hx.2,by rw [HKD.out.cell]; rfl,hid ⟨by simp [bePart],by simp [bePart],by omega⟩⟩
    ·exact ⟨y,hy.1,hy.2,by rw [HKD.out.cell]; rfl,hid ⟨rfl,by simp [bePart,be_length],by omega⟩⟩
   have hk2:(k:Int) < 2:=by omega
   have dk:decide ((k:Int) < 2)=true:=by simpa using hk2
   go_wp2_with fail
   go_loopw [5,6] (fun nn s wj=>∃ (m:Nat) (p:Int) (T:List UInt8),m<=8/\nn = .int .u64 p/\0<=p/\p<=18446744073709551615/\s = .int .i64 ((m:Int) - 1)/\Hid (be 8 n=be m p ++ T/\T.length + m=8)/\Hid (Below w.heap.size w wj)/\Hid (BK w.heap.size #[.int .u64 x,.int .u64 y] 41 wj)/\Hid (BK (w.heap.size + 1) (Lib.byteCells (bePart x y k ++ (List.replicate m 0 ++ (T ++ List.replicate (16 - 8 * (k + 1)) 0)))).toArray 5 wj)) (fun _ s _=>(intOf s + 1).toNat)
   case atStart=>
    refine ⟨8,n,[],by omega,rfl,hn0,hn1,rfl,hid ⟨by simp,by simp⟩,HB,HKD,hid ?_⟩
    have:=HKO.out
    rw [HN.out.2.2,<-List.replicate_append_replicate] at this
    exact this
   case round=>
    clear HKD HKO HB
    obtain ⟨m,p,T,hm,rfl,hp0,hp1,rfl,HT,HB2,HKD2,HKO2⟩:=hrel
    cases m with
    | zero=>
     have HF:Hid (BK (w.heap.size + 1) (Lib.byteCells (bePart x y (k + 1) ++ List.replicate (16 - 8 * (k + 1)) 0)).toArray 5 wr):=hid (by
      have:=HKO2.out
      rw [HN.out.1,HT.out.1,List.append_assoc]
      exact this)
     go_wp2_with fail
     go_roundw
     case rel=>exact ⟨k + 1,by omega,by go_num,HB2,HKD2,HF⟩
     case measure=>simp [intOf] <;> omega
    | succ i=>
     have hi8:((i + 1:Nat):Int) - 1=(i:Int):=by omega
     rw [hi8]
     obtain ⟨c,hc⟩:∃ c,c=p % 256:=⟨_,rfl⟩
     obtain ⟨p2,hp2⟩:∃ p2,p2=p / 256:=⟨_,rfl⟩
     have hc0:0<=c:=by omega
     have hc1:c < 256:=by omega
     have hp20:0<=p2:=by omega
     have hp21:p2<=18446744073709551615:=by omega
     have HT2:Hid (be 8 n=be i p2 ++ (UInt8.ofNat c.toNat :: T)/\(UInt8.ofNat c.toNat :: T).length + i=8):=hid ⟨by rw [HT.out.1,be_snoc,<-hp2,<-hc,List.append_assoc]; rfl,by have:=HT.out.2; simp; omega⟩
     have HS:Hid (∀ W,BK (w.heap.size + 1) (Lib.byteCells (bePart x y k ++ (List.replicate (i + 1) 0 ++ (T ++ List.replicate (16 - 8 * (k + 1)) 0)))).toArray 5 W->BK (w.heap.size + 1) (Lib.byteCells (bePart x y k ++ (List.replicate i 0 ++ ((UInt8.ofNat c.toNat :: T) ++ List.replicate (16 - 8 * (k + 1)) 0)))).toArray 5 (W.setCell ⟨w.heap.size + 1,8 * k + i,none⟩ (.int .u8 c))):=hid (fun W h=>by
      have:=h.set (8 * k + i) (.int .u8 c)
      rw [bytes_set _ _ _ hc0 hc1,<-HN.out.2.1,set_rep] at this
      rw [HN.out.2.1] at this
      exact this)
     obtain ⟨v0,hv0⟩:∃ v0,wr.cell? ⟨w.heap.size + 1,8 * k + i,none⟩=some v0:=by
      have hlen:(Lib.byteCells (bePart x y k ++ (List.replicate (i + 1) 0 ++ (T ++ List.replicate (16 - 8 * (k + 1)) 0)))).toArray.size=16:=by
       have h1:=HN.out.2.1
       have h2:=HT.out.2
       simp [Lib.byteCells_length,h1]
       omega
      rw [HKO2.out.cell,Array.getElem?_eq_getElem (by omega)]
      exact ⟨_,rfl⟩
     have hil:i<=7:=by omega
     have hfz:wr.frozen? ⟨w.heap.size + 1,8 * k + i,none⟩=false:=HKO2.out.frozen _
     have hix:(8 * (k:Int) + (i:Int)).toNat=8 * k + i:=by omega
     have hcc:IntKind.u8.wrap c=c:=by simp [IntKind.wrap,IntKind.bits,IntKind.signed]; omega
     have hpq:p % 256=c:=hc.symm
     have hpr:p / 256=p2:=hp2.symm
     clear hc hp2
     go_wp2_with fail
     go_roundw
     case rel=>exact ⟨i,p2,_,by omega,by rw [hpr],hp20,hp21,rfl,HT2,hid (HB2.out.setCell (by simp) _),hid (HKD2.out.other (by omega) _ _),hid (HS.out _ HKO2.out)⟩
     case measure=>simp [intOf] <;> omega
  ·obtain rfl:k=2:=by omega
   have hcv:(convert 34 9 (.slice (some ⟨w.heap.size + 1,0,none⟩) 16 16)).run Tryz.prog wr = .ok (.string ⟨(beD (x,y)).toArray⟩) wr:=by
    have h1:=HKO.out
    rw [show bePart x y 2 ++ List.replicate (16 - 8 * 2) 0=beD (x,y) by simp [bePart,beD]] at h1
    have h2:=own_bytes h1 (by rw [beD_length]; omega)
    have h3:=conv_row h2 (by intro h; have:=beD_length (x,y); rw [h] at this; simp at this)
    rw [beD_length] at h3
    exact h3
   go_wp2_with fail
   go_ret
   exact ⟨rfl,HB.out⟩
theorem rfields_any (o:Ob) (ea:Option Addr) (ec:Nat) (pa:Option Addr) (pc:Nat) (w:World) (h:ObIn w o ea ec pa pc) :
  Calls Tryz.prog 148 #[o.val ea ec pa pc] w fun e w'=>e = .returned (.int .i64 (fieldsS o))/\Below w.heap.size w w':=by
 obtain ⟨R,hR⟩:∃ R,R=fieldsS o:=⟨_,rfl⟩
 rw [<-hR]
 unfold fieldsS at hR
 have HO:=hid (fun W=>ronly_any o ea ec pa pc W)
 have HE:=hid (fun W (hW:Below w.heap.size w W)=>rentries_any ea o.ents ec W (h.below hW).ents (by have:=h.elen; omega) (fun e he=>by have:=h.enam e he; omega))
 have HC:=hid (fun W (hW:Below w.heap.size w W)=>rcommit_any o ea ec pa pc W (h.below hW).pars (by have:=h.plen; omega) (by have:=h.alen; omega) (by have:=h.mlen; omega))
 clear h
 generalize onlyB o=ob at HO hR
 generalize entsE o.ents=ee at HE hR
 generalize commitE o=ce at HC hR
 obtain ⟨kind,data,ents,⟨t1,t2⟩,pars,author,time,msg⟩:=o
 simp only [Ob.val] at HO HE HC hR ⊢
 generalize ents.length=ne at HO HE HC ⊢
 generalize pars.length=n at HO HE HC ⊢
 obtain ⟨w0,hw0⟩:∃ w0,w0=w.alloc (.cells #[.int .i64 kind,.string ⟨data.toArray⟩,.slice ea ne ec,.int .u64 t1,.int .u64 t2,.slice pa n pc,.string ⟨author.toArray⟩,.int .i64 time,.string ⟨msg.toArray⟩] 56):=⟨_,rfl⟩
 have HK0:Hid (BK w.heap.size #[.int .i64 kind,.string ⟨data.toArray⟩,.slice ea ne ec,.int .u64 t1,.int .u64 t2,.slice pa n pc,.string ⟨author.toArray⟩,.int .i64 time,.string ⟨msg.toArray⟩] 56 w0):=hid (by rw [hw0]; exact BK.new _ _ _)
 have HB0:Hid (Below w.heap.size w w0):=hid (by rw [hw0]; exact (Below.refl _ w).alloc (Nat.le_refl _) _)
 have HW0:=hid hw0
 clear hw0
 by_cases hk:kind < 1\/4 < kind
 ·have HR:Hid (R=9):=hid (by rw [hR,if_pos hk])
  clear hR
  go_enter Tryz.func148,Tryz.ntmps148
  go_wp2_with fail
  all_goals first
   | (exfalso; omega)
   | (rw [<-HW0.out]; go_ret; exact ⟨by rw [HR.out]; rfl,HB0.out⟩)
 ·rw [if_neg hk] at hR
  have d1:decide (kind < 1)=false:=by simp; omega
  have d2:decide (4 < kind)=false:=by simp; omega
  cases ob with
  | false=>
   have HR:Hid (R=1):=hid (by rw [hR,if_pos rfl])
   clear hR hk
   go_enter Tryz.func148,Tryz.ntmps148
   go_wp2_with fail
   (with_reducible refine (HO.out _).mono ?_)
   rintro e u ⟨rfl,hb⟩
   rw [<-HW0.out] at hb
   have HB1:=hid (HB0.out.trans (hb.mono HB0.out.size))
   clear hb
   go_wp2_with fail
   go_ret
   exact ⟨by rw [HR.out]; rfl,HB1.out⟩
  | true=>
   rw [if_neg (by simp)] at hR
   by_cases hk2:kind=2
   ·subst hk2
    have HR:Hid (R=ee):=hid (by rw [hR,if_pos rfl])
    clear hR hk
    go_enter Tryz.func148,Tryz.ntmps148
    go_wp2_with fail
    (with_reducible refine (HO.out _).mono ?_)
    rintro e u ⟨rfl,hb⟩
    rw [<-HW0.out] at hb
    have HB1:=hid (HB0.out.trans (hb.mono HB0.out.size))
    have HK1:=hid (HK0.out.below hb)
    have e0:u.cell? ⟨w.heap.size,0,none⟩=some (.int .i64 2):=by rw [HK1.out.cell]; rfl
    have e2:u.cell? ⟨w.heap.size,2,none⟩=some (.slice ea ne ec):=by rw [HK1.out.cell]; rfl
    clear hb
    go_wp2_with fail
    (with_reducible refine (HE.out _ HB1.out).mono ?_)
    rintro e u2 ⟨rfl,hb⟩
    have HB2:=hid (HB1.out.trans (hb.mono HB1.out.size))
    clear hb
    go_wp2_with fail
    go_ret
    exact ⟨by rw [HR.out]; rfl,HB2.out⟩
   ·rw [if_neg hk2] at hR
    have k2:(kind == 2)=false:=by simpa using hk2
    by_cases hk3:kind=3
    ·subst hk3
     have HR:Hid (R=ce):=hid (by rw [hR,if_pos rfl])
     clear hR hk
     go_enter Tryz.func148,Tryz.ntmps148
     go_wp2_with fail
     (with_reducible refine (HO.out _).mono ?_)
     rintro e u ⟨rfl,hb⟩
     rw [<-HW0.out] at hb
     have HB1:=hid (HB0.out.trans (hb.mono HB0.out.size))
     have HK1:=hid (HK0.out.below hb)
     have e0:u.cell? ⟨w.heap.size,0,none⟩=some (.int .i64 3):=by rw [HK1.out.cell]; rfl
     have e1:u.cell? ⟨w.heap.size,1,none⟩=some (.string ⟨data.toArray⟩):=by rw [HK1.out.cell]; rfl
     have e2:u.cell? ⟨w.heap.size,2,none⟩=some (.slice ea ne ec):=by rw [HK1.out.cell]; rfl
     have e3:u.cell? ⟨w.heap.size,3,none⟩=some (.int .u64 t1):=by rw [HK1.out.cell]; rfl
     have e4:u.cell? ⟨w.heap.size,4,none⟩=some (.int .u64 t2):=by rw [HK1.out.cell]; rfl
     have e5:u.cell? ⟨w.heap.size,5,none⟩=some (.slice pa n pc):=by rw [HK1.out.cell]; rfl
     have e6:u.cell? ⟨w.heap.size,6,none⟩=some (.string ⟨author.toArray⟩):=by rw [HK1.out.cell]; rfl
     have e7:u.cell? ⟨w.heap.size,7,none⟩=some (.int .i64 time):=by rw [HK1.out.cell]; rfl
     have e8:u.cell? ⟨w.heap.size,8,none⟩=some (.string ⟨msg.toArray⟩):=by rw [HK1.out.cell]; rfl
     clear hb
     go_wp2_with fail
     (with_reducible refine (HC.out _ HB1.out).mono ?_)
     rintro e u2 ⟨rfl,hb⟩
     have HB2:=hid (HB1.out.trans (hb.mono HB1.out.size))
     clear hb
     go_wp2_with fail
     go_ret
     exact ⟨by rw [HR.out]; rfl,HB2.out⟩
    ·rw [if_neg hk3] at hR
     have k3:(kind == 3)=false:=by simpa using hk3
     by_cases hd:(65536:Int) < data.length
     ·have HR:Hid (R=4):=hid (by rw [hR,if_pos (by omega)])
      have dd:decide ((65536:Int) < (data.length:Int))=true:=by simpa using hd
      clear hR hk hk2 hk3
      go_enter Tryz.func148,Tryz.ntmps148
      go_wp2_with fail
      (with_reducible refine (HO.out _).mono ?_)
      rintro e u ⟨rfl,hb⟩
      rw [<-HW0.out] at hb
      have HB1:=hid (HB0.out.trans (hb.mono HB0.out.size))
      have HK1:=hid (HK0.out.below hb)
      have e0:u.cell? ⟨w.heap.size,0,none⟩=some (.int .i64 kind):=by rw [HK1.out.cell]; rfl
      have e1:u.cell? ⟨w.heap.size,1,none⟩=some (.string ⟨data.toArray⟩):=by rw [HK1.out.cell]; rfl
      clear hb
      go_wp2_with fail
      go_ret
      exact ⟨by rw [HR.out]; rfl,HB1.out⟩
     ·have HR:Hid (R=0):=hid (by rw [hR,if_neg (by omega)])
      have dd:decide ((65536:Int) < (data.length:Int))=false:=by simpa using hd
      clear hR hk hk2 hk3
      go_enter Tryz.func148,Tryz.ntmps148
      go_wp2_with fail
      (with_reducible refine (HO.out _).mono ?_)
      rintro e u ⟨rfl,hb⟩
      rw [<-HW0.out] at hb
      have HB1:=hid (HB0.out.trans (hb.mono HB0.out.size))
      have HK1:=hid (HK0.out.below hb)
      have e0:u.cell? ⟨w.heap.size,0,none⟩=some (.int .i64 kind):=by rw [HK1.out.cell]; rfl
      have e1:u.cell? ⟨w.heap.size,1,none⟩=some (.string ⟨data.toArray⟩):=by rw [HK1.out.cell]; rfl
      clear hb
      go_wp2_with fail
      go_ret
      exact ⟨by rw [HR.out]; rfl,HB1.out⟩
theorem fields_eq (o:Ob):fieldsS o=checkS o\/(checkS o=0/\fieldsS o=4/\(o.kind=1\/o.kind=4)/\65536 < o.data.length):=by
 have e1:∀ l:List UInt8,(0 < l.length)=(l.isEmpty=false):=fun l=>by cases l <;> simp
 unfold fieldsS checkS onlyB
 by_cases h14:o.kind=1\/o.kind=4
 ·rw [if_neg (by omega),if_pos h14]
  have k2:(o.kind == 2)=false:=by rw [beq_eq_false_iff_ne]; omega
  have k3:(o.kind == 3)=false:=by rw [beq_eq_false_iff_ne]; omega
  rw [k2,k3,if_neg (show ¬ o.kind=2 by omega),if_neg (show ¬ o.kind=3 by omega)]
  by_cases he:0 < o.ents.length\/hasC o=true
  ·left
   rw [if_pos he,if_pos]
   rcases he with he | he
   ·simp [he]
   ·simp [he]
  ·rw [if_neg he]
   obtain ⟨he1,he2⟩:=not_or.1 he
   rw [if_neg (by simp [he1,he2])]
   by_cases hd:65536 < o.data.length
   ·right; exact ⟨rfl,by rw [if_pos hd],h14,hd⟩
   ·left; rw [if_neg hd]
 ·by_cases h2:o.kind=2
  ·left
   rw [if_neg (by omega),if_neg h14,if_pos h2,if_pos h2,h2]
   by_cases he:0 < o.data.length\/hasC o=true
   ·rw [if_pos he,if_pos]
    rw [e1] at he
    rcases he with he | he
    ·simp [he]
    ·simp [he]
   ·rw [if_neg he]
    rw [e1] at he
    obtain ⟨he1,he2⟩:=not_or.1 he
    rw [if_neg (by simp [he1,he2])]
  ·by_cases h3:o.kind=3
   ·left
    rw [if_neg (by omega),if_neg h14,if_neg h2,if_neg h2,if_pos h3,if_pos h3,h3]
    by_cases he:0 < o.data.length\/0 < o.ents.length
    ·rw [if_pos he,if_pos]
     rw [e1] at he
     rcases he with he | he
     ·simp [he]
     ·simp [he]
    ·rw [if_neg he]
     rw [e1] at he
     obtain ⟨he1,he2⟩:=not_or.1 he
     rw [if_neg (by simp [he1,he2])]
   ·left
    rw [if_pos (by omega),if_neg h14,if_neg h2,if_neg h3]
theorem fields_ok {o:Ob} (h:fieldsS o=0):checkS o=0/\((o.kind=1\/o.kind=4)->o.data.length<=65536):=by
 rcases fields_eq o with h1 | ⟨_,h1,_⟩
 ·refine ⟨by rw [<-h1]; exact h,fun hk=>?_⟩
  unfold fieldsS at h
  rw [if_neg (by omega)] at h
  obtain ⟨h2,h⟩:=ne_if h (by decide)
  rw [if_neg (by omega),if_neg (by omega)] at h
  obtain ⟨h2,h⟩:=ne_if h (by decide)
  omega
 ·rw [h] at h1; cases h1
theorem rcheck_eq (o:Ob):(if fieldsS o ≠ 0 then fieldsS o else if 65536 < (bodyO o).length then 4 else 0)=(encodeS o).2:=by
 unfold encodeS
 rcases fields_eq o with h1 | ⟨h0,h1,hk,hd⟩
 ·rw [h1]
  by_cases hc:checkS o=0
  ·simp only [hc,ne_eq,not_true_eq_false,if_false]
   split <;> rfl
  ·simp only [ne_eq,hc,not_false_eq_true,if_true]
 ·rw [if_pos (by rw [h1]; decide),if_neg (by simpa using h0),if_pos,h1]
  unfold bodyO
  rw [if_neg (by omega),if_neg (by omega)]
  simp only [putX,List.length_append]
  omega
theorem sadd {A B C:List UInt8} (h:C=A ++ B) (hA:(A.length:Int)<=8388608) (hB:(B.length:Int)<=8388608) (W:World):(Op.stringOp .add ⟨A.toArray⟩ ⟨B.toArray⟩).run Tryz.prog W = .ok (.string ⟨C.toArray⟩) W:=by
 rw [h]; exact run_string_add_lists W A B hA hB
theorem putX_length (s:List UInt8):(putX s).length<=10 + s.length:=by
 have:=enc_length s.length
 rw [putX,List.length_append]; omega
theorem rencode_any (o:Ob) (ea:Option Addr) (ec:Nat) (pa:Option Addr) (pc:Nat) (w:World) (h:ObIn w o ea ec pa pc) (hok:OkO o) (hf:fieldsS o=0) :
  Calls Tryz.prog 133 #[o.val ea ec pa pc] w fun e w'=>e = .returned (.string ⟨(bodyO o).toArray⟩)/\Below w.heap.size w w':=by
 obtain ⟨hc,hdl⟩:=fields_ok hf
 have hk:=checkS_kind hc
 have h2:=fun hk=>check2 hc hk
 have h3:=fun hk=>commitE_zero (check3 hc hk)
 have HEN:=hid h.ents
 have HPA:=hid h.pars
 obtain ⟨R,hR⟩:∃ R,R=bodyO o:=⟨_,rfl⟩
 rw [<-hR]
 unfold bodyO at hR
 clear hf hc h
 obtain ⟨kind,data,ents,⟨t1,t2⟩,pars,author,time,msg⟩:=o
 obtain ⟨ho1,ho2,ho3⟩:=hok
 simp only [Ob.val,OkD,u64B] at hdl hk h2 h3 HEN HPA hR ho1 ho2 ho3 ⊢
 have HO2:=hid ho2
 have HO3:=hid ho3
 clear ho2 ho3
 obtain ⟨ne,hne⟩:∃ ne,ne=ents.length:=⟨_,rfl⟩
 obtain ⟨n,hn⟩:∃ n,n=pars.length:=⟨_,rfl⟩
 rw [<-hne] at h2 hR ⊢
 rw [<-hn] at h3 hR ⊢
 have HNE:=hid hne
 have HNP:=hid hn
 have HR:=hid hR
 clear hne hn hR
 obtain ⟨w0,hw0⟩:∃ w0,w0=w.alloc (.cells #[.int .i64 kind,.string ⟨data.toArray⟩,.slice ea ne ec,.int .u64 t1,.int .u64 t2,.slice pa n pc,.string ⟨author.toArray⟩,.int .i64 time,.string ⟨msg.toArray⟩] 56):=⟨_,rfl⟩
 have HK0:Hid (BK w.heap.size #[.int .i64 kind,.string ⟨data.toArray⟩,.slice ea ne ec,.int .u64 t1,.int .u64 t2,.slice pa n pc,.string ⟨author.toArray⟩,.int .i64 time,.string ⟨msg.toArray⟩] 56 w0):=hid (by rw [hw0]; exact BK.new _ _ _)
 have HB0:Hid (Below w.heap.size w w0):=hid (by rw [hw0]; exact (Below.refl _ w).alloc (Nat.le_refl _) _)
 have HW0:=hid hw0
 clear hw0
 have HN0:=hid (fun W=>rnum_any kind (by omega) (by omega) W)
 obtain ⟨P0,hP0⟩:∃ P,P=Cw.enc kind.toNat:=⟨_,rfl⟩
 have l0:P0.length<=10:=by rw [hP0]; exact enc_length _
 rw [<-hP0] at HN0 HR
 clear hP0
 by_cases hk2:kind=2
 ·obtain ⟨hne2,hnm⟩:=h2 hk2
  have HNM:=hid hnm
  have k2:(kind == 2)=true:=by simpa using hk2
  have HR2:Hid (R=P0 ++ (Cw.enc ne ++ ents.flatMap entX)):=hid (by rw [HR.out,if_pos hk2])
  clear h2 h3 hdl hnm hk2
  have HN1:=hid (fun W=>rnum_any (ne:Int) (by omega) (by omega) W)
  rw [Int.toNat_natCast] at HN1
  have l1:=enc_length ne
  generalize Cw.enc ne=E1 at HN1 HR2 l1
  obtain ⟨P1,hP1⟩:∃ P,P=P0 ++ E1:=⟨_,rfl⟩
  have p1:P1.length<=20:=by rw [hP1,List.length_append]; omega
  have s1:=sadd hP1 (by omega) (by omega)
  have HR3:Hid (R=P1 ++ ents.flatMap entX):=hid (by rw [HR2.out,hP1,List.append_assoc])
  clear hP1 HR2 HR
  go_enter Tryz.func133,Tryz.ntmps133
  go_wp2_with fail
  (with_reducible refine (HN0.out _).mono ?_)
  rintro e u ⟨rfl,hb⟩
  rw [<-HW0.out] at hb
  have HB1:=hid (HB0.out.trans (hb.mono HB0.out.size))
  have HK1:=hid (HK0.out.below hb)
  obtain ⟨e0,e1,e2,e3,e4,e5,e6,e7,e8⟩:=BK.c9 (show BK _ #[.int .i64 kind,.string ⟨data.toArray⟩,.slice ea ne ec,.int .u64 t1,.int .u64 t2,.slice pa n pc,.string ⟨author.toArray⟩,.int .i64 time,.string ⟨msg.toArray⟩] _ _ from HK1.out)
  clear hb
  go_wp2_with fail
  (with_reducible refine (HN1.out _).mono ?_)
  rintro e u1 ⟨rfl,hb⟩
  have HB2:=hid (HB1.out.trans (hb.mono HB1.out.size))
  have HK2:=hid (HK1.out.below hb)
  clear hb e0 e1 e2 e3 e4 e5 e6 e7 e8 HB0 HK0 HW0 HB1 HK1
  go_wp2_with fail
  go_loopw [3,4] (fun s i wr=>∃ (k:Nat) (l:List UInt8),k<=ne/\i = .int .i64 k/\s = .string ⟨l.toArray⟩/\l.length<=20 + 60 * k/\Hid (l=P1 ++ (ents.take k).flatMap entX)/\Hid (Below w.heap.size w wr)/\Hid (BK w.heap.size #[.int .i64 kind,.string ⟨data.toArray⟩,.slice ea ne ec,.int .u64 t1,.int .u64 t2,.slice pa n pc,.string ⟨author.toArray⟩,.int .i64 time,.string ⟨msg.toArray⟩] 56 wr)) (fun _ i _=>ne - (intOf i).toNat)
  case atStart=>exact ⟨0,P1,by omega,rfl,rfl,by omega,hid (by simp),HB2,HK2⟩
  case round=>
   clear HB2 HK2 s1 HN1 HN0
   obtain ⟨k,l,hk,rfl,rfl,hl,HL,HB,HX⟩:=hrel
   have e2:wr.cell? ⟨w.heap.size,2,none⟩=some (.slice ea ne ec):=by rw [HX.out.cell]; rfl
   by_cases hlt:k < ne
   ·have h1:k < ents.length:=by rw [<-HNE.out]; exact hlt
    obtain ⟨b0,o0,rfl,hb0,c0,c1,c2,c3⟩:=(HEN.out.below HB.out (Nat.le_refl _)) k h1
    have HTK:=hid (entX_take ents k h1)
    have hnl:=nameB_length (HNM.out _ (List.getElem_mem h1))
    have hdo:=HO3.out _ (List.getElem_mem h1)
    generalize ents[k]=en at c0 c1 c2 c3 HTK hnl hdo
    obtain ⟨nm,dir,d1,d2⟩:=en
    simp only at c0 c1 c2 c3 HTK hnl hdo
    have hxl:=entX_length ⟨nm,dir,(d1,d2)⟩ (by simp only; omega)
    have hkn:(k:Int) < (ne:Int):=by omega
    have HT:=hid (fun W=>rtext_any nm (by omega) W)
    have HBy:=hid (fun W=>rbytes_any d1 d2 (by omega) (by omega) W)
    have hpl:=putX_length nm
    have hbl:=beD_length (d1,d2)
    have HND:=hid (fun W=>rnum_any ((dirN dir:Nat):Int) (by omega) (by cases dir <;> simp [dirN]) W)
    rw [Int.toNat_natCast] at HND
    have hdl:=enc_length (dirN dir)
    have hex:entX ⟨nm,dir,(d1,d2)⟩=putX nm ++ (Cw.enc (dirN dir) ++ beD (d1,d2)):=rfl
    rw [hex] at HTK hxl
    clear hex
    generalize putX nm=X1 at HT HTK hpl hxl
    generalize beD (d1,d2)=X3 at HBy HTK hbl hxl
    generalize Cw.enc (dirN dir)=X2 at HND HTK hdl hxl
    obtain ⟨Q1,hQ1⟩:∃ Q,Q=l ++ X1:=⟨_,rfl⟩
    obtain ⟨Q2,hQ2⟩:∃ Q,Q=Q1 ++ X2:=⟨_,rfl⟩
    obtain ⟨Q3,hQ3⟩:∃ Q,Q=Q2 ++ X3:=⟨_,rfl⟩
    have q1:Q1.length<=54 + 60 * k:=by rw [hQ1,List.length_append]; omega
    have q2:Q2.length<=64 + 60 * k:=by rw [hQ2,List.length_append]; omega
    have q3:Q3.length<=20 + 60 * (k + 1):=by
     rw [hQ3,hQ2,hQ1]
     simp only [List.length_append] at hxl ⊢
     omega
    have s1:=sadd hQ1 (by omega) (by omega)
    have s2:=sadd hQ2 (by omega) (by omega)
    have s3:=sadd hQ3 (by omega) (by omega)
    have HL2:Hid (Q3=P1 ++ (ents.take (k + 1)).flatMap entX):=hid (by rw [hQ3,hQ2,hQ1,HL.out,HTK.out]; simp)
    clear hQ1 hQ2 hQ3 HTK hpl hbl hdl hxl HL
    have fe2:=cell_regrown e2
    have f0:=cell_regrown c0
    have f1:=cell_regrown c1
    have f2:=cell_regrown c2
    have f3:=cell_regrown c3
    have HA0:=hid (fun d os=>Calls.regrown_of (w:=wr) (d:=d) (os:=os) (HT.out _))
    have HA2:=hid (fun d os=>Calls.regrown_of (w:=wr) (d:=d) (os:=os) (HBy.out _))
    cases dir with
    | true=>
     rw [show ((dirN true:Nat):Int)=1 from rfl] at HND
     have HA1:=hid (fun d os=>Calls.regrown_of (w:=wr) (d:=d) (os:=os) (HND.out _))
     go_wp2_with fail
     refine wp_region_quiet_below (by kernel_rfl) (by kernel_rfl) ?_
     repeat (any_goals (first | go_big_quiet_step (first | (with_reducible exact HA0.out _ _) | (with_reducible exact HA1.out _ _) | (with_reducible exact HA2.out _ _)) | quiet_step (first | (with_reducible exact HA0.out _ _) | (with_reducible exact HA1.out _ _) | (with_reducible exact HA2.out _ _))))
     refine wpQuiet_nil ?_
     intro w2 hw2
     have HB3:=hid (HB.out.trans ((below_rg hw2).mono HB.out.size))
     have HX3:=hid (HX.out.below (below_rg hw2))
     clear hw2 HA0 HA1 HA2 fe2 f0 f1 f2 f3
     go_wp2_with fail
     go_roundw
     case rel=>exact ⟨k + 1,Q3,by omega,by go_num,rfl,q3,HL2,HB3,HX3⟩
     case measure=>simp [intOf] <;> omega
    | false=>
     rw [show ((dirN false:Nat):Int)=0 from rfl] at HND
     have HA1:=hid (fun d os=>Calls.regrown_of (w:=wr) (d:=d) (os:=os) (HND.out _))
     go_wp2_with fail
     refine wp_region_quiet_below (by kernel_rfl) (by kernel_rfl) ?_
     repeat (any_goals (first | go_big_quiet_step (first | (with_reducible exact HA0.out _ _) | (with_reducible exact HA1.out _ _) | (with_reducible exact HA2.out _ _)) | quiet_step (first | (with_reducible exact HA0.out _ _) | (with_reducible exact HA1.out _ _) | (with_reducible exact HA2.out _ _))))
     refine wpQuiet_nil ?_
     intro w2 hw2
     have HB3:=hid (HB.out.trans ((below_rg hw2).mono HB.out.size))
     have HX3:=hid (HX.out.below (below_rg hw2))
     clear hw2 HA0 HA1 HA2 fe2 f0 f1 f2 f3
     go_wp2_with fail
     go_roundw
     case rel=>exact ⟨k + 1,Q3,by omega,by go_num,rfl,q3,HL2,HB3,HX3⟩
     case measure=>simp [intOf] <;> omega
   ·have HF:Hid (l=R):=hid (by rw [HL.out,HR3.out,List.take_of_length_le (by rw [<-HNE.out]; omega)])
    go_wp2_with fail
    go_ret
    exact ⟨by rw [HF.out]; rfl,HB.out⟩
 ·have k2:(kind == 2)=false:=by simpa using hk2
  by_cases hk3:kind=3
  ·obtain ⟨hn8,hau,hti0,hti1,hmsl⟩:=h3 hk3
   have hal:=nameB_length hau
   have k3:(kind == 3)=true:=by simpa using hk3
   have HR2:Hid (R=P0 ++ (beD (t1,t2) ++ (Cw.enc n ++ (pars.flatMap beD ++ (putX author ++ (Cw.enc time.toNat ++ putX msg)))))):=hid (by rw [HR.out,if_neg hk2,if_pos hk3])
   clear h2 h3 hdl hk2 hk3 HR hau
   have HN1:=hid (fun W=>rnum_any (n:Int) (by omega) (by omega) W)
   rw [Int.toNat_natCast] at HN1
   have l1:=enc_length n
   have HBy:=hid (fun W=>rbytes_any t1 t2 (by omega) (by omega) W)
   have lb:=beD_length (t1,t2)
   generalize Cw.enc n=E1 at HN1 HR2 l1
   generalize beD (t1,t2)=E2 at HBy HR2 lb
   obtain ⟨P1,hP1⟩:∃ P,P=P0 ++ E2:=⟨_,rfl⟩
   obtain ⟨P2,hP2⟩:∃ P,P=P1 ++ E1:=⟨_,rfl⟩
   have p1:P1.length<=26:=by rw [hP1,List.length_append]; omega
   have p2:P2.length<=36:=by rw [hP2,List.length_append]; omega
   have s1:=sadd hP1 (by omega) (by omega)
   have s2:=sadd hP2 (by omega) (by omega)
   have HR3:Hid (R=P2 ++ (pars.flatMap beD ++ (putX author ++ (Cw.enc time.toNat ++ putX msg)))):=hid (by rw [HR2.out,hP2,hP1]; simp)
   clear hP1 hP2 HR2
   go_enter Tryz.func133,Tryz.ntmps133
   go_wp2_with fail
   (with_reducible refine (HN0.out _).mono ?_)
   rintro e u ⟨rfl,hb⟩
   rw [<-HW0.out] at hb
   have HB1:=hid (HB0.out.trans (hb.mono HB0.out.size))
   have HK1:=hid (HK0.out.below hb)
   obtain ⟨e0,e1,e2,e3,e4,e5,e6,e7,e8⟩:=BK.c9 (show BK _ #[.int .i64 kind,.string ⟨data.toArray⟩,.slice ea ne ec,.int .u64 t1,.int .u64 t2,.slice pa n pc,.string ⟨author.toArray⟩,.int .i64 time,.string ⟨msg.toArray⟩] _ _ from HK1.out)
   clear hb
   have f3:=cell_regrown e3
   have f4:=cell_regrown e4
   have f5:=cell_regrown e5
   have HA0:=hid (fun d os=>Calls.regrown_of (w:=u) (d:=d) (os:=os) (HBy.out _))
   have HA1:=hid (fun d os=>Calls.regrown_of (w:=u) (d:=d) (os:=os) (HN1.out _))
   go_wp2_with fail
   refine wp_region_quiet_below (by kernel_rfl) (by kernel_rfl) ?_
   repeat (any_goals (first | go_big_quiet_step (first | (with_reducible exact HA0.out _ _) | (with_reducible exact HA1.out _ _)) | quiet_step (first | (with_reducible exact HA0.out _ _) | (with_reducible exact HA1.out _ _))))
   refine wpQuiet_nil ?_
   intro w2 hw2
   have HB2:=hid (HB1.out.trans ((below_rg hw2).mono HB1.out.size))
   have HK2:=hid (HK1.out.below (below_rg hw2))
   clear hw2 HA0 HA1 f3 f4 f5 e0 e1 e2 e3 e4 e5 e6 e7 e8 HB0 HK0 HW0 HB1 HK1 s1 s2
   go_wp2_with fail
   go_loopw [3,6] (fun s i wr=>∃ (k:Nat) (l:List UInt8),k<=n/\i = .int .i64 k/\s = .string ⟨l.toArray⟩/\l.length<=36 + 16 * k/\Hid (l=P2 ++ (pars.take k).flatMap beD)/\Hid (Below w.heap.size w wr)/\Hid (BK w.heap.size #[.int .i64 kind,.string ⟨data.toArray⟩,.slice ea ne ec,.int .u64 t1,.int .u64 t2,.slice pa n pc,.string ⟨author.toArray⟩,.int .i64 time,.string ⟨msg.toArray⟩] 56 wr)) (fun _ i _=>n - (intOf i).toNat)
   case atStart=>exact ⟨0,P2,by omega,rfl,rfl,by omega,hid (by simp),HB2,HK2⟩
   case round=>
    clear HB2 HK2 HN1 HN0 HBy
    obtain ⟨k,l,hk,rfl,rfl,hl,HL,HB,HX⟩:=hrel
    have e5:wr.cell? ⟨w.heap.size,5,none⟩=some (.slice pa n pc):=by rw [HX.out.cell]; rfl
    by_cases hlt:k < n
    ·have h1:k < pars.length:=by rw [<-HNP.out]; exact hlt
     obtain ⟨b0,o0,rfl,hb0,c0,c1⟩:=(HPA.out.below HB.out (Nat.le_refl _)) k h1
     have HTK:=hid (beD_take pars k h1)
     have hdo:=HO2.out _ (List.getElem_mem h1)
     generalize pars[k]=dk at c0 c1 HTK hdo
     obtain ⟨x,y⟩:=dk
     simp only at c0 c1 hdo
     have hkn:(k:Int) < (n:Int):=by omega
     have HBy:=hid (fun W=>rbytes_any x y (by omega) (by omega) W)
     have hbl:=beD_length (x,y)
     generalize beD (x,y)=X3 at HBy HTK hbl
     obtain ⟨Q1,hQ1⟩:∃ Q,Q=l ++ X3:=⟨_,rfl⟩
     have q1:Q1.length<=36 + 16 * (k + 1):=by rw [hQ1,List.length_append]; omega
     have s1:=sadd hQ1 (by omega) (by omega)
     have HL2:Hid (Q1=P2 ++ (pars.take (k + 1)).flatMap beD):=hid (by rw [hQ1,HL.out,HTK.out]; simp)
     clear hQ1 HTK hbl HL
     go_wp2_with fail
     (with_reducible refine (HBy.out _).mono ?_)
     rintro e u2 ⟨rfl,hb⟩
     have HB3:=hid (HB.out.trans (hb.mono HB.out.size))
     have HX3:=hid (HX.out.below hb)
     clear hb
     go_wp2_with fail
     go_roundw
     case rel=>exact ⟨k + 1,Q1,by omega,by go_num,rfl,q1,HL2,HB3,HX3⟩
     case measure=>simp [intOf] <;> omega
    ·have HL2:Hid (R=l ++ (putX author ++ (Cw.enc time.toNat ++ putX msg))):=hid (by rw [HR3.out,HL.out,List.take_of_length_le (by rw [<-HNP.out]; omega),List.append_assoc])
     have e6:wr.cell? ⟨w.heap.size,6,none⟩=some (.string ⟨author.toArray⟩):=by rw [HX.out.cell]; rfl
     have e7:wr.cell? ⟨w.heap.size,7,none⟩=some (.int .i64 time):=by rw [HX.out.cell]; rfl
     have e8:wr.cell? ⟨w.heap.size,8,none⟩=some (.string ⟨msg.toArray⟩):=by rw [HX.out.cell]; rfl
     have HT1:=hid (fun W=>rtext_any author (by omega) W)
     have HT2:=hid (fun W=>rtext_any msg (by omega) W)
     have HT3:=hid (fun W=>rnum_any time (by omega) (by omega) W)
     have x1:=putX_length author
     have x2:=putX_length msg
     have x3:=enc_length time.toNat
     generalize putX author=X1 at HT1 HL2 x1
     generalize putX msg=X2 at HT2 HL2 x2
     generalize Cw.enc time.toNat=X3 at HT3 HL2 x3
     obtain ⟨Q1,hQ1⟩:∃ Q,Q=l ++ X1:=⟨_,rfl⟩
     obtain ⟨Q2,hQ2⟩:∃ Q,Q=Q1 ++ X3:=⟨_,rfl⟩
     have hQ3:R=Q2 ++ X2:=by rw [HL2.out,hQ2,hQ1]; simp
     have q1:Q1.length<=1000:=by rw [hQ1,List.length_append]; omega
     have q2:Q2.length<=2000:=by rw [hQ2,List.length_append]; omega
     have s1:=sadd hQ1 (by omega) (by omega)
     have s2:=sadd hQ2 (by omega) (by omega)
     have s3:=sadd hQ3 (by omega) (by omega)
     clear hQ1 hQ2 hQ3 HL2 x1 x2 x3 HL HR3
     have f6:=cell_regrown e6
     have f7:=cell_regrown e7
     have f8:=cell_regrown e8
     have HA0:=hid (fun d os=>Calls.regrown_of (w:=wr) (d:=d) (os:=os) (HT1.out _))
     have HA1:=hid (fun d os=>Calls.regrown_of (w:=wr) (d:=d) (os:=os) (HT2.out _))
     have HA2:=hid (fun d os=>Calls.regrown_of (w:=wr) (d:=d) (os:=os) (HT3.out _))
     go_wp2_with fail
     refine wp_region_quiet_below (by kernel_rfl) (by kernel_rfl) ?_
     repeat (any_goals (first | go_big_quiet_step (first | (with_reducible exact HA0.out _ _) | (with_reducible exact HA1.out _ _) | (with_reducible exact HA2.out _ _)) | quiet_step (first | (with_reducible exact HA0.out _ _) | (with_reducible exact HA1.out _ _) | (with_reducible exact HA2.out _ _))))
     refine wpQuiet_nil ?_
     intro w2 hw2
     have HB3:=hid (HB.out.trans ((below_rg hw2).mono HB.out.size))
     clear hw2 HA0 HA1 HA2 f6 f7 f8
     go_wp2_with fail
     go_ret
     exact ⟨rfl,HB3.out⟩
  ·have k3:(kind == 3)=false:=by simpa using hk3
   have HR2:Hid (R=P0 ++ putX data):=hid (by rw [HR.out,if_neg hk2,if_neg hk3])
   have hdl2:=hdl (by omega)
   have hpl:=putX_length data
   have HT:=hid (fun W=>rtext_any data (by omega) W)
   generalize putX data=X at HT HR2 hpl
   have s1:=sadd HR2.out (by omega) (by omega)
   clear h2 h3 hdl hk2 hk3 HR HR2
   go_enter Tryz.func133,Tryz.ntmps133
   go_wp2_with fail
   (with_reducible refine (HN0.out _).mono ?_)
   rintro e u ⟨rfl,hb⟩
   rw [<-HW0.out] at hb
   have HB1:=hid (HB0.out.trans (hb.mono HB0.out.size))
   have HK1:=hid (HK0.out.below hb)
   obtain ⟨e0,e1,e2,e3,e4,e5,e6,e7,e8⟩:=BK.c9 (show BK _ #[.int .i64 kind,.string ⟨data.toArray⟩,.slice ea ne ec,.int .u64 t1,.int .u64 t2,.slice pa n pc,.string ⟨author.toArray⟩,.int .i64 time,.string ⟨msg.toArray⟩] _ _ from HK1.out)
   clear hb
   go_wp2_with fail
   (with_reducible refine (HT.out _).mono ?_)
   rintro e u1 ⟨rfl,hb⟩
   have HB2:=hid (HB1.out.trans (hb.mono HB1.out.size))
   clear hb
   go_wp2_with fail
   go_ret
   exact ⟨rfl,HB2.out⟩
theorem rcheck_any (o:Ob) (ea:Option Addr) (ec:Nat) (pa:Option Addr) (pc:Nat) (w:World) (h:ObIn w o ea ec pa pc) (hok:OkO o) :
  Calls Tryz.prog 132 #[o.val ea ec pa pc] w fun e w'=>e = .returned (.int .i64 (encodeS o).2)/\Below w.heap.size w w':=by
 rw [<-rcheck_eq]
 have HF:=hid (fun W (hW:Below w.heap.size w W)=>rfields_any o ea ec pa pc W (h.below hW))
 have HE:=hid (fun W (hW:Below w.heap.size w W) (hf:fieldsS o=0)=>rencode_any o ea ec pa pc W (h.below hW) hok hf)
 clear h hok
 generalize fieldsS o=fe at HF HE ⊢
 generalize bodyO o=bs at HE ⊢
 obtain ⟨R,hR⟩:∃ R,R=(if fe ≠ 0 then fe else if 65536 < bs.length then 4 else 0:Int):=⟨_,rfl⟩
 rw [<-hR]
 obtain ⟨kind,data,ents,⟨t1,t2⟩,pars,author,time,msg⟩:=o
 simp only [Ob.val] at HF HE ⊢
 generalize ents.length=ne at HF HE ⊢
 generalize pars.length=n at HF HE ⊢
 obtain ⟨w0,hw0⟩:∃ w0,w0=w.alloc (.cells #[.int .i64 kind,.string ⟨data.toArray⟩,.slice ea ne ec,.int .u64 t1,.int .u64 t2,.slice pa n pc,.string ⟨author.toArray⟩,.int .i64 time,.string ⟨msg.toArray⟩] 56):=⟨_,rfl⟩
 have HK0:Hid (BK w.heap.size #[.int .i64 kind,.string ⟨data.toArray⟩,.slice ea ne ec,.int .u64 t1,.int .u64 t2,.slice pa n pc,.string ⟨author.toArray⟩,.int .i64 time,.string ⟨msg.toArray⟩] 56 w0):=hid (by rw [hw0]; exact BK.new _ _ _)
 have HB0:Hid (Below w.heap.size w w0):=hid (by rw [hw0]; exact (Below.refl _ w).alloc (Nat.le_refl _) _)
 have HF0:=hid (HF.out w0 HB0.out)
 rw [hw0] at HF0
 have HW0:=hid hw0
 clear hw0 HF
 by_cases hf:fe=0
 ·subst hf
  have HE2:=hid (fun W hW=>HE.out W hW rfl)
  clear HE
  rw [if_neg (by simp)] at hR
  have HR:=hid hR
  clear hR
  go_enter Tryz.func132,Tryz.ntmps132
  go_wp2_with fail
  (with_reducible refine (HF0.out).mono ?_)
  rintro e u ⟨rfl,hb⟩
  rw [<-HW0.out] at hb
  have HB1:=hid (HB0.out.trans (hb.mono HB0.out.size))
  have HK1:=hid (HK0.out.below hb)
  obtain ⟨e0,e1,e2,e3,e4,e5,e6,e7,e8⟩:=BK.c9 (show BK _ #[.int .i64 kind,.string ⟨data.toArray⟩,.slice ea ne ec,.int .u64 t1,.int .u64 t2,.slice pa n pc,.string ⟨author.toArray⟩,.int .i64 time,.string ⟨msg.toArray⟩] _ _ from HK1.out)
  clear hb HF0
  have HE3:=hid (HE2.out _ HB1.out)
  clear HE2
  go_wp2_with fail
  (with_reducible refine (HE3.out).mono ?_)
  rintro e u2 ⟨rfl,hb⟩
  have HB2:=hid (HB1.out.trans (hb.mono HB1.out.size))
  clear hb
  by_cases hl:(65536:Int) < bs.length
  ·have HRR:Hid (R=4):=hid (by rw [HR.out,if_pos (by omega)])
   have d1:decide ((65536:Int) < (bs.length:Int))=true:=by simpa using hl
   go_wp2_with fail
   go_ret
   exact ⟨by rw [HRR.out]; rfl,HB2.out⟩
  ·have HRR:Hid (R=0):=hid (by rw [HR.out,if_neg (by omega)])
   have d1:decide ((65536:Int) < (bs.length:Int))=false:=by simpa using hl
   go_wp2_with fail
   go_ret
   exact ⟨by rw [HRR.out]; rfl,HB2.out⟩
 ·have HRR:Hid (R=fe):=hid (by rw [hR,if_pos hf])
  have hne:(fe != 0)=true:=by simpa using hf
  clear hf HE hR
  go_enter Tryz.func132,Tryz.ntmps132
  go_wp2_with fail
  (with_reducible refine (HF0.out).mono ?_)
  rintro e u ⟨rfl,hb⟩
  rw [<-HW0.out] at hb
  have HB1:=hid (HB0.out.trans (hb.mono HB0.out.size))
  clear hb
  go_wp2_with fail
  go_ret
  exact ⟨by rw [HRR.out]; rfl,HB1.out⟩
theorem renc_any (o:Ob) (ea:Option Addr) (ec:Nat) (pa:Option Addr) (pc:Nat) (w:World) (h:ObIn w o ea ec pa pc) (hok:OkO o) :
  Calls Tryz.prog 105 #[o.val ea ec pa pc] w fun e w'=>e = .returned (.tuple #[.string ⟨(encodeS o).1.toArray⟩,.int .i64 (encodeS o).2])/\Below w.heap.size w w':=by
 have HC:=hid (fun W (hW:Below w.heap.size w W)=>rcheck_any o ea ec pa pc W (h.below hW) hok)
 have hf0:(encodeS o).2=0->fieldsS o=0:=fun h0=>by
  rw [<-rcheck_eq] at h0
  split at h0
  ·rename_i h1; exact absurd h0 h1
  ·rename_i h1; simpa using h1
 have HE:Hid (∀ W (hW:Below w.heap.size w W) (hf:(encodeS o).2=0),Calls Tryz.prog 133 #[o.val ea ec pa pc] W fun e w'=>e = .returned (.string ⟨(encodeS o).1.toArray⟩)/\Below W.heap.size W w'):=hid (fun W hW hf=>by
  rw [encodeS_err hf]
  exact rencode_any o ea ec pa pc W (h.below hW) hok (hf0 hf))
 have HNE:Hid ((encodeS o).2 ≠ 0->(encodeS o).1=[]):=hid (fun h=>by
  unfold encodeS at h ⊢
  split
  ·rfl
  ·rename_i h1
   rw [if_neg h1] at h
   split
   ·rfl
   ·rename_i h2; rw [if_neg h2] at h; exact absurd rfl h)
 clear h hok hf0
 generalize encodeS o=r at HC HE HNE ⊢
 obtain ⟨bs,er⟩:=r
 simp only at HC HE HNE ⊢
 obtain ⟨kind,data,ents,⟨t1,t2⟩,pars,author,time,msg⟩:=o
 simp only [Ob.val] at HC HE ⊢
 generalize ents.length=ne at HC HE ⊢
 generalize pars.length=n at HC HE ⊢
 obtain ⟨w0,hw0⟩:∃ w0,w0=w.alloc (.cells #[.int .i64 kind,.string ⟨data.toArray⟩,.slice ea ne ec,.int .u64 t1,.int .u64 t2,.slice pa n pc,.string ⟨author.toArray⟩,.int .i64 time,.string ⟨msg.toArray⟩] 56):=⟨_,rfl⟩
 have HK0:Hid (BK w.heap.size #[.int .i64 kind,.string ⟨data.toArray⟩,.slice ea ne ec,.int .u64 t1,.int .u64 t2,.slice pa n pc,.string ⟨author.toArray⟩,.int .i64 time,.string ⟨msg.toArray⟩] 56 w0):=hid (by rw [hw0]; exact BK.new _ _ _)
 have HB0:Hid (Below w.heap.size w w0):=hid (by rw [hw0]; exact (Below.refl _ w).alloc (Nat.le_refl _) _)
 have HF0:=hid (HC.out w0 HB0.out)
 rw [hw0] at HF0
 have HW0:=hid hw0
 clear hw0 HC
 by_cases hf:er=0
 ·subst hf
  have HE2:=hid (fun W hW=>HE.out W hW rfl)
  clear HE
  go_enter Tryz.func105,Tryz.ntmps105
  go_wp2_with fail
  (with_reducible refine (HF0.out).mono ?_)
  rintro e u ⟨rfl,hb⟩
  rw [<-HW0.out] at hb
  have HB1:=hid (HB0.out.trans (hb.mono HB0.out.size))
  have HK1:=hid (HK0.out.below hb)
  obtain ⟨e0,e1,e2,e3,e4,e5,e6,e7,e8⟩:=BK.c9 (show BK _ #[.int .i64 kind,.string ⟨data.toArray⟩,.slice ea ne ec,.int .u64 t1,.int .u64 t2,.slice pa n pc,.string ⟨author.toArray⟩,.int .i64 time,.string ⟨msg.toArray⟩] _ _ from HK1.out)
  clear hb HF0
  have HE3:=hid (HE2.out _ HB1.out)
  clear HE2
  go_wp2_with fail
  (with_reducible refine (HE3.out).mono ?_)
  rintro e u2 ⟨rfl,hb⟩
  have HB2:=hid (HB1.out.trans (hb.mono HB1.out.size))
  clear hb
  go_wp2_with fail
  go_ret2
  exact ⟨rfl,HB2.out⟩
 ·have HN:=hid (HNE.out hf)
  have hne:(er != 0)=true:=by simpa using hf
  clear hf HE HNE
  go_enter Tryz.func105,Tryz.ntmps105
  go_wp2_with fail
  (with_reducible refine (HF0.out).mono ?_)
  rintro e u ⟨rfl,hb⟩
  rw [<-HW0.out] at hb
  have HB1:=hid (HB0.out.trans (hb.mono HB0.out.size))
  clear hb
  go_wp2_with fail
  go_ret2
  exact ⟨by rw [HN.out]; rfl,HB1.out⟩
abbrev QD (b:Nat) (r:RS) (W:World):Prop:=BK b #[.string ⟨r.1.toArray⟩,.bool r.2] 171 W
theorem qnumber_any (b:Nat) (r:RS) (w:World) (h:QD b r w) (hl:(r.1.length:Int)<=140737488355328) :
  Calls Tryz.prog 102 #[.pointer (some ⟨b,0,none⟩)] w fun e w'=>e = .returned (.int .i64 (qNum r).1)/\Hid (QD b (qNum r).2 w')/\Hid (w.grownBy w' (some b)):=by
 obtain ⟨l,bad⟩:=r
 obtain ⟨n,u,er,hg⟩:∃ n u er,Cw.getI l=(n,u,er):=⟨_,_,_,rfl⟩
 have HGI:=hid (fun X=>refGetInt_is (s:=⟨l.toArray⟩) (n:=n) (k:=u) (er:=er) (by simpa using hg) X)
 have hb:=getI_all hg
 have hR:qNum (l,bad)=if bad=true\/er ≠ 0 then (0,(l,true)) else (n,(l.drop u.toNat,false)):=by unfold qNum; simp only [hg]
 obtain ⟨u0,rfl⟩:∃ u0:Nat,u=(u0:Int):=⟨u.toNat,by omega⟩
 rw [Int.toNat_natCast] at hR
 have hul:u0<=l.length:=by omega
 have hsl:=fun W=>sl_lo l u0 hul W
 have hex:(⟨l.toArray⟩:ByteArray).extract u0 l.length=⟨(l.drop u0).toArray⟩:=by rw [ex_mid,List.take_of_length_le (by simp)]
 rw [hR]
 generalize l.drop u0=l' at hsl hex ⊢
 have HH:=hid h
 have c0:w.cell? ⟨b,0,none⟩=some (.string ⟨l.toArray⟩):=by rw [BK.cell h]; rfl
 have c1:w.cell? ⟨b,1,none⟩=some (.bool bad):=by rw [BK.cell h]; rfl
 have f0:w.frozen? ⟨b,0,none⟩=false:=BK.frozen h 0
 have f1:w.frozen? ⟨b,1,none⟩=false:=BK.frozen h 1
 simp only at hl
 clear hg hR h
 cases bad with
 | true=>
  rw [if_pos (.inl rfl)]
  go_enter Tryz.func102,Tryz.ntmps102
  go_wp2_with fail
  refine (HGI.out _).mono ?_
  rintro e w' ⟨rfl,rfl⟩
  go_wp2_with fail
  go_ret
  exact ⟨rfl,hid (BK.set HH.out 1 _),hid (gset _ _ _ _)⟩
 | false=>
  by_cases he:er=0
  ·subst he
   rw [if_neg (by simp)]
   go_enter Tryz.func102,Tryz.ntmps102
   go_wp2_with fail
   refine (HGI.out _).mono ?_
   rintro e w' ⟨rfl,rfl⟩
   go_wp2_with fail
   go_ret
   exact ⟨rfl,hid (BK.set HH.out 0 _),hid (gset _ _ _ _)⟩
  ·rw [if_pos (.inr he)]
   have hne:(er != 0)=true:=by simpa using he
   clear he
   go_enter Tryz.func102,Tryz.ntmps102
   go_wp2_with fail
   refine (HGI.out _).mono ?_
   rintro e w' ⟨rfl,rfl⟩
   go_wp2_with fail
   go_ret
   exact ⟨rfl,hid (BK.set HH.out 1 _),hid (gset _ _ _ _)⟩
theorem qtext_any (b:Nat) (r:RS) (w:World) (h:QD b r w) (hl:(r.1.length:Int)<=140737488355328) :
  Calls Tryz.prog 103 #[.pointer (some ⟨b,0,none⟩)] w fun e w'=>e = .returned (.string ⟨(qStr r).1.toArray⟩)/\Hid (QD b (qStr r).2 w')/\Hid (w.grownBy w' (some b)):=by
 obtain ⟨l,bad⟩:=r
 obtain ⟨n,u,er,hg⟩:∃ n u er,Cw.getT l=(n,u,er):=⟨_,_,_,rfl⟩
 have HGI:Hid (∀ X,Calls Tryz.prog 90 #[.string ⟨l.toArray⟩] X fun e w'=>e = .returned (.tuple #[.string ⟨n.toArray⟩,.int .i64 u,.int .i64 er])/\X=w'):=hid (fun X=>by
  have:=refGetText_any ⟨l.toArray⟩ X (by rw [ba_len]; exact hl)
  rw [show (⟨l.toArray⟩:ByteArray).data.toList=l by simp,hg] at this
  exact this)
 have hb:=getT_all hg
 have hR:qStr (l,bad)=if bad=true\/er ≠ 0 then ([],(l,true)) else (n,(l.drop u.toNat,false)):=by unfold qStr; simp only [hg]
 obtain ⟨u0,rfl⟩:∃ u0:Nat,u=(u0:Int):=⟨u.toNat,by omega⟩
 rw [Int.toNat_natCast] at hR
 have hul:u0<=l.length:=by omega
 have hsl:=fun W=>sl_lo l u0 hul W
 have hex:(⟨l.toArray⟩:ByteArray).extract u0 l.length=⟨(l.drop u0).toArray⟩:=by rw [ex_mid,List.take_of_length_le (by simp)]
 rw [hR]
 generalize l.drop u0=l' at hsl hex ⊢
 have HH:=hid h
 have c0:w.cell? ⟨b,0,none⟩=some (.string ⟨l.toArray⟩):=by rw [BK.cell h]; rfl
 have c1:w.cell? ⟨b,1,none⟩=some (.bool bad):=by rw [BK.cell h]; rfl
 have f0:w.frozen? ⟨b,0,none⟩=false:=BK.frozen h 0
 have f1:w.frozen? ⟨b,1,none⟩=false:=BK.frozen h 1
 simp only at hl
 clear hg hR h
 cases bad with
 | true=>
  rw [if_pos (.inl rfl)]
  go_enter Tryz.func103,Tryz.ntmps103
  go_wp2_with fail
  refine (HGI.out _).mono ?_
  rintro e w' ⟨rfl,rfl⟩
  go_wp2_with fail
  go_ret
  exact ⟨rfl,hid (BK.set HH.out 1 _),hid (gset _ _ _ _)⟩
 | false=>
  by_cases he:er=0
  ·subst he
   rw [if_neg (by simp)]
   go_enter Tryz.func103,Tryz.ntmps103
   go_wp2_with fail
   refine (HGI.out _).mono ?_
   rintro e w' ⟨rfl,rfl⟩
   go_wp2_with fail
   go_ret
   exact ⟨rfl,hid (BK.set HH.out 0 _),hid (gset _ _ _ _)⟩
  ·rw [if_pos (.inr he)]
   have hne:(er != 0)=true:=by simpa using he
   clear he
   go_enter Tryz.func103,Tryz.ntmps103
   go_wp2_with fail
   refine (HGI.out _).mono ?_
   rintro e w' ⟨rfl,rfl⟩
   go_wp2_with fail
   go_ret
   exact ⟨rfl,hid (BK.set HH.out 1 _),hid (gset _ _ _ _)⟩
theorem fstep_add (x:Int) (c:UInt8):IntKind.u64.wrap (IntKind.u64.wrap (x * 256) + IntKind.u64.wrap (c.toNat:Int))=fstep x c:=by
 have hc:=c.toNat_lt
 rw [fstep_eq,wrap_u64,wrap_u64,wrap_u64]
 omega
theorem qdigest_any (b:Nat) (r:RS) (w:World) (h:QD b r w) (hl:(r.1.length:Int)<=140737488355328) :
  Calls Tryz.prog 104 #[.pointer (some ⟨b,0,none⟩)] w fun e w'=>e = .returned (.agg #[.int .u64 (qDig r).1.1,.int .u64 (qDig r).1.2])/\Hid (QD b (qDig r).2 w')/\Hid (w.grownBy w' (some b)):=by
 obtain ⟨l,bad⟩:=r
 have hbw:b < w.heap.size:=h.lt
 simp only at hl
 have HH:=hid h
 have c0:w.cell? ⟨b,0,none⟩=some (.string ⟨l.toArray⟩):=by rw [h.cell]; rfl
 have f0:w.frozen? ⟨b,0,none⟩=false:=h.frozen 0
 have f1:w.frozen? ⟨b,1,none⟩=false:=h.frozen 1
 have c1:w.cell? ⟨b,1,none⟩=some (.bool bad):=by rw [h.cell]; rfl
 clear h
 by_cases hbad:bad=true
 ·subst hbad
  have HR:Hid (qDig (l,true)=((0,0),(l,true))):=hid (by unfold qDig; rw [if_pos (.inl rfl)])
  rw [HR.out]
  go_enter Tryz.func104,Tryz.ntmps104
  go_wp2_with fail
  refine bodyPost_ret (v:=.agg #[.int .u64 0,.int .u64 0]) (by simp [results,Tryz.results104,go_sem]) rfl ⟨rfl,hid ?_,hid ?_⟩
  ·exact ((HH.out.set 1 _).alloc _).alloc _
  ·exact gtrans (gtrans (gset _ _ _ _) (World.grownBy_alloc _ _ _)) (World.grownBy_alloc _ _ _)
 ·obtain rfl:bad=false:=by simpa using hbad
  clear hbad
  by_cases h16:(l.length:Int) < 16
  ·have HR:Hid (qDig (l,false)=((0,0),(l,true))):=hid (by unfold qDig; rw [if_pos (.inr (by simp only; omega))])
   rw [HR.out]
   have d16:decide ((l.length:Int) < 16)=true:=by simpa using h16
   go_enter Tryz.func104,Tryz.ntmps104
   go_wp2_with fail
   refine bodyPost_ret (v:=.agg #[.int .u64 0,.int .u64 0]) (by simp [results,Tryz.results104,go_sem]) rfl ⟨rfl,hid ?_,hid ?_⟩
   ·exact ((HH.out.set 1 _).alloc _).alloc _
   ·exact gtrans (gtrans (gset _ _ _ _) (World.grownBy_alloc _ _ _)) (World.grownBy_alloc _ _ _)
  ·have h16':(16:Int)<=l.length:=by omega
   have d16:decide ((l.length:Int) < 16)=false:=by simpa using h16'
   have HR:Hid (qDig (l,false)=(dgAt l 16,(l.drop 16,false))):=hid (by unfold qDig; rw [if_neg (by simp; omega),dgAt_full])
   rw [HR.out]
   go_enter Tryz.func104,Tryz.ntmps104
   go_wp2_with fail
   go_loopw [4] (fun i wr=>∃ (k:Nat) (x y:Int),k<=16/\i = .int .i64 k/\Hid (Below w.heap.size w wr)/\Hid (BK w.heap.size #[.int .u64 0,.int .u64 0] 41 wr)/\Hid (BK (w.heap.size + 1) #[.int .u64 x,.int .u64 y] 41 wr)/\Hid (dgAt l k=(x,y))) (fun i _=>16 - (intOf i).toNat)
   case atStart=>exact ⟨0,0,0,by omega,rfl,hid (((Below.refl _ w).alloc (Nat.le_refl _) _).alloc (by simp) _),hid ((BK.new _ _ _).alloc _),hid (BK.new2 _ _ _ _),hid (dgAt_zero l)⟩
   case round=>
    obtain ⟨k,x,y,hk,rfl,HB,HZ,HX,HD⟩:=hrel
    have g0:wr.cell? ⟨b,0,none⟩=some (.string ⟨l.toArray⟩):=(HB.out.cell (p:=⟨b,0,none⟩) hbw).trans c0
    have g1:wr.cell? ⟨w.heap.size + 1,0,none⟩=some (.int .u64 x):=by rw [HX.out.cell]; rfl
    have g2:wr.cell? ⟨w.heap.size + 1,1,none⟩=some (.int .u64 y):=by rw [HX.out.cell]; rfl
    have z1:wr.frozen? ⟨w.heap.size + 1,0,none⟩=false:=HX.out.frozen 0
    have z2:wr.frozen? ⟨w.heap.size + 1,1,none⟩=false:=HX.out.frozen 1
    by_cases hlt:k < 16
    ·have hkl:k < l.length:=by omega
     by_cases hk8:k < 8
     ·have HN:Hid (dgAt l (k + 1)=(IntKind.u64.wrap (IntKind.u64.wrap (x * 256) + IntKind.u64.wrap (l[k].toNat:Int)),y)):=hid (by rw [fstep_add,dgAt_lo l k (by omega) hk8,HD.out])
      have hq1:(k:Int).tdiv 8=0:=by rw [Int.tdiv_eq_ediv_of_nonneg (by omega)]; omega
      have hq2:(k:Int) / 8=0:=by omega
      have dk:decide ((k:Int) < 16)=true:=by simp; omega
      go_wp2_with fail
      go_region
      go_wp2_with fail
      go_roundw
      case rel=>exact ⟨k + 1,_,_,by omega,by go_num,hid (HB.out.setCell (p:=⟨w.heap.size + 1,0,none⟩) (by simp) _).drew,hid (HZ.out.other (by omega) _ _),hid (HX.out.set _ _),HN⟩
      case measure=>simp [intOf] <;> omega
     ·have HN:Hid (dgAt l (k + 1)=(x,IntKind.u64.wrap (IntKind.u64.wrap (y * 256) + IntKind.u64.wrap (l[k].toNat:Int)))):=hid (by rw [fstep_add,dgAt_hi l k (by omega) (by omega) hlt,HD.out])
      have hq1:(k:Int).tdiv 8=1:=by rw [Int.tdiv_eq_ediv_of_nonneg (by omega)]; omega
      have hq2:(k:Int) / 8=1:=by omega
      have dk:decide ((k:Int) < 16)=true:=by simp; omega
      go_wp2_with fail
      go_region
      go_wp2_with fail
      go_roundw
      case rel=>exact ⟨k + 1,_,_,by omega,by go_num,hid (HB.out.setCell (p:=⟨w.heap.size + 1,1,none⟩) (by simp) _).drew,hid (HZ.out.other (by omega) _ _),hid (HX.out.set _ _),HN⟩
      case measure=>simp [intOf] <;> omega
    ·obtain rfl:k=16:=by omega
     have g3:wr.frozen? ⟨b,0,none⟩=false:=(HB.out.frozen (p:=⟨b,0,none⟩) hbw).trans f0
     have y0:wr.cell? ⟨w.heap.size,0,none⟩=some (.int .u64 0):=by rw [HZ.out.cell]; rfl
     have y1:wr.cell? ⟨w.heap.size,1,none⟩=some (.int .u64 0):=by rw [HZ.out.cell]; rfl
     have y2:wr.frozen? ⟨w.heap.size,0,none⟩=false:=HZ.out.frozen 0
     have y3:wr.frozen? ⟨w.heap.size,1,none⟩=false:=HZ.out.frozen 1
     have hne1:w.heap.size ≠ b:=by omega
     have hne2:w.heap.size + 1 ≠ b:=by omega
     have hex:(⟨l.toArray⟩:ByteArray).extract 16 l.length=⟨(l.drop 16).toArray⟩:=by rw [ex_mid,List.take_of_length_le (by simp)]
     have hsl:=fun W=>sl_lo l 16 (by omega) W
     obtain ⟨l',hl'⟩:∃ l',l' = l.drop 16:=⟨_,rfl⟩
     rw [<-hl'] at hex hsl
     have HL:=hid hl'
     clear hl'
     go_wp2_with fail
     refine bodyPost_ret (v:=.agg #[.int .u64 x,.int .u64 y]) (by simp [results,Tryz.results104,go_sem,y0,y1]) rfl ⟨by rw [HD.out],hid ?_,hid ?_⟩
     ·rw [<-HL.out]
      exact (((HH.out.below HB.out).set 0 _).other hne1 _ _).other hne1 _ _
     ·have hb:=HB.out
      exact ⟨hb.os,hb.tape,hb.output,by simpa using hb.size,fun k hk hr=>(Below.heap_setCell _ _ _ _ (by simp; omega)).trans ((Below.heap_setCell _ _ _ _ (by simp; omega)).trans ((Below.heap_setCell _ _ _ _ (fun e=>hr (by rw [e]))).trans (hb.block k hk)))⟩
theorem qnumber_is {b:Nat} {r r':RS} {n:Int} {w:World} (hq:qNum r=(n,r')) (h:QD b r w) (hl:(r.1.length:Int)<=140737488355328) :
  Calls Tryz.prog 102 #[.pointer (some ⟨b,0,none⟩)] w fun e w'=>e = .returned (.int .i64 n)/\Hid (QD b r' w')/\Hid (w.grownBy w' (some b)):=by
 have:=qnumber_any b r w h hl; rw [hq] at this; exact this
theorem qtext_is {b:Nat} {r r':RS} {n:List UInt8} {w:World} (hq:qStr r=(n,r')) (h:QD b r w) (hl:(r.1.length:Int)<=140737488355328) :
  Calls Tryz.prog 103 #[.pointer (some ⟨b,0,none⟩)] w fun e w'=>e = .returned (.string ⟨n.toArray⟩)/\Hid (QD b r' w')/\Hid (w.grownBy w' (some b)):=by
 have:=qtext_any b r w h hl; rw [hq] at this; exact this
theorem qdigest_is {b:Nat} {r r':RS} {d1 d2:Int} {w:World} (hq:qDig r=((d1,d2),r')) (h:QD b r w) (hl:(r.1.length:Int)<=140737488355328) :
  Calls Tryz.prog 104 #[.pointer (some ⟨b,0,none⟩)] w fun e w'=>e = .returned (.agg #[.int .u64 d1,.int .u64 d2])/\Hid (QD b r' w')/\Hid (w.grownBy w' (some b)):=by
 have:=qdigest_any b r w h hl; rw [hq] at this; exact this
structure KS (w:World) (oc:Array Value) (r:RS) (W:World):Prop where
 rd:QD (w.heap.size + 1) r W
 obj:BK (w.heap.size + 2) oc 56 W
 res:BK w.heap.size #[.int .i64 0,.string ⟨#[]⟩,.slice none 0 0,.int .u64 0,.int .u64 0,.slice none 0 0,.string ⟨#[]⟩,.int .i64 0,.string ⟨#[]⟩] 56 W
 bel:Below w.heap.size w W
theorem KS.lt {w W:World} {oc:Array Value} {r:RS} (h:KS w oc r W):w.heap.size + 3<=W.heap.size:=h.obj.lt
theorem KS.call {w W W':World} {oc:Array Value} {r r':RS} (h:KS w oc r W) (h1:QD (w.heap.size + 1) r' W') (h2:W.grownBy W' (some (w.heap.size + 1))):KS w oc r' W':=
 ⟨h1,h.obj.grow1 h2 (by omega),h.res.grow1 h2 (by omega),below_of_grown h.bel h2 (by omega)⟩
theorem KS.set {w W:World} {oc:Array Value} {r:RS} (h:KS w oc r W) (j:Nat) (v:Value):KS w (oc.setIfInBounds j v) r (W.setCell ⟨w.heap.size + 2,j,none⟩ v):=
 ⟨h.rd.other (by omega) _ _,h.obj.set _ _,h.res.other (by omega) _ _,h.bel.setCell (by simp) _⟩
theorem KS.alloc {w W:World} {oc:Array Value} {r:RS} (h:KS w oc r W) (o:Obj):KS w oc r (W.alloc o):=
 ⟨h.rd.alloc _,h.obj.alloc _,h.res.alloc _,h.bel.alloc h.bel.size _⟩
theorem KS.setx {w W:World} {oc:Array Value} {r:RS} (h:KS w oc r W) {b:Nat} (hb:w.heap.size + 3<=b) (j:Nat) (v:Value):KS w oc r (W.setCell ⟨b,j,none⟩ v):=
 ⟨h.rd.other (by omega) _ _,h.obj.other (by omega) _ _,h.res.other (by omega) _ _,h.bel.setCell (by simp; omega) _⟩
theorem KS.grow {w W W':World} {oc:Array Value} {r:RS} {row:Option Nat} (h:KS w oc r W) (hg:W.grownBy W' row) (hr:∀ k,row=some k->w.heap.size + 3<=k):KS w oc r W':=
 ⟨h.rd.grow hg (fun k e=>by have:=hr k e; omega),h.obj.grow hg (fun k e=>by have:=hr k e; omega),h.res.grow hg (fun k e=>by have:=hr k e; omega),h.bel.grown hg h.bel.size (fun k e=>by have:=hr k e; omega)⟩
theorem KS.drew {w W:World} {oc:Array Value} {r:RS} (h:KS w oc r W):KS w oc r W.drew:=⟨h.rd,h.obj,h.res,h.bel.drew⟩
theorem qNum_len (r:RS):(qNum r).2.1.length<=r.1.length:=by unfold qNum; split <;> simp
theorem qNum_range (r:RS):0<=(qNum r).1/\(qNum r).1<=1099511627776:=by
 unfold qNum
 split
 ·simp
 ·obtain ⟨n,u,er,hg⟩:∃ n u er,Cw.getI r.1=(n,u,er):=⟨_,_,_,rfl⟩
  have:=getI_all hg
  simp only [hg]
  omega
theorem own_setx {W:World} {base:Nat} {e:TypeId} {z:Nat} {v:Value} {n:Nat} {xs:List Value} (h:W.ownsRow base e z v n xs) {b:Nat} (hb:∀ j,v.ownBlock=some j->j ≠ b) (j:Nat) (u:Value):(W.setCell ⟨b,j,none⟩ u).ownsRow base e z v n xs:=
 h.kept (gset _ _ _ _) (by
  cases hv:v.ownBlock with
  | none=>exact .inl rfl
  | some k=>right; intro hh; cases hh; exact hb b hv rfl)
theorem qStr_len (r:RS):(qStr r).2.1.length<=r.1.length/\(qStr r).1.length<=65536:=by
 unfold qStr
 split
 ·simp
 ·obtain ⟨n,u,er,hg⟩:∃ n u er,Cw.getT r.1=(n,u,er):=⟨_,_,_,rfl⟩
  have:=getT_all hg
  simp only [hg]
  refine ⟨by simp,this.2.2⟩
theorem qDig_len (r:RS):(qDig r).2.1.length<=r.1.length/\((qDig r).2.2=false->(qDig r).2.1.length + 1<=r.1.length):=by
 unfold qDig
 split
 ·simp
 ·rename_i h
  have:=(not_or.1 h).2
  simp only [List.length_drop]
  omega
theorem qEnt_len (r:RS):(qEnt r).2.1.length<=r.1.length/\((qEnt r).2.2=false->(qEnt r).2.1.length + 1<=r.1.length):=by
 have h1:=qStr_len r
 have h2:=qNum_len (qStr r).2
 have h3:=qDig_len (qNum (qStr r).2).2
 unfold qEnt
 simp only
 exact ⟨by omega,fun h=>by have:=h3.2 h; omega⟩
theorem qList_count {α:Type} {get:RS->α × RS} (h:∀ r,(get r).2.1.length<=r.1.length/\((get r).2.2=false->(get r).2.1.length + 1<=r.1.length)):∀ (n:Nat) (r:RS),(rList get n r).1.length<=r.1.length + 1
 | 0,r=>by simp [rList]
 | n + 1,r=>by
  rw [rList]
  split
  ·simp
  ·have h1:=qList_count h n (get r).2
   have h2:=h r
   simp only [List.length_cons]
   cases hb:(get r).2.2 with
   | false=>have:=h2.2 hb; omega
   | true=>
    have:(rList get n (get r).2).1=[]:=by
     cases n with
     | zero=>rfl
     | succ n=>rw [rList,if_pos hb]
    rw [this]; simp
structure QB (m:Nat) (o:Ob):Prop where
 elen:o.ents.length<=m + 1
 enam:∀ e ∈ o.ents,e.name.length<=65536
 plen:o.pars.length<=m + 1
 dlen:o.data.length<=65536
 alen:o.author.length<=65536
 mlen:o.msg.length<=65536
theorem readQ_b (s:List UInt8):QB s.length (readQ s).1:=by
 have h0:=qNum_len (s,false)
 unfold readQ
 split
 ·have h1:=qList_count qEnt_len (qNum (qNum (s,false)).2).1.toNat (qNum (qNum (s,false)).2).2
  have h2:=qNum_len (qNum (s,false)).2
  exact ⟨by simp only [qMany] at *; omega,(rList_all (P:=fun e:Ent=>e.name.length<=65536) (fun r=>(qStr_len r).2) _ _).2,by simp [obZ],by simp [obZ],by simp [obZ],by simp [obZ]⟩
 ·split
  ·have h1:=qList_count qDig_len (qNum (qDig (qNum (s,false)).2).2).1.toNat (qNum (qDig (qNum (s,false)).2).2).2
   have h2:=qNum_len (qDig (qNum (s,false)).2).2
   have h3:=(qDig_len (qNum (s,false)).2).1
   exact ⟨by simp [qC],by simp [qC],by simp only [qC,qMany] at *; omega,by simp [qC],(qStr_len _).2,(qStr_len _).2⟩
  ·exact ⟨by simp [obZ],by simp [obZ],by simp [obZ],(qStr_len _).2,by simp [obZ],by simp [obZ]⟩
theorem decodeS_b (s:List UInt8):ObB (decodeS s).1:=by
 unfold decodeS
 split
 ·exact obB_obZ
 ·exact readO_b s
structure QSt (w:World) (o:Ob) (r:RS) (W:World) (ea:Option Addr) (ec:Nat) (pa:Option Addr) (pc:Nat):Prop where
 ks:KS w (o.arr ea ec pa pc) r W
 eo:W.ownsRow (w.heap.size + 3) 109 4 (.slice ea o.ents.length ec) o.ents.length (ecells o.ents)
 po:W.ownsRow (w.heap.size + 3) 41 2 (.slice pa o.pars.length pc) o.pars.length (dcells o.pars)
def QX (w:World) (o:Ob) (r:RS) (W:World):Prop:=∃ ea ec pa pc,QSt w o r W ea ec pa pc
theorem QSt.inn {w:World} {o:Ob} {r:RS} {W:World} {ea:Option Addr} {ec:Nat} {pa:Option Addr} {pc:Nat} (h:QSt w o r W ea ec pa pc) {m:Nat} (hb:QB m o) (hok:OkO o) (hm:m<=1000000):ObIn W o ea ec pa pc:=
 ⟨ownsRow_ents h.eo,ownsRow_digs h.po,own_cap h.po,by have:=hb.elen; omega,fun e he=>by have:=hb.enam e he; omega,fun e he=>⟨(hok.2.2 e he).1.1,(hok.2.2 e he).2.1⟩,by have:=hb.plen; omega,fun d hd=>⟨(hok.2.1 d hd).1.1,(hok.2.1 d hd).2.1⟩,⟨hok.1.1.1,hok.1.2.1⟩,by have:=hb.dlen; omega,by have:=hb.alen; omega,by have:=hb.mlen; omega⟩
theorem ents_src {B:Nat} {W:World} {a:Option Addr} {ys:List Ent} (h:Ents B W a ys):Src W a (ecells ys):=by
 cases hy:ys with
 | nil=>exact .inl rfl
 | cons y ys'=>
  rw [<-hy]
  have h0:0 < ys.length:=by rw [hy]; simp
  obtain ⟨b,off,rfl,_⟩:=h 0 h0
  refine .inr ⟨_,rfl,fun j u hu=>?_⟩
  have hj:j < ys.length * 4:=by
   have:=(List.getElem?_eq_some_iff.1 hu).1
   rwa [ecells_length] at this
  obtain ⟨i,r,hi,hr,rfl⟩:∃ i r,i < ys.length/\r < 4/\j=i * 4 + r:=⟨j / 4,j % 4,by omega,by omega,by omega⟩
  obtain ⟨b',off',e,_,c0,c1,c2,c3⟩:=h i hi
  cases e
  obtain ⟨d0,d1,d2,d3⟩:=ecells_at ys i hi
  rw [Go.WideShapes.add_plain]
  rcases (by omega:r=0\/r=1\/r=2\/r=3) with rfl | rfl | rfl | rfl
  ·rw [show i * 4 + 0=i * 4 from rfl,d0] at hu; cases hu; exact c0
  ·rw [d1] at hu; cases hu; rw [<-Nat.add_assoc]; exact c1
  ·rw [d2] at hu; cases hu; rw [<-Nat.add_assoc]; exact c2
  ·rw [d3] at hu; cases hu; rw [<-Nat.add_assoc]; exact c3
theorem ecells_one (xs:List Ent):∀ v ∈ ecells xs,v.oneCell' = true:=by
 intro v hv
 simp only [ecells,List.mem_flatMap] at hv
 obtain ⟨x,_,hv⟩:=hv
 simp at hv
 rcases hv with rfl | rfl | rfl | rfl <;> rfl
theorem append_ents (W:World) (base:Nat) (ty:TypeId) (v:Value) (xs:List Ent) (hown:W.ownsRow base 109 4 v xs.length (ecells xs)) (a:Option Addr) (ys:List Ent) (c:Nat) (hy:Ents W.heap.size W a ys)
  (hlen:((xs.length + ys.length:Nat):Int)<=1000000000) (hbase:base<=W.heap.size) :
  ∃ v' W',(Builtin.append_ #[54,54] ty #[v,.slice a ys.length c]).run Tryz.prog W = .ok v' W'/\W'.ownsRow base 109 4 v' (xs ++ ys).length (ecells (xs ++ ys))/\W.grownBy W' v.ownBlock/\(v'.ownBlock=v.ownBlock\/v'.ownBlock=some W.heap.size):=by
 obtain ⟨i0,hi,hz0,hz1,hz2⟩:=info_parts infoEnt
 obtain ⟨v',W',h1,h2,h3,h4⟩:=append_src (P:=Tryz.prog) W base 54 ty 109 i0 _ 4 40 Tryz.underlying54 hi hz0 hz1 hz2 rfl (by decide) v xs.length (ecells xs) hown a ys.length c (ecells ys) (ecells_length _) (ents_src hy) (ecells_one _) (by unfold maxLen; omega) (by omega) hbase
 exact ⟨v',W',h1,by rw [ecells_append,List.length_append]; exact h2,h3,h4⟩
theorem append_ent {W:World} {base:Nat} {v:Value} {xs:List Ent} (hown:W.ownsRow base 109 4 v xs.length (ecells xs)) (nm:List UInt8) (dir:Bool) (d1 d2:Int) (hlen:(xs.length:Int)<=2000000) (hbase:base<=W.heap.size) :
  ∃ v' W',(Builtin.append_ #[54,54] 54 #[v,.slice (some ⟨W.heap.size,0,none⟩) 1 1]).run Tryz.prog (W.alloc (.cells #[.string ⟨nm.toArray⟩,.bool dir,.int .u64 d1,.int .u64 d2] 109)) = .ok v' W'/\W'.ownsRow base 109 4 v' (xs ++ [(⟨nm,dir,(d1,d2)⟩:Ent)]).length (ecells (xs ++ [(⟨nm,dir,(d1,d2)⟩:Ent)]))/\(W.alloc (.cells #[.string ⟨nm.toArray⟩,.bool dir,.int .u64 d1,.int .u64 d2] 109)).grownBy W' v.ownBlock:=by
 obtain ⟨v',W',h1,h2,h3,_⟩:=append_ents (W.alloc (.cells #[.string ⟨nm.toArray⟩,.bool dir,.int .u64 d1,.int .u64 d2] 109)) base 54 v xs (hown.alloc _) (some ⟨W.heap.size,0,none⟩) [⟨nm,dir,(d1,d2)⟩] 1 (fun i hi=>by
  obtain rfl:i=0:=by simp at hi; omega
  have hk:=BK.new W #[.string ⟨nm.toArray⟩,.bool dir,.int .u64 d1,.int .u64 d2] 109
  exact ⟨_,0,rfl,hk.lt,by rw [Nat.zero_mul,hk.cell]; rfl,by rw [Nat.zero_mul,hk.cell]; rfl,by rw [Nat.zero_mul,hk.cell]; rfl,by rw [Nat.zero_mul,hk.cell]; rfl⟩) (by simp; omega) (by simp; omega)
 exact ⟨v',W',h1,h2,h3⟩
theorem step_append_run {P:Program} {w:World} {ops:Array Oper} {o:Oper} {a:Act} {K:Act->World->Prop} {Q:Exit->Act->World->Prop} {E:Prop} (hgd:o.guard=none) (s x:Operand) (t tn:TypeId)
  (ho:o.op = .call { callee:=.builtin .append,args:=#[s,x],argTypes:=#[t,tn] }) (vs vx:Value) (hs:a.eval s=vs) (hx:a.eval x=vx) (v':Value) (w':World) (hr:(Builtin.append_ #[t,tn] o.type #[vs,vx]).run P w = .ok v' w') (h:K (a.put o.dst v') w') :
  if Region.wanted o (yielded ops a.tmps)=true then Oper.wp P o a w K Q else E:=by
 have hw:Region.wanted o (yielded ops a.tmps)=true:=by simp [Region.wanted,hgd]
 rw [if_pos hw]
 exact Lib.wp_append_run w s x t tn ho vs vx hs hx v' w' hr h
theorem par_step {w wr y:World} {t1 t2:Int} {pa:Option Addr} {k pc:Nat} {l:List UInt8} {q:RS} {ps:List (Int × Int)} {d1 d2:Int} (HS:KS w #[.int .i64 3,.string ⟨#[]⟩,.slice none 0 0,.int .u64 t1,.int .u64 t2,.slice pa k pc,.string ⟨#[]⟩,.int .i64 0,.string ⟨#[]⟩] (l,false) wr) (HO:wr.ownsRow (w.heap.size + 3) 41 2 (.slice pa k pc) k (dcells ps)) (hk:k=ps.length)
  (hr:QD (w.heap.size + 1) q y) (hg:wr.drew.grownBy y (some (w.heap.size + 1))) (hkb:(k:Int)<=1000000) :
  ∃ (a2:Option Addr) (c2:Nat) (z:World),Hid ((Builtin.append_ #[24,24] 24 #[.slice pa k pc,.slice (some ⟨y.heap.size,0,none⟩) 1 1]).run Tryz.prog (y.alloc (.cells #[.int .u64 d1,.int .u64 d2] 41)) = .ok (.slice a2 (k + 1) c2) z)/\Hid (KS w #[.int .i64 3,.string ⟨#[]⟩,.slice none 0 0,.int .u64 t1,.int .u64 t2,.slice pa k pc,.string ⟨#[]⟩,.int .i64 0,.string ⟨#[]⟩] q z)/\
   Hid (z.ownsRow (w.heap.size + 3) 41 2 (.slice a2 (k + 1) c2) (k + 1) (dcells (ps ++ [(d1,d2)])))/\Hid (k + 1=(ps ++ [(d1,d2)]).length)/\y.cell? ⟨w.heap.size + 2,5,none⟩=some (.slice pa k pc)/\z.cell? ⟨w.heap.size + 2,5,none⟩=some (.slice pa k pc)/\z.frozen? ⟨w.heap.size + 2,5,none⟩=false:=by
 have HY:=HS.drew.call hr hg
 have hrun0:=own_kept HO.drew hg (by omega)
 rw [hk] at hrun0
 obtain ⟨v',z,hrun,hown,hgr,_⟩:=append_one hrun0 d1 d2 (by omega) (by have:=HY.lt; omega)
 have HZ:KS w #[.int .i64 3,.string ⟨#[]⟩,.slice none 0 0,.int .u64 t1,.int .u64 t2,.slice pa k pc,.string ⟨#[]⟩,.int .i64 0,.string ⟨#[]⟩] q z:=(HY.alloc _).grow hgr (fun j hj=>(hrun0.lt j hj).1)
 obtain ⟨a2,c2,rfl,_⟩:=ownsRow_sliceN hown
 have hk2:k + 1=(ps ++ [(d1,d2)]).length:=by rw [List.length_append,hk]; rfl
 rw [<-hk2] at hrun hown
 rw [<-hk] at hrun
 exact ⟨a2,c2,z,hid hrun,hid HZ,hid hown,hid hk2,by rw [HY.obj.cell]; rfl,by rw [HZ.obj.cell]; rfl,HZ.obj.frozen 5⟩
theorem rdecode_any (s:List UInt8) (w:World) (hs:(s.length:Int)<=1000000) :
  Calls Tryz.prog 63 #[.string ⟨s.toArray⟩] w (GotO w (decodeS s).1 (decodeS s).2):=by
 have HOB:=hid (decodeS_b s)
 have HQB:=hid (readQ_b s)
 have HOK:=hid (readQ_ok s)
 have hlen:=qNum_len (s,false)
 have HRO:Hid (readQ s=if (qNum (s,false)).1=2 then ({ obZ with kind:=2,ents:=(qMany qEnt (qNum (s,false)).2).1 },(qMany qEnt (qNum (s,false)).2).2) else if (qNum (s,false)).1=3 then qC (qNum (s,false)).2 else ({ obZ with kind:=(qNum (s,false)).1,data:=(qStr (qNum (s,false)).2).1 },(qStr (qNum (s,false)).2).2)):=hid rfl
 have HDE:Hid (decodeS s=if (readQ s).2.2=true\/(encodeS (readQ s).1).2 ≠ 0\/(encodeS (readQ s).1).1 ≠ s then (obZ,13) else ((readQ s).1,0)):=hid (by rw [<-decodeQ_eq]; rfl)
 generalize decodeS s=D at HDE HOB ⊢
 generalize readQ s=RO at HRO HDE HQB HOK
 obtain ⟨kd,r1,hq⟩:∃ kd r1,qNum (s,false)=(kd,r1):=⟨_,_,rfl⟩
 obtain ⟨y0,hy0⟩:∃ y0,y0=((w.alloc (.cells #[.int .i64 0,.string ⟨#[]⟩,.slice none 0 0,.int .u64 0,.int .u64 0,.slice none 0 0,.string ⟨#[]⟩,.int .i64 0,.string ⟨#[]⟩] 56)).alloc (.cells #[.string ⟨s.toArray⟩,.bool false] 171)).alloc (.cells #[.int .i64 0,.string ⟨#[]⟩,.slice none 0 0,.int .u64 0,.int .u64 0,.slice none 0 0,.string ⟨#[]⟩,.int .i64 0,.string ⟨#[]⟩] 56):=⟨_,rfl⟩
 have HS0:Hid (KS w #[.int .i64 0,.string ⟨#[]⟩,.slice none 0 0,.int .u64 0,.int .u64 0,.slice none 0 0,.string ⟨#[]⟩,.int .i64 0,.string ⟨#[]⟩] (s,false) y0):=hid (by
  rw [hy0]
  have h3:=BK.new ((w.alloc (.cells #[.int .i64 0,.string ⟨#[]⟩,.slice none 0 0,.int .u64 0,.int .u64 0,.slice none 0 0,.string ⟨#[]⟩,.int .i64 0,.string ⟨#[]⟩] 56)).alloc (.cells #[.string ⟨s.toArray⟩,.bool false] 171)) #[.int .i64 0,.string ⟨#[]⟩,.slice none 0 0,.int .u64 0,.int .u64 0,.slice none 0 0,.string ⟨#[]⟩,.int .i64 0,.string ⟨#[]⟩] 56
  rw [show ((w.alloc (.cells #[.int .i64 0,.string ⟨#[]⟩,.slice none 0 0,.int .u64 0,.int .u64 0,.slice none 0 0,.string ⟨#[]⟩,.int .i64 0,.string ⟨#[]⟩] 56)).alloc (.cells #[.string ⟨s.toArray⟩,.bool false] 171)).heap.size=w.heap.size + 2 by simp] at h3
  exact ⟨(BK.new2 _ _ _ _).alloc _,h3,((BK.new _ _ _).alloc _).alloc _,(((Below.refl _ w).alloc (Nat.le_refl _) _).alloc (by simp) _).alloc (by simp; omega) _⟩)
 have HN1:=hid (qnumber_is hq HS0.out.rd (by simp only; omega))
 rw [hq] at HRO hlen
 obtain ⟨OB,q⟩:=RO
 simp only at HDE HQB HOK HRO hlen
 rw [hy0] at HN1
 have HY0:=hid hy0
 clear hq hy0
 go_enter Tryz.func63,Tryz.ntmps63
 go_wp2_with fail
 (with_reducible refine (HN1.out).mono ?_)
 rintro e x1 ⟨rfl,hr1,hg1⟩
 rw [<-HY0.out] at hg1
 have HS1:Hid (KS w #[.int .i64 0,.string ⟨#[]⟩,.slice none 0 0,.int .u64 0,.int .u64 0,.slice none 0 0,.string ⟨#[]⟩,.int .i64 0,.string ⟨#[]⟩] r1 x1):=hid (HS0.out.call hr1.out hg1.out)
 have hx1:=HS1.out.lt
 clear hr1 hg1 HN1 HY0 HS0
 obtain ⟨p0,p1,p2,p3,p4,p5,p6,p7,p8⟩:=BK.c9 (show BK _ #[.int .i64 0,.string ⟨#[]⟩,.slice none 0 0,.int .u64 0,.int .u64 0,.slice none 0 0,.string ⟨#[]⟩,.int .i64 0,.string ⟨#[]⟩] _ _ from HS1.out.obj)
 obtain ⟨fp0,fp1,fp2,fp3,fp4,fp5,fp6,fp7,fp8⟩:=BK.f9 (HS1.out.obj)
 go_upto_block 0 with (fail)
 clear p0 p1 p2 p3 p4 p5 p6 p7 p8 fp0 fp1 fp2 fp3 fp4 fp5 fp6 fp7 fp8
 have HS2:Hid (KS w #[.int .i64 kd,.string ⟨#[]⟩,.slice none 0 0,.int .u64 0,.int .u64 0,.slice none 0 0,.string ⟨#[]⟩,.int .i64 0,.string ⟨#[]⟩] r1 (x1.setCell ⟨w.heap.size + 2,0,none⟩ (.int .i64 kd))):=hid (HS1.out.set 0 _)
 generalize x1.setCell ⟨w.heap.size + 2,0,none⟩ (.int .i64 kd)=x2 at HS2 ⊢
 clear HS1 hx1
 go_cut [6,7,8,9,10] from 20 to 92 (fun _ _ _ _ _ wx=>QX w OB q wx)
 case rest=>
  clear HRO HS2
  obtain ⟨ea,ec,pa,pc,hS⟩:=hcut
  have HS:=hid hS
  have HC:=hid (renc_any OB ea ec pa pc wc (hS.inn HQB.out HOK.out (by omega)) HOK.out)
  clear hS HQB HOK
  obtain ⟨l,bd⟩:=q
  simp only at HDE
  have hw3:=HS.out.ks.lt
  obtain ⟨o0,o1,o2,o3,o4,o5,o6,o7,o8⟩:=BK.c9 (show BK _ #[.int .i64 OB.kind,.string ⟨OB.data.toArray⟩,.slice ea OB.ents.length ec,.int .u64 OB.tree.1,.int .u64 OB.tree.2,.slice pa OB.pars.length pc,.string ⟨OB.author.toArray⟩,.int .i64 OB.time,.string ⟨OB.msg.toArray⟩] _ _ from HS.out.ks.obj)
  generalize encodeS OB=EN at HDE HC
  obtain ⟨T,er⟩:=EN
  simp only at HDE HC
  go_wp2_with fail
  (with_reducible refine (HC.out).mono ?_)
  rintro e w1 ⟨rfl,hb⟩
  have HB:=hid hb
  have hz1:=hb.size
  have HRS:=hid (HS.out.ks.res.below hb)
  have HOJ:=hid (HS.out.ks.obj.below hb)
  have HRD:=hid (HS.out.ks.rd.below hb)
  have HBB:Hid (Below w.heap.size w w1):=hid (HS.out.ks.bel.trans (hb.mono (by omega)))
  clear hb HC o0 o1 o2 o3 o4 o5 o6 o7 o8
  have q0:w1.cell? ⟨w.heap.size + 1,1,none⟩=some (.bool bd):=by rw [HRD.out.cell]; rfl
  cases bd with
  | true=>
   have HF:Hid (D=(obZ,13)):=hid (by rw [HDE.out,if_pos (.inl rfl)])
   clear HDE
   obtain ⟨r0,r1,r2,r3,r4,r5,r6,r7,r8⟩:=BK.c9 (show BK _ #[.int .i64 0,.string ⟨#[]⟩,.slice none 0 0,.int .u64 0,.int .u64 0,.slice none 0 0,.string ⟨#[]⟩,.int .i64 0,.string ⟨#[]⟩] _ _ from HRS.out)
   obtain ⟨fr0,fr1,fr2,fr3,fr4,fr5,fr6,fr7,fr8⟩:=BK.f9 (HRS.out)
   go_wp2_with fail
   refine bodyPost_ret (v:=.tuple #[obZ.val none 0 none 0,.int .i64 13]) (by simp [results,Tryz.results63,go_sem,obZ,r0,r1,r2,r3,r4,r5,r6,r7,r8]) rfl ?_
   rw [HF.out]
   exact ⟨none,0,none,0,rfl,ObOwn.zero _ _,((((((((HBB.out.setCell (by simp) _).setCell (by simp) _).setCell (by simp) _).setCell (by simp) _).setCell (by simp) _).setCell (by simp) _).setCell (by simp) _).setCell (by simp) _).setCell (by simp) _⟩
  | false=>
   by_cases he:er=0
   ·subst he
    cases hts:(T == s) with
    | false=>
     have HF:Hid (D=(obZ,13)):=hid (by rw [HDE.out,if_pos (.inr (.inr (by intro h; simp [h] at hts)))])
     clear HDE
     obtain ⟨r0,r1,r2,r3,r4,r5,r6,r7,r8⟩:=BK.c9 (show BK _ #[.int .i64 0,.string ⟨#[]⟩,.slice none 0 0,.int .u64 0,.int .u64 0,.slice none 0 0,.string ⟨#[]⟩,.int .i64 0,.string ⟨#[]⟩] _ _ from HRS.out)
     obtain ⟨fr0,fr1,fr2,fr3,fr4,fr5,fr6,fr7,fr8⟩:=BK.f9 (HRS.out)
     go_wp2_with fail
     refine bodyPost_ret (v:=.tuple #[obZ.val none 0 none 0,.int .i64 13]) (by simp [results,Tryz.results63,go_sem,obZ,r0,r1,r2,r3,r4,r5,r6,r7,r8]) rfl ?_
     rw [HF.out]
     exact ⟨none,0,none,0,rfl,ObOwn.zero _ _,((((((((HBB.out.setCell (by simp) _).setCell (by simp) _).setCell (by simp) _).setCell (by simp) _).setCell (by simp) _).setCell (by simp) _).setCell (by simp) _).setCell (by simp) _).setCell (by simp) _⟩
    | true=>
     have HF:Hid (D=(OB,0)):=hid (by rw [HDE.out,if_neg (by simp; simpa using hts)])
     clear HDE
     obtain ⟨o0,o1,o2,o3,o4,o5,o6,o7,o8⟩:=BK.c9 (show BK _ #[.int .i64 OB.kind,.string ⟨OB.data.toArray⟩,.slice ea OB.ents.length ec,.int .u64 OB.tree.1,.int .u64 OB.tree.2,.slice pa OB.pars.length pc,.string ⟨OB.author.toArray⟩,.int .i64 OB.time,.string ⟨OB.msg.toArray⟩] _ _ from HOJ.out)
     obtain ⟨r0,r1,r2,r3,r4,r5,r6,r7,r8⟩:=BK.c9 (show BK _ #[.int .i64 0,.string ⟨#[]⟩,.slice none 0 0,.int .u64 0,.int .u64 0,.slice none 0 0,.string ⟨#[]⟩,.int .i64 0,.string ⟨#[]⟩] _ _ from HRS.out)
     obtain ⟨fr0,fr1,fr2,fr3,fr4,fr5,fr6,fr7,fr8⟩:=BK.f9 (HRS.out)
     go_wp2_with fail
     refine bodyPost_ret (v:=.tuple #[OB.val ea ec pa pc,.int .i64 0]) (by simp [results,Tryz.results63,go_sem,r0,r1,r2,r3,r4,r5,r6,r7,r8]) rfl ?_
     have hob:=HOB.out
     rw [HF.out] at hob ⊢
     have hown:ObOwn (w.heap.size + 3) w1 OB ea ec pa pc:=⟨hob,own_below HS.out.eo HB.out,own_below HS.out.po HB.out⟩
     exact ⟨ea,ec,pa,pc,rfl,(hown.kept (gown (gown (gown (gown (gown (gown (gown (gown (gset _ _ _ _) _ _) _ _) _ _) _ _) _ _) _ _) _ _) _ _) (by omega)).le (by omega),((((((((HBB.out.setCell (by simp) _).setCell (by simp) _).setCell (by simp) _).setCell (by simp) _).setCell (by simp) _).setCell (by simp) _).setCell (by simp) _).setCell (by simp) _).setCell (by simp) _⟩
   ·have HF:Hid (D=(obZ,13)):=hid (by rw [HDE.out,if_pos (.inr (.inl he))])
    have hne:(er != 0)=true:=by simpa using he
    clear HDE he
    obtain ⟨r0,r1,r2,r3,r4,r5,r6,r7,r8⟩:=BK.c9 (show BK _ #[.int .i64 0,.string ⟨#[]⟩,.slice none 0 0,.int .u64 0,.int .u64 0,.slice none 0 0,.string ⟨#[]⟩,.int .i64 0,.string ⟨#[]⟩] _ _ from HRS.out)
    obtain ⟨fr0,fr1,fr2,fr3,fr4,fr5,fr6,fr7,fr8⟩:=BK.f9 (HRS.out)
    go_wp2_with fail
    refine bodyPost_ret (v:=.tuple #[obZ.val none 0 none 0,.int .i64 13]) (by simp [results,Tryz.results63,go_sem,obZ,r0,r1,r2,r3,r4,r5,r6,r7,r8]) rfl ?_
    rw [HF.out]
    exact ⟨none,0,none,0,rfl,ObOwn.zero _ _,((((((((HBB.out.setCell (by simp) _).setCell (by simp) _).setCell (by simp) _).setCell (by simp) _).setCell (by simp) _).setCell (by simp) _).setCell (by simp) _).setCell (by simp) _).setCell (by simp) _⟩
 case first=>
  clear HDE HOB HQB HOK
  have hl1:(r1.1.length:Int)<=1000000:=by omega
  clear hlen
  by_cases h2:kd=2
  ·subst h2
   obtain ⟨n,r2,hq⟩:∃ n r2,qNum r1=(n,r2):=⟨_,_,rfl⟩
   have hl2:=qNum_len r1
   have hn0:=(qNum_range r1).1
   have HRO2:Hid ((OB,q)=({ obZ with kind:=2,ents:=(rList qEnt n.toNat r2).1 },(rList qEnt n.toNat r2).2)):=hid (by
    have:=HRO.out
    rw [if_pos rfl] at this
    unfold qMany at this
    rw [hq] at this
    exact this)
   have HN2:=hid (qnumber_is hq HS2.out.rd (by omega))
   rw [hq] at hl2 hn0
   obtain ⟨N,rfl⟩:∃ N:Nat,n=(N:Int):=⟨n.toNat,by simp only at hn0; omega⟩
   rw [Int.toNat_natCast] at HRO2
   obtain ⟨RL,hRL⟩:∃ RL,RL=rList qEnt N r2:=⟨_,rfl⟩
   rw [<-hRL] at HRO2
   obtain ⟨l2,bd2⟩:=r2
   have HLR:Hid (LR qEnt RL N [] (l2,bd2)):=hid (by rw [hRL]; exact LR.start _ _ _)
   simp only at hl2
   clear hq HRO hRL hn0
   obtain ⟨p0,p1,p2,p3,p4,p5,p6,p7,p8⟩:=BK.c9 (show BK _ #[.int .i64 2,.string ⟨#[]⟩,.slice none 0 0,.int .u64 0,.int .u64 0,.slice none 0 0,.string ⟨#[]⟩,.int .i64 0,.string ⟨#[]⟩] _ _ from HS2.out.obj)
   go_wp2_with fail
   (with_reducible refine (HN2.out).mono ?_)
   rintro e x3 ⟨rfl,hr,hg⟩
   have HS3:=hid (HS2.out.call hr.out hg.out)
   clear hr hg HS2 HN2 p0 p1 p2 p3 p4 p5 p6 p7 p8
   go_wp2_with fail
   go_loopw [7] (fun i wr=>∃ (m k:Nat) (es:List Ent) (l:List UInt8) (bd:Bool) (ea:Option Addr) (ec:Nat),i = .int .i64 k/\k + m=N/\k + l.length<=1000001/\Hid (k=es.length)/\Hid (bd=false->k + l.length<=1000000)/\Hid (KS w #[.int .i64 2,.string ⟨#[]⟩,.slice ea k ec,.int .u64 0,.int .u64 0,.slice none 0 0,.string ⟨#[]⟩,.int .i64 0,.string ⟨#[]⟩] (l,bd) wr)/\Hid (wr.ownsRow (w.heap.size + 3) 109 4 (.slice ea k ec) k (ecells es))/\Hid (LR qEnt RL m es (l,bd))) (fun i _=>N - (intOf i).toNat)
   case atStart=>exact ⟨N,0,[],l2,bd2,none,0,rfl,by omega,by omega,hid rfl,hid (fun _=>by omega),HS3,hid (World.ownsRow_nil _ _ _ _),HLR⟩
   case round=>
    clear HS3 HLR
    obtain ⟨m,k,es,l,bd,ea,ec,rfl,hkm,hkl,HK,HBD,HS,HO,HL⟩:=hrel
    have hwr:=HS.out.lt
    have b1:wr.cell? ⟨w.heap.size + 1,1,none⟩=some (.bool bd):=by rw [HS.out.rd.cell]; rfl
    have HEX:Hid (m=0\/bd=true->QX w OB q wr):=hid (fun h=>by
     have h1:=HL.out.stop h
     have h2:=HRO2.out
     rw [h1] at h2
     obtain ⟨rfl,rfl⟩:=Prod.mk.inj h2
     have h3:=HO.out
     have h4:=HS.out
     rw [HK.out] at h3 h4
     exact ⟨ea,ec,none,0,h4,h3,World.ownsRow_nil _ _ _ _⟩)
    by_cases hm:m=0
    ·subst hm
     have d1:decide ((k:Int) < (N:Int))=false:=by simp; omega
     have d2:decide (k < N)=false:=by simp; omega
     have HF:=hid (HEX.out (.inl rfl))
     go_wp2_with fail
     go_meet
     case rel=>exact HF.out
    ·have d1:decide ((k:Int) < (N:Int))=true:=by simp; omega
     have d2:decide (k < N)=true:=by simp; omega
     cases bd with
     | true=>
      have HF:=hid (HEX.out (.inr rfl))
      go_wp2_with fail
      go_meet
      case rel=>exact HF.out
     | false=>
      clear HEX
      obtain ⟨m',rfl⟩:∃ m',m=m' + 1:=⟨m - 1,by omega⟩
      have hlb:=HBD.out rfl
      have HL2:=hid (HL.out.next rfl)
      have HEL:=hid (qEnt_len (l,false))
      unfold qEnt at HL2 HEL
      obtain ⟨nm,q1,hq1⟩:∃ nm q1,qStr (l,false)=(nm,q1):=⟨_,_,rfl⟩
      have hl1:=qStr_len (l,false)
      rw [hq1] at HL2 HEL hl1
      obtain ⟨dn,q2,hq2⟩:∃ dn q2,qNum q1=(dn,q2):=⟨_,_,rfl⟩
      have hl2:=qNum_len q1
      simp only at HL2 HEL hl1
      rw [hq2] at HL2 HEL hl2
      obtain ⟨d1',d2',q3,hq3⟩:∃ d1 d2 q3,qDig q2=((d1,d2),q3):=⟨_,_,_,rfl⟩
      simp only at HL2 HEL hl2
      rw [hq3] at HL2 HEL
      obtain ⟨l3,bd3⟩:=q3
      simp only at HL2 HEL
      have hl1':=hl1.1
      have hl3:=HEL.out.1
      have HBD3:Hid (bd3=false->k + 1 + l3.length<=1000000):=hid (fun h=>by have:=HEL.out.2 h; omega)
      clear hl1 HEL HL HBD
      obtain ⟨y1,hy1⟩:∃ y1,y1=wr.alloc (.cells #[.string ⟨#[]⟩,.bool false,.int .u64 0,.int .u64 0] 109):=⟨_,rfl⟩
      have HY1:Hid (KS w #[.int .i64 2,.string ⟨#[]⟩,.slice ea k ec,.int .u64 0,.int .u64 0,.slice none 0 0,.string ⟨#[]⟩,.int .i64 0,.string ⟨#[]⟩] (l,false) y1):=hid (by rw [hy1]; exact HS.out.alloc _)
      have HX1:Hid (BK wr.heap.size #[.string ⟨#[]⟩,.bool false,.int .u64 0,.int .u64 0] 109 y1):=hid (by rw [hy1]; exact BK.new _ _ _)
      have HO1:Hid (y1.ownsRow (w.heap.size + 3) 109 4 (.slice ea k ec) k (ecells es)):=hid (by rw [hy1]; exact HO.out.alloc _)
      have HOL:Hid (∀ j,(Value.slice ea k ec).ownBlock=some j->j < wr.heap.size):=hid (fun j hj=>(HO.out.lt j hj).2)
      have HC1:=hid (qtext_is hq1 HY1.out.rd (by simp only; omega))
      rw [hy1] at HC1
      have HE1:=hid hy1
      clear hy1 hq1 HS HO
      go_wp2_with fail
      (with_reducible refine (HC1.out).mono ?_)
      rintro e y2 ⟨rfl,hr,hg⟩
      rw [<-HE1.out] at hg
      have HY2:=hid (HY1.out.call hr.out hg.out)
      have HX2:=hid (HX1.out.grow1 hg.out (by omega))
      have HO2:=hid (own_kept HO1.out hg.out (by omega))
      clear hr hg HC1 HE1 HY1 HX1 HO1
      obtain ⟨x0,x1,x2,x3⟩:=BK.c4 (show BK _ #[.string ⟨#[]⟩,.bool false,.int .u64 0,.int .u64 0] _ _ from HX2.out)
      obtain ⟨fx0,fx1,fx2,fx3⟩:=BK.f4 (HX2.out)
      obtain ⟨y3,hy3⟩:∃ y3,y3=y2.setCell ⟨wr.heap.size,0,none⟩ (.string ⟨nm.toArray⟩):=⟨_,rfl⟩
      have HY3:Hid (KS w #[.int .i64 2,.string ⟨#[]⟩,.slice ea k ec,.int .u64 0,.int .u64 0,.slice none 0 0,.string ⟨#[]⟩,.int .i64 0,.string ⟨#[]⟩] q1 y3):=hid (by rw [hy3]; exact HY2.out.setx hwr 0 _)
      have HX3:Hid (BK wr.heap.size #[.string ⟨nm.toArray⟩,.bool false,.int .u64 0,.int .u64 0] 109 y3):=hid (by rw [hy3]; exact HX2.out.set 0 _)
      have HO3:Hid (y3.ownsRow (w.heap.size + 3) 109 4 (.slice ea k ec) k (ecells es)):=hid (by rw [hy3]; exact own_setx HO2.out (fun j hj=>by have:=HOL.out j hj; omega) 0 _)
      have HC2:=hid (qnumber_is hq2 HY3.out.rd (by omega))
      rw [hy3] at HC2
      have HE3:=hid hy3
      clear hy3 hq2 HY2 HX2 HO2
      go_wp2_with fail
      (with_reducible refine (HC2.out).mono ?_)
      rintro e y4 ⟨rfl,hr,hg⟩
      rw [<-HE3.out] at hg
      have HY4:=hid (HY3.out.call hr.out hg.out)
      have HX4:=hid (HX3.out.grow1 hg.out (by omega))
      have HO4:=hid (own_kept HO3.out hg.out (by omega))
      clear hr hg HC2 HE3 HY3 HX3 HO3 x0 x1 x2 x3 fx0 fx1 fx2 fx3
      obtain ⟨x0,x1,x2,x3⟩:=BK.c4 (show BK _ #[.string ⟨nm.toArray⟩,.bool false,.int .u64 0,.int .u64 0] _ _ from HX4.out)
      obtain ⟨fx0,fx1,fx2,fx3⟩:=BK.f4 (HX4.out)
      obtain ⟨y5,hy5⟩:∃ y5,y5=y4.setCell ⟨wr.heap.size,1,none⟩ (.bool (dn == 1)):=⟨_,rfl⟩
      have HY5:Hid (KS w #[.int .i64 2,.string ⟨#[]⟩,.slice ea k ec,.int .u64 0,.int .u64 0,.slice none 0 0,.string ⟨#[]⟩,.int .i64 0,.string ⟨#[]⟩] q2 y5):=hid (by rw [hy5]; exact HY4.out.setx hwr 1 _)
      have HX5:Hid (BK wr.heap.size #[.string ⟨nm.toArray⟩,.bool (dn == 1),.int .u64 0,.int .u64 0] 109 y5):=hid (by rw [hy5]; exact HX4.out.set 1 _)
      have HO5:Hid (y5.ownsRow (w.heap.size + 3) 109 4 (.slice ea k ec) k (ecells es)):=hid (by rw [hy5]; exact own_setx HO4.out (fun j hj=>by have:=HOL.out j hj; omega) 1 _)
      have HC3:=hid (qdigest_is hq3 HY5.out.rd (by omega))
      rw [hy5] at HC3
      have HE5:=hid hy5
      clear hy5 hq3 HY4 HX4 HO4
      go_wp2_with fail
      (with_reducible refine (HC3.out).mono ?_)
      rintro e y6 ⟨rfl,hr,hg⟩
      rw [<-HE5.out] at hg
      have HY6:=hid (HY5.out.call hr.out hg.out)
      have HX6:=hid (HX5.out.grow1 hg.out (by omega))
      have HO6:=hid (own_kept HO5.out hg.out (by omega))
      clear hr hg HC3 HE5 HY5 HX5 HO5 x0 x1 x2 x3 fx0 fx1 fx2 fx3
      obtain ⟨x0,x1,x2,x3⟩:=BK.c4 (show BK _ #[.string ⟨nm.toArray⟩,.bool (dn == 1),.int .u64 0,.int .u64 0] _ _ from HX6.out)
      obtain ⟨fx0,fx1,fx2,fx3⟩:=BK.f4 (HX6.out)
      obtain ⟨y7,hy7⟩:∃ y7,y7=(y6.setCell ⟨wr.heap.size,2,none⟩ (.int .u64 d1')).setCell ⟨wr.heap.size,3,none⟩ (.int .u64 d2'):=⟨_,rfl⟩
      have HY7:Hid (KS w #[.int .i64 2,.string ⟨#[]⟩,.slice ea k ec,.int .u64 0,.int .u64 0,.slice none 0 0,.string ⟨#[]⟩,.int .i64 0,.string ⟨#[]⟩] (l3,bd3) y7):=hid (by rw [hy7]; exact (HY6.out.setx hwr 2 _).setx hwr 3 _)
      have HX7:Hid (BK wr.heap.size #[.string ⟨nm.toArray⟩,.bool (dn == 1),.int .u64 d1',.int .u64 d2'] 109 y7):=hid (by rw [hy7]; exact (HX6.out.set 2 _).set 3 _)
      have HO7:Hid (y7.ownsRow (w.heap.size + 3) 109 4 (.slice ea k ec) k (ecells es)):=hid (by rw [hy7]; exact own_setx (own_setx HO6.out (fun j hj=>by have:=HOL.out j hj; omega) 2 _) (fun j hj=>by have:=HOL.out j hj; omega) 3 _)
      have hrun0:=HO7.out
      rw [HK.out] at hrun0
      obtain ⟨v',z,hrun,hown,hgr⟩:=append_ent hrun0 nm (dn == 1) d1' d2' (by have:=HK.out; omega) HY7.out.lt
      have hsz7:y7.heap.size=y6.heap.size:=by rw [hy7]; simp
      have HZ:Hid (KS w #[.int .i64 2,.string ⟨#[]⟩,.slice ea k ec,.int .u64 0,.int .u64 0,.slice none 0 0,.string ⟨#[]⟩,.int .i64 0,.string ⟨#[]⟩] (l3,bd3) z):=hid ((HY7.out.alloc _).grow hgr (fun j hj=>(hrun0.lt j hj).1))
      obtain ⟨a2,c2,rfl,_⟩:=ownsRow_sliceN hown
      have HK2:Hid (k + 1=(es ++ [(⟨nm,dn == 1,(d1',d2')⟩:Ent)]).length):=hid (by rw [List.length_append,HK.out]; rfl)
      rw [<-HK2.out] at hrun hown
      rw [<-HK.out,hsz7,hy7] at hrun
      have HRUN:=hid hrun
      have HOZ:=hid hown
      have HOF:Hid ((z.setCell ⟨w.heap.size + 2,2,none⟩ (.slice a2 (k + 1) c2)).ownsRow (w.heap.size + 3) 109 4 (.slice a2 (k + 1) c2) (k + 1) (ecells (es ++ [(⟨nm,dn == 1,(d1',d2')⟩:Ent)]))):=hid (own_kept hown (gset _ _ _ _) (by omega))
      have HSF:Hid (KS w #[.int .i64 2,.string ⟨#[]⟩,.slice a2 (k + 1) c2,.int .u64 0,.int .u64 0,.slice none 0 0,.string ⟨#[]⟩,.int .i64 0,.string ⟨#[]⟩] (l3,bd3) (z.setCell ⟨w.heap.size + 2,2,none⟩ (.slice a2 (k + 1) c2))):=hid (HZ.out.set 2 _)
      obtain ⟨p0,p1,p2,p3,p4,p5,p6,p7,p8⟩:=BK.c9 (show BK _ #[.int .i64 2,.string ⟨#[]⟩,.slice ea k ec,.int .u64 0,.int .u64 0,.slice none 0 0,.string ⟨#[]⟩,.int .i64 0,.string ⟨#[]⟩] _ _ from HY6.out.obj)
      obtain ⟨fp0,fp1,fp2,fp3,fp4,fp5,fp6,fp7,fp8⟩:=BK.f9 (HY6.out.obj)
      obtain ⟨s0,s1,s2,s3,s4,s5,s6,s7,s8⟩:=BK.c9 (show BK _ #[.int .i64 2,.string ⟨#[]⟩,.slice ea k ec,.int .u64 0,.int .u64 0,.slice none 0 0,.string ⟨#[]⟩,.int .i64 0,.string ⟨#[]⟩] _ _ from HZ.out.obj)
      obtain ⟨fs0,fs1,fs2,fs3,fs4,fs5,fs6,fs7,fs8⟩:=BK.f9 (HZ.out.obj)
      have hne1:wr.heap.size ≠ w.heap.size + 2:=by omega
      have hne2:w.heap.size + 2 ≠ wr.heap.size:=by omega
      clear hrun hown hgr hrun0 hsz7 hy7 HY6 HX6 HO6 HY7 HX7 HO7 HZ HOZ HOL
      go_wp2_with (at_builtin; refine Lib.wpList_append_run _ rfl _ _ _ _ rfl _ _ rfl rfl _ _ HRUN.out ?_)
      go_roundw
      case rel=>exact ⟨m',k + 1,_,l3,bd3,a2,c2,by go_num,by omega,by omega,HK2,HBD3,HSF,HOF,HL2⟩
      case measure=>simp [intOf] <;> omega
  ·have k2:(kd == 2)=false:=by simpa using h2
   by_cases h3:kd=3
   ·subst h3
    obtain ⟨t1,t2,r2,hq⟩:∃ t1 t2 r2,qDig r1=((t1,t2),r2):=⟨_,_,_,rfl⟩
    have hl2:=(qDig_len r1).1
    obtain ⟨n,r3,hq2⟩:∃ n r3,qNum r2=(n,r3):=⟨_,_,rfl⟩
    have hl3:=qNum_len r2
    have hn0:=(qNum_range r2).1
    have HRO2:Hid ((OB,q)=(⟨3,[],[],(t1,t2),(rList qDig n.toNat r3).1,(qStr (rList qDig n.toNat r3).2).1,(qNum (qStr (rList qDig n.toNat r3).2).2).1,(qStr (qNum (qStr (rList qDig n.toNat r3).2).2).2).1⟩,(qStr (qNum (qStr (rList qDig n.toNat r3).2).2).2).2)):=hid (by
     have:=HRO.out
     rw [if_neg (by decide),if_pos rfl] at this
     unfold qC qMany at this
     rw [hq] at this
     simp only at this
     rw [hq2] at this
     exact this)
    have HN2:=hid (qdigest_is hq HS2.out.rd (by omega))
    rw [hq] at hl2
    rw [hq2] at hl3 hn0
    obtain ⟨N,rfl⟩:∃ N:Nat,n=(N:Int):=⟨n.toNat,by simp only at hn0; omega⟩
    rw [Int.toNat_natCast] at HRO2
    obtain ⟨RL,hRL⟩:∃ RL,RL=rList qDig N r3:=⟨_,rfl⟩
    rw [<-hRL] at HRO2
    obtain ⟨l3,bd3⟩:=r3
    have HLR:Hid (LR qDig RL N [] (l3,bd3)):=hid (by rw [hRL]; exact LR.start _ _ _)
    simp only at hl2 hl3
    have hl32:l3.length<=1000000:=by omega
    clear hq HRO hRL hn0
    obtain ⟨p0,p1,p2,p3,p4,p5,p6,p7,p8⟩:=BK.c9 (show BK _ #[.int .i64 3,.string ⟨#[]⟩,.slice none 0 0,.int .u64 0,.int .u64 0,.slice none 0 0,.string ⟨#[]⟩,.int .i64 0,.string ⟨#[]⟩] _ _ from HS2.out.obj)
    obtain ⟨fp0,fp1,fp2,fp3,fp4,fp5,fp6,fp7,fp8⟩:=BK.f9 (HS2.out.obj)
    go_wp2_with fail
    (with_reducible refine (HN2.out).mono ?_)
    rintro e x3 ⟨rfl,hr,hg⟩
    have HS3:=hid (HS2.out.call hr.out hg.out)
    clear hr hg HS2 HN2 p0 p1 p2 p3 p4 p5 p6 p7 p8 fp0 fp1 fp2 fp3 fp4 fp5 fp6 fp7 fp8
    obtain ⟨p0,p1,p2,p3,p4,p5,p6,p7,p8⟩:=BK.c9 (show BK _ #[.int .i64 3,.string ⟨#[]⟩,.slice none 0 0,.int .u64 0,.int .u64 0,.slice none 0 0,.string ⟨#[]⟩,.int .i64 0,.string ⟨#[]⟩] _ _ from HS3.out.obj)
    obtain ⟨fp0,fp1,fp2,fp3,fp4,fp5,fp6,fp7,fp8⟩:=BK.f9 (HS3.out.obj)
    obtain ⟨x4,hx4⟩:∃ x4,x4=(x3.setCell ⟨w.heap.size + 2,3,none⟩ (.int .u64 t1)).setCell ⟨w.heap.size + 2,4,none⟩ (.int .u64 t2):=⟨_,rfl⟩
    have HS4:Hid (KS w #[.int .i64 3,.string ⟨#[]⟩,.slice none 0 0,.int .u64 t1,.int .u64 t2,.slice none 0 0,.string ⟨#[]⟩,.int .i64 0,.string ⟨#[]⟩] r2 x4):=hid (by rw [hx4]; exact (HS3.out.set 3 _).set 4 _)
    have HN3:=hid (qnumber_is hq2 HS4.out.rd (by omega))
    rw [hx4] at HN3
    have HX4:=hid hx4
    clear hx4 hq2 HS3
    go_wp2_with fail
    (with_reducible refine (HN3.out).mono ?_)
    rintro e x5 ⟨rfl,hr,hg⟩
    rw [<-HX4.out] at hg
    have HS5:=hid (HS4.out.call hr.out hg.out)
    clear hr hg HX4 HN3 HS4 p0 p1 p2 p3 p4 p5 p6 p7 p8 fp0 fp1 fp2 fp3 fp4 fp5 fp6 fp7 fp8
    go_wp2_with fail
    go_loopw [10] (fun i wr=>∃ (m k:Nat) (ps:List (Int × Int)) (l:List UInt8) (bd:Bool) (pa:Option Addr) (pc:Nat),i = .int .i64 k/\k + m=N/\k + l.length<=1000001/\Hid (k=ps.length)/\Hid (bd=false->k + l.length<=1000000)/\Hid (KS w #[.int .i64 3,.string ⟨#[]⟩,.slice none 0 0,.int .u64 t1,.int .u64 t2,.slice pa k pc,.string ⟨#[]⟩,.int .i64 0,.string ⟨#[]⟩] (l,bd) wr)/\Hid (wr.ownsRow (w.heap.size + 3) 41 2 (.slice pa k pc) k (dcells ps))/\Hid (LR qDig RL m ps (l,bd))) (fun i _=>N - (intOf i).toNat)
    case atStart=>exact ⟨N,0,[],l3,bd3,none,0,rfl,by omega,by omega,hid rfl,hid (fun _=>by omega),HS5,hid (World.ownsRow_nil _ _ _ _),HLR⟩
    case round=>
     clear HS5 HLR
     obtain ⟨m,k,ps,l,bd,pa,pc,rfl,hkm,hkl,HK,HBD,HS,HO,HL⟩:=hrel
     have hwr:=HS.out.lt
     have b1:wr.cell? ⟨w.heap.size + 1,1,none⟩=some (.bool bd):=by rw [HS.out.rd.cell]; rfl
     by_cases hm:m=0
     ·subst hm
      have d1:decide ((k:Int) < (N:Int))=false:=by simp; omega
      have d2:decide (k < N)=false:=by simp; omega
      have HSTOP:=hid (HL.out.stop (.inl rfl))
      clear HL
      have HR4:=hid (by have:=HRO2.out; rw [HSTOP.out] at this; exact this)
      obtain ⟨au,r4,hq4⟩:∃ au r4,qStr (l,bd)=(au,r4):=⟨_,_,rfl⟩
      have hl4:=(qStr_len (l,bd)).1
      rw [hq4] at HR4 hl4
      obtain ⟨ti,r5,hq5⟩:∃ ti r5,qNum r4=(ti,r5):=⟨_,_,rfl⟩
      have hl5:=qNum_len r4
      simp only at HR4 hl4
      rw [hq5] at HR4 hl5
      obtain ⟨ms,r6,hq6⟩:∃ ms r6,qStr r5=(ms,r6):=⟨_,_,rfl⟩
      simp only at HR4 hl5
      rw [hq6] at HR4
      simp only at HR4
      have HC1:=hid (qtext_is hq4 HS.out.rd (by simp only; omega))
      obtain ⟨p0,p1,p2,p3,p4,p5,p6,p7,p8⟩:=BK.c9 (show BK _ #[.int .i64 3,.string ⟨#[]⟩,.slice none 0 0,.int .u64 t1,.int .u64 t2,.slice pa k pc,.string ⟨#[]⟩,.int .i64 0,.string ⟨#[]⟩] _ _ from HS.out.obj)
      obtain ⟨fp0,fp1,fp2,fp3,fp4,fp5,fp6,fp7,fp8⟩:=BK.f9 (HS.out.obj)
      go_wp2_with fail
      (with_reducible refine (HC1.out).mono ?_)
      rintro e y1 ⟨rfl,hr,hg⟩
      have HY1:=hid (HS.out.call hr.out hg.out)
      have HO1:=hid (own_kept HO.out hg.out (by omega))
      clear hr hg HC1 hq4 p0 p1 p2 p3 p4 p5 p6 p7 p8 fp0 fp1 fp2 fp3 fp4 fp5 fp6 fp7 fp8
      obtain ⟨p0,p1,p2,p3,p4,p5,p6,p7,p8⟩:=BK.c9 (show BK _ #[.int .i64 3,.string ⟨#[]⟩,.slice none 0 0,.int .u64 t1,.int .u64 t2,.slice pa k pc,.string ⟨#[]⟩,.int .i64 0,.string ⟨#[]⟩] _ _ from HY1.out.obj)
      obtain ⟨fp0,fp1,fp2,fp3,fp4,fp5,fp6,fp7,fp8⟩:=BK.f9 (HY1.out.obj)
      obtain ⟨y2,hy2⟩:∃ y2,y2=y1.setCell ⟨w.heap.size + 2,6,none⟩ (.string ⟨au.toArray⟩):=⟨_,rfl⟩
      have HY2:Hid (KS w #[.int .i64 3,.string ⟨#[]⟩,.slice none 0 0,.int .u64 t1,.int .u64 t2,.slice pa k pc,.string ⟨au.toArray⟩,.int .i64 0,.string ⟨#[]⟩] r4 y2):=hid (by rw [hy2]; exact HY1.out.set 6 _)
      have HO2:=hid (own_kept HO1.out (gset y1 (w.heap.size + 2) 6 (.string ⟨au.toArray⟩)) (by omega))
      rw [<-hy2] at HO2
      have HC2:=hid (qnumber_is hq5 HY2.out.rd (by omega))
      rw [hy2] at HC2
      have HE2:=hid hy2
      clear hy2 hq5 HY1 HO1
      go_wp2_with fail
      (with_reducible refine (HC2.out).mono ?_)
      rintro e y3 ⟨rfl,hr,hg⟩
      rw [<-HE2.out] at hg
      have HY3:=hid (HY2.out.call hr.out hg.out)
      have HO3:=hid (own_kept HO2.out hg.out (by omega))
      clear hr hg HC2 HE2 HY2 HO2 p0 p1 p2 p3 p4 p5 p6 p7 p8 fp0 fp1 fp2 fp3 fp4 fp5 fp6 fp7 fp8
      obtain ⟨p0,p1,p2,p3,p4,p5,p6,p7,p8⟩:=BK.c9 (show BK _ #[.int .i64 3,.string ⟨#[]⟩,.slice none 0 0,.int .u64 t1,.int .u64 t2,.slice pa k pc,.string ⟨au.toArray⟩,.int .i64 0,.string ⟨#[]⟩] _ _ from HY3.out.obj)
      obtain ⟨fp0,fp1,fp2,fp3,fp4,fp5,fp6,fp7,fp8⟩:=BK.f9 (HY3.out.obj)
      obtain ⟨y4,hy4⟩:∃ y4,y4=y3.setCell ⟨w.heap.size + 2,7,none⟩ (.int .i64 ti):=⟨_,rfl⟩
      have HY4:Hid (KS w #[.int .i64 3,.string ⟨#[]⟩,.slice none 0 0,.int .u64 t1,.int .u64 t2,.slice pa k pc,.string ⟨au.toArray⟩,.int .i64 ti,.string ⟨#[]⟩] r5 y4):=hid (by rw [hy4]; exact HY3.out.set 7 _)
      have HO4:=hid (own_kept HO3.out (gset y3 (w.heap.size + 2) 7 (.int .i64 ti)) (by omega))
      rw [<-hy4] at HO4
      have HC3:=hid (qtext_is hq6 HY4.out.rd (by omega))
      rw [hy4] at HC3
      have HE4:=hid hy4
      clear hy4 hq6 HY3 HO3
      go_wp2_with fail
      (with_reducible refine (HC3.out).mono ?_)
      rintro e y5 ⟨rfl,hr,hg⟩
      rw [<-HE4.out] at hg
      have HY5:=hid (HY4.out.call hr.out hg.out)
      have HO5:=hid (own_kept HO4.out hg.out (by omega))
      clear hr hg HC3 HE4 HY4 HO4 p0 p1 p2 p3 p4 p5 p6 p7 p8 fp0 fp1 fp2 fp3 fp4 fp5 fp6 fp7 fp8
      obtain ⟨p0,p1,p2,p3,p4,p5,p6,p7,p8⟩:=BK.c9 (show BK _ #[.int .i64 3,.string ⟨#[]⟩,.slice none 0 0,.int .u64 t1,.int .u64 t2,.slice pa k pc,.string ⟨au.toArray⟩,.int .i64 ti,.string ⟨#[]⟩] _ _ from HY5.out.obj)
      obtain ⟨fp0,fp1,fp2,fp3,fp4,fp5,fp6,fp7,fp8⟩:=BK.f9 (HY5.out.obj)
      have HF:Hid (QX w OB q (y5.setCell ⟨w.heap.size + 2,8,none⟩ (.string ⟨ms.toArray⟩))):=hid (by
       obtain ⟨rfl,rfl⟩:=Prod.mk.inj HR4.out
       have h3:=own_kept HO5.out (gset y5 (w.heap.size + 2) 8 (.string ⟨ms.toArray⟩)) (by omega)
       have h4:=HY5.out.set 8 (.string ⟨ms.toArray⟩)
       rw [HK.out] at h3 h4
       exact ⟨none,0,pa,pc,h4,World.ownsRow_nil _ _ _ _,h3⟩)
      clear HY5 HO5
      go_wp2_with fail
      go_meet
      case rel=>exact HF.out
     ·have d1:decide ((k:Int) < (N:Int))=true:=by simp; omega
      have d2:decide (k < N)=true:=by simp; omega
      cases bd with
      | true=>
       have HSTOP:=hid (HL.out.stop (.inr rfl))
       clear HL
       obtain ⟨bd,hbd⟩:∃ bd,bd=true:=⟨_,rfl⟩
       rw [<-hbd] at HSTOP HS HBD
       clear hbd
       have HR4:=hid (by have:=HRO2.out; rw [HSTOP.out] at this; exact this)
       obtain ⟨au,r4,hq4⟩:∃ au r4,qStr (l,bd)=(au,r4):=⟨_,_,rfl⟩
       have hl4:=(qStr_len (l,bd)).1
       rw [hq4] at HR4 hl4
       obtain ⟨ti,r5,hq5⟩:∃ ti r5,qNum r4=(ti,r5):=⟨_,_,rfl⟩
       have hl5:=qNum_len r4
       simp only at HR4 hl4
       rw [hq5] at HR4 hl5
       obtain ⟨ms,r6,hq6⟩:∃ ms r6,qStr r5=(ms,r6):=⟨_,_,rfl⟩
       simp only at HR4 hl5
       rw [hq6] at HR4
       simp only at HR4
       have HC1:=hid (qtext_is hq4 HS.out.rd (by simp only; omega))
       obtain ⟨p0,p1,p2,p3,p4,p5,p6,p7,p8⟩:=BK.c9 (show BK _ #[.int .i64 3,.string ⟨#[]⟩,.slice none 0 0,.int .u64 t1,.int .u64 t2,.slice pa k pc,.string ⟨#[]⟩,.int .i64 0,.string ⟨#[]⟩] _ _ from HS.out.obj)
       obtain ⟨fp0,fp1,fp2,fp3,fp4,fp5,fp6,fp7,fp8⟩:=BK.f9 (HS.out.obj)
       go_wp2_with fail
       (with_reducible refine (HC1.out).mono ?_)
       rintro e y1 ⟨rfl,hr,hg⟩
       have HY1:=hid (HS.out.call hr.out hg.out)
       have HO1:=hid (own_kept HO.out hg.out (by omega))
       clear hr hg HC1 hq4 p0 p1 p2 p3 p4 p5 p6 p7 p8 fp0 fp1 fp2 fp3 fp4 fp5 fp6 fp7 fp8
       obtain ⟨p0,p1,p2,p3,p4,p5,p6,p7,p8⟩:=BK.c9 (show BK _ #[.int .i64 3,.string ⟨#[]⟩,.slice none 0 0,.int .u64 t1,.int .u64 t2,.slice pa k pc,.string ⟨#[]⟩,.int .i64 0,.string ⟨#[]⟩] _ _ from HY1.out.obj)
       obtain ⟨fp0,fp1,fp2,fp3,fp4,fp5,fp6,fp7,fp8⟩:=BK.f9 (HY1.out.obj)
       obtain ⟨y2,hy2⟩:∃ y2,y2=y1.setCell ⟨w.heap.size + 2,6,none⟩ (.string ⟨au.toArray⟩):=⟨_,rfl⟩
       have HY2:Hid (KS w #[.int .i64 3,.string ⟨#[]⟩,.slice none 0 0,.int .u64 t1,.int .u64 t2,.slice pa k pc,.string ⟨au.toArray⟩,.int .i64 0,.string ⟨#[]⟩] r4 y2):=hid (by rw [hy2]; exact HY1.out.set 6 _)
       have HO2:=hid (own_kept HO1.out (gset y1 (w.heap.size + 2) 6 (.string ⟨au.toArray⟩)) (by omega))
       rw [<-hy2] at HO2
       have HC2:=hid (qnumber_is hq5 HY2.out.rd (by omega))
       rw [hy2] at HC2
       have HE2:=hid hy2
       clear hy2 hq5 HY1 HO1
       go_wp2_with fail
       (with_reducible refine (HC2.out).mono ?_)
       rintro e y3 ⟨rfl,hr,hg⟩
       rw [<-HE2.out] at hg
       have HY3:=hid (HY2.out.call hr.out hg.out)
       have HO3:=hid (own_kept HO2.out hg.out (by omega))
       clear hr hg HC2 HE2 HY2 HO2 p0 p1 p2 p3 p4 p5 p6 p7 p8 fp0 fp1 fp2 fp3 fp4 fp5 fp6 fp7 fp8
       obtain ⟨p0,p1,p2,p3,p4,p5,p6,p7,p8⟩:=BK.c9 (show BK _ #[.int .i64 3,.string ⟨#[]⟩,.slice none 0 0,.int .u64 t1,.int .u64 t2,.slice pa k pc,.string ⟨au.toArray⟩,.int .i64 0,.string ⟨#[]⟩] _ _ from HY3.out.obj)
       obtain ⟨fp0,fp1,fp2,fp3,fp4,fp5,fp6,fp7,fp8⟩:=BK.f9 (HY3.out.obj)
       obtain ⟨y4,hy4⟩:∃ y4,y4=y3.setCell ⟨w.heap.size + 2,7,none⟩ (.int .i64 ti):=⟨_,rfl⟩
       have HY4:Hid (KS w #[.int .i64 3,.string ⟨#[]⟩,.slice none 0 0,.int .u64 t1,.int .u64 t2,.slice pa k pc,.string ⟨au.toArray⟩,.int .i64 ti,.string ⟨#[]⟩] r5 y4):=hid (by rw [hy4]; exact HY3.out.set 7 _)
       have HO4:=hid (own_kept HO3.out (gset y3 (w.heap.size + 2) 7 (.int .i64 ti)) (by omega))
       rw [<-hy4] at HO4
       have HC3:=hid (qtext_is hq6 HY4.out.rd (by omega))
       rw [hy4] at HC3
       have HE4:=hid hy4
       clear hy4 hq6 HY3 HO3
       go_wp2_with fail
       (with_reducible refine (HC3.out).mono ?_)
       rintro e y5 ⟨rfl,hr,hg⟩
       rw [<-HE4.out] at hg
       have HY5:=hid (HY4.out.call hr.out hg.out)
       have HO5:=hid (own_kept HO4.out hg.out (by omega))
       clear hr hg HC3 HE4 HY4 HO4 p0 p1 p2 p3 p4 p5 p6 p7 p8 fp0 fp1 fp2 fp3 fp4 fp5 fp6 fp7 fp8
       obtain ⟨p0,p1,p2,p3,p4,p5,p6,p7,p8⟩:=BK.c9 (show BK _ #[.int .i64 3,.string ⟨#[]⟩,.slice none 0 0,.int .u64 t1,.int .u64 t2,.slice pa k pc,.string ⟨au.toArray⟩,.int .i64 ti,.string ⟨#[]⟩] _ _ from HY5.out.obj)
       obtain ⟨fp0,fp1,fp2,fp3,fp4,fp5,fp6,fp7,fp8⟩:=BK.f9 (HY5.out.obj)
       have HF:Hid (QX w OB q (y5.setCell ⟨w.heap.size + 2,8,none⟩ (.string ⟨ms.toArray⟩))):=hid (by
        obtain ⟨rfl,rfl⟩:=Prod.mk.inj HR4.out
        have h3:=own_kept HO5.out (gset y5 (w.heap.size + 2) 8 (.string ⟨ms.toArray⟩)) (by omega)
        have h4:=HY5.out.set 8 (.string ⟨ms.toArray⟩)
        rw [HK.out] at h3 h4
        exact ⟨none,0,pa,pc,h4,World.ownsRow_nil _ _ _ _,h3⟩)
       clear HY5 HO5
       go_wp2_with fail
       go_meet
       case rel=>exact HF.out
      | false=>
       obtain ⟨m',rfl⟩:∃ m',m=m' + 1:=⟨m - 1,by omega⟩
       have hlb:=HBD.out rfl
       have HL2:=hid (HL.out.next rfl)
       have HEL:=hid (qDig_len (l,false))
       obtain ⟨d1',d2',q3,hq3⟩:∃ d1 d2 q3,qDig (l,false)=((d1,d2),q3):=⟨_,_,_,rfl⟩
       rw [hq3] at HL2 HEL
       obtain ⟨l4,bd4⟩:=q3
       simp only at HL2 HEL
       have hl4:=HEL.out.1
       have HBD4:Hid (bd4=false->k + 1 + l4.length<=1000000):=hid (fun h=>by have:=HEL.out.2 h; omega)
       have HC1:=hid (qdigest_is hq3 HS.out.drew.rd (by simp only; omega))
       have hkb:(k:Int)<=1000000:=by omega
       clear HEL HL HBD hq3
       obtain ⟨p0,p1,p2,p3,p4,p5,p6,p7,p8⟩:=BK.c9 (show BK _ #[.int .i64 3,.string ⟨#[]⟩,.slice none 0 0,.int .u64 t1,.int .u64 t2,.slice pa k pc,.string ⟨#[]⟩,.int .i64 0,.string ⟨#[]⟩] _ _ from HS.out.obj)
       obtain ⟨fp0,fp1,fp2,fp3,fp4,fp5,fp6,fp7,fp8⟩:=BK.f9 (HS.out.obj)
       go_wp2_with fail
       go_region_law
        (first
        | (refine step_append_run (by rfl) (.tmp 78) (.tmp 81) _ _ (by rfl) _ _ (by rfl) (by rfl) _ _ HRUN.out ?_)
        | (try go_simp; (with_reducible refine HC1.out.mono ?_); rintro e y ⟨rfl,hr,hg⟩; obtain ⟨a2,c2,z,HRUN,HZ,HOZ,HK2,p5y,p5z,f5z⟩:=par_step (d1:=d1') (d2:=d2') HS.out HO.out HK.out hr.out hg.out hkb; (have p5a:=fun o=>cell_a1 p5y o); clear hr hg)
        | fail)
       all_goals
        have HSF:Hid (KS w #[.int .i64 3,.string ⟨#[]⟩,.slice none 0 0,.int .u64 t1,.int .u64 t2,.slice a2 (k + 1) c2,.string ⟨#[]⟩,.int .i64 0,.string ⟨#[]⟩] (l4,bd4) (z.setCell ⟨w.heap.size + 2,5,none⟩ (.slice a2 (k + 1) c2))):=hid (HZ.out.set 5 _)
        have HOF:=hid (own_kept HOZ.out (gset z (w.heap.size + 2) 5 (.slice a2 (k + 1) c2)) (by omega))
        clear HZ HOZ HRUN p5y p5z f5z
        go_wp2_with fail
        go_roundw
        case rel=>exact ⟨m',k + 1,_,l4,bd4,a2,c2,by go_num,by omega,by omega,HK2,HBD4,HSF,HOF,HL2⟩
        case measure=>simp [intOf] <;> omega
   ·have k3:(kd == 3)=false:=by simpa using h3
    obtain ⟨nm,r2,hq⟩:∃ nm r2,qStr r1=(nm,r2):=⟨_,_,rfl⟩
    have HRO2:Hid ((OB,q)=({ obZ with kind:=kd,data:=nm },r2)):=hid (by
     have:=HRO.out
     rw [if_neg (by simpa using h2),if_neg (by simpa using h3)] at this
     rw [hq] at this
     exact this)
    have HN2:=hid (qtext_is hq HS2.out.rd (by omega))
    clear hq HRO h2 h3
    obtain ⟨p0,p1,p2,p3,p4,p5,p6,p7,p8⟩:=BK.c9 (show BK _ #[.int .i64 kd,.string ⟨#[]⟩,.slice none 0 0,.int .u64 0,.int .u64 0,.slice none 0 0,.string ⟨#[]⟩,.int .i64 0,.string ⟨#[]⟩] _ _ from HS2.out.obj)
    obtain ⟨fp0,fp1,fp2,fp3,fp4,fp5,fp6,fp7,fp8⟩:=BK.f9 (HS2.out.obj)
    go_wp2_with fail
    (with_reducible refine (HN2.out).mono ?_)
    rintro e x3 ⟨rfl,hr,hg⟩
    have HS3:=hid (HS2.out.call hr.out hg.out)
    clear hr hg HS2 HN2 p0 p1 p2 p3 p4 p5 p6 p7 p8 fp0 fp1 fp2 fp3 fp4 fp5 fp6 fp7 fp8
    obtain ⟨p0,p1,p2,p3,p4,p5,p6,p7,p8⟩:=BK.c9 (show BK _ #[.int .i64 kd,.string ⟨#[]⟩,.slice none 0 0,.int .u64 0,.int .u64 0,.slice none 0 0,.string ⟨#[]⟩,.int .i64 0,.string ⟨#[]⟩] _ _ from HS3.out.obj)
    obtain ⟨fp0,fp1,fp2,fp3,fp4,fp5,fp6,fp7,fp8⟩:=BK.f9 (HS3.out.obj)
    have HF:Hid (QX w OB q (x3.setCell ⟨w.heap.size + 2,1,none⟩ (.string ⟨nm.toArray⟩))):=hid (by
     obtain ⟨rfl,rfl⟩:=Prod.mk.inj HRO2.out
     exact ⟨none,0,none,0,HS3.out.set 1 _,World.ownsRow_nil _ _ _ _,World.ownsRow_nil _ _ _ _⟩)
    clear HS3
    go_wp2_with fail
    go_meet
    case rel=>exact HF.out
end Go.Proofs.YtijkieiihpiljaaGreat
