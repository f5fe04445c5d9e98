/- negotiate.Answer. -/
import Derived.Test.YtfdahmicigpnoaaGreatNeBx
set_option maxRecDepth 100000
set_option maxHeartbeats 16000000
open Go.Lib (hid)
namespace Go.Proofs.YtfdahmicigpnoaaGreat
open Go.RowKit Go.Shelf
set_option linter.unusedVariables false
structure AnW (w:World) (KL ML:List (Int × Int)) (m:Nat) (va:Option Addr) (vc:Nat) (out:List (Int × Int)) (W:World):Prop where
 kn:SetV w.heap.size KL W
 mt:SetV (w.heap.size + 1) ML W
 ow:W.ownsRow (w.heap.size + 2) 41 2 (.slice va m vc) m (dcells out)
 be:Below w.heap.size w W
section
variable {w:World} {KL ML:List (Int × Int)} {m:Nat} {va:Option Addr} {vc:Nat} {out:List (Int × Int)} {W:World}
theorem AnW.below {W':World} (h:AnW w KL ML m va vc out W) (hb:Below W.heap.size W W'):AnW w KL ML m va vc out W':=
 ⟨h.kn.below hb,h.mt.below hb,own_below h.ow hb,h.be.trans (hb.mono h.be.size)⟩
theorem AnW.putK (h:AnW w KL ML m va vc out W) {x y:Int} (hd:OkD (x,y)) (hn:(KL.length:Int)<=1000000000):∃ W',(Instr.mapUpdate 83 (.map (some w.heap.size)) (.agg #[.int .u64 x,.int .u64 y]) (.bool true)).run Tryz.prog W = .ok () W'/\AnW w (KL ++ [(x,y)]) ML m va vc out W'/\W.grownBy W' (some w.heap.size):=by
 obtain ⟨W',h1,h2,h3,h4⟩:=h.kn.put hd hn
 exact ⟨W',h1,⟨h2,h.mt.kept h3 (by simp),own_kept h.ow h3 (by omega),below_put h.be h3 (Nat.le_refl _)⟩,h3⟩
theorem AnW.putM (h:AnW w KL ML m va vc out W) {x y:Int} (hd:OkD (x,y)) (hn:(ML.length:Int)<=1000000000):∃ W',(Instr.mapUpdate 83 (.map (some (w.heap.size + 1))) (.agg #[.int .u64 x,.int .u64 y]) (.bool true)).run Tryz.prog W = .ok () W'/\AnW w KL (ML ++ [(x,y)]) m va vc out W'/\W.grownBy W' (some (w.heap.size + 1)):=by
 obtain ⟨W',h1,h2,h3,h4⟩:=h.mt.put hd hn
 exact ⟨W',h1,⟨h.kn.kept h3 (by simp),h2,own_kept h.ow h3 (by omega),below_put h.be h3 (by omega)⟩,h3⟩
theorem SetV.keptR {b:Nat} {l:List (Int × Int)} {W W':World} {v:Value} {n base:Nat} {xs:List Value} (h:SetV b l W) (ho:W.ownsRow base 41 2 v n xs) (hb:b < base) (hg:W.grownBy W' v.ownBlock):SetV b l W':=h.kept hg (fun e=>by have:=(ho.lt b e.symm).1; omega)
theorem AnW.push (h:AnW w KL ML m va vc out W) (hm:m=out.length) (d1 d2:Int) (hl:(m:Int)<=1000000):∃ va' vc' W',Hid ((Builtin.append_ #[24,24] 24 #[.slice va m vc,.slice (some ⟨W.heap.size,0,none⟩) 1 1]).run Tryz.prog (W.alloc (.cells #[.int .u64 d1,.int .u64 d2] 41)) = .ok (.slice va' (m + 1) vc') W')/\AnW w KL ML (m + 1) va' vc' (out ++ [(d1,d2)]) W':=by
 subst hm
 have hsz:w.heap.size + 2<=W.heap.size:=by have:=h.mt.lt; omega
 obtain ⟨v',W',hrun,hown,hgr,_⟩:=append_one h.ow d1 d2 hl hsz
 obtain ⟨va',vc',rfl,_⟩:=ownsRow_sliceN hown
 have e:(out ++ [(d1,d2)]).length=out.length + 1:=by simp
 rw [e] at hrun hown
 have hoa:=h.ow.alloc (.cells #[.int .u64 d1,.int .u64 d2] 41)
 refine ⟨va',vc',W',hid hrun,(h.kn.alloc _).keptR hoa (by omega) hgr,(h.mt.alloc _).keptR hoa (by omega) hgr,hown,?_⟩
 exact below_own (h.be.alloc h.be.size _) hoa hgr (by omega)
end
def GotAn (w:World) (l:List (Int × Int)) (e:Ending) (w':World):Prop:=GotDs w l e w'/\(l=[]->e = .returned (.slice none 0 0))
theorem answer_any (a:Option Addr) (xs:List Itm) (c:Nat) (la:Option Addr) (l:List (Int × Int)) (lc:Nat) (w:World) (hp:PoolIn w a xs c) (hA:Asc xs) (hac:AcyS xs) (hxl:(xs.length:Int)<=500) (hl:Digs w.heap.size w la l) (hok:∀ d ∈ l,OkD d) (hll:(l.length:Int)<=45) :
  Calls Tryz.prog 78 #[.slice a xs.length c,.slice la l.length lc] w (GotAn w (answS xs l)):=by
 have hmm:=@run_makeMap Tryz.prog
 have HAN:=hid (fun W q d1 d2 (hW:Below w.heap.size w W) (hk:BK q #[.int .u64 d1,.int .u64 d2] 41 W) (ho:OkD (d1,d2))=>ancestors_any a xs c (some ⟨q,0,none⟩) [(d1,d2)] 1 W (hp.below hW) hA hac (digs_one hk) (by simp; exact ho) hxl (by simp))
 have HAL:Hid (∀ d,OkD d->((ancS xs [d]).1.length:Int)<=500/\(∀ e ∈ (ancS xs [d]).1,OkD e)/\((ancS xs [d]).2=0->∀ e ∈ (ancS xs [d]).1,Kn xs e)):=hid (fun d ho=>by
  have hok:∀ e ∈ [d],OkD e:=by simp; exact ho
  by_cases h:(visS xs [d] []).2=0
  ·have hf:=vis_facts h hok
   have e:(ancS xs [d]).1=sortH (depS xs) (visS xs [d] []).1:=by unfold ancS; rw [if_neg (by simpa using h)]
   refine ⟨by rw [e,(sortH_perm _ _).length_eq]; have:=hf.le; omega,fun x hx=>hf.ok x ((sortH_perm _ _).mem_iff.1 (by rw [<-e]; exact hx)),fun _ x hx=>?_⟩
   obtain ⟨s,hs,hsx⟩:=(anc_mem h).1 hx
   rw [List.mem_singleton] at hs
   subst hs
   exact Kn.anc h hsx
  ·rw [ancS_err h]; simp)
 have HKN:Hid (∀ d,Kn xs d->(ancS xs [d]).2=0):=hid (fun d h=>anc_knE.2 (by simp; exact h))
 have HTK:=hid (fun k (h:k < l.length)=>answ_take xs h)
 have HME:=hid (fun L d (h:d ∈ L)=>answ_met xs (l:=L) h)
 have HNW:=hid (fun L d (h:d ∉ L)=>answ_new xs (l:=L) h)
 have HFIN:=hid (show answS xs (l.take l.length)=answS xs l by rw [List.take_length])
 have HL:=hid hl
 have HOK:=hid hok
 obtain ⟨n,hn⟩:∃ n,n=l.length:=⟨_,rfl⟩
 have HN:=hid hn
 rw [<-hn] at hll ⊢
 obtain ⟨w0,hw0⟩:∃ w0,w0=(w.alloc (.map #[] 0)).alloc (.map #[] 0):=⟨_,rfl⟩
 have HW0:Hid (AnW w [] [] 0 none 0 [] w0):=hid (by
  have hb:Below w.heap.size w w0:=by rw [hw0]; exact ((Below.refl _ _).alloc (Nat.le_refl _) _).alloc (by simp) _
  have h2:=SetV.made (w.alloc (.map #[] 0))
  rw [World.size_alloc] at h2
  exact ⟨by rw [hw0]; exact (SetV.made w).alloc _,by rw [hw0]; exact h2,World.ownsRow_nil _ _ _ _,hb⟩)
 have HV0:=hid hw0
 generalize xs.length=nx at HAN ⊢
 clear hw0 hn hp hA hac hxl hl hok
 go_enter Tryz.func78,Tryz.ntmps78
 go_wp2_with fail
 rw [<-HV0.out]
 clear HV0
 go_loopw [5,18] (fun v i wr=>∃ (k m:Nat) (out KL ML:List (Int × Int)) (va:Option Addr) (vc:Nat),k<=n/\i = .int .i64 k/\v = .slice va m vc/\m<=k/\Hid (m=0->va=none/\vc=0)/\Hid (m=out.length)/\Hid (out=answS xs (l.take k))/\Hid (AnW w KL ML m va vc out wr)/\Hid ((∀ d ∈ KL,Kn xs d)/\KL.length<=500 * k/\(∀ d,d ∈ ML ↔ d ∈ l.take k)/\ML.length<=k)) (fun _ i _=>n - (intOf i).toNat)
 case atStart=>exact ⟨0,0,[],[],[],none,0,by omega,rfl,rfl,by omega,hid (fun _=>⟨rfl,rfl⟩),hid rfl,hid (by simp [answS]),HW0,hid (by simp)⟩
 case round=>
  clear HW0
  obtain ⟨k,m,out,KL,ML,va,vc,hk,rfl,rfl,hmk,HNIL,HM,HOUT,HW,HF⟩:=hrel
  by_cases hkn:k < n
  ·have hki:(k:Int) < (n:Int):=by omega
   have h1:k < l.length:=by have:=HN.out; omega
   obtain ⟨b0,of0,haa,hb0,q0,q1⟩:=(HL.out.ahead HW.out.be) k h1
   have HLx:=HL
   subst haa
   have hokd:=HOK.out _ (List.getElem_mem h1)
   have HT1:=hid (HTK.out k h1)
   have HTA:Hid (l.take (k + 1)=l.take k ++ [l[k]]):=hid (List.take_succ_eq_append_getElem h1)
   rw [<-HOUT.out] at HT1
   generalize l[k]=d at q0 q1 hokd HT1 HTA
   obtain ⟨d1,d2⟩:=d
   simp only at q0 q1
   have HMET:Hid ((d1,d2) ∈ l.take k->answF xs out (d1,d2)=out):=hid (fun h=>by rw [HOUT.out]; exact HME.out _ _ h)
   have HNEW:Hid ((d1,d2) ∉ l.take k->answF xs out (d1,d2)=if (ancS xs [(d1,d2)]).2=0 then out ++ [(d1,d2)] else out):=hid (fun h=>by rw [HOUT.out]; exact HNW.out _ _ h)
   obtain ⟨v,hv⟩:∃ v,v=wr.alloc (.cells #[.int .u64 d1,.int .u64 d2] 41):=⟨_,rfl⟩
   obtain ⟨db,hdb⟩:∃ db,db=wr.heap.size:=⟨_,rfl⟩
   have hbv:Below wr.heap.size wr v:=by rw [hv]; exact (Below.refl _ _).alloc (Nat.le_refl _) _
   have HWv:=hid (HW.out.below hbv)
   have HDv:Hid (BK db #[.int .u64 d1,.int .u64 d2] 41 v):=hid (by rw [hv,hdb]; exact BK.new _ _ _)
   have hdbw:w.heap.size + 2<=db:=by have:=HW.out.mt.lt; omega
   have hlook:=HWv.out.mt.look hokd
   have hmtl:(ML.length:Int)<=1000000000:=by have:=HF.out.2.2.2; omega
   obtain ⟨u1,hup,hw1,hg1⟩:=HWv.out.putM hokd hmtl
   have HW1:=hid hw1
   have HD1:=hid (HDv.out.grow1 hg1 (by omega))
   have hlk1:=HW1.out.kn.look hokd
   rw [hv] at hlook hup
   have HV:=hid hv
   have HDB:=hid hdb
   obtain ⟨e0,e1⟩:=BK.c2 (show BK _ #[.int .u64 d1,.int .u64 d2] _ _ from HD1.out)
   rw [hdb] at e0 e1
   clear hv hbv hw1 hg1 hdb HW HLx hmtl
   cases hin:decide ((d1,d2) ∈ ML) with
   | true=>
    rw [hin] at hlook
    have hmem:(d1,d2) ∈ l.take k:=(HF.out.2.2.1 _).1 (by simpa using hin)
    have HO2:Hid (out=answS xs (l.take (k + 1))):=hid (by rw [HT1.out,HMET.out hmem])
    have HF2:Hid ((∀ d ∈ KL,Kn xs d)/\KL.length<=500 * (k + 1)/\(∀ d,d ∈ ML ↔ d ∈ l.take (k + 1))/\ML.length<=k + 1):=hid ⟨HF.out.1,by have:=HF.out.2.1; omega,fun d=>by
     rw [HF.out.2.2.1 d,HTA.out,List.mem_append,List.mem_singleton]
     exact ⟨.inl,fun h=>h.elim id (fun e=>by rw [e]; exact hmem)⟩,by have:=HF.out.2.2.2; omega⟩
    clear hin hmem HT1 HTA HMET HNEW HF HOUT hup hlk1 HW1 HD1 e0 e1
    go_wp2_with fail
    rw [<-HV.out]
    go_roundw
    case rel=>exact ⟨k + 1,m,out,KL,ML,va,vc,by omega,by go_num,rfl,by omega,HNIL,HM,HO2,HWv,HF2⟩
    case measure=>simp [intOf] <;> omega
   | false=>
    rw [hin] at hlook
    have hnm:(d1,d2) ∉ l.take k:=fun h=>by
     have:=(HF.out.2.2.1 _).2 h
     simp [this] at hin
    have HO1:Hid (answS xs (l.take (k + 1))=if (ancS xs [(d1,d2)]).2=0 then out ++ [(d1,d2)] else out):=hid (by rw [HT1.out,HNEW.out hnm])
    have HML:Hid ((∀ d,d ∈ ML ++ [(d1,d2)] ↔ d ∈ l.take (k + 1))/\(ML ++ [(d1,d2)]).length<=k + 1):=hid ⟨fun d=>by
     rw [HTA.out,List.mem_append,List.mem_append,HF.out.2.2.1 d],by have:=HF.out.2.2.2; simp; omega⟩
    have HKL:Hid ((∀ d ∈ KL,Kn xs d)/\KL.length<=500 * k):=hid ⟨HF.out.1,HF.out.2.1⟩
    clear hin hnm HT1 HTA HMET HNEW HF HOUT HWv HDv
    cases hkk:decide ((d1,d2) ∈ KL) with
    | true=>
     rw [hkk] at hlk1
     have hkn2:Kn xs (d1,d2):=HKL.out.1 _ (by simpa using hkk)
     have HO2:Hid (out ++ [(d1,d2)]=answS xs (l.take (k + 1))):=hid (by rw [HO1.out,if_pos (HKN.out _ hkn2)])
     have HF2:Hid ((∀ d ∈ KL,Kn xs d)/\KL.length<=500 * (k + 1)/\(∀ d,d ∈ ML ++ [(d1,d2)] ↔ d ∈ l.take (k + 1))/\(ML ++ [(d1,d2)]).length<=k + 1):=hid ⟨HKL.out.1,by have:=HKL.out.2; omega,HML.out⟩
     clear hkk hkn2 HO1 HML HKL
     obtain ⟨va',vc',W',HRUN,hw9⟩:=HW1.out.push HM.out d1 d2 (by omega)
     have HW9:=hid hw9
     have HM9:Hid (m + 1=(out ++ [(d1,d2)]).length):=hid (by rw [List.length_append,<-HM.out]; rfl)
     obtain ⟨e0,e1⟩:=BK.c2 (show BK _ #[.int .u64 d1,.int .u64 d2] _ _ from HD1.out)
     rw [HDB.out] at e0 e1
     clear hw9
     go_wp2_with (at_builtin; refine Lib.wpList_append_run _ rfl _ _ _ _ rfl _ _ rfl rfl _ _ HRUN.out ?_)
     go_roundw
     case rel=>exact ⟨k + 1,m + 1,out ++ [(d1,d2)],KL,ML ++ [(d1,d2)],va',vc',by omega,by go_num,rfl,by omega,hid (fun e=>by omega),HM9,HO2,HW9,HF2⟩
     case measure=>simp [intOf] <;> omega
    | false=>
     rw [hkk] at hlk1
     obtain ⟨v2,hv2⟩:∃ v2,v2=u1.alloc (.cells #[.int .u64 d1,.int .u64 d2] 41):=⟨_,rfl⟩
     have hbv:Below u1.heap.size u1 v2:=by rw [hv2]; exact (Below.refl _ _).alloc (Nat.le_refl _) _
     have HW2:=hid (HW1.out.below hbv)
     have HD2:=hid (HD1.out.below hbv)
     have HC:=hid (HAN.out v2 u1.heap.size d1 d2 HW2.out.be (by rw [hv2]; exact BK.new _ _ _) hokd)
     simp only [List.length_cons,List.length_nil,Nat.zero_add] at HC
     have HAF:=hid (HAL.out _ hokd)
     generalize ancS xs [(d1,d2)]=AR at HC HAF HO1
     obtain ⟨an,er⟩:=AR
     simp only at HC HAF HO1
     rw [hv2] at HC
     have HV2:=hid hv2
     clear hkk hbv hv2 HW1 HD1
     go_wp2_with fail
     (with_reducible refine (HC.out).mono ?_)
     rintro e u2 ⟨sa,sc,rfl,hown,hb⟩
     simp only at hown ⊢
     rw [<-HV2.out] at hown hb
     have HW3:=hid (HW2.out.below hb)
     have HD3:=hid (HD2.out.below hb)
     obtain ⟨na,hna⟩:∃ n,n=an.length:=⟨_,rfl⟩
     rw [<-hna] at hown ⊢
     have hbase:w.heap.size + 2<=v2.heap.size:=by have:=HD2.out.lt; omega
     have HS3:=hid (own_le hown hbase)
     have HNA:=hid hna
     clear hown hb HC HW2 HD2 HV2 e0 e1 hna
     by_cases he:er=0
     ·subst he
      have HO2:Hid (out ++ [(d1,d2)]=answS xs (l.take (k + 1))):=hid (by rw [HO1.out]; simp)
      have hKL:=HKL.out.2
      have hna5:(na:Int)<=500:=by have:=HAF.out.1; rw [HNA.out]; exact this
      have HI0:Hid (AnW w (KL ++ an.take 0) (ML ++ [(d1,d2)]) m va vc out u2):=hid (by simpa using HW3.out)
      clear HW3 HO1
      go_wp2_with fail
      go_loopw [42] (fun i wr=>∃ j:Nat,j<=na/\i = .int .i64 j/\Hid (AnW w (KL ++ an.take j) (ML ++ [(d1,d2)]) m va vc out wr)/\Hid (BK db #[.int .u64 d1,.int .u64 d2] 41 wr)/\Hid (wr.ownsRow (w.heap.size + 2) 41 2 (.slice sa na sc) na (dcells an))) (fun i _=>na - (intOf i).toNat)
      case atStart=>exact ⟨0,by omega,rfl,HI0,HD3,HS3⟩
      case round=>
       clear HI0 HD3 HS3
       obtain ⟨j,hj,rfl,HWj,HDj,HSj⟩:=hrel
       by_cases hjn:j < na
       ·have hji:(j:Int) < (na:Int):=by omega
        have h2:j < an.length:=by have:=HNA.out; omega
        obtain ⟨b1,of1,haa,hb1,r0,r1⟩:=(own_digs HNA.out HSj.out) j h2
        have HSx:=HSj
        subst haa
        have hoka:=HAF.out.2.1 _ (List.getElem_mem h2)
        have HT2:Hid (an.take (j + 1)=an.take j ++ [an[j]]):=hid (List.take_succ_eq_append_getElem h2)
        generalize an[j]=d at r0 r1 hoka HT2
        obtain ⟨x1,x2⟩:=d
        simp only at r0 r1
        obtain ⟨v,hv⟩:∃ v,v=wr.alloc (.cells #[.int .u64 x1,.int .u64 x2] 41):=⟨_,rfl⟩
        have hbv:Below wr.heap.size wr v:=by rw [hv]; exact (Below.refl _ _).alloc (Nat.le_refl _) _
        have HWv:=hid (HWj.out.below hbv)
        have HDv:=hid (HDj.out.below hbv)
        obtain ⟨u5,hup,hw5,hg5⟩:=HWv.out.putK hoka (by rw [List.length_append,List.length_take]; omega)
        have HW5:Hid (AnW w (KL ++ an.take (j + 1)) (ML ++ [(d1,d2)]) m va vc out u5):=hid (by rw [HT2.out,<-List.append_assoc]; exact hw5)
        have HD5:=hid (HDv.out.grow1 hg5 (by omega))
        have HS5:=hid (own_kept (own_below HSx.out hbv) hg5 (by omega))
        rw [hv] at hup
        clear hv hbv HWv HDv hw5 hg5 HWj HDj HSj HSx HT2
        go_wp2_with fail
        go_roundw
        case rel=>exact ⟨j + 1,by omega,by go_num,HW5,HD5,HS5⟩
        case measure=>simp [intOf] <;> omega
       ·have hji:¬ (j:Int) < (na:Int):=by omega
        have htk:an.take j=an:=List.take_of_length_le (by have:=HNA.out; omega)
        rw [htk] at HWj
        have HF2:Hid ((∀ d ∈ KL ++ an,Kn xs d)/\(KL ++ an).length<=500 * (k + 1)/\(∀ d,d ∈ ML ++ [(d1,d2)] ↔ d ∈ l.take (k + 1))/\(ML ++ [(d1,d2)]).length<=k + 1):=hid ⟨fun d hd=>by
         rcases List.mem_append.1 hd with h | h
         ·exact HKL.out.1 d h
         ·exact HAF.out.2.2 (by first | trivial | rfl) d h,by have:=HNA.out; rw [List.length_append]; omega,HML.out⟩
        obtain ⟨x0,hx0⟩:∃ x0,x0=wr:=⟨_,rfl⟩
        rw [<-hx0] at HWj HDj HSj ⊢
        clear hx0 htk HSj HML HKL HAF
        obtain ⟨va',vc',W',HRUN,hw9⟩:=HWj.out.push HM.out d1 d2 (by omega)
        have HW9:=hid hw9
        have HM9:Hid (m + 1=(out ++ [(d1,d2)]).length):=hid (by rw [List.length_append,<-HM.out]; rfl)
        obtain ⟨e0,e1⟩:=BK.c2 (show BK _ #[.int .u64 d1,.int .u64 d2] _ _ from HDj.out)
        rw [HDB.out] at e0 e1
        clear hw9
        go_wp2_with (at_builtin; refine Lib.wpList_append_run _ rfl _ _ _ _ rfl _ _ rfl rfl _ _ HRUN.out ?_)
        go_roundw
        case rel=>exact ⟨k + 1,m + 1,out ++ [(d1,d2)],KL ++ an,ML ++ [(d1,d2)],va',vc',by omega,by go_num,rfl,by omega,hid (fun e=>by omega),HM9,HO2,HW9,HF2⟩
        case measure=>simp [intOf] <;> omega
     ·have hee:(er != 0)=true:=by simpa using he
      have HO2:Hid (out=answS xs (l.take (k + 1))):=hid (by rw [HO1.out,if_neg he])
      have HF2:Hid ((∀ d ∈ KL,Kn xs d)/\KL.length<=500 * (k + 1)/\(∀ d,d ∈ ML ++ [(d1,d2)] ↔ d ∈ l.take (k + 1))/\(ML ++ [(d1,d2)]).length<=k + 1):=hid ⟨HKL.out.1,by have:=HKL.out.2; omega,HML.out⟩
      clear he HO1 HML HKL HAF HD3 HS3
      go_wp2_with fail
      go_roundw
      case rel=>exact ⟨k + 1,m,out,KL,ML ++ [(d1,d2)],va,vc,by omega,by go_num,rfl,by omega,HNIL,HM,HO2,HW3,HF2⟩
      case measure=>simp [intOf] <;> omega
  ·have hki:¬ (k:Int) < (n:Int):=by omega
   have hkl:k=l.length:=by have:=HN.out; omega
   have HE:Hid (out=answS xs l):=hid (by rw [HOUT.out,hkl,HFIN.out])
   clear HOUT HF hkl
   go_wp2_with fail
   go_ret
   rw [<-HE.out]
   refine ⟨⟨va,vc,by rw [<-HM.out]; rfl,by rw [<-HM.out]; exact own_le HW.out.ow (by omega),HW.out.be⟩,fun e=>?_⟩
   have hm0:m=0:=by rw [HM.out,e]; rfl
   obtain ⟨e1,e2⟩:=HNIL.out hm0
   rw [hm0,e1,e2]
   rfl
end Go.Proofs.YtfdahmicigpnoaaGreat
