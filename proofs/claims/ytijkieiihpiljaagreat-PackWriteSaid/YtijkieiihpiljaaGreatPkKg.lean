/- Packs: the reference's Pack. -/
import Derived.Test.YtijkieiihpiljaaGreatPkKf
import Derived.Test.YtijkieiihpiljaaGreatP11
import Derived.Test.YtijkieiihpiljaaGreatPkPz
import Derived.Test.YtijkieiihpiljaaGreatK8
import Derived.Test.YtijkieiihpiljaaGreatP5
set_option maxRecDepth 100000
set_option maxHeartbeats 16000000
open Go.Lib (hid)
namespace Go.Proofs.YtijkieiihpiljaaGreat
open Go.RowKit Go.Shelf
set_option linter.unusedVariables false
theorem bsE_take {xs:List Itm} {base:List Dg} (h:∀ j (hj:j < base.length),hasS xs base[j]=true):bsE xs base=0:=by
 unfold bsE
 rw [if_pos (List.all_eq_true.2 (fun x hx=>by obtain ⟨j,hj,rfl⟩:=List.getElem_of_mem hx; exact h j hj))]
theorem bsE_miss {xs:List Itm} {base:List Dg} {j:Nat} (hj:j < base.length) (h:hasS xs base[j]=false):bsE xs base=8:=by
 unfold bsE
 rw [if_neg (fun e=>by have:=List.all_eq_true.1 e _ (List.getElem_mem hj); rw [h] at this; cases this)]
def packT (xs:List Itm) (l base:List Dg) (k:Nat):List UInt8:=Cw.enc l.length ++ (List.range k).flatMap (entI xs l base)
theorem packT_next (xs:List Itm) (l base:List Dg) (k:Nat):packT xs l base (k + 1)=packT xs l base k ++ entI xs l base k:=by
 unfold packT
 rw [List.range_succ,List.flatMap_append,List.append_assoc]
 simp
theorem ent_len {xs:List Itm} (hd:∀ d,(datD xs d).length<=1000) (l base:List Dg) (i:Nat):(entI xs l base i).length<=1027:=by
 unfold entI
 obtain ⟨m,hm,h⟩:=entB_len xs (l.getD i (0,0)) (base ++ l.take i)
 rw [h]
 have h3:=putX_len (hd (l.getD i (0,0)))
 split <;> omega
theorem packT_len {xs:List Itm} (hd:∀ d,(datD xs d).length<=1000) (l base:List Dg) (k:Nat):(packT xs l base k).length<=10 + k * 1027:=by
 unfold packT
 rw [List.length_append]
 have h1:=enc_length l.length
 have h2:=flat_bound (ent_len hd l base) (List.range k)
 rw [List.length_range] at h2
 omega
theorem rpackw_any {xs:List Itm} {l base:List Dg} {a la ba:Option Addr} {c lc bc:Nat} {w:World} (hp:PkPool xs c) (hi:Its w.heap.size w a xs) (hl:Digs w.heap.size w la l) (hb:Digs w.heap.size w ba base) (hok:∀ d ∈ l,OkD d) (hob:∀ d ∈ base,OkD d) (hll:l.length<=1000) (hlc:l.length<=lc) (hbl:(base.length:Int)<=100000) :
  Calls Tryz.prog 13 #[.slice a xs.length c,.slice la l.length lc,.slice ba base.length bc] w fun e w'=>e = .returned (.tuple #[.string ⟨(packS xs l base).1.toArray⟩,.int .i64 (packS xs l base).2])/\Below w.heap.size w w':=by
 have hdat:=datD_le hp.dat
 have hnx:=hp.len
 have HHA:=hid (fun x y W (hW:Below w.heap.size w W)=>rhas_any a xs c x y W (hi.ahead hW) hp.asc (by have:=hp.len; omega))
 have HEN:=hid (fun x y ca cs cc W (hW:Below w.heap.size w W) (hc:Digs W.heap.size W ca cs) (h1:OkD (x,y)) (h2:∀ d ∈ cs,OkD d) (h3:(List.length cs:Int)<=1000000)=>rentryw_any a xs c x y ca cs cc W (hi.ahead hW) (by have:=hp.len; omega) hdat hc h1 h2 h3)
 have HL:=hid (fun W (hW:Below w.heap.size w W)=>hl.ahead hW)
 have HBS:=hid (fun W (hW:Below w.heap.size w W)=>hb.ahead hW)
 have HOK:=hid hok
 have HOB:=hid hob
 have HDA:=hid hdat
 have HBP:=hid (Below.refl w.heap.size w)
 obtain ⟨P,hP⟩:∃ P,P=packS xs l base:=⟨_,rfl⟩
 rw [<-hP]
 have HERR:Hid (packE xs l base ≠ 0->P=([],packE xs l base)):=hid (fun h=>by rw [hP]; unfold packS; rw [if_pos h])
 have HOKP:Hid (packE xs l base=0->P=(sealS (packT xs l base l.length),0)):=hid (fun h=>by rw [hP]; exact pack_ok h)
 have HPE:Hid (packE xs l base=if pkE xs l [] ≠ 0 then pkE xs l [] else bsE xs base):=hid (by unfold packE; rw [if_neg (by omega)])
 obtain ⟨n,hn⟩:∃ n,n=xs.length:=⟨_,rfl⟩
 obtain ⟨m,hm⟩:∃ n,n=l.length:=⟨_,rfl⟩
 obtain ⟨nb,hnb⟩:∃ n,n=base.length:=⟨_,rfl⟩
 rw [<-hn] at HHA HEN ⊢
 rw [<-hm] at hll hlc HOKP ⊢
 rw [<-hnb] at hbl ⊢
 have HM:=hid hm
 have HNB:=hid hnb
 have hmi:¬ (1000:Int) < (m:Int):=by omega
 have hmb:(m:Int)<=1000:=by omega
 have HPK0:Hid (pkE xs (l.drop 0) (l.take 0)=pkE xs l []):=hid (by rw [List.drop_zero,List.take_zero])
 clear hp hi hl hb hok hob hdat hnx hP hn hm hnb hll
 go_enter Tryz.func13,Tryz.ntmps13
 go_wp2_with fail
 go_loopw [8] (fun i wr=>∃ k:Nat,k<=m/\i = .int .i64 (k:Int)/\Hid (pkE xs (l.drop k) (l.take k)=pkE xs l [])/\Hid (Below w.heap.size w wr)) (fun i _=>m - (intOf i).toNat)
 case atStart=>exact ⟨0,by omega,rfl,HPK0,HBP⟩
 case round=>
  clear HPK0 HBP
  obtain ⟨k,hk,rfl,HPK,HB⟩:=hrel
  by_cases hlt:k < m
  ·have hki:(k:Int) < (m:Int):=by omega
   have hkl:k < l.length:=by rw [<-HM.out]; exact hlt
   have hpk:=HPK.out
   rw [pkE_at hkl] at hpk
   obtain ⟨lb,lo,hla,hlb,c0,c1⟩:=HL.out wr HB.out k hkl
   have HLC:Hid (∀ W,Below wr.heap.size wr W->W.cell? ⟨lb,lo + k * 2,none⟩=some (.int .u64 l[k].1)/\W.cell? ⟨lb,lo + k * 2 + 1,none⟩=some (.int .u64 l[k].2)):=hid (fun W hW=>⟨(hW.cell (p:=⟨lb,lo + k * 2,none⟩) hlb).trans c0,(hW.cell (p:=⟨lb,lo + k * 2 + 1,none⟩) hlb).trans c1⟩)
   generalize l[k]=d at hpk c0 c1 HLC
   obtain ⟨d1,d2⟩:=d
   simp only at c0 c1 HLC
   have HC:=HHA.out d1 d2 wr HB.out
   obtain ⟨h,hh⟩:∃ h,h=hasS xs (d1,d2):=⟨_,rfl⟩
   rw [<-hh] at HC hpk
   have HC:=hid HC
   have hklc:k<=lc:=by omega
   obtain ⟨L1,c1',hL1,hs1⟩:=dslice_hi la m lc k hklc
   have HL1:=hid hL1
   rw [hla] at hs1 ⊢
   cases h with
   | false=>
    have HE:Hid (P=([],8)):=hid (by
     rw [if_pos rfl] at hpk
     have h1:=HPE.out
     rw [<-hpk,if_pos (by decide)] at h1
     have h2:=HERR.out (by rw [h1]; decide)
     rw [h1] at h2
     exact h2)
    clear hpk hh HEN HHA HL1 hs1
    go_wp2_with fail
    (with_reducible refine (HC.out).mono ?_)
    rintro e u ⟨rfl,hb⟩
    have HB2:=hid (HB.out.trans (hb.mono HB.out.size))
    clear hb HC
    go_wp2_with fail
    go_ret2
    rw [HE.out]
    exact ⟨rfl,HB2.out⟩
   | true=>
    rw [if_neg (by decide)] at hpk
    have HTL:Hid ((l.take k).length=k):=hid (by rw [List.length_take]; omega)
    have HIN:=hid (fun W (hW:Below w.heap.size w W)=>(show Calls Tryz.prog 28 #[.slice L1 k c1',.agg #[.int .u64 d1,.int .u64 d2]] W (fun e w'=>e = .returned (.bool (decide ((d1,d2) ∈ l.take k)))/\Below W.heap.size W w') from by
     have h:=rin_any L1 (l.take k) c1' d1 d2 W (HL1.out _ _ _ (HL.out W hW)) (by rw [HTL.out]; omega)
     rwa [HTL.out] at h))
    obtain ⟨mb,hmbq⟩:∃ mb,mb=decide ((d1,d2) ∈ l.take k):=⟨_,rfl⟩
    rw [<-hmbq] at HIN
    have HMQ:=hid hmbq
    have HPK2:=hid hpk
    clear hpk hh hmbq HEN HL1 HPK
    go_wp2_with fail
    clear c0 c1
    (with_reducible refine (HC.out).mono ?_)
    rintro e u ⟨rfl,hb⟩
    have HB2:=hid (HB.out.trans (hb.mono HB.out.size))
    have hcu:=HLC.out u hb
    have HCU:=hid (fun W (hW:Below u.heap.size u W)=>HLC.out W (hb.trans (hW.mono hb.size)))
    clear hb HC
    go_wp2_with fail
    refine wp_region_held_drew (S:=(fun W=>W.cell? ⟨lb,lo + k * 2,none⟩=some (.int .u64 d1)/\W.cell? ⟨lb,lo + k * 2 + 1,none⟩=some (.int .u64 d2))) (by kernel_rfl) hcu (fun hHeld=>?_)
    refine wpAnyH_take (i:=0) (v:=?vv183) rfl (by kernel_rfl) (by kernel_rfl) (by kernel_rfl) (fun _ _ _ h=>h) (Or.inl ⟨by rfl,?hy183⟩) (by assumption) ?rest183
    case hy183=>(intro wx hSw; (try dsimp only at hSw); go_simp; try (with_reducible rfl))
    simp only [Act.put,zA,zC,zD,zE,zF]
    refine wpAnyH_take (i:=1) (v:=?vv184) rfl (by kernel_rfl) (by kernel_rfl) (by kernel_rfl) (fun _ _ _ h=>h) (Or.inl ⟨by rfl,?hy184⟩) (by assumption) ?rest184
    case hy184=>(intro wx hSw; (try dsimp only at hSw); go_simp; try (with_reducible rfl))
    simp only [Act.put,zA,zB,zC,zD,zE,zF]
    refine wpAnyH_take (i:=2) (v:=?vv185) rfl (by kernel_rfl) (by kernel_rfl) (by kernel_rfl) (fun _ _ _ h=>h) (Or.inl ⟨by rfl,?hy185⟩) (by assumption) ?rest185
    case hy185=>(intro wx hSw; (try dsimp only at hSw); go_simp; try (with_reducible rfl))
    simp only [Act.put,zA,zB,zC,zD,zE,zF]
    refine wpAnyH_take (i:=3) (v:=?vv186) rfl (by kernel_rfl) (by kernel_rfl) (by kernel_rfl) (fun _ _ _ h=>h) (Or.inl ⟨by rfl,?hy186⟩) (by assumption) ?rest186
    case hy186=>(intro wx hSw; (try dsimp only at hSw); go_simp; try (with_reducible rfl))
    simp only [Act.put,zA,zB,zC,zD,zE,zF]
    refine wpAnyH_take (i:=4) (v:=?vv187) rfl (by kernel_rfl) (by kernel_rfl) (by kernel_rfl) (fun _ _ _ h=>h) (Or.inl ⟨by rfl,?hy187⟩) (by assumption) ?rest187
    case hy187=>(intro wx hSw; (try dsimp only at hSw); go_simp; try (with_reducible rfl))
    simp only [Act.put,zA,zB,zC,zD,zE,zF]
    refine wpAnyH_take (i:=5) (v:=?vv188) rfl (by kernel_rfl) (by kernel_rfl) (by kernel_rfl) (fun _ _ _ h=>h) (Or.inl ⟨by rfl,?hy188⟩) (by assumption) ?rest188
    case hy188=>(intro wx hSw; (try dsimp only at hSw); go_simp; try (with_reducible rfl))
    simp only [Act.put,zA,zB,zC,zD,zE,zF]
    refine wpAnyH_take (i:=6) (v:=?vv189) rfl (by kernel_rfl) (by kernel_rfl) (by kernel_rfl) (fun _ _ _ h=>h) (Or.inl ⟨by rfl,?hy189⟩) (by assumption) ?rest189
    case hy189=>(intro wx hSw; (try dsimp only at hSw); go_simp; try (with_reducible rfl))
    simp only [Act.put,zA,zB,zC,zD,zE,zF]
    refine wpAnyH_ready (rs:=[7]) (by kernel_rfl) (by simp) ?_
    refine AllReadyH.cons rfl (fun K hK=>?_) AllReadyH.nil
    go_simp
    (with_reducible refine (HIN.out _ HB2.out.drew).mono ?_)
    rintro e u2 ⟨rfl,hb⟩
    have HB3:=hid (HB2.out.trans (((Below.refl _ u).drew.trans (hb.mono (Nat.le_refl _))).mono HB2.out.size))
    refine hK.out _ _ (HCU.out _ ((Below.refl _ u).drew.trans (hb.mono (Nat.le_refl _)))) (fun hHeld=>?_)
    clear hK K
    refine wpAnyH_done (by kernel_rfl) ?_ _
    clear hb hcu HCU HIN HLC
    cases mb with
    | true=>
     have HE:Hid (P=([],7)):=hid (by
      have h0:=HPK2.out
      rw [if_pos (of_decide_eq_true HMQ.out.symm)] at h0
      have h1:=HPE.out
      rw [<-h0,if_pos (by decide)] at h1
      have h2:=HERR.out (by rw [h1]; decide)
      rw [h1] at h2
      exact h2)
     clear HPK2 HMQ
     go_wp2_with fail
     go_ret2
     rw [HE.out]
     exact ⟨rfl,HB3.out⟩
    | false=>
     have HPK3:Hid (pkE xs (l.drop (k + 1)) (l.take (k + 1))=pkE xs l []):=hid (by
      have h0:=HPK2.out
      rwa [if_neg (of_decide_eq_false HMQ.out.symm)] at h0)
     clear HPK2 HMQ hs1
     go_wp2_with fail
     go_roundw
     case rel=>exact ⟨k + 1,by omega,by go_num,HPK3,HB3⟩
     case measure=>simp [intOf] <;> omega
  ·obtain rfl:k=m:=by omega
   have hki:¬ (k:Int) < (k:Int):=by omega
   have HPZ:Hid (packE xs l base=bsE xs base):=hid (by
    have h0:=HPK.out
    rw [List.drop_of_length_le (by rw [<-HM.out]; exact Nat.le_refl _),pkE] at h0
    rw [HPE.out,<-h0]
    rfl)
   have HA0:Hid (∀ j (h:j < base.length),j < 0->hasS xs base[j]=true):=hid (fun j _ h=>by omega)
   have HBQ:=HB
   clear HPK
   go_wp2_with fail
   go_loopw [9] (fun i W'=>∃ j:Nat,j<=nb/\i = .int .i64 (j:Int)/\Hid (∀ i (h:i < base.length),i < j->hasS xs base[i]=true)/\Hid (Below w.heap.size w W')) (fun i _=>nb - (intOf i).toNat)
   case atStart=>exact ⟨0,by omega,rfl,HA0,HBQ⟩
   case round=>
    clear HA0 HBQ HB
    obtain ⟨j,hj,rfl,HA,HB⟩:=hrel
    by_cases hlt:j < nb
    ·have hji:(j:Int) < (nb:Int):=by omega
     have hjl:j < base.length:=by rw [<-HNB.out]; exact hlt
     obtain ⟨lb,lo,hba,hlb,c0,c1⟩:=HBS.out wr HB.out j hjl
     have HHT:Hid (hasS xs base[j]=true->∀ i (h:i < base.length),i < j + 1->hasS xs base[i]=true):=hid (fun h i hi hij=>by
      by_cases e:i=j
      ·subst e; exact h
      ·exact HA.out i hi (by omega))
     have HHF:Hid (hasS xs base[j]=false->P=([],8)):=hid (fun h=>by
      have h1:=HPZ.out
      rw [bsE_miss hjl h] at h1
      have h2:=HERR.out (by rw [h1]; decide)
      rw [h1] at h2
      exact h2)
     generalize base[j]=d at c0 c1 HHT HHF
     obtain ⟨d1,d2⟩:=d
     simp only at c0 c1
     have HC:=HHA.out d1 d2 wr HB.out
     obtain ⟨h,hh⟩:∃ h,h=hasS xs (d1,d2):=⟨_,rfl⟩
     rw [<-hh] at HC HHT HHF
     have HC:=hid HC
     rw [hba]
     clear hh hjl
     cases h with
     | false=>
      have HE:=hid (HHF.out rfl)
      clear HHT HHF HEN HHA
      go_wp2_with fail
      (with_reducible refine (HC.out).mono ?_)
      rintro e u ⟨rfl,hb⟩
      have HB2:=hid (HB.out.trans (hb.mono HB.out.size))
      clear hb HC
      go_wp2_with fail
      go_ret2
      rw [HE.out]
      exact ⟨rfl,HB2.out⟩
     | true=>
      have HA2:=hid (HHT.out rfl)
      clear HHT HHF
      go_wp2_with fail
      (with_reducible refine (HC.out).mono ?_)
      rintro e u ⟨rfl,hb⟩
      have HB2:=hid (HB.out.trans (hb.mono HB.out.size))
      clear hb HC c0 c1
      go_wp2_with fail
      go_roundw
      case rel=>exact ⟨j + 1,by omega,by go_num,HA2,HB2⟩
      case measure=>simp [intOf] <;> omega
    ·obtain rfl:j=nb:=by omega
     have hji:¬ (j:Int) < (j:Int):=by omega
     have HEQ:Hid (P=(sealS (packT xs l base k),0)):=hid (HOKP.out (by rw [HPZ.out]; exact bsE_take (fun i hi=>HA.out i hi (by rw [HNB.out]; exact hi))))
     have HNU:=hid (rnumw_any k (by omega))
     have hT0:Cw.enc k=packT xs l base 0:=by unfold packT; rw [<-HM.out]; simp
     rw [hT0] at HNU
     have HTLN:=hid (fun i=>packT_len HDA.out l base i)
     have HNU:=hid (HNU.out wr)
     clear hT0 HPZ HA HERR HOKP HPE HHA
     have HOB2:Hid (∀ d ∈ base,OkD d):=HOB
     go_wp2_with fail
     (with_reducible refine (HNU.out).mono ?_)
     rintro e u ⟨rfl,hb⟩
     have HB2:=hid (HB.out.trans (hb.mono HB.out.size))
     obtain ⟨w4,hw4⟩:∃ w4,w4=u.alloc (.cells #[] 41):=⟨_,rfl⟩
     have hb4:Below u.heap.size u w4:=by rw [hw4]; exact (Below.refl _ _).alloc (Nat.le_refl _) _
     have hoe:w4.ownsRow u.heap.size 41 2 (.slice (some ⟨u.heap.size,0,none⟩) 0 0) 0 []:=by rw [hw4]; exact World.ownsRow_made (size:=2) u #[] 0 (Nat.le_refl _) (by decide) rfl
     obtain ⟨v1,W5,hr1,hown1,hg1,_⟩:=append_digs w4 u.heap.size 24 _ [] hoe ba base bc (HBS.out _ (HB2.out.trans (hb4.mono HB2.out.size))) (by rw [<-HNB.out]; simp; omega) hb4.size
     have HB5:=hid (below_own hb4 hoe hg1 (Nat.le_refl _))
     rw [<-HNB.out,hw4] at hr1
     rw [List.nil_append,<-HNB.out] at hown1
     have HO0:Hid (W5.ownsRow u.heap.size 41 2 v1 (j + 0) (dcells (base ++ l.take 0))):=hid (by rw [List.take_zero,List.append_nil,Nat.add_zero]; exact hown1)
     have HR1:=hid hr1
     clear hb hw4 hb4 hoe hown1 hg1 hr1 HNU HB
     go_wp2_with (at_builtin; refine Lib.wpList_append_run _ rfl _ _ _ _ rfl _ _ rfl rfl _ _ HR1.out ?_)
     go_loopw [10,11,12] (fun o cv i W'=>∃ (p:Nat) (PT:List UInt8),p<=k/\i = .int .i64 (p:Int)/\o = .string ⟨PT.toArray⟩/\Hid (PT=packT xs l base p)/\Hid (W'.ownsRow u.heap.size 41 2 cv (j + p) (dcells (base ++ l.take p)))/\Hid (Below u.heap.size u W')) (fun _ _ i _=>k - (intOf i).toNat)
     case atStart=>exact ⟨0,_,by omega,rfl,rfl,hid rfl,HO0,HB5⟩
     case round=>
      clear HO0 HB5
      obtain ⟨p,PT,hp,rfl,rfl,HPT,HO,HB⟩:=hrel
      obtain ⟨np,hnp⟩:∃ np,np=j + p:=⟨_,rfl⟩
      rw [<-hnp] at HO
      obtain ⟨va,vc,rfl,hvc⟩:=ownsRow_sliceN HO.out
      have HBW:=hid (HB2.out.trans (HB.out.mono HB2.out.size))
      have HNP:=hid hnp
      have hnpb:(np:Int)<=200000:=by omega
      by_cases hlt:p < k
      ·have hpi:(p:Int) < (k:Int):=by omega
       have hpl:p < l.length:=by rw [<-HM.out]; exact hlt
       obtain ⟨lb,lo,hla,hlb,c0,c1⟩:=HL.out wr HBW.out p hpl
       have HLC:Hid (∀ W,Below wr.heap.size wr W->W.cell? ⟨lb,lo + p * 2,none⟩=some (.int .u64 l[p].1)/\W.cell? ⟨lb,lo + p * 2 + 1,none⟩=some (.int .u64 l[p].2)):=hid (fun W hW=>⟨(hW.cell (p:=⟨lb,lo + p * 2,none⟩) hlb).trans c0,(hW.cell (p:=⟨lb,lo + p * 2 + 1,none⟩) hlb).trans c1⟩)
       have hkl:np=(base ++ l.take p).length:=by rw [List.length_append,List.length_take,HNP.out,HNB.out]; omega
       have hee:entI xs l base p=entB xs l[p] (chosen xs l[p] (base ++ l.take p)):=by
        unfold entI
        rw [List.getD_eq_getElem?_getD,List.getElem?_eq_getElem hpl]; rfl
       have hnx:=packT_next xs l base p
       have HTK:Hid (base ++ l.take p ++ [l[p]]=base ++ l.take (p + 1)):=hid (by rw [List.take_succ_eq_append_getElem hpl,List.append_assoc])
       have hokd:=HOK.out _ (List.getElem_mem hpl)
       have hokc:∀ x ∈ base ++ l.take p,OkD x:=fun x hx=>(List.mem_append.1 hx).elim (HOB2.out x) (fun h=>HOK.out x (List.mem_of_mem_take h))
       rw [hee] at hnx
       generalize l[p]=d at c0 c1 HLC hnx HTK hokd
       obtain ⟨d1,d2⟩:=d
       simp only at c0 c1 HLC
       have hec:=HEN.out d1 d2 va (base ++ l.take p) vc wr HBW.out (own_digs hkl HO.out) hokd hokc (by rw [<-hkl]; omega)
       rw [<-hkl] at hec
       have hel:(entB xs (d1,d2) (chosen xs (d1,d2) (base ++ l.take p))).length<=1027:=by
        obtain ⟨m',_,h⟩:=entB_len xs (d1,d2) (base ++ l.take p)
        rw [h]
        have:=putX_len (HDA.out (d1,d2))
        split <;> omega
       obtain ⟨EB,hEB⟩:∃ EB,EB=entB xs (d1,d2) (chosen xs (d1,d2) (base ++ l.take p)):=⟨_,rfl⟩
       rw [<-hEB] at hec hnx hel
       have hPl:=HTLN.out p
       rw [<-HPT.out] at hnx hPl
       have hadd:=saddK PT EB (by omega)
       obtain ⟨PN,hPN⟩:∃ PN,PN=PT ++ EB:=⟨_,rfl⟩
       rw [<-hPN] at hadd hnx
       have HPN:Hid (PN=packT xs l base (p + 1)):=hid hnx.symm
       have HEC:=hid hec
       have HKL:=hid hkl
       rw [hla]
       clear hec hee hnx hokd hokc hel hEB hPN hPl hkl hpl hnp
       go_wp2_with fail
       (with_reducible refine (HEC.out).mono ?_)
       rintro e v ⟨rfl,hb⟩
       have HB6:=HB.out.trans (hb.mono HB.out.size)
       obtain ⟨c2,c3⟩:=HLC.out v hb
       have ho1:=own_below HO.out hb
       obtain ⟨ll,hll⟩:∃ ll,ll=base ++ l.take p:=⟨_,rfl⟩
       have hkl:=HKL.out
       rw [<-hll] at ho1 HTK hkl
       have ho2:=ho1
       rw [hkl] at ho2
       obtain ⟨v',W',hrun,hown',hg',_⟩:=append_one ho2 d1 d2 (by rw [<-hkl]; omega) HB6.size
       rw [<-hkl] at hrun hg'
       have HRUN:=hid hrun
       have HB9:=hid (below_own (HB6.alloc HB6.size _) (ho1.alloc (.cells #[.int .u64 d1,.int .u64 d2] 41)) hg' (Nat.le_refl _))
       rw [List.length_append,List.length_singleton,<-hkl,HTK.out] at hown'
       have HO9:Hid (W'.ownsRow u.heap.size 41 2 v' (j + (p + 1)) (dcells (base ++ l.take (p + 1)))):=hid (by rw [show j + (p + 1)=np + 1 by rw [HNP.out]; omega]; exact hown')
       clear hb HB6 ho1 hll hkl HKL ho2 hrun hown' hg' HTK HEC HLC c0 c1 HO
       go_wp2_with (at_builtin; refine Lib.wpList_append_run _ rfl _ _ _ _ rfl _ _ rfl rfl _ _ HRUN.out ?_)
       go_roundw
       case rel=>exact ⟨p + 1,PN,by omega,by go_num,rfl,HPN,HO9,HB9⟩
       case measure=>simp [intOf] <;> omega
      ·obtain rfl:p=k:=by omega
       have hpi:¬ (p:Int) < (p:Int):=by omega
       have hPl:=HTLN.out p
       rw [<-HPT.out] at hPl HEQ
       have HSE:=hid (seal_any PT wr (by omega))
       generalize sealS PT=SP at HSE HEQ
       clear hPl HEN
       go_wp2_with fail
       (with_reducible refine (HSE.out).mono ?_)
       rintro e u2 ⟨rfl,hb⟩
       go_wp2_with fail
       go_ret2
       rw [HEQ.out]
       exact ⟨rfl,HBW.out.trans (hb.mono HBW.out.size)⟩
end Go.Proofs.YtijkieiihpiljaaGreat
