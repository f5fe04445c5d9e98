/- Deltas: the reference's Diff. -/
import Derived.Test.YtijkieiihpiljaaGreatPkKc
import Derived.Test.YtijkieiihpiljaaGreatP2
import Derived.Test.YtijkieiihpiljaaGreatP8
set_option maxRecDepth 100000
set_option maxHeartbeats 16000000
open Go.Lib (hid)
namespace Go.Proofs.YtijkieiihpiljaaGreat
open Go.RowKit Go.Shelf
set_option linter.unusedVariables false
theorem len_sum:∀ {l:List Dop},(∀ o ∈ l,fitO o)->l.length<=(l.map sizeO).sum
 | [],_=>by simp
 | o :: l,h=>by
  have g1:=len_sum (l:=l) (fun x hx=>h x (by simp [hx]))
  have g2:=fit_size (h o (by simp))
  rw [List.length_cons,List.map_cons,List.sum_cons]
  omega
structure DfSt (a b:List UInt8) (R:List Dop) (k:Nat) (l:List Dop):Prop where
 le:k<=b.length
 good:GoodD a (b.take k) l
 go:∃ f,b.length<=k + f/\diffGo a b f k l=R
theorem DfSt.start (a b:List UInt8):DfSt a b (diffS a b) 0 []:=⟨Nat.zero_le _,GoodD.nil a,b.length,by omega,rfl⟩
theorem DfSt.len {a b:List UInt8} {R:List Dop} {k:Nat} {l:List Dop} (h:DfSt a b R k l):l.length<=k/\∀ o ∈ l,o.len<=k/\o.off<=a.length/\o.data.length<=k:=by
 have hs:=h.good.sum
 rw [List.length_take,Nat.min_eq_left h.le] at hs
 refine ⟨by have:=len_sum h.good.fit; omega,fun o ho=>?_⟩
 have h1:=sum_mem ho
 have h2:=fit_data (h.good.fit o ho)
 have h3:=h.good.inr o ho
 rcases h.good.fit o ho with ⟨g1,g2⟩ | ⟨g1,g2,g3⟩
 ·have:=h3 g1
  have:sizeO o=o.len:=by unfold sizeO; rw [if_pos g1]
  omega
 ·omega
theorem DfSt.done {a b:List UInt8} {R:List Dop} {k:Nat} {l:List Dop} (h:DfSt a b R k l) (hk:¬ k < b.length):l=R:=by
 obtain ⟨f,_,hf⟩:=h.go
 cases f with
 | zero=>exact hf
 | succ f=>rw [diffGo,if_neg hk] at hf; exact hf
theorem next_size {a b:List UInt8} {k:Nat} (hk:k < b.length):k + sizeO (nextO a b k)<=b.length/\1<=sizeO (nextO a b k):=by
 obtain ⟨h1,h2,h3⟩:=nextO_fit (a:=a) hk
 refine ⟨?_,fit_size h1⟩
 have h4:=congrArg List.length h3
 rw [List.length_append,List.length_take,List.length_take,out_len h1 h2] at h4
 omega
theorem DfSt.next {a b:List UInt8} {R:List Dop} {k:Nat} {l:List Dop} (h:DfSt a b R k l) (hk:k < b.length):DfSt a b R (k + sizeO (nextO a b k)) (addO l (nextO a b k)):=by
 obtain ⟨f,hf,hg⟩:=h.go
 obtain ⟨h1,h2,h3⟩:=nextO_fit (a:=a) hk
 obtain ⟨s1,s2⟩:=next_size (a:=a) hk
 refine ⟨s1,?_,?_⟩
 ·rw [<-h3]; exact h.good.add h1 h2
 ·cases f with
  | zero=>omega
  | succ f=>
   rw [diffGo,if_pos hk] at hg
   exact ⟨f,by omega,hg⟩
theorem rdiff04_any (a b:List UInt8) (w:World) (ha:a.length<=60000) (hb:b.length<=60000) :
  Calls Tryz.prog 82 #[.string ⟨a.toArray⟩,.string ⟨b.toArray⟩] w (GotLd w (diffS a b)):=by
 have HM:=hid (fun i k W (hi:i<=a.length) (hk:k<=b.length)=>rmatch_any a b i k W hi hk (by omega) (by omega))
 have hsa:=ba_len a
 have hsb:=ba_len b
 obtain ⟨R,hR⟩:∃ R,R=diffS a b:=⟨_,rfl⟩
 have HS0:Hid (DfSt a b R 0 []):=hid (by rw [hR]; exact DfSt.start a b)
 rw [<-hR]
 clear hR
 obtain ⟨na,hna⟩:∃ na,na=a.length:=⟨_,rfl⟩
 obtain ⟨nb,hnb⟩:∃ nb,nb=b.length:=⟨_,rfl⟩
 have HA:=hid hna
 have HB:=hid hnb
 rw [<-hna] at hsa ha
 rw [<-hnb] at hsb hb
 clear hna hnb
 have HW0:=hid (Below.refl w.heap.size w)
 have hai:¬ (65536:Int) < (na:Int):=by omega
 have hbi:¬ (65536:Int) < (nb:Int):=by omega
 go_enter Tryz.func82,Tryz.ntmps82
 go_wp2_with fail
 go_loopw [5,6] (fun o kk wr=>∃ (k:Nat) (l:List Dop) (oa:Option Addr) (oc:Nat),o = .slice oa l.length oc/\kk = .int .i64 (k:Int)/\Hid (DfSt a b R k l)/\Hid (GIn opCs 3 wr.heap.size wr oa l/\l.length<=oc)/\Hid (Below w.heap.size w wr)) (fun _ kk _=>nb - (intOf kk).toNat)
 case atStart=>exact ⟨0,[],none,0,rfl,rfl,HS0,hid ⟨GIn.nil _ _ _,Nat.le_refl _⟩,HW0⟩
 case round=>
  clear HS0 HW0
  obtain ⟨k,l,oa,oc,rfl,rfl,HS,HG,HW⟩:=hrel
  obtain ⟨nl,hnl⟩:∃ nl,nl=l.length:=⟨_,rfl⟩
  rw [<-hnl]
  have HNL:=hid hnl
  clear hnl
  by_cases hlt:k < nb
  ·have hki:(k:Int) < (nb:Int):=by omega
   have hkb:k < b.length:=by rw [<-HB.out]; exact hlt
   have HN:=hid (HS.out.next hkb)
   have hsz:=next_size (a:=a) hkb
   rw [<-HB.out] at hsz
   have hbm:=bestM_le a (b.drop k)
   rw [List.length_drop,<-HA.out,<-HB.out] at hbm
   obtain ⟨y,hy⟩:∃ y,y=b.drop k:=⟨_,rfl⟩
   have HMK:=hid (fun i W (hi:i<=a.length)=>HM.out i k W hi (by omega))
   rw [<-hy] at hbm HMK
   have HY:=hid hy
   have HB0:=hid (Below.refl wr.heap.size wr)
   generalize hx0:wr=x0 at HG HW HB0 ⊢
   clear hx0 hy
   go_wp2_with fail
   go_loopw [7,8,9] (fun p q i W'=>∃ j:Nat,j<=na/\i = .int .i64 (j:Int)/\p = .int .i64 ((bestF a y j).1:Int)/\q = .int .i64 ((bestF a y j).2:Int)/\Hid (Below x0.heap.size x0 W')) (fun _ _ i _=>na - (intOf i).toNat)
   case atStart=>exact ⟨0,by omega,rfl,rfl,rfl,HB0⟩
   case round=>
    clear HB0
    obtain ⟨j,hj,rfl,rfl,rfl,HBX⟩:=hrel
    by_cases hjl:j < na
    ·have hji:(j:Int) < (na:Int):=by omega
     have HC:=hid (HMK.out j wr (by rw [<-HA.out]; omega))
     have HBF:Hid (bestF a y (j + 1)=if (bestF a y j).2 < lcp (a.drop j) y then (j,lcp (a.drop j) y) else bestF a y j):=hid rfl
     have hlc:=lcp_le (a.drop j) y
     rw [List.length_drop,<-HA.out] at hlc
     obtain ⟨L,hL⟩:∃ L,L=lcp (a.drop j) y:=⟨_,rfl⟩
     rw [<-hL] at HC HBF hlc
     obtain ⟨⟨p,q⟩,hpq⟩:∃ P,P=bestF a y j:=⟨_,rfl⟩
     rw [<-hpq] at HBF ⊢
     simp only at HBF ⊢
     clear hL hpq hbm
     by_cases hql:q < L
     ·have hqi:(q:Int) < (L:Int):=by omega
      have HBG:Hid (bestF a y (j + 1)=(j,L)):=hid (by rw [HBF.out,if_pos hql])
      clear HBF
      go_wp2_with fail
      (with_reducible refine (HC.out).mono ?_)
      rintro e u ⟨rfl,hb⟩
      have HBU:=hid (HBX.out.trans (hb.mono HBX.out.size))
      clear hb HC
      go_wp2_with fail
      go_roundw
      case rel=>exact ⟨j + 1,by omega,by go_num,by rw [HBG.out],by rw [HBG.out],HBU⟩
      case measure=>simp [intOf] <;> omega
     ·have hqi:¬ (q:Int) < (L:Int):=by omega
      have HBG:Hid (bestF a y (j + 1)=(p,q)):=hid (by rw [HBF.out,if_neg hql])
      clear HBF
      go_wp2_with fail
      (with_reducible refine (HC.out).mono ?_)
      rintro e u ⟨rfl,hb⟩
      have HBU:=hid (HBX.out.trans (hb.mono HBX.out.size))
      clear hb HC
      go_wp2_with fail
      go_roundw
      case rel=>exact ⟨j + 1,by omega,by go_num,by rw [HBG.out],by rw [HBG.out],HBU⟩
      case measure=>simp [intOf] <;> omega
    ·obtain rfl:j=na:=by omega
     have hji:¬ (j:Int) < (j:Int):=by omega
     have HGW:=hid (HG.out.1.ahead HBX.out)
     have hlen:=HS.out.len
     have HRA:=hid (fun (x:Dop) (hx:(x.len:Int)<=1000000/\(x.off:Int)<=1000000/\x.data.length<=1000000)=>radd04_any oa l oc x wr HGW.out HG.out.2 (by omega) hx (fun o ho=>by have:=hlen.2 o ho; rw [<-HA.out] at this; omega))
     have HNX:Hid (nextO a b k=if 4<=(bestF a y j).2 then ⟨(bestF a y j).1,(bestF a y j).2,[]⟩ else ⟨0,0,y.take 1⟩):=hid (by unfold nextO bestM; rw [<-HY.out,<-HA.out])
     have hbm2:(bestF a y j).2<=nb - k/\(bestF a y j).1 + (bestF a y j).2<=j:=by
      unfold bestM at hbm
      rwa [<-HA.out] at hbm
     have HBW:=hid (HW.out.trans (HBX.out.mono HW.out.size))
     rw [<-HNL.out] at HRA
     obtain ⟨⟨p,q⟩,hpq⟩:∃ P,P=bestF a y j:=⟨_,rfl⟩
     rw [<-hpq] at HNX hbm2 ⊢
     simp only at HNX hbm2 ⊢
     clear hpq hbm hlen
     by_cases h4:4<=q
     ·have h4i:¬ (q:Int) < 4:=by omega
      rw [if_pos h4] at HNX
      have hs:sizeO (nextO a b k)=q:=by rw [HNX.out]; unfold sizeO; rw [if_pos (by simp only; omega)]
      rw [hs] at HN hsz
      have HC:=hid (HRA.out (nextO a b k) (by rw [HNX.out]; simp only [List.length_nil]; omega))
      rw [HNX.out] at HC HN
      simp only [opCs] at HC
      have hwk:IntKind.i64.wrap ((k:Int) + (q:Int))=((k + q:Nat):Int):=by rw [wrap_i64 (by omega) (by omega)]; omega
      obtain ⟨kq,hkq⟩:∃ kq,kq=k + q:=⟨_,rfl⟩
      rw [<-hkq] at HN hwk hsz
      have HKQ:=hid hkq
      clear hs hkq HRA HNX HMK HGW HM hbm2
      go_wp2_with fail
      (with_reducible refine (HC.out).mono ?_)
      rintro e u ⟨ra,rc,rfl,hg,hc,hb⟩
      have HGU:=hid (And.intro hg hc)
      have HWU:=hid (HBW.out.trans (hb.mono HBW.out.size))
      clear hg hc hb HC
      go_wp2_with fail
      go_roundw
      case rel=>exact ⟨kq,_,ra,rc,rfl,rfl,HN,HGU,HWU⟩
      case measure=>simp [intOf] <;> (have:=HKQ.out; omega)
     ·have h4i:(q:Int) < 4:=by omega
      rw [if_neg h4] at HNX
      have hyl:0 < y.length:=by rw [HY.out,List.length_drop]; omega
      have hs:sizeO (nextO a b k)=1:=by rw [HNX.out]; unfold sizeO; simp only; rw [if_neg (by omega),List.length_take]; omega
      rw [hs] at HN hsz
      have HC:=hid (HRA.out (nextO a b k) (by rw [HNX.out]; simp only; rw [List.length_take]; omega))
      rw [HNX.out] at HC HN
      simp only [opCs] at HC
      have hwk:IntKind.i64.wrap ((k:Int) + 1)=(k:Int) + 1:=wrap_i64 (by omega) (by omega)
      have hsl:∀ W,(Instr.slice 9 (.string ⟨b.toArray⟩) (some (.int .i64 (k:Int))) (some (.int .i64 ((k:Int) + 1))) none).run Tryz.prog W = .ok (.string ⟨(y.take 1).toArray⟩) W:=fun W=>by
       have h:=sl_mid b k (k + 1) (by omega) (by omega) W
       rw [show ((k + 1:Nat):Int)=(k:Int) + 1 by omega,show k + 1 - k=1 by omega,<-HY.out] at h
       exact h
      clear hs HRA HNX HMK HGW HM hbm2 hyl
      generalize y.take 1=z at HC HN hsl
      replace HC:Hid (Calls Tryz.prog 124 #[.slice oa nl oc,.agg #[.int .i64 0,.int .i64 0,.string ⟨z.toArray⟩]] wr (GotLd wr (addO l ⟨0,0,z⟩))):=HC
      go_wp2_with fail
      (with_reducible refine (HC.out).mono ?_)
      rintro e u ⟨ra,rc,rfl,hg,hc,hb⟩
      have HGU:=hid (And.intro hg hc)
      have HWU:=hid (HBW.out.trans (hb.mono HBW.out.size))
      clear hg hc hb HC
      go_wp2_with fail
      go_roundw
      case rel=>exact ⟨k + 1,_,ra,rc,rfl,by go_num,HN,HGU,HWU⟩
      case measure=>simp [intOf] <;> omega
  ·have hki:¬ (k:Int) < (nb:Int):=by omega
   have HD:=hid (HS.out.done (by rw [<-HB.out]; exact hlt))
   clear HM
   go_wp2_with fail
   go_ret
   rw [HNL.out]
   refine ⟨oa,oc,?_,?_,?_,HW.out⟩
   ·rw [HD.out]; rfl
   ·rw [<-HD.out]; exact HG.out.1
   ·rw [<-HD.out]; exact HG.out.2
end Go.Proofs.YtijkieiihpiljaaGreat
