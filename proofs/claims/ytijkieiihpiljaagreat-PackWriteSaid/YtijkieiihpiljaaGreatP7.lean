/- Joined texts: PkSm, PkSl, PkOp. -/
import Derived.Test.YtijkieiihpiljaaGreatP3
import Derived.Test.YtijkieiihpiljaaGreatK9
import Derived.Test.YtijkieiihpiljaaGreatK8
import Derived.Test.YtijkieiihpiljaaGreatK5
/- Packs: the reference's Same of entries. -/
set_option maxRecDepth 100000
set_option maxHeartbeats 16000000
open Go.Lib (hid)
namespace Go.Proofs.YtijkieiihpiljaaGreat
open Go.RowKit Go.Shelf
set_option linter.unusedVariables false
deriving instance DecidableEq for Pe
abbrev peV (x:Pe):Value:=.agg #[.int .u64 x.d.1,.int .u64 x.d.2,.int .i64 x.kind,.int .u64 x.base.1,.int .u64 x.base.2,.int .i64 (x.off:Int),.int .i64 (x.len:Int)]
def SlsIn (w:World) (b:Option Addr) (ls:List (Option Addr × Nat × Nat)):Prop:=∀ i (h:i < ls.length),∃ blk off,b=some ⟨blk,off,none⟩/\w.cell? ⟨blk,off + i,none⟩=some (.slice ls[i].1 ls[i].2.1 ls[i].2.2)
def smallS (xs:List Itm) (ls:List (Option Addr × Nat × Nat)):Bool:=decide (∀ x ∈ ls,x.2.1<=8) && (!pgreatS xs && decide (checkP xs=0))
theorem small10_any (a:Option Addr) (xs:List Itm) (c:Nat) (b:Option Addr) (ls:List (Option Addr × Nat × Nat)) (w:World) (hp:PoolCame w a xs c) (hls:SlsIn w b ls) (hll:ls.length<=2) (hlm:∀ x ∈ ls,x.2.1<=maxLen) :
  Calls Tryz.prog 10 #[.slice a xs.length c,.slice b ls.length ls.length] w fun e w'=>e = .returned (.bool (smallS xs ls))/\Below w.heap.size w w':=by
 have hml:=hp.cap
 unfold maxLen at hml
 have HB:=hid (Below.refl w.heap.size w)
 have hG:=hid (fun W (hW:Below w.heap.size w W)=>pgreat_any a xs c W (hp.its.ahead hW) (by omega) (fun x hx=>by have:=(hp.dat x hx).2; unfold maxLen at this; omega))
 have hC:=hid (fun (hg:pgreatS xs=false) W (hW:Below w.heap.size w W)=>rpcheck_any a xs c W (hp.its.ahead hW) (by have:=(pgreatS_false hg).1; omega) (fun x hx=>by have:=(pgreatS_false hg).2 x hx; omega))
 obtain ⟨R,hR⟩:∃ R,R=smallS xs ls:=⟨_,rfl⟩
 rw [<-hR]
 unfold smallS at hR
 clear hp hml
 generalize xs.length=n at hG hC ⊢
 obtain ⟨g,hg⟩:∃ g,g=pgreatS xs:=⟨_,rfl⟩
 rw [<-hg] at hG hC hR
 obtain ⟨ck,hck⟩:∃ ck,ck=checkP xs:=⟨_,rfl⟩
 rw [<-hck] at hC hR
 have HR:=hid hR
 have HLS:=hid hls
 have HLM:=hid hlm
 obtain ⟨m,hm⟩:∃ m,m=ls.length:=⟨_,rfl⟩
 have HM:=hid hm
 rw [<-hm] at hll ⊢
 clear hg hck hR hls hlm hm
 go_enter Tryz.func10,Tryz.ntmps10
 go_wp2_with fail
 go_loopw [9] (fun i wr=>∃ k:Nat,k<=m/\i = .int .i64 (k:Int)/\wr=w/\Hid (∀ j (h:j < ls.length),j < k->ls[j].2.1<=8)) (fun i _=>m - (intOf i).toNat)
 case atStart=>exact ⟨0,by omega,rfl,rfl,hid (fun j _ h=>by omega)⟩
 case round=>
  obtain ⟨k,hk,rfl,hw,HA⟩:=hrel
  subst hw
  by_cases hlt:k < m
  ·have hkn:(k:Int) < (m:Int):=by omega
   have hkl:k < ls.length:=by rw [<-HM.out]; exact hlt
   obtain ⟨blk,off,rfl,hcl⟩:=HLS.out k hkl
   have HM8:=hid (HLM.out ls[k] (List.getElem_mem hkl))
   have HN:Hid (8 < ls[k].2.1->R=false):=hid (fun h=>by
    rw [HR.out,Bool.and_eq_false_iff]
    left
    rw [decide_eq_false_iff_not]
    intro hh
    have:=hh _ (List.getElem_mem hkl)
    omega)
   have HY:Hid (ls[k].2.1<=8->∀ j (h:j < ls.length),j < k + 1->ls[j].2.1<=8):=hid (fun h j hj hjk=>by
    by_cases e:j=k
    ·subst e; exact h
    ·exact HA.out j hj (by omega))
   generalize ls[k]=x at hcl HM8 HN HY
   obtain ⟨xa,xn,xc⟩:=x
   simp only at hcl HM8 HN HY
   clear hkl HA hG hC
   by_cases h8:xn<=8
   ·have hx8:¬ (8:Int) < (xn:Int):=by omega
    have HA:=hid (HY.out h8)
    clear HN HY HM8
    go_wp2_with fail
    go_roundw
    case rel=>exact ⟨k + 1,by omega,by go_num,trivial,HA⟩
    case measure=>simp [intOf] <;> omega
   ·have hx8:(8:Int) < (xn:Int):=by omega
    have HF:=hid (HN.out (by omega))
    clear HN HY HM8
    go_wp2_with fail
    go_ret
    exact ⟨by rw [HF.out]; rfl,HB.out⟩
  ·obtain rfl:k=m:=by omega
   have hkn:¬ (k:Int) < (k:Int):=by omega
   have HR2:Hid (R=(!g && decide (ck=0))):=hid (by
    rw [HR.out,decide_eq_true (fun x hx=>?_),Bool.true_and]
    obtain ⟨j,hj,rfl⟩:=List.getElem_of_mem hx
    exact HA.out j hj (by rw [HM.out]; exact hj))
   have HG:=hid (hG.out _ HB.out)
   clear hG HR HA HLS HLM HM
   cases g with
   | true=>
    clear hC
    go_wp2_with fail
    (with_reducible refine (HG.out).mono ?_)
    rintro e u ⟨rfl,rfl⟩
    go_wp2_with fail
    go_ret
    exact ⟨by rw [HR2.out]; rfl,HB.out⟩
   | false=>
    have HC:=hid (hC.out rfl _ HB.out)
    clear hC
    go_wp2_with fail
    (with_reducible refine (HG.out).mono ?_)
    rintro e u ⟨rfl,rfl⟩
    go_wp2_with fail
    (with_reducible refine (HC.out).mono ?_)
    rintro e u ⟨rfl,hb⟩
    have HB2:=hid hb
    clear hb HC HG
    by_cases h0:ck=0
    ·subst h0
     go_wp2_with fail
     go_ret
     exact ⟨by rw [HR2.out]; rfl,HB2.out⟩
    ·have hd:decide (ck=0)=false:=by simpa using h0
     have hbq:(ck == 0)=false:=by simpa using h0
     have HD:=hid hd
     clear hd h0
     go_wp2_with fail
     go_ret
     exact ⟨by rw [HR2.out,HD.out]; rfl,HB2.out⟩
open Go.ChangeShapes Go.WideShapes Go.ChangeAt Go.RowKit Go.Deep
structure Rd10 where
 s:List UInt8
 sl:Bool
 d:Int × Int
 xs:List Itm
def Rd10.arr (x:Rd10) (a:Option Addr) (c:Nat):Array Value:=#[.string ⟨x.s.toArray⟩,.bool x.sl,.int .u64 x.d.1,.int .u64 x.d.2,.slice a x.xs.length c]
section
variable {H:Type} {enc:TypeId × Value->H} {W:World}
end
end Go.Proofs.YtijkieiihpiljaaGreat
