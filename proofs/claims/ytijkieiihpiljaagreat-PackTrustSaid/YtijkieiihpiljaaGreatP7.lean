/- Joined texts: PkSm, PkSl, PkOp. -/
import Derived.Test.YtijkieiihpiljaaGreatP3
import Derived.Test.YtijkieiihpiljaaGreatK9
import Derived.Test.YtijkieiihpiljaaGreatK8
import Derived.Test.YtijkieiihpiljaaGreatK5
/- Packs: the reference's Same of entries. -/
set_option maxRecDepth 100000
set_option maxHeartbeats 16000000
open Go.Lib (hid)
namespace Go.Proofs.YtijkieiihpiljaaGreat
open Go.RowKit Go.Shelf
set_option linter.unusedVariables false
deriving instance DecidableEq for Pe
abbrev peV (x:Pe):Value:=.agg #[.int .u64 x.d.1,.int .u64 x.d.2,.int .i64 x.kind,.int .u64 x.base.1,.int .u64 x.base.2,.int .i64 (x.off:Int),.int .i64 (x.len:Int)]
theorem neq_pe (x y:Pe) (W:World):(binOp .neq 53 (peV x) (peV y)).run Tryz.prog W = .ok (.bool (!(decide (x=y)))) W:=by
 obtain ⟨⟨x1,x2⟩,xk,⟨x3,x4⟩,x5,x6⟩:=x
 obtain ⟨⟨y1,y2⟩,yk,⟨y3,y4⟩,y5,y6⟩:=y
 unfold peV
 simp only
 rw [run_neq_struct,run_equalIn_struct W 9999 53 _ _ (by kernel_rfl) (by kernel_rfl)]
 have hf : (Tryz.prog.fieldsOf 53).toList = [{ name := "Digest", type := 41, offset := 0, embedded := false, tag := "", pkgPath := "", byteOffset := 0 }, { name := "Kind", type := 3, offset := 2, embedded := false, tag := "", pkgPath := "", byteOffset := 16 }, { name := "Base", type := 41, offset := 3, embedded := false, tag := "", pkgPath := "", byteOffset := 24 }, { name := "Offset", type := 3, offset := 5, embedded := false, tag := "", pkgPath := "", byteOffset := 40 }, { name := "Length", type := 3, offset := 6, embedded := false, tag := "", pkgPath := "", byteOffset := 48 }] := by kernel_rfl
 rw [hf]
 have p0:∀ (a b c d e f g:Int) (V:World),(Go.part 41 #[.int .u64 a,.int .u64 b,.int .i64 c,.int .u64 d,.int .u64 e,.int .i64 f,.int .i64 g] 0).run Tryz.prog V = .ok (.agg #[.int .u64 a,.int .u64 b]) V:=fun a b c d e f g V=>by kernel_rfl
 have p1:∀ (a b c d e f g:Int) (V:World),(Go.part 3 #[.int .u64 a,.int .u64 b,.int .i64 c,.int .u64 d,.int .u64 e,.int .i64 f,.int .i64 g] 2).run Tryz.prog V = .ok (.int .i64 c) V:=fun a b c d e f g V=>by kernel_rfl
 have p2:∀ (a b c d e f g:Int) (V:World),(Go.part 41 #[.int .u64 a,.int .u64 b,.int .i64 c,.int .u64 d,.int .u64 e,.int .i64 f,.int .i64 g] 3).run Tryz.prog V = .ok (.agg #[.int .u64 d,.int .u64 e]) V:=fun a b c d e f g V=>by kernel_rfl
 have p3:∀ (a b c d e f g:Int) (V:World),(Go.part 3 #[.int .u64 a,.int .u64 b,.int .i64 c,.int .u64 d,.int .u64 e,.int .i64 f,.int .i64 g] 5).run Tryz.prog V = .ok (.int .i64 f) V:=fun a b c d e f g V=>by kernel_rfl
 have p4:∀ (a b c d e f g:Int) (V:World),(Go.part 3 #[.int .u64 a,.int .u64 b,.int .i64 c,.int .u64 d,.int .u64 e,.int .i64 f,.int .i64 g] 6).run Tryz.prog V = .ok (.int .i64 g) V:=fun a b c d e f g V=>by kernel_rfl
 have q0:=fun (a b c d:Int) V=>eqD_run 9997 a b c d V
 have q1:=fun (a b:Int) V=>run_equalIn_int (P:=Tryz.prog) V 9998 3 .i64 .i64 a b Tryz.underlying3
 simp only [Op.eqFields,Sem.run_bind,Sem.run_ite,p0,p1,p2,p3,p4,q0,q1,Result.andThen_ok]
 by_cases h1:x1=y1 <;> by_cases h2:x2=y2 <;> by_cases h3:xk=yk <;> by_cases h4:x3=y3 <;> by_cases h5:x4=y4 <;> by_cases h6:x5=y5 <;> by_cases h7:x6=y6 <;> (simp [h1,h2,h3,h4,h5,h6,h7]; try omega)
theorem rsame10_any (a:Option Addr) (l:List Pe) (c:Nat) (a':Option Addr) (l':List Pe) (c':Nat) (w:World) (h:GIn peCs 7 w.heap.size w a l) (h':GIn peCs 7 w.heap.size w a' l') (hl:(l.length:Int)<=1000) (hl':(l'.length:Int)<=1000):Calls Tryz.prog 19 #[.slice a l.length c,.slice a' l'.length c'] w fun e w'=>e = .returned (.bool (decide (l=l')))/\Below w.heap.size w w':=by
 obtain ⟨R,hR⟩:∃ R,R=decide (l=l'):=⟨_,rfl⟩
 rw [<-hR]
 have HR:=hid hR
 have HG:=hid h
 have HG':=hid h'
 obtain ⟨n,hn⟩:∃ n,n=l.length:=⟨_,rfl⟩
 obtain ⟨m,hm⟩:∃ m,m=l'.length:=⟨_,rfl⟩
 have HN:=hid hn
 have HM:=hid hm
 rw [<-hn] at hl
 rw [<-hm] at hl'
 rw [<-hn,<-hm]
 have HB:=hid (Below.refl w.heap.size w)
 clear hR h h' hn hm
 by_cases hnm:n=m
 case neg=>
  have hne:((n:Int) != (m:Int))=true:=by simp; omega
  have HF:Hid (R=false):=hid (by rw [HR.out]; simp; intro e; exact hnm (by rw [HN.out,HM.out,e]))
  clear HR hnm
  go_enter Tryz.func19,Tryz.ntmps19
  go_wp2_with fail
  go_ret
  exact ⟨by rw [HF.out]; rfl,HB.out⟩
 case pos=>
 subst hnm
 go_enter Tryz.func19,Tryz.ntmps19
 go_wp2_with fail
 go_loopw [5] (fun i wr=>∃ k:Nat,k<=n/\i = .int .i64 (k:Int)/\Hid (∀ j (h1:j < l.length) (h2:j < l'.length),j < k->l[j]=l'[j])/\Hid (Below w.heap.size w wr)) (fun i _=>n - (intOf i).toNat)
 case atStart=>exact ⟨0,by omega,rfl,hid (fun j _ _ h=>by omega),HB⟩
 case round=>
  clear HB
  obtain ⟨k,hk,rfl,HL,HB⟩:=hrel
  by_cases hlt:k < n
  ·have hkn:(k:Int) < (n:Int):=by omega
   have h1:k < l.length:=by rw [<-HN.out]; exact hlt
   have h2:k < l'.length:=by rw [<-HM.out]; exact hlt
   obtain ⟨bk,ofk,hek,hblt,q0,q1,q2,q3,q4,q5,q6⟩:=pe_cells (HG.out.below HB.out (Nat.le_refl _)) h1
   obtain ⟨bk',ofk',hek',hblt',r0,r1,r2,r3,r4,r5,r6⟩:=pe_cells (HG'.out.below HB.out (Nat.le_refl _)) h2
   have HNE:Hid (l[k] ≠ l'[k]->R=false):=hid (fun h=>by rw [HR.out]; simp only [decide_eq_false_iff_not]; intro e; subst e; exact h rfl)
   have HEQ:Hid (l[k]=l'[k]->∀ j (h1:j < l.length) (h2:j < l'.length),j < k + 1->l[j]=l'[j]):=hid (fun h j hj hj' hjk=>by
    by_cases e:j=k
    ·subst e; exact h
    ·exact HL.out j hj hj' (by omega))
   generalize l[k]=x at q0 q1 q2 q3 q4 q5 q6 HNE HEQ
   generalize l'[k]=y at r0 r1 r2 r3 r4 r5 r6 HNE HEQ
   have hq:=fun W=>neq_pe x y W
   have HBB:=hid HB.out.drew
   obtain ⟨eq,heq⟩:∃ eq,eq=decide (x=y):=⟨_,rfl⟩
   rw [<-heq] at hq
   have HD:=hid heq
   obtain ⟨⟨x1,x2⟩,xk,⟨x3,x4⟩,x5,x6⟩:=x
   obtain ⟨⟨y1,y2⟩,yk,⟨y3,y4⟩,y5,y6⟩:=y
   unfold peV at hq
   simp only at q0 q1 q2 q3 q4 q5 q6 r0 r1 r2 r3 r4 r5 r6 hq
   rw [hek,hek']
   clear heq h1 h2 HL HB
   cases eq with
   | true=>
    have HL2:=hid (HEQ.out (by simpa using HD.out.symm))
    clear HEQ HNE HD
    go_wp2_with fail
    go_region
    clear q0 q1 q2 q3 q4 q5 q6 r0 r1 r2 r3 r4 r5 r6 hq
    go_wp2_with fail
    go_roundw
    case rel=>exact ⟨k + 1,by omega,by go_num,HL2,HBB⟩
    case measure=>simp [intOf] <;> omega
   | false=>
    have HF:=hid (HNE.out (by simpa using HD.out.symm))
    clear HEQ HNE HD
    go_wp2_with fail
    go_region
    clear q0 q1 q2 q3 q4 q5 q6 r0 r1 r2 r3 r4 r5 r6 hq
    go_wp2_with fail
    go_ret
    exact ⟨by rw [HF.out]; rfl,HBB.out⟩
  ·obtain rfl:k=n:=by omega
   have hkn:¬ (k:Int) < (k:Int):=by omega
   have HF:Hid (R=true):=hid (by
    rw [HR.out]
    simp only [decide_eq_true_eq]
    exact List.ext_getElem (by rw [<-HN.out,<-HM.out]) (fun j h1 h2=>HL.out j h1 h2 (by rw [HN.out]; exact h1)))
   clear HL HR
   go_wp2_with fail
   go_ret
   exact ⟨by rw [HF.out]; rfl,HB.out⟩
def SlsIn (w:World) (b:Option Addr) (ls:List (Option Addr × Nat × Nat)):Prop:=∀ i (h:i < ls.length),∃ blk off,b=some ⟨blk,off,none⟩/\w.cell? ⟨blk,off + i,none⟩=some (.slice ls[i].1 ls[i].2.1 ls[i].2.2)
def smallS (xs:List Itm) (ls:List (Option Addr × Nat × Nat)):Bool:=decide (∀ x ∈ ls,x.2.1<=8) && (!pgreatS xs && decide (checkP xs=0))
theorem small10_any (a:Option Addr) (xs:List Itm) (c:Nat) (b:Option Addr) (ls:List (Option Addr × Nat × Nat)) (w:World) (hp:PoolCame w a xs c) (hls:SlsIn w b ls) (hll:ls.length<=2) (hlm:∀ x ∈ ls,x.2.1<=maxLen) :
  Calls Tryz.prog 10 #[.slice a xs.length c,.slice b ls.length ls.length] w fun e w'=>e = .returned (.bool (smallS xs ls))/\Below w.heap.size w w':=by
 have hml:=hp.cap
 unfold maxLen at hml
 have HB:=hid (Below.refl w.heap.size w)
 have hG:=hid (fun W (hW:Below w.heap.size w W)=>pgreat_any a xs c W (hp.its.ahead hW) (by omega) (fun x hx=>by have:=(hp.dat x hx).2; unfold maxLen at this; omega))
 have hC:=hid (fun (hg:pgreatS xs=false) W (hW:Below w.heap.size w W)=>rpcheck_any a xs c W (hp.its.ahead hW) (by have:=(pgreatS_false hg).1; omega) (fun x hx=>by have:=(pgreatS_false hg).2 x hx; omega))
 obtain ⟨R,hR⟩:∃ R,R=smallS xs ls:=⟨_,rfl⟩
 rw [<-hR]
 unfold smallS at hR
 clear hp hml
 generalize xs.length=n at hG hC ⊢
 obtain ⟨g,hg⟩:∃ g,g=pgreatS xs:=⟨_,rfl⟩
 rw [<-hg] at hG hC hR
 obtain ⟨ck,hck⟩:∃ ck,ck=checkP xs:=⟨_,rfl⟩
 rw [<-hck] at hC hR
 have HR:=hid hR
 have HLS:=hid hls
 have HLM:=hid hlm
 obtain ⟨m,hm⟩:∃ m,m=ls.length:=⟨_,rfl⟩
 have HM:=hid hm
 rw [<-hm] at hll ⊢
 clear hg hck hR hls hlm hm
 go_enter Tryz.func10,Tryz.ntmps10
 go_wp2_with fail
 go_loopw [9] (fun i wr=>∃ k:Nat,k<=m/\i = .int .i64 (k:Int)/\wr=w/\Hid (∀ j (h:j < ls.length),j < k->ls[j].2.1<=8)) (fun i _=>m - (intOf i).toNat)
 case atStart=>exact ⟨0,by omega,rfl,rfl,hid (fun j _ h=>by omega)⟩
 case round=>
  obtain ⟨k,hk,rfl,hw,HA⟩:=hrel
  subst hw
  by_cases hlt:k < m
  ·have hkn:(k:Int) < (m:Int):=by omega
   have hkl:k < ls.length:=by rw [<-HM.out]; exact hlt
   obtain ⟨blk,off,rfl,hcl⟩:=HLS.out k hkl
   have HM8:=hid (HLM.out ls[k] (List.getElem_mem hkl))
   have HN:Hid (8 < ls[k].2.1->R=false):=hid (fun h=>by
    rw [HR.out,Bool.and_eq_false_iff]
    left
    rw [decide_eq_false_iff_not]
    intro hh
    have:=hh _ (List.getElem_mem hkl)
    omega)
   have HY:Hid (ls[k].2.1<=8->∀ j (h:j < ls.length),j < k + 1->ls[j].2.1<=8):=hid (fun h j hj hjk=>by
    by_cases e:j=k
    ·subst e; exact h
    ·exact HA.out j hj (by omega))
   generalize ls[k]=x at hcl HM8 HN HY
   obtain ⟨xa,xn,xc⟩:=x
   simp only at hcl HM8 HN HY
   clear hkl HA hG hC
   by_cases h8:xn<=8
   ·have hx8:¬ (8:Int) < (xn:Int):=by omega
    have HA:=hid (HY.out h8)
    clear HN HY HM8
    go_wp2_with fail
    go_roundw
    case rel=>exact ⟨k + 1,by omega,by go_num,trivial,HA⟩
    case measure=>simp [intOf] <;> omega
   ·have hx8:(8:Int) < (xn:Int):=by omega
    have HF:=hid (HN.out (by omega))
    clear HN HY HM8
    go_wp2_with fail
    go_ret
    exact ⟨by rw [HF.out]; rfl,HB.out⟩
  ·obtain rfl:k=m:=by omega
   have hkn:¬ (k:Int) < (k:Int):=by omega
   have HR2:Hid (R=(!g && decide (ck=0))):=hid (by
    rw [HR.out,decide_eq_true (fun x hx=>?_),Bool.true_and]
    obtain ⟨j,hj,rfl⟩:=List.getElem_of_mem hx
    exact HA.out j hj (by rw [HM.out]; exact hj))
   have HG:=hid (hG.out _ HB.out)
   clear hG HR HA HLS HLM HM
   cases g with
   | true=>
    clear hC
    go_wp2_with fail
    (with_reducible refine (HG.out).mono ?_)
    rintro e u ⟨rfl,rfl⟩
    go_wp2_with fail
    go_ret
    exact ⟨by rw [HR2.out]; rfl,HB.out⟩
   | false=>
    have HC:=hid (hC.out rfl _ HB.out)
    clear hC
    go_wp2_with fail
    (with_reducible refine (HG.out).mono ?_)
    rintro e u ⟨rfl,rfl⟩
    go_wp2_with fail
    (with_reducible refine (HC.out).mono ?_)
    rintro e u ⟨rfl,hb⟩
    have HB2:=hid hb
    clear hb HC HG
    by_cases h0:ck=0
    ·subst h0
     go_wp2_with fail
     go_ret
     exact ⟨by rw [HR2.out]; rfl,HB2.out⟩
    ·have hd:decide (ck=0)=false:=by simpa using h0
     have hbq:(ck == 0)=false:=by simpa using h0
     have HD:=hid hd
     clear hd h0
     go_wp2_with fail
     go_ret
     exact ⟨by rw [HR2.out,HD.out]; rfl,HB2.out⟩
open Go.ChangeShapes Go.WideShapes Go.ChangeAt Go.RowKit Go.Deep
structure Rd10 where
 s:List UInt8
 sl:Bool
 d:Int × Int
 xs:List Itm
def Rd10.arr (x:Rd10) (a:Option Addr) (c:Nat):Array Value:=#[.string ⟨x.s.toArray⟩,.bool x.sl,.int .u64 x.d.1,.int .u64 x.d.2,.slice a x.xs.length c]
structure RdCame (W:World) (x:Rd10) (a:Option Addr) (c:Nat):Prop where
 len:x.s.length<=maxLen
 okd:OkD x.d
 po:PoolCame W a x.xs c
section
variable {H:Type} {enc:TypeId × Value->H} {W:World}
theorem trod_pool {fuel:Nat} {v:Value} {x:DataW H × List MemPlace} (h:DataW.trod enc Tryz.prog W 0 (fun _=>true) true fuel 23 [v]=some x):∃ a xs c,v = .slice a (List.length xs) c/\PoolCame W a xs c:=by
 obtain ⟨a,len,cap,rfl⟩:=trod_slice_val Tryz.underlying23 h
 obtain ⟨hl,hr⟩:=open_rows Tryz.underlying23 (C:=3) (by kernel_rfl) (by decide) h
 obtain ⟨xs,hxs,hq⟩:=list_of (fun i (e:Itm)=>(∃ b off,a=some ⟨b,off,none⟩/\b < W.heap.size/\W.cell? ⟨b,off + i * 3,none⟩=some (.int .u64 e.d.1)/\W.cell? ⟨b,off + i * 3 + 1,none⟩=some (.int .u64 e.d.2)/\W.cell? ⟨b,off + i * 3 + 2,none⟩=some (.string ⟨e.data.toArray⟩))/\OkD e.d/\e.data.length<=maxLen) len (fun i hi=>by
  obtain ⟨b,off,cs,n,y,ha,hb,_,hcell,ht⟩:=hr i hi
  obtain ⟨e,rfl,w0,w1⟩:=trod_itm ht
  exact ⟨e,⟨b,off,ha,hb,hcell 0 _ rfl,hcell 1 _ rfl,hcell 2 _ rfl⟩,w0,w1⟩)
 refine ⟨a,xs,cap,by rw [hxs],fun i hi=>(hq i hi).1,by omega,fun e he=>?_⟩
 obtain ⟨i,hi,rfl⟩:=List.getElem_of_mem he
 exact (hq i hi).2
theorem trod_read {fuel:Nat} {cs:List Value} {x:DataW H × List MemPlace} (h:DataW.trod enc Tryz.prog W 0 (fun _=>true) true fuel 43 cs=some x) :
  ∃ (t:Rd10) (a:Option Addr) (c:Nat),cs=(t.arr a c).toList/\RdCame W t a c:=by
 obtain ⟨xs,n,_,_,hl,hxl,hf⟩:=DataW.trod_struct Tryz.underlying43 h
 rw [show Tryz.prog.cellsOf 43 = 5 by kernel_rfl] at hl
 match cs,hl with
 | [c0,c1,c2,c3,c4],_=>
  match xs,hxl with
  | [x0,x1,x2,x3],_=>
   obtain ⟨s,e0,_,ws⟩:=DataW.trod_string Tryz.underlying9 (show DataW.trod enc Tryz.prog W 0 (fun _=>true) true n 9 [c0]=some x0 from hf 0 _ rfl)
   obtain ⟨b,e1,_⟩:=DataW.trod_bool Tryz.underlying4 (show DataW.trod enc Tryz.prog W 0 (fun _=>true) true n 4 [c1]=some x1 from hf 1 _ rfl)
   obtain ⟨d,e2,w0,w1⟩:=trod_digest (show DataW.trod enc Tryz.prog W 0 (fun _=>true) true n 41 [c2,c3]=some x2 from hf 2 _ rfl)
   obtain ⟨a,ys,c,rfl,hp⟩:=trod_pool (show DataW.trod enc Tryz.prog W 0 (fun _=>true) true n 23 [c4]=some x3 from hf 3 _ rfl)
   cases e0
   cases e1
   cases e2
   exact ⟨⟨s.data.toList,b,d,ys⟩,a,c,by simp only [Rd10.arr],ws,okD_wf w0 w1,hp⟩
theorem open_read {r:Reach} {b0:Nat} {v:Value} {d:DataW H} {p:List MemPlace} (hv:Value.okWide Tryz.prog W r b0 43 v) (h:DataW.Trod enc Tryz.prog W 0 (fun _=>true) true 43 v d p) :
  ∃ (t:Rd10) (a:Option Addr) (c:Nat),v = .agg (t.arr a c)/\RdCame W t a c:=by
 obtain ⟨cs,rfl,hsz⟩:=okWide_struct Tryz.underlying43 hv
 obtain ⟨fuel,hf⟩:=h
 obtain ⟨t,a,c,hcs,hc⟩:=trod_read hf
 refine ⟨t,a,c,?_,hc⟩
 have hcs:cs.toList=(t.arr a c).toList:=hcs
 rw [Array.toList_inj.1 hcs]
end
end Go.Proofs.YtijkieiihpiljaaGreat
