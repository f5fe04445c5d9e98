/- tree.visit where all is well. -/
import Derived.Test.YtdedfkljaeloiaaGreatDoorTtDa
import Derived.Test.YtdedfkljaeloiaaGreatDoorTtX
import Derived.LoopIn
import Derived.LoopNIn
import Derived.RangeFuncBound
set_option maxRecDepth 100000
set_option maxHeartbeats 16000000
open Go.Lib (hid)
namespace Go.Proofs.YtdedfkljaeloiaaGreatDoor
open Go.RowKit Go.Shelf
set_option linter.unusedVariables false
attribute [local go_sem] Oper.semAt_some
theorem roundIn_any {F:Fence} (hd:F.depth=none) {m m':Nat} {P:Program} {l:Nat} {f:FuncId} {tmps:Array Value} {assign body:Code} {w:World} {R:Ending->World->Prop}
  (h:RoundIn F m P l f tmps assign body w R):RoundIn F m' P l f tmps assign body w R:=⟨h.1,fun c cs _=>h.2 c cs (fun d h=>by rw [hd] at h; cases h)⟩
theorem yieldAt_any {F:Fence} (hd:F.depth=none) {m:Nat} (m':Nat) {P:Program} {l:Nat} {args:Array Value} {W:World} {R:Ending->World->Prop} (h:YieldAt F m P l args W R):YieldAt F m' P l args W R:=by
 obtain ⟨fn,tmps,assign,body,hy,hR⟩:=h
 exact ⟨fn,tmps,assign,body,hy,roundIn_any hd hR⟩
def visV (x:Fl):Value:=.agg #[.string ⟨x.path.toArray⟩,.string ⟨x.data.toArray⟩,.int .i64 0]
def KpF (B0 lb:Nat) (W W':World):Prop:=W.heap.size<=W'.heap.size/\Below B0 W W'/\∀ b cs t fr,W.heap[b]? = some (.cells cs t fr)->b ≠ lb->t ≠ 55->W'.heap[b]? = some (.cells cs t fr)
section
variable {B0 lb:Nat} {W W':World}
theorem KpF.bk (h:KpF B0 lb W W') {b:Nat} {cs:Array Value} {t:TypeId} (hb:BK b cs t W) (hne:b ≠ lb) (ht:t ≠ 55):BK b cs t W':=
 h.2.2 b _ _ _ hb hne ht
theorem KpF.refl (B0 lb:Nat) (W:World):KpF B0 lb W W:=⟨Nat.le_refl _,Below.refl _ _,fun b cs t fr h _ _=>h⟩
theorem KpF.trans {W2:World} (h:KpF B0 lb W W') (g:KpF B0 lb W' W2):KpF B0 lb W W2:=⟨Nat.le_trans h.1 g.1,h.2.1.trans g.2.1,fun b cs t fr hb hn ht=>g.2.2 b cs t fr (h.2.2 b cs t fr hb hn ht) hn ht⟩
theorem KpF.of (h:Below W.heap.size W W') (hB:B0<=W.heap.size):KpF B0 lb W W':=⟨h.size,h.mono hB,fun b cs t fr hb _ _=>(h.block b (Array.getElem?_eq_some_iff.1 hb).1).trans hb⟩
theorem KpF.own {base:Nat} {e:TypeId} {z n:Nat} {v:Value} {xs:List Value} (h:KpF B0 lb W W') (ho:W.ownsRow base e z v n xs) (hl:lb < base) (he:e ≠ 55):W'.ownsRow base e z v n xs:=by
 refine ⟨ho.1,?_⟩
 rcases ho.2 with h1 | ⟨g,cap,cur,h1,h2,h3,h4⟩
 ·exact .inl h1
 ·exact .inr ⟨g,cap,cur,h1,h2,h.2.2 _ _ _ _ h3 (by omega) he,h4⟩
end
theorem VisL.head {f:(Int × Int)->Pa->List Fl->Prop} {Q:List Itm} {es:List Ent} {pre:Pa} {V:List Fl} {k:Nat} (hk:k < es.length) (h:VisL f Q (es.drop k) pre V):∃ V1 V2,V=V1 ++ V2/\(pre ++ es[k].name).length<=100/\(if es[k].dir=true then f es[k].d (pre ++ es[k].name ++ [47]) V1 else ∃ D,getS Q es[k].d=(blobO D,0)/\V1=[⟨pre ++ es[k].name,D⟩])/\VisL f Q (es.drop (k + 1)) pre V2:=by
 rw [List.drop_eq_getElem_cons hk,VisL] at h
 exact h
theorem VisL.fin {f:(Int × Int)->Pa->List Fl->Prop} {Q:List Itm} {es:List Ent} {pre:Pa} {V:List Fl} {k:Nat} (hk:es.length<=k) (h:VisL f Q (es.drop k) pre V):V=[]:=by
 rw [List.drop_of_length_le hk,VisL] at h
 exact h
theorem ba_cat (a b:Pa):(⟨(a ++ b).toArray⟩:ByteArray)=⟨a.toArray⟩ ++ ⟨b.toArray⟩:=by
 apply ByteArray.ext
 simp [ByteArray.data_append]
theorem visit_in (B0 lb N:Nat) (w0:World) (a:Option Addr) (xs:List Itm) (c:Nat) (hpp:∀ W,Below B0 w0 W->PoolIn W a xs c) (ha:Asc xs) (l:Nat) (J:List Fl->World->Prop) (Jx:World->Prop) (hJ:∀ s W W',J s W->Below W.heap.size W W'->J s W')
  (hY:∀ m pre x W,J pre W->pre.length < N->YieldAt Fence.wide m Tryz.prog l #[visV x] W fun e W'=>(e = .returned (.bool true)/\J (pre ++ [x]) W'/\KpF B0 lb W W')\/(e = .returned (.bool false)/\Jx W')) :
  ∀ (n:Nat) (d1 d2:Int) (pr:Pa) (V hist:List Fl) (W:World),Vis xs n (d1,d2) pr V->Below B0 w0 W->lb < W.heap.size->B0<=W.heap.size->J hist W->hist.length + V.length<=N->(pr.length:Int)<=1000->
   Calls Tryz.prog 89 #[.slice a xs.length c,.agg #[.int .u64 d1,.int .u64 d2],.string ⟨pr.toArray⟩,.func (.yield l) #[] #[]] W fun e W'=>(e = .returned (.bool true)/\J (hist ++ V) W'/\KpF B0 lb W W')\/(e = .returned (.bool false)/\Jx W'):=by
 have HPP:=hid hpp
 have HJJ:=hid hJ
 have HYY:=hid hY
 have HA:=hid ha
 clear hpp hJ hY ha
 intro n
 induction n with
 | zero=>intro d1 d2 pr V hist W h; exact h.elim
 | succ n ih=>
  have HIH:=hid ih
  clear ih
  intro d1 d2 pr V hist W hV hB hlb hB0 hj hN hpl
  obtain ⟨es,hget,hempty,hvl⟩:=hV
  have HVL:=hid hvl
  clear hvl
  have HG:=hid (fun W1 (hW:Below B0 w0 W1)=>get_any a xs c d1 d2 W1 (HPP.out W1 hW) HA.out)
  rw [hget] at HG
  refine (callsIn_wide (n:=5)).1 ?_
  refine callsIn_of_wp Tryz.func89 rfl trivial ?_ rfl
  simp only [Tryz.ntmps89,List.size_toArray,List.length_cons,List.length_nil,Nat.reduceAdd,Nat.reduceSub,Array.replicate_succ,Array.replicate_zero,List.push_toArray,List.append_toArray,List.nil_append,List.cons_append]
  obtain ⟨u1,hu1⟩:∃ u1,u1=(W.alloc (.cells #[.int .u64 d1,.int .u64 d2] 35)).alloc (.cells #[.func (.yield l) #[] #[]] 159):=⟨_,rfl⟩
  have HKD:Hid (BK W.heap.size #[.int .u64 d1,.int .u64 d2] 35 u1):=hid (by rw [hu1]; exact (BK.new _ _ _).alloc _)
  have HKY:Hid (BK (W.heap.size + 1) #[.func (.yield l) #[] #[]] 159 u1):=hid (by rw [hu1]; exact BK.new2 _ _ _ _)
  have HWU:Hid (Below W.heap.size W u1):=hid (by rw [hu1]; exact ((Below.refl _ W).alloc (Nat.le_refl _) _).alloc (by simp) _)
  have HBU:Hid (Below B0 w0 u1):=hid (hB.trans (HWU.out.mono hB0))
  have HJU:Hid (J hist u1):=hid (HJJ.out _ _ _ hj HWU.out)
  have HGU:=hid (HG.out u1 HBU.out)
  have c0:=HKD.out.c2.1
  have c1:=HKD.out.c2.2
  have c2:=HKY.out.c1
  rw [hu1] at HGU c0 c1 c2
  have HU:=hid hu1
  have HB:=hid hB
  have HEM:=hid hempty
  clear hu1 hget HG hB hempty hj
  obtain ⟨nx,hnx⟩:∃ nx,nx=xs.length:=⟨_,rfl⟩
  rw [<-hnx] at HGU ⊢
  have HNX:=hid hnx
  clear hnx
  have HN:=hid hN
  clear hN
  gi_wp2
  refine ⟨trivial,?_⟩
  refine (callsIn_wide.2 HGU.out).mono ?_
  rintro e u2 ⟨ea,ec,pa,pc,rfl,hob,hb⟩
  rw [<-HU.out] at hob hb
  have HK12:Hid (KpF B0 lb W u2):=hid ((KpF.of HWU.out hB0).trans (KpF.of hb (by have:=HWU.out.size; omega)))
  have HKY2:=hid (HKY.out.below hb)
  have HJ2:Hid (J hist u2):=hid (HJJ.out _ _ _ HJU.out hb)
  have hz1:u1.heap.size=W.heap.size + 2:=by rw [HU.out]; simp
  have hz2:W.heap.size + 2<=u2.heap.size:=by have:=hb.size; omega
  have HEO:Hid (u2.ownsRow (W.heap.size + 2) 111 4 (.slice ea es.length ec) es.length (ecells es)):=hid (by have:=hob.eo; rw [hz1] at this; exact this)
  have hel:((es.length:Nat):Int)<=1000000:=by have h:=hob.bb.elen; simp only [treeO] at h; omega
  clear hob hb HGU c0 c1 c2 HKD HKY HBU HJU HWU hz1 HU u1
  simp only [treeO,Ob.val,List.length_nil]
  obtain ⟨ne,hne⟩:∃ ne,ne=es.length:=⟨_,rfl⟩
  obtain ⟨u3,hu3⟩:∃ u3,u3=u2.alloc (.cells #[.int .i64 2,.string ⟨#[]⟩,.slice ea ne ec,.int .u64 0,.int .u64 0,.slice pa 0 pc,.string ⟨#[]⟩,.int .i64 0,.string ⟨#[]⟩] 100):=⟨_,rfl⟩
  rw [<-hne] at ⊢
  obtain ⟨r0,r1,r2,r3,r4,r5,r6,r7,r8⟩:=(BK.new u2 #[.int .i64 2,.string ⟨#[]⟩,.slice ea ne ec,.int .u64 0,.int .u64 0,.slice pa 0 pc,.string ⟨#[]⟩,.int .i64 0,.string ⟨#[]⟩] 100).c9
  have HE0:Hid ((ne:Int)=0->pr=[]):=hid (fun h=>HEM.out (List.eq_nil_of_length_eq_zero (by omega)))
  rw [<-hne] at hel
  have HNE:=hid hne
  clear hne HEM
  by_cases hn0:(ne:Int)=0
  ·have hes:es=[]:=List.eq_nil_of_length_eq_zero (by have:=HNE.out; omega)
   have hpr:=HE0.out hn0
   have hv0:V=[]:=by have h:=HVL.out; rw [hes,VisL] at h; exact h
   obtain rfl:ne=0:=by omega
   subst hpr
   have HF:Hid (J (hist ++ V) (u2.alloc (.cells #[.int .i64 2,.string ⟨#[]⟩,.slice ea 0 ec,.int .u64 0,.int .u64 0,.slice pa 0 pc,.string ⟨#[]⟩,.int .i64 0,.string ⟨#[]⟩] 100))/\KpF B0 lb W (u2.alloc (.cells #[.int .i64 2,.string ⟨#[]⟩,.slice ea 0 ec,.int .u64 0,.int .u64 0,.slice pa 0 pc,.string ⟨#[]⟩,.int .i64 0,.string ⟨#[]⟩] 100))):=hid (by
    have hbl:=(Below.refl u2.heap.size u2).alloc (Nat.le_refl _) (.cells #[.int .i64 2,.string ⟨#[]⟩,.slice ea 0 ec,.int .u64 0,.int .u64 0,.slice pa 0 pc,.string ⟨#[]⟩,.int .i64 0,.string ⟨#[]⟩] 100)
    exact ⟨by rw [hv0,List.append_nil]; exact HJJ.out _ _ _ HJ2.out hbl,HK12.out.trans (KpF.of hbl (by omega))⟩)
   clear hu3 r0 r1 r3 r4 r5 r6 r7 r8 hes hv0
   gi_wp2
   refine wpIn_loop_rounds 1 ?_
   rw [roundsIn_succ]
   gi_wp2
   go_ret
   exact .inl ⟨rfl,HF.out⟩
  ·have hn1:((ne:Int) == 0)=false:=by simpa using hn0
   clear hu3 r0 r1 r3 r4 r5 r6 r7 r8
   gi_wp2_with fail
   gi_loopw [49] (fun i wr=>∃ (k:Nat) (V0 V1:List Fl),i = .int .i64 k/\k<=ne/\Hid (V=V0 ++ V1)/\Hid (VisL (Vis xs n) xs (es.drop k) pr V1)/\Hid (KpF B0 lb u2 wr)/\Hid (J (hist ++ V0) wr)) (fun i _=>ne - (intOf i).toNat)
   case atStart=>
    have hbl:=(Below.refl u2.heap.size u2).alloc (Nat.le_refl _) (.cells #[.int .i64 2,.string ⟨#[]⟩,.slice ea ne ec,.int .u64 0,.int .u64 0,.slice pa 0 pc,.string ⟨#[]⟩,.int .i64 0,.string ⟨#[]⟩] 100)
    exact ⟨0,[],V,rfl,by omega,hid rfl,hid (by rw [List.drop_zero]; exact HVL.out),hid (KpF.of hbl (by omega)),hid (by rw [List.append_nil]; exact HJJ.out _ _ _ HJ2.out hbl)⟩
   case round=>
    obtain ⟨k,V0,V1,rfl,hkn,HV,HVL2,HK,HJK⟩:=hrel
    clear r2 HVL HJ2
    have HKW:Hid (KpF B0 lb W wr):=hid (HK12.out.trans HK.out)
    have hzw:W.heap.size + 2<=wr.heap.size:=by have:=HK.out.1; omega
    have HKYW:Hid (BK (W.heap.size + 1) #[.func (.yield l) #[] #[]] 159 wr):=hid (HK.out.bk HKY2.out (by omega) (by decide))
    by_cases hk:k < ne
    ·have hkL:k < es.length:=by have:=HNE.out; omega
     obtain ⟨V2,V3,hv,hpn,hif,hvl⟩:=HVL2.out.head hkL
     have HVT:=hid hvl
     have HVE:Hid (V=V0 ++ V2 ++ V3):=hid (by rw [HV.out,hv,List.append_assoc])
     clear HVL2 hv hvl HV
     have HEW:Hid (Ents wr.heap.size wr ea es):=hid (ownsRow_ents (HK.out.own HEO.out (by omega) (by decide)))
     obtain ⟨b,off,rfl,hbl,q0,q1,q2,q3⟩:=HEW.out k hkL
     generalize es[k]=en at q0 q1 q2 q3 hif hpn
     obtain ⟨nm,dir,x1,x2⟩:=en
     simp only at q0 q1 q2 q3 hif hpn
     clear HEW
     have hki:(k:Int) < (ne:Int):=by omega
     obtain ⟨u4,hu4⟩:∃ u4,u4=wr.alloc (.cells #[.string ⟨nm.toArray⟩,.bool dir,.int .u64 x1,.int .u64 x2] 111):=⟨_,rfl⟩
     have HW4:Hid (Below wr.heap.size wr u4):=hid (by rw [hu4]; exact (Below.refl _ _).alloc (Nat.le_refl _) _)
     have hz4:u4.heap.size=wr.heap.size + 1:=by rw [hu4]; simp
     have HK4:Hid (KpF B0 lb W u4):=hid (HKW.out.trans (KpF.of HW4.out (by omega)))
     have HK42:Hid (KpF B0 lb u2 u4):=hid (HK.out.trans (KpF.of HW4.out (by omega)))
     have HB4:Hid (Below B0 w0 u4):=hid (HB.out.trans HK4.out.2.1)
     have HJ4:Hid (J (hist ++ V0) u4):=hid (HJJ.out _ _ _ HJK.out HW4.out)
     have HKY4:Hid (BK (W.heap.size + 1) #[.func (.yield l) #[] #[]] 159 u4):=hid (HKYW.out.below HW4.out)
     have s0:=HKY4.out.c1
     obtain ⟨e0,e1,e2,e3⟩:=(BK.new wr #[.string ⟨nm.toArray⟩,.bool dir,.int .u64 x1,.int .u64 x2] 111).c4
     have hpn1:(((pr ++ nm).length:Nat):Int)<=100:=by omega
     have hpn2:¬ (100:Int) < (pr.length:Int) + (nm.length:Int):=by rw [List.length_append] at hpn1; omega
     rw [hu4] at s0
     have HU4:=hid hu4
     have HPN:=hid hpn
     clear hu4 hpn HKYW HK HJK HW4 HKW HKY4 HB
     cases dir with
     | true=>
      rw [if_pos rfl] at hif
      have HC:=hid (HIH.out x1 x2 (pr ++ nm ++ [47]) V2 (hist ++ V0) u4 hif HB4.out (by omega) (by omega) HJ4.out (by
       have h1:=HN.out
       rw [HVE.out] at h1
       simp only [List.length_append] at h1 ⊢
       omega) (by simp only [List.length_append,List.length_singleton] at hpn1 ⊢; omega))
      rw [<-HNX.out,ba_cat,ba_cat] at HC
      clear hif
      gi_wp2
      refine ⟨trivial,?_⟩
      rw [<-HU4.out]
      refine (callsIn_wide.2 HC.out).mono ?_
      rintro e u5 (⟨rfl,hj5,hk5⟩ | ⟨rfl,hx5⟩)
      ·have HR5:Hid (KpF B0 lb u2 u5):=hid (HK42.out.trans hk5)
       have HJ5:Hid (J (hist ++ (V0 ++ V2)) u5):=hid (by rw [<-List.append_assoc]; exact hj5)
       clear hj5 hk5 HC q0 q1 q2 q3 s0 e0 e1 e2 e3
       gi_wp2
       go_roundw
       case rel=>exact ⟨k + 1,V0 ++ V2,V3,by go_num,by omega,HVE,HVT,HR5,HJ5⟩
       case measure=>simp [intOf] <;> omega
      ·clear HC q0 q1 q2 q3 s0 e0 e1 e2 e3
       gi_wp2
       go_ret
       exact .inr ⟨rfl,hx5⟩
     | false=>
      rw [if_neg (by decide)] at hif
      obtain ⟨D,hg,rfl⟩:=hif
      have HC:=hid (data_any a xs c x1 x2 D u4 (HPP.out _ HB4.out) HA.out hg)
      rw [<-HNX.out] at HC
      clear hg
      gi_wp2
      refine ⟨trivial,?_⟩
      rw [<-HU4.out]
      refine (callsIn_wide.2 HC.out).mono ?_
      rintro e u5 ⟨rfl,hb5⟩
      have HK45:Hid (KpF B0 lb u2 u5):=hid (HK42.out.trans (KpF.of hb5 (by omega)))
      have hj5:J (hist ++ V0) u5:=HJJ.out _ _ _ HJ4.out hb5
      have t0:=(HK45.out.bk HKY2.out (by omega) (by decide)).c1
      obtain ⟨fn,tmps,assign,body,hy,hR⟩:=HYY.out (5 - 1) _ ⟨pr ++ nm,D⟩ u5 hj5 (by
       have h1:=HN.out
       rw [HVE.out] at h1
       simp only [List.length_append,List.length_singleton] at h1 ⊢
       omega)
      rw [visV] at hy
      simp only at hy
      rw [ba_cat] at hy
      clear HC q0 q1 q2 q3 s0 e0 e1 e2 e3 hb5 hj5
      gi_wp2
      refine hR.mono ?_
      rintro e u6 (⟨rfl,hj6,hk6⟩ | ⟨rfl,hx6⟩)
      ·have HR6:Hid (KpF B0 lb u2 u6):=hid (HK45.out.trans hk6)
       have HJ6:Hid (J (hist ++ (V0 ++ [⟨pr ++ nm,D⟩])) u6):=hid (by rw [<-List.append_assoc]; exact hj6)
       clear hj6 hk6 hy hR t0
       gi_wp2
       go_roundw
       case rel=>exact ⟨k + 1,V0 ++ [⟨pr ++ nm,D⟩],V3,by go_num,by omega,HVE,HVT,HR6,HJ6⟩
       case measure=>simp [intOf] <;> omega
      ·clear hy hR t0
       gi_wp2
       go_ret
       exact .inr ⟨rfl,hx6⟩
    ·have hki:¬ (k:Int) < (ne:Int):=by omega
     have hv1:=HVL2.out.fin (by have:=HNE.out; omega)
     have HF:Hid (J (hist ++ V) wr):=hid (by rw [HV.out,hv1,List.append_nil]; exact HJK.out)
     clear HV HVL2 hv1 HKYW
     gi_wp2
     go_ret
     exact .inl ⟨rfl,HF.out,HKW.out⟩
end Go.Proofs.YtdedfkljaeloiaaGreatDoor
