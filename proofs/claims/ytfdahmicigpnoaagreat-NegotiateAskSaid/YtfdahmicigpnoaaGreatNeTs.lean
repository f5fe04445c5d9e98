/- Sets of digests with their number; negotiate.toSet. -/
import Derived.Test.YtfdahmicigpnoaaGreatNeLi
set_option maxRecDepth 100000
set_option maxHeartbeats 16000000
open Go.Lib (hid)
namespace Go.Proofs.YtfdahmicigpnoaaGreat
open Go.RowKit Go.Shelf
set_option linter.unusedVariables false
def SetV (b:Nat) (l:List (Int × Int)) (W:World):Prop:=
 ∃ D:DataW Value,W.ownsMap Tryz.prog 41 selfE b (Maps.size D) D/\(∀ d,OkD d->∀ z,D.atKey (keyL d) z=optV (if d ∈ l then some (.bool true) else none) z)/\Maps.size D<=l.length/\(Maps.size D=l.length ↔ l.Nodup)
section
variable {b:Nat} {l:List (Int × Int)} {W:World}
theorem SetV.made (W:World):SetV W.heap.size [] (W.alloc (.map #[] 0)):=⟨.map [],World.ownsMap_made _ _ _ _,fun d _ z=>WideAt.atKey_none _ (fun p hp=>by simp at hp),by simp [Maps.size],by simp [Maps.size]⟩
theorem SetV.lt (h:SetV b l W):b < W.heap.size:=by obtain ⟨D,h1,_⟩:=h; exact h1.lt
theorem SetV.kept {W':World} {row:Option Nat} (h:SetV b l W) (hg:W.grownBy W' row) (hne:some b ≠ row):SetV b l W':=by obtain ⟨D,h1,h2⟩:=h; exact ⟨D,h1.kept hg hne,h2⟩
theorem SetV.alloc (h:SetV b l W) (o:Obj):SetV b l (W.alloc o):=by obtain ⟨D,h1,h2⟩:=h; exact ⟨D,h1.alloc o,h2⟩
theorem SetV.below {W':World} (h:SetV b l W) (hb:Below W.heap.size W W'):SetV b l W':=h.kept (row:=none) ⟨hb.os,hb.tape,hb.output,hb.size,fun k hk _=>hb.block k hk⟩ (by simp)
theorem SetV.map (h:SetV b l W):MapV b l.length (fun d=>if d ∈ l then some (.bool true) else none) W:=by
 obtain ⟨D,h1,h2,h3,_⟩:=h
 exact ⟨D,h1.mono h3,h2⟩
theorem SetV.look (h:SetV b l W) {x y:Int} (hd:OkD (x,y)):(Instr.lookup 83 (.map (some b)) (.agg #[.int .u64 x,.int .u64 y]) false).run Tryz.prog W = .ok (.bool (decide ((x,y) ∈ l))) W:=by
 rw [h.map.look Tryz.underlying83 (zeroBool W) hd]
 by_cases e:(x,y) ∈ l <;> simp [e]
theorem SetV.put (h:SetV b l W) {x y:Int} (hd:OkD (x,y)) (hn:(l.length:Int)<=1000000000) :
  ∃ W',(Instr.mapUpdate 83 (.map (some b)) (.agg #[.int .u64 x,.int .u64 y]) (.bool true)).run Tryz.prog W = .ok () W'/\SetV b (l ++ [(x,y)]) W'/\W.grownBy W' (some b)/\W'.heap.size=W.heap.size:=by
 obtain ⟨D,h1,h2,h3,h4⟩:=h
 obtain ⟨W',hrun,ho,ht'⟩:=h1.store lawD Tryz.underlying83 (by unfold maxLen; omega) (keyL_some hd) (d:=.held (.bool true)) (ps:=[]) rfl
 have hty:=h1.tidy lawD
 have hs:=Maps.size_put (k:=keyL (x,y)) hty (.held (.bool true):DataW Value)
 have hh:=has_optV (h2 _ hd)
 have hsz:Maps.size (D.put (keyL (x,y)) (.held (.bool true):DataW Value))<=Maps.size D + 1:=by rw [hs]; split <;> omega
 obtain ⟨es,clock,hb',hF,_,hD'⟩:=ho
 have hex:es.size=Maps.size (D.put (keyL (x,y)) (.held (.bool true):DataW Value)):=by rw [hD']; simp [Maps.size,length_sorted]
 refine ⟨W',hrun,⟨_,⟨es,clock,hb',hF,by rw [hex]; exact Nat.le_refl _,hD'⟩,fun d hd' z=>?_,?_,?_⟩,ht'.grown,?_⟩
 ·by_cases e:d=(x,y)
  ·subst e
   rw [Maps.atKey_put_same h1.isMap (keyL_isKey hd)]
   simp [optV]
  ·rw [Maps.atKey_put_other (fun h=>e (keyL_inj hd' hd h)),h2 _ hd']
   simp [e]
 ·rw [List.length_append]; simp only [List.length_cons,List.length_nil]; omega
 ·rw [hs,hh,List.length_append,List.nodup_append]
  simp only [List.length_cons,List.length_nil]
  by_cases e:(x,y) ∈ l
  ·simp only [e,if_true,Option.isSome_some]
   constructor
   ·intro e2; omega
   ·rintro ⟨_,_,e2⟩; exact absurd rfl (e2 _ e _ (by simp))
  ·simp only [e,if_false,Option.isSome_none,Bool.false_eq_true]
   constructor
   ·intro e2
    refine ⟨h4.1 (by omega),by simp,fun a ha c hc e3=>?_⟩
    rw [List.mem_singleton] at hc
    subst hc; subst e3; exact e ha
   ·rintro ⟨e2,_,_⟩
    have:=h4.2 e2
    omega
 ·obtain ⟨es,clock,es',clock',hb,rfl⟩:=ht'
  simp [ChangeMaps.setBlock]
theorem SetV.eq {l':List (Int × Int)} (h:SetV b l W) (e:l=l'):SetV b l' W:=by rw [<-e]; exact h
theorem SetV.len (h:SetV b l W):∃ k:Nat,(∀ ty,(Builtin.len_ #[83] ty #[.map (some b)]).run Tryz.prog W = .ok (.int .i64 k) W)/\k<=l.length/\(k=l.length ↔ l.Nodup):=by
 obtain ⟨D,h1,h2,h3,h4⟩:=h
 exact ⟨Maps.size D,fun ty=>h1.len Tryz.underlying83 ty,h3,h4⟩
end
def GotS (w:World) (l:List (Int × Int)) (e:Ending) (w':World):Prop:=∃ b,e = .returned (.map (some b))/\SetV b l w'/\w.heap.size<=b/\Below w.heap.size w w'
theorem below_put {w W W':World} {b:Nat} (h:Below w.heap.size w W) (hg:W.grownBy W' (some b)) (hb:w.heap.size<=b):Below w.heap.size w W':=h.grown hg h.size (fun k e=>by cases e; exact hb)
theorem allD_mem {L:List SlD} {i:Nat} (h:i < L.length) {d:Int × Int} (hd:d ∈ L[i].ds):d ∈ allD L:=by
 unfold allD
 exact List.mem_flatMap.2 ⟨L[i],List.getElem_mem h,hd⟩
theorem toSet_any (bb cc:Nat) (L:List SlD) (w:World) (hL:SlsD w.heap.size w bb L) (hok:∀ d ∈ allD L,OkD d) (hn:((allD L).length:Int)<=1000000) (hl:(L.length:Int)<=1000) :
  Calls Tryz.prog 88 #[.slice (some ⟨bb,0,none⟩) L.length cc] w (GotS w (allD L)):=by
 have hmm:=@run_makeMap Tryz.prog
 have HL:=hid hL
 have HOK:=hid hok
 have HT:=hid (fun k (h:k < L.length)=>allD_take h)
 have HLE:=hid (allD_le L)
 obtain ⟨T,hT⟩:∃ T,T=(allD L).length:=⟨_,rfl⟩
 rw [<-hT] at hn
 have HTT:=hid hT
 obtain ⟨n,hnn⟩:∃ n,n=L.length:=⟨_,rfl⟩
 have HN:=hid hnn
 rw [<-hnn] at hl ⊢
 clear hL hT hnn hok
 have HS0:Hid (SetV w.heap.size [] (w.alloc (.map #[] 0))):=hid (SetV.made w)
 have HB0:Hid (Below w.heap.size w (w.alloc (.map #[] 0))):=hid ((Below.refl _ w).alloc (Nat.le_refl _) _)
 go_enter Tryz.func88,Tryz.ntmps88
 go_wp2_with fail
 go_loopw [11] (fun i wr=>∃ k:Nat,k<=n/\i = .int .i64 k/\Hid (SetV w.heap.size (allD (L.take k)) wr)/\Hid (Below w.heap.size w wr)) (fun i _=>n - (intOf i).toNat)
 case atStart=>exact ⟨0,by omega,rfl,HS0,HB0⟩
 case round=>
  clear HS0 HB0 hmm
  obtain ⟨k,hk,rfl,HS,HB⟩:=hrel
  by_cases hlt:k < n
  ·have hki:(k:Int) < (n:Int):=by omega
   have h1:k < L.length:=by have:=HN.out; omega
   have hSl:=HL.out.ahead HB.out
   have c0:=hSl.cell k h1
   have HD:=hid (HL.out.dig k h1)
   have HOKK:Hid (∀ d ∈ L[k].ds,OkD d):=hid (fun d hd=>HOK.out d (allD_mem h1 hd))
   have hle:(allD (L.take k)).length + L[k].ds.length<=T:=by
    have a1:=HLE.out (k + 1)
    have a2:=HT.out k h1
    rw [a2,List.length_append,<-HTT.out] at a1
    exact a1
   have HK2:=hid (HT.out k h1)
   have HS2:Hid (SetV w.heap.size (allD (L.take k) ++ (L[k].ds).take 0) wr):=hid (HS.out.eq (by simp))
   generalize L[k]=S at c0 HD HOKK hle HK2 HS2
   obtain ⟨sa,ds,sc⟩:=S
   simp only at c0 HD HOKK hle HK2 HS2
   obtain ⟨m,hm⟩:∃ m,m=ds.length:=⟨_,rfl⟩
   have HM:=hid hm
   rw [<-hm] at c0 hle
   clear hSl HS hm
   go_wp2_with fail
   go_loopw [17] (fun i wr=>∃ j:Nat,j<=m/\i = .int .i64 j/\Hid (SetV w.heap.size (allD (L.take k) ++ ds.take j) wr)/\Hid (Below w.heap.size w wr)) (fun i _=>m - (intOf i).toNat)
   case atStart=>exact ⟨0,by omega,rfl,HS2,HB⟩
   case round=>
    clear HS2 HB c0
    obtain ⟨j,hj,rfl,HS,HB⟩:=hrel
    by_cases hlt2:j < m
    ·have hji:(j:Int) < (m:Int):=by omega
     have h2:j < ds.length:=by have:=HM.out; omega
     obtain ⟨b0,of0,haa,hb0,q0,q1⟩:=(HD.out.ahead HB.out) j h2
     have HDx:=HD
     subst haa
     have hokd:=HOKK.out _ (List.getElem_mem h2)
     have HTJ:Hid (ds.take (j + 1)=ds.take j ++ [ds[j]]):=hid (List.take_succ_eq_append_getElem h2)
     generalize ds[j]=d at q0 q1 hokd HTJ
     obtain ⟨d1,d2⟩:=d
     simp only at q0 q1
     obtain ⟨u1,hup,hs1,hgu,hz1⟩:=(HS.out.alloc (.cells #[.int .u64 d1,.int .u64 d2] 41)).put hokd (by
      have:(allD (L.take k) ++ ds.take j).length<=T:=by rw [List.length_append,List.length_take]; omega
      omega)
     have HS3:Hid (SetV w.heap.size (allD (L.take k) ++ ds.take (j + 1)) u1):=hid (hs1.eq (by rw [HTJ.out,List.append_assoc]))
     have HB3:Hid (Below w.heap.size w u1):=hid (below_put (HB.out.alloc HB.out.size _) hgu (Nat.le_refl _))
     clear hs1 hgu hz1 HS HB
     go_wp2_with fail
     go_roundw
     case rel=>exact ⟨j + 1,by omega,by go_num,HS3,HB3⟩
     case measure=>simp [intOf] <;> omega
    ·have hji:¬ (j:Int) < (m:Int):=by omega
     have HS3:Hid (SetV w.heap.size (allD (L.take (k + 1))) wr):=hid (HS.out.eq (by rw [HK2.out,List.take_of_length_le (l:=ds) (i:=j) (by have:=HM.out; omega)]))
     clear HS
     go_wp2_with fail
     go_roundw
     case rel=>exact ⟨k + 1,by omega,by go_num,HS3,HB⟩
     case measure=>simp [intOf] <;> omega
  ·have hki:¬ (k:Int) < (n:Int):=by omega
   have HS3:Hid (SetV w.heap.size (allD L) wr):=hid (HS.out.eq (by rw [List.take_of_length_le (by have:=HN.out; omega)]))
   clear HS
   go_wp2_with fail
   go_ret
   exact ⟨w.heap.size,rfl,HS3.out,Nat.le_refl _,HB.out⟩
end Go.Proofs.YtfdahmicigpnoaaGreat
