/- Joined texts: ApRo, ApDi, ApRg, ApOw. -/
import Derived.Test.YtdedfkljaeloiaaGreatDoorG8
import Derived.Test.YtdedfkljaeloiaaGreatDoorApLs
import Derived.Test.YtdedfkljaeloiaaGreatDoorPkHl
import Derived.RangeFuncNested
import Derived.RangeFuncBound
import Derived.RangeFuncCalls
import Derived.RangeFuncLeaves
import Derived.OwnWalkIn
import Derived.Lib.OthersKept
/- owners.rulesOf: the rules of the owners files,by their paths. -/
set_option maxRecDepth 100000
set_option maxHeartbeats 16000000
open Go.Lib (hid)
namespace Go.Proofs.YtdedfkljaeloiaaGreatDoor
open Go.RowKit Go.Shelf
set_option linter.unusedVariables false
def ownsB (p:Pa):Bool:=decide (p=ownN) || Lib.hasSuffix p (47 :: ownN)
def ruStep (M:Pa->Option (List Ru)) (f:Fl):Pa->Option (List Ru):=fun s=>if ownsB f.path=true/\s=f.path/\(parseS f.data).isSome=true then parseS f.data else M s
def ruM (l:List Fl):Pa->Option (List Ru):=l.foldl ruStep (fun _=>none)
theorem ruM_snoc (l:List Fl) (f:Fl):ruM (l ++ [f])=ruStep (ruM l) f:=by unfold ruM; rw [List.foldl_append]; rfl
theorem ruM_filter_go:∀ (l:List Fl) (M:Pa->Option (List Ru)),(l.filter fun f=>ownsB f.path).foldl ruStep M=l.foldl ruStep M
 | [],M=>rfl
 | f :: l,M=>by
  rw [List.filter_cons,List.foldl_cons]
  cases h:ownsB f.path with
  | true=>rw [if_pos rfl,List.foldl_cons,ruM_filter_go l]
  | false=>
   rw [if_neg (by simp),ruM_filter_go l]
   congr 1
   funext s
   simp [ruStep,h]
theorem ruM_filter (l:List Fl):ruM (l.filter fun f=>ownsB f.path)=ruM l:=ruM_filter_go l _
def RuAt (W:World) (o:Option Value):Option (List Ru)->Prop
 | some R=>∃ a n c,o=some (.slice a n c)/\n=R.length/\RlW W.heap.size W (a,n,c) R
 | none=>o=none
def RuMap (b k:Nat) (M:Pa->Option (List Ru)) (W:World):Prop:=∃ F:Pa->Option Value,MapS b k F W/\∀ s,RuAt W (F s) (M s)
theorem RuAt.grow {W W':World} {o:Option Value} {m:Option (List Ru)} {row:Option Nat} (h:RuAt W o m) (hg:W.grownBy W' row) (hf:Far [TSt,TSl,TRu] W.heap.size W row):RuAt W' o m:=by
 cases m with
 | none=>exact h
 | some R=>
  obtain ⟨a,n,c,h1,h2,h3⟩:=h
  exact ⟨a,n,c,h1,h2,h3.grow hg hf hg.size⟩
theorem RuMap.below {b k:Nat} {M:Pa->Option (List Ru)} {W W':World} (h:RuMap b k M W) (hb:Below W.heap.size W W'):RuMap b k M W':=by
 obtain ⟨F,h1,h2⟩:=h
 exact ⟨F,h1.below hb,fun s=>(h2 s).grow (gr_below hb) (Far.none _ _ _)⟩
theorem MapS.obj {b n:Nat} {F:Pa->Option Value} {W:World} (h:MapS b n F W):∃ es clock,W.heap[b]? = some (.map es clock):=by
 obtain ⟨D,⟨es,clock,h1,_⟩,_⟩:=h
 exact ⟨es,clock,h1⟩
theorem RuMap.put {b k:Nat} {M:Pa->Option (List Ru)} {W:World} (h:RuMap b k M W) {P:Pa} (hp:P.length<=1000000) (hk:(k:Int)<=1000000000) {a:Option Addr} {n c:Nat} {R:List Ru} (hn:n=R.length) (hr:RlW W.heap.size W (a,n,c) R) :
  ∃ W',(Instr.mapUpdate 75 (.map (some b)) (.string ⟨P.toArray⟩) (.slice a n c)).run Tryz.prog W = .ok () W'/\RuMap b (k + 1) (fun s=>if s=P then some R else M s) W'/\W.grownBy W' (some b)/\W'.heap.size=W.heap.size:=by
 obtain ⟨F,h1,h2⟩:=h
 obtain ⟨W',g1,g2,g3,g4⟩:=h1.put Tryz.underlying75 hp hk (.slice a n c)
 obtain ⟨es,clock,ho⟩:=h1.obj
 have hf:Far [TSt,TSl,TRu] W.heap.size W (some b):=fun j e=>by cases e; exact .inr (fun t _ cs fz e=>by rw [ho] at e; cases e)
 refine ⟨W',g1,⟨_,g2,fun s=>?_⟩,g3,g4⟩
 by_cases hs:s=P
 ·simp only [if_pos hs]
  exact ⟨a,n,c,rfl,hn,hr.grow g3 hf (by omega)⟩
 ·simp only [if_neg hs]
  exact (h2 s).grow g3 hf
theorem RuMap.eq {b k:Nat} {M M':Pa->Option (List Ru)} {W:World} (h:RuMap b k M W) (e:M=M'):RuMap b k M' W:=e ▸ h
theorem RuMap.up {b k:Nat} {M:Pa->Option (List Ru)} {W:World} (h:RuMap b k M W):RuMap b (k + 1) M W:=by
 obtain ⟨F,h1,h2⟩:=h
 exact ⟨F,h1.mono (by omega),h2⟩
def GotRo (w:World) (l:List Fl) (e:Ending) (w':World):Prop:=∃ b,e = .returned (.map (some b))/\RuMap b l.length (ruM l) w'/\w.heap.size<=b/\Below w.heap.size w w'
theorem rulesOf_any (a:Option Addr) (l:List Fl) (c:Nat) (w:World) (hl:Fls w.heap.size w a l) (hn:l.length<=1000) (hp:∀ x ∈ l,x.path.length<=100000) (hd:∀ x ∈ l,x.data.length<=100000) :
  Calls Tryz.prog 29 #[.slice a l.length c] w (GotRo w l):=by
 have HL:=hid hl
 have HP:=hid hp
 have HD:=hid hd
 obtain ⟨n,hnn⟩:∃ n,n=l.length:=⟨_,rfl⟩
 have HN:=hid hnn
 have hn2:n<=1000:=by rw [hnn]; exact hn
 rw [<-hnn]
 have HM0:Hid (RuMap w.heap.size 0 (ruM (l.take 0)) (w.alloc (.map #[] 0))):=hid ⟨_,MapS.made w,fun s=>rfl⟩
 have HB0:Hid (Below w.heap.size w (w.alloc (.map #[] 0))):=hid ((Below.refl _ w).alloc (Nat.le_refl _) _)
 clear hl hp hd hn hnn
 have hmm:=@run_makeMap Tryz.prog
 go_enter Tryz.func29,Tryz.ntmps29
 go_wp2_with fail
 go_loopw [12] (fun i wr=>∃ k:Nat,k<=n/\i = .int .i64 (k:Int)/\Hid (RuMap w.heap.size k (ruM (l.take k)) wr)/\Hid (Below w.heap.size w wr)) (fun i _=>n - (intOf i).toNat)
 case atStart=>exact ⟨0,by omega,rfl,HM0,HB0⟩
 case round=>
  clear HM0 HB0
  obtain ⟨k,hk,rfl,HM,HB⟩:=hrel
  have hws:=HB.out.size
  by_cases hlt:k < n
  ·have hki:(k:Int) < (n:Int):=by omega
   have hkl:k < l.length:=by rw [<-HN.out]; exact hlt
   obtain ⟨b0,of0,haa,hbb,q0,q1⟩:=fl_cells (HL.out.below HB.out (Nat.le_refl _)) hkl
   have hpl:=HP.out _ (List.getElem_mem hkl)
   have hdl:=HD.out _ (List.getElem_mem hkl)
   have HT:Hid (ruM (l.take (k + 1))=ruStep (ruM (l.take k)) l[k]):=hid (by rw [List.take_succ_eq_append_getElem hkl,ruM_snoc])
   generalize l[k]=x at q0 q1 hpl hdl HT
   obtain ⟨P,D⟩:=x
   simp only at q0 q1 hpl hdl HT
   subst haa
   obtain ⟨u1,hu1⟩:∃ u1,u1=wr.alloc (.cells #[.string ⟨P.toArray⟩,.string ⟨D.toArray⟩] 55):=⟨_,rfl⟩
   have h1:Below wr.heap.size wr u1:=by rw [hu1]; exact (Below.refl _ _).alloc (Nat.le_refl _) _
   have HB1:Hid (Below w.heap.size w u1):=hid (HB.out.trans (h1.mono hws))
   have HM1:=hid (HM.out.below h1)
   have HK1:Hid (BK wr.heap.size #[.string ⟨P.toArray⟩,.string ⟨D.toArray⟩] 55 u1):=hid (by rw [hu1]; exact BK.new _ _ _)
   obtain ⟨c0,c1⟩:=HK1.out.c2
   have HSF:Hid (Calls Tryz.prog 62 #[.string ⟨P.toArray⟩,.string ⟨#[47,79,87,78,69,82,83]⟩] u1 fun e w'=>e = .returned (.bool (Lib.hasSuffix P (47 :: ownN)))/\w' = u1):=hid (Any.strings_HasSuffix Tryz.hasSuf ⟨P.toArray⟩ ⟨#[47,79,87,78,69,82,83]⟩ u1 (by rw [ba_len]; omega))
   have HPA:=hid (parse_any D (by omega) u1)
   have HOB:Hid (ownsB P=(decide (P=ownN) || Lib.hasSuffix P (47 :: ownN))):=hid rfl
   have HSTP:Hid (ruStep (ruM (l.take k)) ⟨P,D⟩=fun s=>if ownsB P=true/\s=P/\(parseS D).isSome=true then parseS D else ruM (l.take k) s):=hid rfl
   have HU:=hid hu1
   rw [hu1] at c0 c1
   generalize Lib.hasSuffix P (47 :: ownN)=sb at HSF HOB
   clear hu1 h1 HM HB
   have hcase:((P == [79,87,78,69,82,83])=true/\ownsB P=true)\/((P == [79,87,78,69,82,83])=false/\ownsB P=sb):=by
    rw [HOB.out]
    by_cases h:P=[79,87,78,69,82,83]
    ·exact .inl ⟨by simpa using h,by rw [decide_eq_true (show P=ownN from h)]; rfl⟩
    ·exact .inr ⟨by simpa using h,by rw [decide_eq_false (show ¬ P=ownN from h)]; rfl⟩
   rcases hcase with ⟨he,hob⟩ | ⟨he,hob⟩
   ·have HO:=hid hob
    clear hob HOB
    go_wp2_with fail
    rw [<-HU.out]
    (with_reducible refine HPA.out.mono ?_)
    rintro e u2 ⟨hb2,ra,rn,rc,rp,rk,rfl,hm⟩
    have hk2:=HK1.out.below hb2
    have HB2:=hid (HB1.out.trans (hb2.mono HB1.out.size))
    have HM2:=hid (HM1.out.below hb2)
    obtain ⟨d0,d1⟩:=hk2.c2
    clear hb2 hk2 HPA HSF HM1 HK1 HB1 c0 c1 HU
    cases hps:parseS D with
    | some R=>
     rw [hps] at hm
     simp only at hm
     obtain ⟨rfl,hrn,hrl⟩:=hm
     obtain ⟨u3,hput,hm3,hg3,hz3⟩:=HM2.out.put (P:=P) (by omega) (by omega) hrn hrl
     have HB3:Hid (Below w.heap.size w u3):=hid (HB2.out.grown hg3 HB2.out.size (fun j e=>by cases e; exact Nat.le_refl _))
     have HM3:Hid (RuMap w.heap.size (k + 1) (ruM (l.take (k + 1))) u3):=hid (hm3.eq (by
      rw [HT.out,HSTP.out,hps]
      funext s
      rw [HO.out]
      simp))
     clear hm3 hg3 hz3 hrn hrl HM2 HB2 hps HT HSTP
     go_wp2_with fail
     go_roundw
     case rel=>exact ⟨k + 1,by omega,by go_num,HM3,HB3⟩
     case measure=>simp [intOf] <;> omega
    | none=>
     rw [hps] at hm
     have hk0:¬ rk=0:=hm
     have HM3:Hid (RuMap w.heap.size (k + 1) (ruM (l.take (k + 1))) u2):=hid (HM2.out.up.eq (by
      rw [HT.out,HSTP.out,hps]
      funext s
      simp))
     clear hm HM2 hps HT HSTP
     go_wp2_with fail
     go_roundw
     case rel=>exact ⟨k + 1,by omega,by go_num,HM3,HB2⟩
     case measure=>simp [intOf] <;> omega
   ·have HO:=hid hob
    clear hob HOB
    go_wp2_with fail
    rw [<-HU.out] at c0 c1 ⊢
    (with_reducible refine HSF.out.mono ?_)
    rintro e w' ⟨rfl,rfl⟩
    cases sb with
    | true=>
     go_wp2_with fail
     (with_reducible refine HPA.out.mono ?_)
     rintro e u2 ⟨hb2,ra,rn,rc,rp,rk,rfl,hm⟩
     have hk2:=HK1.out.below hb2
     have HB2:=hid (HB1.out.trans (hb2.mono HB1.out.size))
     have HM2:=hid (HM1.out.below hb2)
     obtain ⟨d0,d1⟩:=hk2.c2
     clear hb2 hk2 HPA HSF HM1 HK1 HB1 c0 c1 HU
     cases hps:parseS D with
     | some R=>
      rw [hps] at hm
      simp only at hm
      obtain ⟨rfl,hrn,hrl⟩:=hm
      obtain ⟨u3,hput,hm3,hg3,hz3⟩:=HM2.out.put (P:=P) (by omega) (by omega) hrn hrl
      have HB3:Hid (Below w.heap.size w u3):=hid (HB2.out.grown hg3 HB2.out.size (fun j e=>by cases e; exact Nat.le_refl _))
      have HM3:Hid (RuMap w.heap.size (k + 1) (ruM (l.take (k + 1))) u3):=hid (hm3.eq (by
       rw [HT.out,HSTP.out,hps]
       funext s
       rw [HO.out]
       simp))
      clear hm3 hg3 hz3 hrn hrl HM2 HB2 hps HT HSTP
      go_wp2_with fail
      go_roundw
      case rel=>exact ⟨k + 1,by omega,by go_num,HM3,HB3⟩
      case measure=>simp [intOf] <;> omega
     | none=>
      rw [hps] at hm
      have hk0:¬ rk=0:=hm
      have HM3:Hid (RuMap w.heap.size (k + 1) (ruM (l.take (k + 1))) u2):=hid (HM2.out.up.eq (by
       rw [HT.out,HSTP.out,hps]
       funext s
       simp))
      clear hm HM2 hps HT HSTP
      go_wp2_with fail
      go_roundw
      case rel=>exact ⟨k + 1,by omega,by go_num,HM3,HB2⟩
      case measure=>simp [intOf] <;> omega
    | false=>
     have HM3:Hid (RuMap w.heap.size (k + 1) (ruM (l.take (k + 1))) w'):=hid (HM1.out.up.eq (by
      rw [HT.out,HSTP.out]
      funext s
      rw [HO.out]
      simp))
     clear HM1 HT HSTP HSF HPA
     go_wp2_with fail
     go_roundw
     case rel=>exact ⟨k + 1,by omega,by go_num,HM3,HB1⟩
     case measure=>simp [intOf] <;> omega
  ·have hki:¬ (k:Int) < (n:Int):=by omega
   have HM2:Hid (RuMap w.heap.size n (ruM l) wr):=hid (by
    have hk2:k=n:=by omega
    have:=HM.out
    rw [hk2] at this
    exact this.eq (by rw [List.take_of_length_le (by have:=HN.out; omega)]))
   clear HM
   go_wp2_with fail
   go_ret
   exact ⟨_,rfl,by rw [<-HN.out]; exact HM2.out,Nat.le_refl _,HB.out⟩
attribute [local go_sem] Oper.semAt_some
def dirsE:Nat->Pa->Nat->List (Pa × Pa)
 | 0,_,_=>[]
 | n + 1,P,e=>if Lib.lastIndexByte ⟨(P.take e).toArray⟩ 47 < 0 then [(ownN,P)] else
  (P.take ((Lib.lastIndexByte ⟨(P.take e).toArray⟩ 47).toNat + 1) ++ ownN,P.drop ((Lib.lastIndexByte ⟨(P.take e).toArray⟩ 47).toNat + 1)) :: dirsE n P (Lib.lastIndexByte ⟨(P.take e).toArray⟩ 47).toNat
def dirsP (P:Pa):List (Pa × Pa):=dirsE (P.length + 1) P P.length
def Kd (b:Nat) (W W':World):Prop:=W.heap.size<=W'.heap.size/\W'.heap[b]? = W.heap[b]?
theorem saddA (A B:List UInt8) (h:A.length + B.length<=9000000) (W:World):(Op.stringOp .add ⟨A.toArray⟩ ⟨B.toArray⟩).run Tryz.prog W = .ok (.string ⟨(A ++ B).toArray⟩) W:=
 (run_string_add_sum (P:=Tryz.prog) (w:=W) ⟨A.toArray⟩ ⟨B.toArray⟩ (by rw [ba_len,ba_len]; omega)).trans (by rw [ba_append])
theorem yield_cs {e:Ending} {P Q:Prop} (h:(e = .returned (.bool true)/\P)\/(e = .returned (.bool false)/\Q)):∃ b,e = .returned (.bool b)/\((b=true/\P)\/(b=false/\Q)):=by
 rcases h with ⟨rfl,h⟩ | ⟨rfl,h⟩
 ·exact ⟨true,rfl,.inl ⟨rfl,h⟩⟩
 ·exact ⟨false,rfl,.inr ⟨rfl,h⟩⟩
theorem dirs1_in (l n pb:Nat) (hn:1<=n) (s:Pa) (hs:(s.length:Int)<=1000000) (J:List (Pa × Pa)->World->Prop) (Jx:World->Prop) (W:World) (hJ:∀ s W W',J s W->Below W.heap.size W W'->J s W')
  (hY:∀ pre x W,J pre W->pre ++ [x] <+: dirsP s->YieldAt Fence.wide (n - 1) Tryz.prog l #[.string ⟨x.1.toArray⟩,.string ⟨x.2.toArray⟩] W fun e W'=>(e = .returned (.bool true)/\J (pre ++ [x]) W'/\Kd pb W W')\/(e = .returned (.bool false)/\Jx W'))
  (hb0:BK pb #[.string ⟨s.toArray⟩] 9 W) (h0:J [] W) :
  CallsIn Fence.wide n Tryz.prog 92 (#[.func (.yield l) #[] #[]] ++ #[.pointer (some ⟨pb,0,none⟩)]) W fun e W'=>(∃ v,e = .returned v)/\(J (dirsP s) W'\/Jx W'):=by
 refine callsIn_of_wp Tryz.func92 rfl trivial ?_ rfl
 simp only [Tryz.ntmps92,List.size_toArray,List.length_cons,List.length_nil,Nat.reduceAdd,Nat.reduceSub,Array.replicate_succ,Array.replicate_zero,List.push_toArray,List.append_toArray,List.nil_append,List.cons_append]
 have HY:=hid hY
 have HJ:=hid hJ
 have HB0:=hid hb0
 obtain ⟨T,hT⟩:∃ T,T=dirsP s:=⟨_,rfl⟩
 rw [<-hT] at HY ⊢
 have HT:=hid hT
 have a0:=hb0.c1
 obtain ⟨m,hm⟩:∃ m,m=s.length:=⟨_,rfl⟩
 have hsz:(⟨s.toArray⟩:ByteArray).size=m:=by rw [ba_len,hm]
 have HM:=hid hm
 have hm2:(m:Int)<=1000000:=by rw [hm]; exact hs
 clear hY hJ hb0 hT hm hs
 gi_wp2
 gi_loopw [3] (fun i wr=>∃ (k f:Nat) (pre:List (Pa × Pa)),i = .int .i64 (k:Int)/\k<=m/\k < f/\Hid (T=pre ++ dirsE f s k)/\Hid (J pre wr)/\Hid (BK pb #[.string ⟨s.toArray⟩] 9 wr)) (fun i _=>(intOf i).toNat)
 case atStart=>exact ⟨m,m + 1,[],rfl,by omega,by omega,hid (by rw [HT.out,HM.out]; rfl),hid h0,HB0⟩
 case round=>
  clear h0 HB0 a0
  obtain ⟨k,f,pre,rfl,hkm,hf,HP,HJW,HA⟩:=hrel
  have a0:=HA.out.c1
  have hhi:=fun W=>sl_hi s k (by rw [<-HM.out]; exact hkm) W
  have HLX:=hid (fun W=>Any.strings_LastIndexByte Tryz.lastIdx ⟨(s.take k).toArray⟩ 47 (by rw [ba_len]; simp; have:=HM.out; omega) W)
  have hspec:=Lib.lastIndexByte_spec ⟨(s.take k).toArray⟩ 47
  rw [ba_len] at hspec
  obtain ⟨f,rfl⟩:∃ g,f=g + 1:=⟨f - 1,by omega⟩
  have HD:Hid (dirsE (f + 1) s k=if Lib.lastIndexByte ⟨(s.take k).toArray⟩ 47 < 0 then [(ownN,s)] else (s.take ((Lib.lastIndexByte ⟨(s.take k).toArray⟩ 47).toNat + 1) ++ ownN,s.drop ((Lib.lastIndexByte ⟨(s.take k).toArray⟩ 47).toNat + 1)) :: dirsE f s (Lib.lastIndexByte ⟨(s.take k).toArray⟩ 47).toNat):=hid rfl
  generalize Lib.lastIndexByte ⟨(s.take k).toArray⟩ 47=x at HLX hspec HD
  rcases hspec with ⟨rfl,hxx⟩ | ⟨j,hj,rfl,hxx⟩
  ·have HP2:Hid (T=pre ++ [(ownN,s)]):=hid (by rw [HP.out,HD.out,if_pos (by decide)])
   obtain ⟨fn,tmps,assign,body,hy,hR⟩:=HY.out pre (ownN,s) wr HJW.out ⟨[],by rw [HP2.out]; simp⟩
   have HR:=hid hR
   simp only [ownN] at hy
   clear HP HD hR hxx
   gi_wp2
   refine ⟨trivial,?_⟩
   refine (callsIn_wide.2 (HLX.out _)).mono ?_
   rintro e w1 ⟨rfl,rfl⟩
   clear HLX hhi
   gi_wp2
   refine HR.out.mono ?_
   rintro e w6 (⟨rfl,hj6,hk6⟩ | ⟨rfl,hx6⟩)
   ·rw [<-HP2.out] at hj6
    gi_wp2
    refine bodyPost_ret (results_none rfl _ _ _) rfl ?_
    exact ⟨⟨_,rfl⟩,.inl hj6⟩
   ·gi_wp2
    refine bodyPost_ret (results_none rfl _ _ _) rfl ?_
    exact ⟨⟨_,rfl⟩,.inr hx6⟩
  ·have hjk:j < k:=by simp at hj; omega
   have HP2:Hid (T=(pre ++ [(s.take (j + 1) ++ ownN,s.drop (j + 1))]) ++ dirsE f s j):=hid (by rw [HP.out,HD.out,if_neg (by omega),List.append_assoc]; rfl)
   have hjn:¬ (j:Int) < 0:=by omega
   have hjw:IntKind.i64.wrap ((j:Int) + 1)=(j:Int) + 1:=wrapA (by omega) (by omega)
   have hlo:∀ W,(Instr.slice 9 (.string ⟨s.toArray⟩) (some (.int .i64 ((j:Int) + 1))) none none).run Tryz.prog W = .ok (.string ⟨(s.drop (j + 1)).toArray⟩) W:=fun W=>sl_lo s (j + 1) (by rw [<-HM.out]; omega) W
   have hh2:∀ W,(Instr.slice 9 (.string ⟨s.toArray⟩) none (some (.int .i64 ((j:Int) + 1))) none).run Tryz.prog W = .ok (.string ⟨(s.take (j + 1)).toArray⟩) W:=fun W=>sl_hi s (j + 1) (by rw [<-HM.out]; omega) W
   have hadd:=fun W=>saddA (s.take (j + 1)) ownN (by simp [ownN]; omega) W
   have HJD:=hid (HJ.out _ _ wr.drew HJW.out (Below.refl _ _).drew)
   obtain ⟨fn,tmps,assign,body,hy,hR⟩:=HY.out pre (s.take (j + 1) ++ ownN,s.drop (j + 1)) wr.drew HJD.out ⟨_,HP2.out.symm⟩
   have HR:=hid hR
   obtain ⟨j1,hj1⟩:∃ j1,j1=j + 1:=⟨_,rfl⟩
   rw [<-hj1] at hlo hh2 hadd
   rw [<-hj1] at hy
   have HAD:Hid (BK pb #[.string ⟨s.toArray⟩] 9 wr.drew):=HA
   simp only [ownN] at hadd hy
   clear HP HD hR hj hj1 hxx
   gi_wp2
   refine ⟨trivial,?_⟩
   refine (callsIn_wide.2 (HLX.out _)).mono ?_
   rintro e w1 ⟨rfl,rfl⟩
   clear HLX hhi
   gi_wp2
   have hmx:Tryz.prog.follows .mixedOrders=true:=by kernel_rfl
   have a1:w1.drew.cell? ⟨pb,0,none⟩=some (.string ⟨s.toArray⟩):=a0
   gi_region_with_o ((refine HR.out.mono ?_); rintro e W3 hcase; obtain ⟨bv,rfl,hbv⟩:=yield_cs hcase)
   all_goals
    clear hy hadd hh2 hlo a0 a1 HR HJD
    rcases hbv with ⟨rfl,hJ4,hk4⟩ | ⟨rfl,hX4⟩
    ·have HJ4:=hid hJ4
     have HA4:Hid (BK pb #[.string ⟨s.toArray⟩] 9 W3):=hid (hk4.2.trans HAD.out)
     clear hJ4 hk4
     gi_wp2
     go_roundw
     case rel=>exact ⟨j,rfl,by omega,f,by omega,_,HP2,HJ4⟩
     case measure=>simp [intOf] <;> omega
    ·gi_wp2
     refine bodyPost_ret (results_none rfl _ _ _) rfl ?_
     exact ⟨⟨_,rfl⟩,.inr hX4⟩
abbrev Dr:={ x:Pa × Pa // x.1.length<=1000000 }
theorem dirs_le:∀ (n:Nat) (P:Pa) (e:Nat),∀ x ∈ dirsE n P e,x.1.length<=P.length + 6
 | 0,_,_,x,hx=>by simp [dirsE] at hx
 | n + 1,P,e,x,hx=>by
  rw [dirsE] at hx
  split at hx
  ·simp only [List.mem_singleton] at hx
   subst hx
   simp [ownN]
  ·rcases List.mem_cons.1 hx with rfl | hx
   ·simp [ownN]; omega
   ·exact dirs_le n P _ x hx
theorem dirs_stops (pb:Nat) (s:Pa) (hs:(s.length:Int)<=100000) (w:World) (hp:BK pb #[.string ⟨s.toArray⟩] 9 w) :
  SeqStopsK Fence.wide (5 - 1) Tryz.prog 92 #[.pointer (some ⟨pb,0,none⟩)] (fun x:Dr=>#[.string ⟨x.1.1.toArray⟩,.string ⟨x.1.2.toArray⟩]) (Kd pb) (fun ys=>ys.map (·.1)=dirsP s) (fun ys=>ys.map (·.1) <+: dirsP s) (dirsP s).length w:=fun l J Jx W hW hA hAx hY h0=>by
 have h:=dirs1_in l (5 - 1) pb (by omega) s (by omega) (fun ys W=>∃ zs:List Dr,zs.map (·.1)=ys/\J zs W) (fun W=>∃ pre:List Dr,pre.map (·.1) <+: dirsP s/\Jx pre W) W (fun s A B ⟨zs,hz,hj⟩ hb=>⟨zs,hz,hA zs A B none hj ⟨hb.os,hb.tape,hb.output,hb.size,fun k hk _=>hb.block k hk⟩ (fun r e=>by cases e)⟩)
  (fun pre x W1 ⟨zs,hz,hj⟩ hl=>by
   have hx:x ∈ dirsP s:=hl.subset (by simp)
   have hxl:x.1.length<=1000000:=by have:=dirs_le _ _ _ x hx; omega
   have hlen:zs.length < (dirsP s).length:=by
    have:=hl.length_le
    rw [<-hz] at this
    simp at this; omega
   refine YieldAt.mono (hY zs ⟨x,hxl⟩ W1 hj hlen) (fun e w h=>h.elim (fun ⟨h1,h2,h3⟩=>.inl ⟨h1,⟨zs ++ [⟨x,hxl⟩],by rw [List.map_append,hz]; rfl,h2⟩,h3⟩) (fun ⟨h1,h2⟩=>.inr ⟨h1,_,by rw [List.map_append,hz]; exact hl,h2⟩)))
  (hp.below hW) ⟨[],rfl,h0⟩
 refine h.mono (fun e w' h=>⟨h.1,?_⟩)
 rcases h.2 with ⟨zs,h1,h2⟩ | ⟨pre,h1,h2⟩
 ·exact .inl ⟨zs,h1,h2⟩
 ·exact .inr ⟨pre,h1,h2⟩
theorem dirs_any (s:Pa) (w:World):Calls Tryz.prog 60 #[.string ⟨s.toArray⟩] w fun e w'=>e = .returned (.func (.func 92) #[] #[.pointer (some ⟨w.heap.size,0,none⟩)])/\w' = w.alloc (.cells #[.string ⟨s.toArray⟩] 9):=by
 go_enter Tryz.func60,Tryz.ntmps60
 go_wp2_with fail
 go_ret
 exact ⟨rfl,rfl⟩
open Go Go.RowKit
section
variable {F:Fence} {n:Nat} {P:Program}
def noDefer (ops:Array Oper):Bool:=ops.all fun o=>match o.op with | .defer _=>false | _=>true
theorem noDefer_at {ops:Array Oper} (h:noDefer ops=true) {i:Nat} {o:Oper} (ho:ops[i]? = some o):∀ c,o.op ≠ .defer c:=fun c e=>by
 unfold noDefer at h
 rw [Array.all_eq_true] at h
 obtain ⟨hi,rfl⟩:=Array.getElem?_eq_some_iff.1 ho
 have:=h i hi
 rw [e] at this
 cases this
theorem rows_round {r:String} {args:Array Value} {w:World} {R:Value->World->Prop} (l:Nat) (h:Rows P r args w R):RowsIn (Fence.wide.inRound l) n P r args w R:=fun c cs _=>by
 obtain ⟨v,w',h1,h2⟩:=h c cs
 exact ⟨v,w',h1,stepsIn_wide.2 h2⟩
theorem ops_round {Q:Exit->Act->World->Prop} {ops:Array Oper} (lp:Nat) (hnd:noDefer ops=true) (hLO:¬ LetsOut Q):∀ (l:List Nat) (a:Act) (w:World),wpOps P ops Q l a w->wpOpsIn (Fence.wide.inRound lp) n P ops Q l a w
 | [],a,w,h=>h
 | i :: rest,a,w,h=>by
  rw [wpOps_cons] at h
  unfold wpOp at h
  cases ho:ops[i]? with
  | none=>
   rw [ho] at h
   simp only [wpOpsIn,ho]
   exact ops_round lp hnd hLO rest a w h
  | some o=>
   rw [ho] at h
   simp only [wpOpsIn,ho]
   simp only at h
   by_cases hw:Region.wanted o (yielded ops a.tmps)=true
   ·rw [if_pos hw] at h ⊢
    rcases h with h | ⟨_,h⟩
    ·refine ⟨fun _ _=>trivial,?_⟩
     rw [Oper.semAt_plain _ _ _ (noDefer_at hnd ho)]
     unfold Oper.wp at h
     generalize (execOp a.eval o).run P w=r at h
     cases r with
     | ok x w'=>
      cases x with
      | value v=>exact ops_round lp hnd hLO rest _ _ h
      | skip=>exact ops_round lp hnd hLO rest _ _ h
      | defer d=>exact ops_round lp hnd hLO rest _ _ h
      | enter f args=>
       refine ⟨fun hd=>(by cases hd),(CallsIn.inRound lp (callsIn_wide.2 h)).mono ?_⟩
       intro e w'' he
       cases e with
       | returned u=>exact ops_round lp hnd hLO rest _ _ he
       | panicked c=>exact he
       | outgrown=>exact he
      | row r args=>
       refine ⟨fun hd=>(by cases hd),rows_round lp (Rows.mono h (fun u w'' he=>ops_round lp hnd hLO rest _ _ he))⟩
      | _=>exact h.elim
     | halt x w'=>cases x <;> first | exact h | exact h.elim
    ·exact absurd h hLO
   ·rw [if_neg hw] at h ⊢
    exact ⟨fun _ _=>trivial,ops_round lp hnd hLO rest _ _ h⟩
theorem region_round {Q:Exit->Act->World->Prop} {ops:Array Oper} {id:Nat} {a:Act} {w:World} (lp:Nat) (hnd:noDefer ops=true) (hLO:¬ LetsOut Q) (hm:P.follows .mixedOrders=true) (h:wpAny P .any ops Q ops.size (Array.replicate ops.size false) a w.drew) :
  (Code.region id ops true).wpIn (Fence.wide.inRound lp) n P Q a w:=
 wpIn_region_draw fun t=>ops_round lp hnd hLO _ _ _ (by
  simp only [Region.schedule,hm,Bool.true_or,if_true]
  exact wpAny_sound ops.size t _ a _ h)
theorem region_round0 {Q:Exit->Act->World->Prop} {ops:Array Oper} {id:Nat} {a:Act} {w:World} (lp:Nat) (hnd:noDefer ops=true) (hLO:¬ LetsOut Q) (h:wpOps P ops Q (List.range ops.size) a w):(Code.region id ops false).wpIn (Fence.wide.inRound lp) n P Q a w:=
 wpIn_region (ops_round lp hnd hLO _ _ _ h)
theorem wpIn_region_L {Q:Exit->Act->World->Prop} {ops:Array Oper} {S:World->Prop} {id:Nat} {a:Act} {w:World} (ts:List Nat) (lp:Nat) (hnd:noDefer ops=true) (hLO:¬ LetsOut Q) (hm:P.follows .mixedOrders=true) (hS:S w.drew) (h:S w.drew->anyL P .any ops Q S ts ops.size (Array.replicate ops.size false) a w.drew) :
  (Code.region id ops true).wpIn (Fence.wide.inRound lp) n P Q a w:=
 region_round lp hnd hLO hm (any_of_G _ _ _ _ (h hS (fun j o ho hj=>by
  have h1:=getD_repl _ _ hj
  have h2:=(Array.getElem?_eq_some_iff.1 ho).1
  omega)))
end
attribute [local go_sem] Oper.semAt_some
theorem wpIn_norm {F:Fence} {n:Nat} {P:Program} {c:Code} {Q:Exit->Act->World->Prop} {a:Act} {w:World} (h:c.wpIn F n P (Exit.then (fun a w=>Q .normal a w) (fun _ _ _=>False)) a w):c.wpIn F n P Q a w:=
 wpIn_mono h (fun e a w hq=>by
  cases e with
  | normal=>exact hq
  | ret=>exact hq.elim
  | exit i=>exact hq.elim
  | goto t=>exact hq.elim
  | panic c=>exact hq.elim
  | outgrown=>exact hq.elim)
theorem then_norm {Q:Exit->Act->World->Prop} {a:Act} {w:World} (h:Q .normal a w):Exit.then (fun a w=>Q .normal a w) (fun _ _ _=>False) .normal a w:=h
def lenAt (L:List Ru) (q:Nat):Nat:=match L[q]? with | some r=>r.1.length | none=>0
def betB (rest:Pa) (L:List Ru) (p:Pa):Option Nat->Bool
 | none=>Lib.hasPrefix rest p
 | some q=>Lib.hasPrefix rest p && decide (lenAt L q < p.length)
def bestI (rest:Pa) (L:List Ru):Nat->Option Nat
 | 0=>none
 | k + 1=>match L[k]? with
  | some r=>if betB rest L r.1 (bestI rest L k)=true then some k else bestI rest L k
  | none=>bestI rest L k
def bestG (rest:Pa) (L:List Ru):Option (List (List Pa)):=match bestI rest L L.length with
 | some q=>match L[q]? with | some r=>some r.2 | none=>none
 | none=>none
def ownG (M:Pa->Option (List Ru)):List (Pa × Pa)->List (List Pa)
 | []=>[]
 | d :: ds=>match bestG d.2 ((M d.1).getD []) with
  | some G=>G
  | none=>ownG M ds
theorem bestI_lt (rest:Pa) (L:List Ru):∀ k q,bestI rest L k=some q->q < k/\q < L.length
 | 0,q,h=>by simp [bestI] at h
 | k + 1,q,h=>by
  rw [bestI] at h
  cases hk:L[k]? with
  | none=>
   rw [hk] at h
   have:=bestI_lt rest L k q h
   exact ⟨by omega,this.2⟩
  | some r=>
   rw [hk] at h
   simp only at h
   have hkl:=(List.getElem?_eq_some_iff.1 hk).1
   by_cases hc:betB rest L r.1 (bestI rest L k)=true
   ·rw [if_pos hc] at h
    cases h; exact ⟨by omega,hkl⟩
   ·rw [if_neg hc] at h
    have:=bestI_lt rest L k q h
    exact ⟨by omega,this.2⟩
theorem bestI_succ {rest:Pa} {L:List Ru} {k:Nat} (hk:k < L.length):bestI rest L (k + 1)=if betB rest L L[k].1 (bestI rest L k)=true then some k else bestI rest L k:=by
 rw [bestI,List.getElem?_eq_getElem hk]
def bestV:Option Nat->Int
 | none=>-1
 | some q=>q
theorem bestG_some {rest:Pa} {L:List Ru} {q:Nat} (h:bestI rest L L.length=some q):∃ hq:q < L.length,bestG rest L=some L[q].2:=by
 have hq:=(bestI_lt _ _ _ _ h).2
 refine ⟨hq,?_⟩
 unfold bestG
 rw [h]
 simp only
 rw [List.getElem?_eq_getElem hq]
theorem bestG_none {rest:Pa} {L:List Ru} (h:bestI rest L L.length=none):bestG rest L=none:=by unfold bestG; rw [h]
theorem bestG_mem {rest:Pa} {L:List Ru} {G:List (List Pa)} (h:bestG rest L=some G):∃ r ∈ L,G=r.2:=by
 cases hb:bestI rest L L.length with
 | none=>rw [bestG_none hb] at h; cases h
 | some q=>
  obtain ⟨hq,e⟩:=bestG_some hb
  rw [e] at h
  cases h
  exact ⟨_,List.getElem_mem hq,rfl⟩
theorem ownG_mem {M:Pa->Option (List Ru)}:∀ {ds:List (Pa × Pa)} {g:List Pa},g ∈ ownG M ds->∃ p R,M p=some R/\∃ r ∈ R,g ∈ r.2
 | [],g,h=>by simp [ownG] at h
 | d :: ds,g,h=>by
  rw [ownG] at h
  cases hb:bestG d.2 ((M d.1).getD []) with
  | none=>rw [hb] at h; exact ownG_mem h
  | some G=>
   rw [hb] at h
   obtain ⟨r,hr,rfl⟩:=bestG_mem hb
   cases hm:M d.1 with
   | none=>rw [hm] at hr; simp at hr
   | some R=>rw [hm] at hr; exact ⟨d.1,R,hm,r,hr,h⟩
theorem ownG_none {M:Pa->Option (List Ru)}:∀ {pre ds:List (Pa × Pa)},(∀ x ∈ pre,bestG x.2 ((M x.1).getD [])=none)->ownG M (pre ++ ds)=ownG M ds
 | [],ds,_=>rfl
 | d :: pre,ds,h=>by
  rw [List.cons_append,ownG,h d (by simp)]
  exact ownG_none (fun x hx=>h x (List.mem_cons_of_mem _ hx))
theorem ownG_hit {M:Pa->Option (List Ru)} {pre:List (Pa × Pa)} {d:Pa × Pa} {T:List (Pa × Pa)} {G:List (List Pa)} (hp:pre ++ [d] <+: T) (h:∀ x ∈ pre,bestG x.2 ((M x.1).getD [])=none) (hd:bestG d.2 ((M d.1).getD [])=some G):ownG M T=G:=by
 obtain ⟨t,rfl⟩:=hp
 rw [List.append_assoc,ownG_none h,List.singleton_append,ownG,hd]
theorem zeroRl (W:World):(zeroValue 125).run Tryz.prog W = .ok (.slice none 0 0) W:=by kernel_rfl
def RuMB (B b k:Nat) (M:Pa->Option (List Ru)) (W:World):Prop:=∃ F:Pa->Option Value,MapS b k F W/\∀ s,match M s with
 | some R=>∃ a n c,F s=some (.slice a n c)/\n=R.length/\RlW B W (a,n,c) R
 | none=>F s=none
theorem RuMap.toB {b k:Nat} {M:Pa->Option (List Ru)} {W:World} (h:RuMap b k M W):RuMB W.heap.size b k M W:=by
 obtain ⟨F,h1,h2⟩:=h
 refine ⟨F,h1,fun s=>?_⟩
 have:=h2 s
 cases hm:M s with
 | none=>rw [hm] at this; exact this
 | some R=>rw [hm] at this; exact this
theorem RuMB.look {B b k:Nat} {M:Pa->Option (List Ru)} {W:World} (h:RuMB B b k M W) {P:Pa} (hp:P.length<=1000000) :
  ∃ a c,(Instr.lookup 75 (.map (some b)) (.string ⟨P.toArray⟩) false).run Tryz.prog W = .ok (.slice a ((M P).getD []).length c) W/\RlW B W (a,((M P).getD []).length,c) ((M P).getD []):=by
 obtain ⟨F,h1,h2⟩:=h
 have hl:=h1.look Tryz.underlying75 (zeroRl W) hp
 have h3:=h2 P
 cases hm:M P with
 | none=>
  rw [hm] at h3
  rw [show F P=none from h3] at hl
  exact ⟨none,0,hl,RlW.nil _ _⟩
 | some R=>
  rw [hm] at h3
  obtain ⟨a,n,c,e1,rfl,e3⟩:=h3
  rw [e1] at hl
  exact ⟨a,c,hl,e3⟩
def ShM (M:Pa->Option (List Ru)):Prop:=∀ p R,M p=some R->R.length<=1000000/\∀ r ∈ R,r.1.length<=1000000
def GotOw (B:Nat) (w:World) (M:Pa->Option (List Ru)) (P:Pa) (e:Ending) (w':World):Prop:=∃ a c,e = .returned (.slice a (ownG M (dirsP P)).length c)/\GrW B w' (a,(ownG M (dirsP P)).length,c) (ownG M (dirsP P))/\Below w.heap.size w w'
structure OwI (z b k:Nat) (M:Pa->Option (List Ru)) (v:Value) (w W:World):Prop where
 be:Below z w W
 bm:BK z #[.map (some b)] 75 W
 br:BK (z + 1) #[v] 27 W
theorem OwI.grow {z b k:Nat} {M:Pa->Option (List Ru)} {v:Value} {w W W':World} {row:Option Nat} (h:OwI z b k M v w W) (hz:z<=W.heap.size) (hg:W.grownBy W' row) (hr:∀ j,row=some j->z + 1 < j):OwI z b k M v w W':=
 ⟨h.be.grown hg hz (fun j e=>by have:=hr j e; omega),h.bm.grow hg (fun j e hj=>by have:=hr j e; omega),h.br.grow hg (fun j e hj=>by have:=hr j e; omega)⟩
theorem RuMB.grow {B b k:Nat} {M:Pa->Option (List Ru)} {W W':World} {row:Option Nat} (h:RuMB B b k M W) (hg:W.grownBy W' row) (hb:some b ≠ row) (hf:Far [TSt,TSl,TRu] B W row):RuMB B b k M W':=by
 obtain ⟨F,h1,h2⟩:=h
 refine ⟨F,h1.kept hg hb,fun s=>?_⟩
 have:=h2 s
 cases hm:M s with
 | none=>rw [hm] at this; exact this
 | some R=>
  rw [hm] at this
  obtain ⟨a,n,c,e1,e2,e3⟩:=this
  exact ⟨a,n,c,e1,e2,e3.grow hg hf (Nat.le_refl _)⟩
theorem RuMB.below {B b k:Nat} {M:Pa->Option (List Ru)} {W W':World} (h:RuMB B b k M W) (hb:Below W.heap.size W W'):RuMB B b k M W':=h.grow (gr_below hb) (by simp) (Far.none _ _ _)
theorem RuMB.lt {B b k:Nat} {M:Pa->Option (List Ru)} {W:World} (h:RuMB B b k M W):b < W.heap.size:=by
 obtain ⟨F,h1,h2⟩:=h
 exact h1.lt
def OwD (M:Pa->Option (List Ru)) (pre:List Dr):Prop:=∀ x ∈ pre.map (·.1),bestG x.2 ((M x.1).getD [])=none
def OwR (M:Pa->Option (List Ru)) (pre:List Dr) (G:List (List Pa)):Prop:=∃ p x,pre.map (·.1)=p ++ [x]/\(∀ y ∈ p,bestG y.2 ((M y.1).getD [])=none)/\bestG x.2 ((M x.1).getD [])=some G
def AxO (a:Act) (x:Dr) (a':Act) (W:World):Prop:=a' = { tmps:=(((a.tmps.setIfInBounds 13 (.string ⟨x.1.1.toArray⟩)).setIfInBounds 14 (.string ⟨x.1.2.toArray⟩)).setIfInBounds 5 (.string ⟨x.1.1.toArray⟩)).setIfInBounds 6 (.string ⟨x.1.2.toArray⟩),defers:=[] }
theorem ownersOf_any (B b k:Nat) (M:Pa->Option (List Ru)) (P:Pa) (w:World) (hm:RuMB B b k M w) (hB:B<=w.heap.size) (hs:ShM M) (hp:(P.length:Int)<=100000) :
  Calls Tryz.prog 28 #[.map (some b),.string ⟨P.toArray⟩] w (GotOw B w M P):=by
 refine (callsIn_wide (n:=5)).1 ?_
 refine callsIn_of_wp_marks Tryz.func28 rfl trivial ?_ rfl
 simp only [Tryz.ntmps28,List.size_toArray,List.length_cons,List.length_nil,Nat.reduceAdd,Nat.reduceSub,Array.replicate_succ,Array.replicate_zero,List.push_toArray,List.append_toArray,List.nil_append,List.cons_append]
 obtain ⟨z,hz⟩:∃ z,z=w.heap.size:=⟨_,rfl⟩
 obtain ⟨u1,hu1⟩:∃ u1,u1=(w.alloc (.cells #[.map (some b)] 75)).alloc (.cells #[.slice none 0 0] 27):=⟨_,rfl⟩
 have hz1:u1.heap.size=z + 2:=by rw [hu1,hz]; simp
 have HI1:Hid (OwI z b k M (.slice none 0 0) w u1):=hid (by
  rw [hu1,hz]
  exact ⟨((Below.refl _ w).alloc (Nat.le_refl _) _).alloc (by simp) _,(BK.new _ _ _).alloc _,BK.new2 _ _ _ _⟩)
 have HMP:=hid hm
 have HSH:=hid hs
 have HC:=hid (dirs_any P u1)
 have HU:=hid hu1
 have HZ:=hid hz
 clear hu1 hm hs
 gi_wp2
 rw [<-HZ.out]
 clear hz
 refine ⟨trivial,?_⟩
 rw [<-HU.out]
 refine (callsIn_wide.2 HC.out).mono ?_
 rintro e u2 ⟨rfl,hu2⟩
 rw [hz1]
 have HP2:Hid (BK (z + 2) #[.string ⟨P.toArray⟩] 9 u2):=hid (by rw [hu2,<-hz1]; exact BK.new _ _ _)
 have hb2:Below u1.heap.size u1 u2:=by rw [hu2]; exact (Below.refl _ _).alloc (Nat.le_refl _) _
 have HZ2:Hid (u2.heap.size=z + 3):=hid (by rw [hu2]; simp; omega)
 have HI2:Hid (OwI z b k M (.slice none 0 0) w u2):=hid (HI1.out.grow (by omega) (gr_below hb2) (fun j e=>by cases e))
 have HST:=hid (dirs_stops (z + 2) P hp u2 HP2.out)
 clear hb2 hu2 HC HU HI1
 have hblt:=HMP.out.lt
 have HM2:Hid (RuMB B b k M u2):=hid ((HMP.out.below (by have:=HI2.out.be; rw [HZ.out] at this; exact this)))
 have HGT:Hid (∀ T,T=dirsP P->ownG M T=ownG M (dirsP P)):=hid (fun T e=>by rw [e])
 obtain ⟨T,hT⟩:∃ T,T=dirsP P:=⟨_,rfl⟩
 have HTT:=hid hT
 rw [<-hT] at HST
 clear hT HMP
 gi_wp2
 refine rf_boxA AxO rfl (by omega) (gf:=92) (lb:=#[.pointer (some ⟨z + 2,0,none⟩)]) rfl trivial (enters_of Tryz.func92 (by kernel_rfl) rfl) HST.out
  (fun h k=>⟨Nat.le_trans h.1 k.1,k.2.trans h.2⟩)
  (fun W l o o' hl ho hc hw=>⟨by simp,World.putObj_heap_other (by have:=HZ2.out; omega)⟩) (Below.refl _ _) (fun _=>rfl)
  (fun pre W=>OwD M pre/\OwI z b k M (.slice none 0 0) w W/\RuMB B b k M W/\u2.heap.size<=W.heap.size)
  (fun c pre W=>c = .ret/\∃ a c0 G,OwI z b k M (.slice a (List.length G) c0) w W/\GrW B W (a,G.length,c0) G/\OwR M pre G/\u2.heap.size<=W.heap.size)
  ?hI ?hIx ⟨fun x hx=>by simp at hx,HI2.out,HM2.out,Nat.le_refl _⟩ ?hAx ?assign ?body ?done ?stop
 case hI=>
  rintro pre W W' row ⟨h1,h2,h3,h4⟩ hg hr
  have hz2:=HZ2.out
  have hz0:=HZ.out
  exact ⟨h1,h2.grow (by omega) hg (fun j e=>by have:=(hr j e).1; omega),h3.grow hg (fun e=>by have:=(hr b e.symm).1; omega) ((far_walk (fun r e=>(hr r e).2) _).sub (by decide)),Nat.le_trans h4 hg.size⟩
 case hIx=>
  rintro c pre W W' row ⟨h1,a,c0,G,h2,h3,h4,h5⟩ hg hr
  have:=HZ2.out
  exact ⟨h1,a,c0,G,h2.grow (by omega) hg (fun j e=>by have:=(hr j e).1; omega),h3.grow hg ((far_walk (fun r e=>(hr r e).2) _).sub (by decide)) (Nat.le_refl _),h4,Nat.le_trans h5 hg.size⟩
 case hAx=>
  rintro x a' _ W W' row h hg hr
  exact h
 case assign=>
  rintro l pre x W K hI hK
  have HH:=hid (hK _ W ((KeepsOthers.refl _).from _) ⟨Nat.le_refl _,rfl⟩ hI rfl)
  clear hI hK
  gi_wp2
  exact HH.out
 case body=>
  rintro l' pre x a' W hl ⟨h1,h2,h3,h4⟩ rfl hlen
  obtain ⟨⟨file,rest⟩,hxl⟩:=x
  simp only at hxl ⊢
  obtain ⟨ra,rc,hlook,hrl⟩:=h3.look hxl
  have HSL:Hid (∀ r ∈ (M file).getD [],r.1.length<=1000000):=hid (by
   cases hm:M file with
   | none=>simp
   | some R=>exact (HSH.out file R hm).2)
  have hsl:((M file).getD []).length<=1000000:=by
   cases hm:M file with
   | none=>simp
   | some R=>exact (HSH.out file R hm).1
  have HN0:Hid (bestG rest ((M file).getD [])=none->OwD M (pre ++ [(⟨(file,rest),hxl⟩:Dr)])):=hid (fun h y hy=>by
   rw [List.map_append,List.mem_append] at hy
   rcases hy with hy | hy
   ·exact h1 y hy
   ·simp only [List.map_cons,List.map_nil,List.mem_singleton] at hy
    subst hy
    exact h)
  have HS0:Hid (∀ G,bestG rest ((M file).getD [])=some G->OwR M (pre ++ [(⟨(file,rest),hxl⟩:Dr)]) G):=hid (fun G h=>⟨_,(file,rest),by rw [List.map_append]; rfl,h1,h⟩)
  generalize (M file).getD []=L at hlook hrl HSL hsl HN0 HS0
  have HRL:=hid hrl
  have HO:=hid h2
  have HMW:=hid h3
  have HW2:=hid h4
  have c0:=h2.bm.c1
  obtain ⟨n,hn⟩:∃ n,n=L.length:=⟨_,rfl⟩
  have HN:=hid hn
  rw [<-hn] at hlook hsl HRL
  clear h1 h2 h3 h4 hrl hn
  simp only [List.setIfInBounds_toArray,List.set_cons_succ,List.set_cons_zero]
  gi_wp2
  gi_loopw [20,7] (fun i bv wr=>∃ j:Nat,i = .int .i64 (j:Int)/\j<=n/\bv = .int .i64 (bestV (bestI rest L j))/\Hid (Below W.heap.size W wr)) (fun i _ _=>n - (intOf i).toNat)
  case atStart=>exact ⟨0,rfl,by omega,rfl,hid (Below.refl _ _)⟩
  case round=>
   obtain ⟨j,rfl,hj,rfl,HB⟩:=hrel
   by_cases hlt:j < n
   ·have hji:(j:Int) < (n:Int):=by omega
    have hjl:j < L.length:=by rw [<-HN.out]; exact hlt
    have hrx:=HRL.out.grow (gr_below HB.out) (Far.none _ _ _) (Nat.le_refl _)
    rw [HN.out] at hrx
    obtain ⟨b0,of0,y,hab,hbb,q0,q1,hy⟩:=rl_cell hrx hjl
    have HBN:=hid (bestI_succ (rest:=rest) hjl)
    have hcq:∀ q,bestI rest L j=some q->∃ s:Pa,wr.cell? ⟨b0,of0 + q * 2,none⟩=some (.string ⟨s.toArray⟩)/\s.length=lenAt L q/\q < n:=fun q hq=>by
     have hql:=(bestI_lt _ _ _ _ hq).2
     obtain ⟨b1,of1,y1,hab1,hbb1,q01,q11,hy1⟩:=rl_cell hrx hql
     rw [hab] at hab1
     cases hab1
     exact ⟨_,q01,by unfold lenAt; rw [List.getElem?_eq_getElem hql],by rw [HN.out]; exact hql⟩
    have hpl:=HSL.out _ (List.getElem_mem hjl)
    generalize L[j]=r at q0 q1 hy HBN hpl
    obtain ⟨p,G⟩:=r
    simp only at q0 q1 hab hpl
    simp only [hdV] at q1
    subst hab
    obtain ⟨v,hv⟩:∃ v,v=wr.alloc (.cells #[.string ⟨p.toArray⟩,.slice y.1 y.2.1 y.2.2] 127):=⟨_,rfl⟩
    have hbv:Below wr.heap.size wr v.drew:=by rw [hv]; exact ((Below.refl _ _).alloc (Nat.le_refl _) _).drew
    have hkv:BK wr.heap.size #[.string ⟨p.toArray⟩,.slice y.1 y.2.1 y.2.2] 127 v.drew:=by
     have:BK wr.heap.size #[.string ⟨p.toArray⟩,.slice y.1 y.2.1 y.2.2] 127 v:=by rw [hv]; exact BK.new _ _ _
     exact this
    have HBV:Hid (Below W.heap.size W v.drew):=hid (HB.out.trans (hbv.mono HB.out.size))
    obtain ⟨d0,d1⟩:=hkv.c2
    have HPX:Hid (∀ W,Calls Tryz.prog 61 #[.string ⟨rest.toArray⟩,.string ⟨p.toArray⟩] W fun e w'=>e = .returned (.bool (Lib.hasPrefix rest p))/\w' = W):=hid (fun W=>Any.strings_HasPrefix Tryz.hasPre ⟨rest.toArray⟩ ⟨p.toArray⟩ W)
    have hmx:Tryz.prog.follows .mixedOrders=true:=by kernel_rfl
    have HV:=hid hv
    rw [hv] at d0 d1
    have hpz:=ba_len p
    have hkeep:∀ i,v.drew.cell? ⟨b0,i,none⟩=wr.cell? ⟨b0,i,none⟩:=fun i=>World.cell?_of_block (a:=⟨b0,i,none⟩) (show v.drew.heap[b0]? = wr.heap[b0]? from hbv.block b0 (by have:=HB.out.size; have:=HW2.out; have:=HZ2.out; have:=HZ.out; omega))
    clear hv hbv hkv hy hrx
    have hsd:v.drew.cell? ⟨wr.heap.size,0,none⟩=some (.string ⟨p.toArray⟩):=by rw [HV.out]; exact d0
    cases hp:Lib.hasPrefix rest p with
    | false=>
     rw [hp] at HPX
     have HX:Hid (bestI rest L (j + 1)=bestI rest L j):=hid (by
      rw [HBN.out,if_neg]
      cases bestI rest L j <;> simp [betB,hp])
     generalize bestI rest L j=o at HX hcq
     clear HBN hp hcq hkeep
     gi_wp2
     rw [<-HV.out]
     refine wpIn_norm ?_
     refine wpIn_region_L (S:=(fun Wx=>Wx.cell? ⟨wr.heap.size,0,none⟩=some (.string ⟨p.toArray⟩))) [] l' (by kernel_rfl) (fun ⟨_,_,h⟩=>h) (by kernel_rfl) hsd (fun hHeld=>?_)
     refine anyL_take (i:=0) (v:=?vv31) rfl (by kernel_rfl) (by kernel_rfl) (by kernel_rfl) (by kernel_rfl) (fun _ _ _ h=>h) (Or.inl ⟨by rfl,?hy31⟩) (by assumption) ?rest31
     case hy31=>(intro wx hSw; (try dsimp only at hSw); go_simp; try (with_reducible rfl))
     simp only [Act.put,zA,zC,zD,zE,zF]
     refine anyL_take (i:=1) (v:=?vv32) rfl (by kernel_rfl) (by kernel_rfl) (by kernel_rfl) (by kernel_rfl) (fun _ _ _ h=>h) (Or.inl ⟨by rfl,?hy32⟩) (by assumption) ?rest32
     case hy32=>(intro wx hSw; (try dsimp only at hSw); go_simp; try (with_reducible rfl))
     simp only [Act.put,zA,zB,zC,zD,zE,zF]
     refine anyL_take (i:=2) (v:=?vv33) rfl (by kernel_rfl) (by kernel_rfl) (by kernel_rfl) (by kernel_rfl) (fun _ _ _ h=>h) (Or.inl ⟨by rfl,?hy33⟩) (by assumption) ?rest33
     case hy33=>(intro wx hSw; (try dsimp only at hSw); go_simp; try (with_reducible rfl))
     simp only [Act.put,zA,zB,zC,zD,zE,zF]
     refine anyL_one (i:=3) (by kernel_rfl) rfl (fun K hK=>?_)
     go_simp
     (with_reducible refine (HPX.out _).mono ?_)
     rintro e W3 ⟨rfl,hw3⟩
     subst hw3
     have hs0:=hHeld
     clear hHeld
     refine hK.out _ _ ((fun _=>hs0)) (fun hHeld=>?_)
     clear hK K
     refine anyL_take (i:=4) (v:=?vv34) rfl (by kernel_rfl) (by kernel_rfl) (by kernel_rfl) (by kernel_rfl) (fun _ _ _ h=>h) (Or.inl ⟨by rfl,?hy34⟩) (by assumption) ?rest34
     case hy34=>(intro wx hSw; (try dsimp only at hSw); go_simp; try (with_reducible rfl))
     simp only [Act.put,zA,zB,zC,zD,zE,zF]
     refine anyL_take (i:=5) rfl (by kernel_rfl) (by kernel_rfl) (by kernel_rfl) (by kernel_rfl) (fun _ _ _ h=>h) (Or.inr ⟨by rfl,rfl⟩) (by assumption) ?_
     simp only [Act.put,zA,zB,zC,zD,zE,zF]
     refine anyL_take (i:=6) rfl (by kernel_rfl) (by kernel_rfl) (by kernel_rfl) (by kernel_rfl) (fun _ _ _ h=>h) (Or.inr ⟨by rfl,rfl⟩) (by assumption) ?_
     simp only [Act.put,zA,zB,zC,zD,zE,zF]
     refine anyL_take (i:=7) rfl (by kernel_rfl) (by kernel_rfl) (by kernel_rfl) (by kernel_rfl) (fun _ _ _ h=>h) (Or.inr ⟨by rfl,rfl⟩) (by assumption) ?_
     simp only [Act.put,zA,zB,zC,zD,zE,zF]
     refine anyL_take (i:=8) rfl (by kernel_rfl) (by kernel_rfl) (by kernel_rfl) (by kernel_rfl) (fun _ _ _ h=>h) (Or.inr ⟨by rfl,rfl⟩) (by assumption) ?_
     simp only [Act.put,zA,zB,zC,zD,zE,zF]
     refine anyL_take (i:=9) rfl (by kernel_rfl) (by kernel_rfl) (by kernel_rfl) (by kernel_rfl) (fun _ _ _ h=>h) (Or.inr ⟨by rfl,rfl⟩) (by assumption) ?_
     simp only [Act.put,zA,zB,zC,zD,zE,zF]
     refine anyL_take (i:=10) rfl (by kernel_rfl) (by kernel_rfl) (by kernel_rfl) (by kernel_rfl) (fun _ _ _ h=>h) (Or.inr ⟨by rfl,rfl⟩) (by assumption) ?_
     simp only [Act.put,zA,zB,zC,zD,zE,zF]
     refine anyL_take (i:=11) rfl (by kernel_rfl) (by kernel_rfl) (by kernel_rfl) (by kernel_rfl) (fun _ _ _ h=>h) (Or.inr ⟨by rfl,rfl⟩) (by assumption) ?_
     simp only [Act.put,zA,zB,zC,zD,zE,zF]
     refine anyL_take (i:=12) rfl (by kernel_rfl) (by kernel_rfl) (by kernel_rfl) (by kernel_rfl) (fun _ _ _ h=>h) (Or.inr ⟨by rfl,rfl⟩) (by assumption) ?_
     simp only [Act.put,zA,zB,zC,zD,zE,zF]
     refine anyL_take (i:=13) rfl (by kernel_rfl) (by kernel_rfl) (by kernel_rfl) (by kernel_rfl) (fun _ _ _ h=>h) (Or.inr ⟨by rfl,rfl⟩) (by assumption) ?_
     simp only [Act.put,zA,zB,zC,zD,zE,zF]
     refine anyL_take (i:=14) rfl (by kernel_rfl) (by kernel_rfl) (by kernel_rfl) (by kernel_rfl) (fun _ _ _ h=>h) (Or.inr ⟨by rfl,rfl⟩) (by assumption) ?_
     simp only [Act.put,zA,zB,zC,zD,zE,zF]
     refine anyL_take (i:=15) rfl (by kernel_rfl) (by kernel_rfl) (by kernel_rfl) (by kernel_rfl) (fun _ _ _ h=>h) (Or.inr ⟨by rfl,rfl⟩) (by assumption) ?_
     simp only [Act.put,zA,zB,zC,zD,zE,zF]
     refine anyL_take (i:=16) rfl (by kernel_rfl) (by kernel_rfl) (by kernel_rfl) (by kernel_rfl) (fun _ _ _ h=>h) (Or.inr ⟨by rfl,rfl⟩) (by assumption) ?_
     simp only [Act.put,zA,zB,zC,zD,zE,zF]
     refine anyL_take (i:=17) rfl (by kernel_rfl) (by kernel_rfl) (by kernel_rfl) (by kernel_rfl) (fun _ _ _ h=>h) (Or.inr ⟨by rfl,rfl⟩) (by assumption) ?_
     simp only [Act.put,zA,zB,zC,zD,zE,zF]
     refine anyL_take (i:=18) rfl (by kernel_rfl) (by kernel_rfl) (by kernel_rfl) (by kernel_rfl) (fun _ _ _ h=>h) (Or.inr ⟨by rfl,rfl⟩) (by assumption) ?_
     simp only [Act.put,zA,zB,zC,zD,zE,zF]
     refine anyL_take (i:=19) (v:=?vv49) rfl (by kernel_rfl) (by kernel_rfl) (by kernel_rfl) (by kernel_rfl) (fun _ _ _ h=>h) (Or.inl ⟨by rfl,?hy49⟩) (by assumption) ?rest49
     case hy49=>(intro wx hSw; (try dsimp only at hSw); go_simp; try (with_reducible rfl))
     simp only [Act.put,zA,zB,zC,zD,zE,zF]
     refine anyL_done (by kernel_rfl) ?_ _
     refine then_norm ?_
     clear hs0 hsd d0 d1 HPX
     gi_wp2
     go_roundw
     case rel=>exact ⟨j + 1,by go_num,by omega,by rw [HX.out],HBV⟩
     case measure=>simp [intOf] <;> omega
    | true=>
     rw [hp] at HPX
     cases hbo:bestI rest L j with
     | none=>
      have HX:Hid (bestI rest L (j + 1)=some j):=hid (by rw [HBN.out,hbo,if_pos (by simp [betB,hp])])
      simp only [bestV]
      clear HBN hp hcq hbo hkeep
      gi_wp2
      rw [<-HV.out]
      refine wpIn_norm ?_
      refine wpIn_region_L (S:=(fun Wx=>Wx.cell? ⟨wr.heap.size,0,none⟩=some (.string ⟨p.toArray⟩))) [] l' (by kernel_rfl) (fun ⟨_,_,h⟩=>h) (by kernel_rfl) hsd (fun hHeld=>?_)
      refine anyL_take (i:=0) (v:=?vv50) rfl (by kernel_rfl) (by kernel_rfl) (by kernel_rfl) (by kernel_rfl) (fun _ _ _ h=>h) (Or.inl ⟨by rfl,?hy50⟩) (by assumption) ?rest50
      case hy50=>(intro wx hSw; (try dsimp only at hSw); go_simp; try (with_reducible rfl))
      simp only [Act.put,zA,zC,zD,zE,zF]
      refine anyL_take (i:=1) (v:=?vv51) rfl (by kernel_rfl) (by kernel_rfl) (by kernel_rfl) (by kernel_rfl) (fun _ _ _ h=>h) (Or.inl ⟨by rfl,?hy51⟩) (by assumption) ?rest51
      case hy51=>(intro wx hSw; (try dsimp only at hSw); go_simp; try (with_reducible rfl))
      simp only [Act.put,zA,zB,zC,zD,zE,zF]
      refine anyL_take (i:=2) (v:=?vv52) rfl (by kernel_rfl) (by kernel_rfl) (by kernel_rfl) (by kernel_rfl) (fun _ _ _ h=>h) (Or.inl ⟨by rfl,?hy52⟩) (by assumption) ?rest52
      case hy52=>(intro wx hSw; (try dsimp only at hSw); go_simp; try (with_reducible rfl))
      simp only [Act.put,zA,zB,zC,zD,zE,zF]
      refine anyL_one (i:=3) (by kernel_rfl) rfl (fun K hK=>?_)
      go_simp
      (with_reducible refine (HPX.out _).mono ?_)
      rintro e W3 ⟨rfl,hw3⟩
      subst hw3
      have hs0:=hHeld
      clear hHeld
      refine hK.out _ _ ((fun _=>hs0)) (fun hHeld=>?_)
      clear hK K
      refine anyL_take (i:=4) (v:=?vv53) rfl (by kernel_rfl) (by kernel_rfl) (by kernel_rfl) (by kernel_rfl) (fun _ _ _ h=>h) (Or.inl ⟨by rfl,?hy53⟩) (by assumption) ?rest53
      case hy53=>(intro wx hSw; (try dsimp only at hSw); go_simp; try (with_reducible rfl))
      simp only [Act.put,zA,zB,zC,zD,zE,zF]
      refine anyL_take (i:=5) (v:=?vv54) rfl (by kernel_rfl) (by kernel_rfl) (by kernel_rfl) (by kernel_rfl) (fun _ _ _ h=>h) (Or.inl ⟨by rfl,?hy54⟩) (by assumption) ?rest54
      case hy54=>(intro wx hSw; (try dsimp only at hSw); go_simp; try (with_reducible rfl))
      simp only [Act.put,zA,zB,zC,zD,zE,zF]
      refine anyL_take (i:=6) (v:=?vv55) rfl (by kernel_rfl) (by kernel_rfl) (by kernel_rfl) (by kernel_rfl) (fun _ _ _ h=>h) (Or.inl ⟨by rfl,?hy55⟩) (by assumption) ?rest55
      case hy55=>(intro wx hSw; (try dsimp only at hSw); go_simp; try (with_reducible rfl))
      simp only [Act.put,zA,zB,zC,zD,zE,zF]
      refine anyL_take (i:=7) (v:=?vv56) rfl (by kernel_rfl) (by kernel_rfl) (by kernel_rfl) (by kernel_rfl) (fun _ _ _ h=>h) (Or.inl ⟨by rfl,?hy56⟩) (by assumption) ?rest56
      case hy56=>(intro wx hSw; (try dsimp only at hSw); go_simp; try (with_reducible rfl))
      simp only [Act.put,zA,zB,zC,zD,zE,zF]
      refine anyL_take (i:=8) rfl (by kernel_rfl) (by kernel_rfl) (by kernel_rfl) (by kernel_rfl) (fun _ _ _ h=>h) (Or.inr ⟨by rfl,rfl⟩) (by assumption) ?_
      simp only [Act.put,zA,zB,zC,zD,zE,zF]
      refine anyL_take (i:=9) rfl (by kernel_rfl) (by kernel_rfl) (by kernel_rfl) (by kernel_rfl) (fun _ _ _ h=>h) (Or.inr ⟨by rfl,rfl⟩) (by assumption) ?_
      simp only [Act.put,zA,zB,zC,zD,zE,zF]
      refine anyL_take (i:=10) rfl (by kernel_rfl) (by kernel_rfl) (by kernel_rfl) (by kernel_rfl) (fun _ _ _ h=>h) (Or.inr ⟨by rfl,rfl⟩) (by assumption) ?_
      simp only [Act.put,zA,zB,zC,zD,zE,zF]
      refine anyL_take (i:=11) rfl (by kernel_rfl) (by kernel_rfl) (by kernel_rfl) (by kernel_rfl) (fun _ _ _ h=>h) (Or.inr ⟨by rfl,rfl⟩) (by assumption) ?_
      simp only [Act.put,zA,zB,zC,zD,zE,zF]
      refine anyL_take (i:=12) rfl (by kernel_rfl) (by kernel_rfl) (by kernel_rfl) (by kernel_rfl) (fun _ _ _ h=>h) (Or.inr ⟨by rfl,rfl⟩) (by assumption) ?_
      simp only [Act.put,zA,zB,zC,zD,zE,zF]
      refine anyL_take (i:=13) rfl (by kernel_rfl) (by kernel_rfl) (by kernel_rfl) (by kernel_rfl) (fun _ _ _ h=>h) (Or.inr ⟨by rfl,rfl⟩) (by assumption) ?_
      simp only [Act.put,zA,zB,zC,zD,zE,zF]
      refine anyL_take (i:=14) rfl (by kernel_rfl) (by kernel_rfl) (by kernel_rfl) (by kernel_rfl) (fun _ _ _ h=>h) (Or.inr ⟨by rfl,rfl⟩) (by assumption) ?_
      simp only [Act.put,zA,zB,zC,zD,zE,zF]
      refine anyL_take (i:=15) rfl (by kernel_rfl) (by kernel_rfl) (by kernel_rfl) (by kernel_rfl) (fun _ _ _ h=>h) (Or.inr ⟨by rfl,rfl⟩) (by assumption) ?_
      simp only [Act.put,zA,zB,zC,zD,zE,zF]
      refine anyL_take (i:=16) rfl (by kernel_rfl) (by kernel_rfl) (by kernel_rfl) (by kernel_rfl) (fun _ _ _ h=>h) (Or.inr ⟨by rfl,rfl⟩) (by assumption) ?_
      simp only [Act.put,zA,zB,zC,zD,zE,zF]
      refine anyL_take (i:=17) rfl (by kernel_rfl) (by kernel_rfl) (by kernel_rfl) (by kernel_rfl) (fun _ _ _ h=>h) (Or.inr ⟨by rfl,rfl⟩) (by assumption) ?_
      simp only [Act.put,zA,zB,zC,zD,zE,zF]
      refine anyL_take (i:=18) (v:=?vv67) rfl (by kernel_rfl) (by kernel_rfl) (by kernel_rfl) (by kernel_rfl) (fun _ _ _ h=>h) (Or.inl ⟨by rfl,?hy67⟩) (by assumption) ?rest67
      case hy67=>(intro wx hSw; (try dsimp only at hSw); go_simp; try (with_reducible rfl))
      simp only [Act.put,zA,zB,zC,zD,zE,zF]
      refine anyL_take (i:=19) (v:=?vv68) rfl (by kernel_rfl) (by kernel_rfl) (by kernel_rfl) (by kernel_rfl) (fun _ _ _ h=>h) (Or.inl ⟨by rfl,?hy68⟩) (by assumption) ?rest68
      case hy68=>(intro wx hSw; (try dsimp only at hSw); go_simp; try (with_reducible rfl))
      simp only [Act.put,zA,zB,zC,zD,zE,zF]
      refine anyL_done (by kernel_rfl) ?_ _
      refine then_norm ?_
      clear hs0 hsd d0 d1 HPX
      gi_wp2
      go_roundw
      case rel=>exact ⟨j + 1,by go_num,by omega,by rw [HX.out],HBV⟩
      case measure=>simp [intOf] <;> omega
     | some q=>
      obtain ⟨s,hsc,hsl2,hqn⟩:=hcq q hbo
      have hqi:(q:Int) < (n:Int):=by omega
      have hq0:decide ((q:Int) < 0)=false:=by simp <;> omega
      have hsv:v.drew.cell? ⟨wr.heap.size,0,none⟩=some (.string ⟨p.toArray⟩)/\v.drew.cell? ⟨b0,of0 + q * 2,none⟩=some (.string ⟨s.toArray⟩):=⟨hsd,by
       exact (hkeep _).trans hsc⟩
      have hsz:=ba_len s
      cases hgt:decide ((s.length:Int) < (p.length:Int)) with
      | true=>
       have hg2:decide (s.length < p.length)=true:=by simp only [decide_eq_true_eq] at hgt ⊢; omega
       have HX:Hid (bestI rest L (j + 1)=some j):=hid (by
        rw [HBN.out,hbo,if_pos]
        simp only [betB,hp,<-hsl2,Bool.true_and,decide_eq_true_eq]
        simp only [decide_eq_true_eq] at hgt
        omega)
       simp only [bestV]
       clear HBN hp hcq hbo hsl2 hsd hkeep
       gi_wp2
       rw [<-HV.out]
       refine wpIn_norm ?_
       refine wpIn_region_L (S:=(fun Wx=>Wx.cell? ⟨wr.heap.size,0,none⟩=some (.string ⟨p.toArray⟩)/\Wx.cell? ⟨b0,of0 + q * 2,none⟩=some (.string ⟨s.toArray⟩))) [] l' (by kernel_rfl) (fun ⟨_,_,h⟩=>h) (by kernel_rfl) hsv (fun hHeld=>?_)
       refine anyL_take (i:=0) (v:=?vv69) rfl (by kernel_rfl) (by kernel_rfl) (by kernel_rfl) (by kernel_rfl) (fun _ _ _ h=>h) (Or.inl ⟨by rfl,?hy69⟩) (by assumption) ?rest69
       case hy69=>(intro wx hSw; (try dsimp only at hSw); go_simp; try (with_reducible rfl))
       simp only [Act.put,zA,zC,zD,zE,zF]
       refine anyL_take (i:=1) (v:=?vv70) rfl (by kernel_rfl) (by kernel_rfl) (by kernel_rfl) (by kernel_rfl) (fun _ _ _ h=>h) (Or.inl ⟨by rfl,?hy70⟩) (by assumption) ?rest70
       case hy70=>(intro wx hSw; (try dsimp only at hSw); go_simp; try (with_reducible rfl))
       simp only [Act.put,zA,zB,zC,zD,zE,zF]
       refine anyL_take (i:=2) (v:=?vv71) rfl (by kernel_rfl) (by kernel_rfl) (by kernel_rfl) (by kernel_rfl) (fun _ _ _ h=>h) (Or.inl ⟨by rfl,?hy71⟩) (by assumption) ?rest71
       case hy71=>(intro wx hSw; (try dsimp only at hSw); go_simp; try (with_reducible rfl))
       simp only [Act.put,zA,zB,zC,zD,zE,zF]
       refine anyL_one (i:=3) (by kernel_rfl) rfl (fun K hK=>?_)
       go_simp
       (with_reducible refine (HPX.out _).mono ?_)
       rintro e W3 ⟨rfl,hw3⟩
       subst hw3
       have hs0:=hHeld
       clear hHeld
       refine hK.out _ _ ((fun _=>hs0)) (fun hHeld=>?_)
       clear hK K
       refine anyL_take (i:=4) (v:=?vv72) rfl (by kernel_rfl) (by kernel_rfl) (by kernel_rfl) (by kernel_rfl) (fun _ _ _ h=>h) (Or.inl ⟨by rfl,?hy72⟩) (by assumption) ?rest72
       case hy72=>(intro wx hSw; (try dsimp only at hSw); go_simp; try (with_reducible rfl))
       simp only [Act.put,zA,zB,zC,zD,zE,zF]
       refine anyL_take (i:=5) (v:=?vv73) rfl (by kernel_rfl) (by kernel_rfl) (by kernel_rfl) (by kernel_rfl) (fun _ _ _ h=>h) (Or.inl ⟨by rfl,?hy73⟩) (by assumption) ?rest73
       case hy73=>(intro wx hSw; (try dsimp only at hSw); go_simp; try (with_reducible rfl))
       simp only [Act.put,zA,zB,zC,zD,zE,zF]
       refine anyL_take (i:=6) (v:=?vv74) rfl (by kernel_rfl) (by kernel_rfl) (by kernel_rfl) (by kernel_rfl) (fun _ _ _ h=>h) (Or.inl ⟨by rfl,?hy74⟩) (by assumption) ?rest74
       case hy74=>(intro wx hSw; (try dsimp only at hSw); go_simp; try (with_reducible rfl))
       simp only [Act.put,zA,zB,zC,zD,zE,zF]
       refine anyL_take (i:=7) (v:=?vv75) rfl (by kernel_rfl) (by kernel_rfl) (by kernel_rfl) (by kernel_rfl) (fun _ _ _ h=>h) (Or.inl ⟨by rfl,?hy75⟩) (by assumption) ?rest75
       case hy75=>(intro wx hSw; (try dsimp only at hSw); go_simp; try (with_reducible rfl))
       simp only [Act.put,zA,zB,zC,zD,zE,zF]
       refine anyL_take (i:=8) (v:=?vv76) rfl (by kernel_rfl) (by kernel_rfl) (by kernel_rfl) (by kernel_rfl) (fun _ _ _ h=>h) (Or.inl ⟨by rfl,?hy76⟩) (by assumption) ?rest76
       case hy76=>(intro wx hSw; (try dsimp only at hSw); go_simp; try (with_reducible rfl))
       simp only [Act.put,zA,zB,zC,zD,zE,zF]
       refine anyL_take (i:=9) (v:=?vv77) rfl (by kernel_rfl) (by kernel_rfl) (by kernel_rfl) (by kernel_rfl) (fun _ _ _ h=>h) (Or.inl ⟨by rfl,?hy77⟩) (by assumption) ?rest77
       case hy77=>(intro wx hSw; (try dsimp only at hSw); go_simp; try (with_reducible rfl))
       simp only [Act.put,zA,zB,zC,zD,zE,zF]
       refine anyL_take (i:=10) (v:=?vv78) rfl (by kernel_rfl) (by kernel_rfl) (by kernel_rfl) (by kernel_rfl) (fun _ _ _ h=>h) (Or.inl ⟨by rfl,?hy78⟩) (by assumption) ?rest78
       case hy78=>(intro wx hSw; (try dsimp only at hSw); go_simp; try (with_reducible rfl))
       simp only [Act.put,zA,zB,zC,zD,zE,zF]
       refine anyL_take (i:=11) (v:=?vv79) rfl (by kernel_rfl) (by kernel_rfl) (by kernel_rfl) (by kernel_rfl) (fun _ _ _ h=>h) (Or.inl ⟨by rfl,?hy79⟩) (by assumption) ?rest79
       case hy79=>(intro wx hSw; (try dsimp only at hSw); go_simp; try (with_reducible rfl))
       simp only [Act.put,zA,zB,zC,zD,zE,zF]
       refine anyL_take (i:=12) (v:=?vv80) rfl (by kernel_rfl) (by kernel_rfl) (by kernel_rfl) (by kernel_rfl) (fun _ _ _ h=>h) (Or.inl ⟨by rfl,?hy80⟩) (by assumption) ?rest80
       case hy80=>(intro wx hSw; (try dsimp only at hSw); go_simp; try (with_reducible rfl))
       simp only [Act.put,zA,zB,zC,zD,zE,zF]
       refine anyL_take (i:=13) (v:=?vv81) rfl (by kernel_rfl) (by kernel_rfl) (by kernel_rfl) (by kernel_rfl) (fun _ _ _ h=>h) (Or.inl ⟨by rfl,?hy81⟩) (by assumption) ?rest81
       case hy81=>(intro wx hSw; (try dsimp only at hSw); go_simp; try (with_reducible rfl))
       simp only [Act.put,zA,zB,zC,zD,zE,zF]
       refine anyL_take (i:=14) (v:=?vv82) rfl (by kernel_rfl) (by kernel_rfl) (by kernel_rfl) (by kernel_rfl) (fun _ _ _ h=>h) (Or.inl ⟨by rfl,?hy82⟩) (by assumption) ?rest82
       case hy82=>(intro wx hSw; (try dsimp only at hSw); go_simp; try (with_reducible rfl))
       simp only [Act.put,zA,zB,zC,zD,zE,zF]
       refine anyL_take (i:=15) (v:=?vv83) rfl (by kernel_rfl) (by kernel_rfl) (by kernel_rfl) (by kernel_rfl) (fun _ _ _ h=>h) (Or.inl ⟨by rfl,?hy83⟩) (by assumption) ?rest83
       case hy83=>(intro wx hSw; (try dsimp only at hSw); go_simp; try (with_reducible rfl))
       simp only [Act.put,zA,zB,zC,zD,zE,zF]
       refine anyL_take (i:=16) (v:=?vv84) rfl (by kernel_rfl) (by kernel_rfl) (by kernel_rfl) (by kernel_rfl) (fun _ _ _ h=>h) (Or.inl ⟨by rfl,?hy84⟩) (by assumption) ?rest84
       case hy84=>(intro wx hSw; (try dsimp only at hSw); go_simp; try (with_reducible rfl))
       simp only [Act.put,zA,zB,zC,zD,zE,zF]
       refine anyL_take (i:=17) (v:=?vv85) rfl (by kernel_rfl) (by kernel_rfl) (by kernel_rfl) (by kernel_rfl) (fun _ _ _ h=>h) (Or.inl ⟨by rfl,?hy85⟩) (by assumption) ?rest85
       case hy85=>(intro wx hSw; (try dsimp only at hSw); go_simp; try (with_reducible rfl))
       simp only [Act.put,zA,zB,zC,zD,zE,zF]
       refine anyL_take (i:=18) (v:=?vv86) rfl (by kernel_rfl) (by kernel_rfl) (by kernel_rfl) (by kernel_rfl) (fun _ _ _ h=>h) (Or.inl ⟨by rfl,?hy86⟩) (by assumption) ?rest86
       case hy86=>(intro wx hSw; (try dsimp only at hSw); go_simp; try (with_reducible rfl))
       simp only [Act.put,zA,zB,zC,zD,zE,zF]
       refine anyL_take (i:=19) (v:=?vv87) rfl (by kernel_rfl) (by kernel_rfl) (by kernel_rfl) (by kernel_rfl) (fun _ _ _ h=>h) (Or.inl ⟨by rfl,?hy87⟩) (by assumption) ?rest87
       case hy87=>(intro wx hSw; (try dsimp only at hSw); go_simp; try (with_reducible rfl))
       simp only [Act.put,zA,zB,zC,zD,zE,zF]
       refine anyL_done (by kernel_rfl) ?_ _
       refine then_norm ?_
       clear hs0 hsv d0 d1 HPX
       gi_wp2
       go_roundw
       case rel=>exact ⟨j + 1,by go_num,by omega,by rw [HX.out],HBV⟩
       case measure=>simp [intOf] <;> omega
      | false=>
       have hg2:decide (s.length < p.length)=false:=by simp only [decide_eq_false_iff_not] at hgt ⊢; omega
       have HX:Hid (bestI rest L (j + 1)=some q):=hid (by
        rw [HBN.out,hbo,if_neg]
        simp only [betB,hp,<-hsl2,Bool.true_and,decide_eq_true_eq]
        simp only [decide_eq_false_iff_not] at hgt
        omega)
       simp only [bestV]
       clear HBN hp hcq hbo hsl2 hsd hkeep
       gi_wp2
       rw [<-HV.out]
       refine wpIn_norm ?_
       refine wpIn_region_L (S:=(fun Wx=>Wx.cell? ⟨wr.heap.size,0,none⟩=some (.string ⟨p.toArray⟩)/\Wx.cell? ⟨b0,of0 + q * 2,none⟩=some (.string ⟨s.toArray⟩))) [] l' (by kernel_rfl) (fun ⟨_,_,h⟩=>h) (by kernel_rfl) hsv (fun hHeld=>?_)
       refine anyL_take (i:=0) (v:=?vv88) rfl (by kernel_rfl) (by kernel_rfl) (by kernel_rfl) (by kernel_rfl) (fun _ _ _ h=>h) (Or.inl ⟨by rfl,?hy88⟩) (by assumption) ?rest88
       case hy88=>(intro wx hSw; (try dsimp only at hSw); go_simp; try (with_reducible rfl))
       simp only [Act.put,zA,zC,zD,zE,zF]
       refine anyL_take (i:=1) (v:=?vv89) rfl (by kernel_rfl) (by kernel_rfl) (by kernel_rfl) (by kernel_rfl) (fun _ _ _ h=>h) (Or.inl ⟨by rfl,?hy89⟩) (by assumption) ?rest89
       case hy89=>(intro wx hSw; (try dsimp only at hSw); go_simp; try (with_reducible rfl))
       simp only [Act.put,zA,zB,zC,zD,zE,zF]
       refine anyL_take (i:=2) (v:=?vv90) rfl (by kernel_rfl) (by kernel_rfl) (by kernel_rfl) (by kernel_rfl) (fun _ _ _ h=>h) (Or.inl ⟨by rfl,?hy90⟩) (by assumption) ?rest90
       case hy90=>(intro wx hSw; (try dsimp only at hSw); go_simp; try (with_reducible rfl))
       simp only [Act.put,zA,zB,zC,zD,zE,zF]
       refine anyL_one (i:=3) (by kernel_rfl) rfl (fun K hK=>?_)
       go_simp
       (with_reducible refine (HPX.out _).mono ?_)
       rintro e W3 ⟨rfl,hw3⟩
       subst hw3
       have hs0:=hHeld
       clear hHeld
       refine hK.out _ _ ((fun _=>hs0)) (fun hHeld=>?_)
       clear hK K
       refine anyL_take (i:=4) (v:=?vv91) rfl (by kernel_rfl) (by kernel_rfl) (by kernel_rfl) (by kernel_rfl) (fun _ _ _ h=>h) (Or.inl ⟨by rfl,?hy91⟩) (by assumption) ?rest91
       case hy91=>(intro wx hSw; (try dsimp only at hSw); go_simp; try (with_reducible rfl))
       simp only [Act.put,zA,zB,zC,zD,zE,zF]
       refine anyL_take (i:=5) (v:=?vv92) rfl (by kernel_rfl) (by kernel_rfl) (by kernel_rfl) (by kernel_rfl) (fun _ _ _ h=>h) (Or.inl ⟨by rfl,?hy92⟩) (by assumption) ?rest92
       case hy92=>(intro wx hSw; (try dsimp only at hSw); go_simp; try (with_reducible rfl))
       simp only [Act.put,zA,zB,zC,zD,zE,zF]
       refine anyL_take (i:=6) (v:=?vv93) rfl (by kernel_rfl) (by kernel_rfl) (by kernel_rfl) (by kernel_rfl) (fun _ _ _ h=>h) (Or.inl ⟨by rfl,?hy93⟩) (by assumption) ?rest93
       case hy93=>(intro wx hSw; (try dsimp only at hSw); go_simp; try (with_reducible rfl))
       simp only [Act.put,zA,zB,zC,zD,zE,zF]
       refine anyL_take (i:=7) (v:=?vv94) rfl (by kernel_rfl) (by kernel_rfl) (by kernel_rfl) (by kernel_rfl) (fun _ _ _ h=>h) (Or.inl ⟨by rfl,?hy94⟩) (by assumption) ?rest94
       case hy94=>(intro wx hSw; (try dsimp only at hSw); go_simp; try (with_reducible rfl))
       simp only [Act.put,zA,zB,zC,zD,zE,zF]
       refine anyL_take (i:=8) (v:=?vv95) rfl (by kernel_rfl) (by kernel_rfl) (by kernel_rfl) (by kernel_rfl) (fun _ _ _ h=>h) (Or.inl ⟨by rfl,?hy95⟩) (by assumption) ?rest95
       case hy95=>(intro wx hSw; (try dsimp only at hSw); go_simp; try (with_reducible rfl))
       simp only [Act.put,zA,zB,zC,zD,zE,zF]
       refine anyL_take (i:=9) (v:=?vv96) rfl (by kernel_rfl) (by kernel_rfl) (by kernel_rfl) (by kernel_rfl) (fun _ _ _ h=>h) (Or.inl ⟨by rfl,?hy96⟩) (by assumption) ?rest96
       case hy96=>(intro wx hSw; (try dsimp only at hSw); go_simp; try (with_reducible rfl))
       simp only [Act.put,zA,zB,zC,zD,zE,zF]
       refine anyL_take (i:=10) (v:=?vv97) rfl (by kernel_rfl) (by kernel_rfl) (by kernel_rfl) (by kernel_rfl) (fun _ _ _ h=>h) (Or.inl ⟨by rfl,?hy97⟩) (by assumption) ?rest97
       case hy97=>(intro wx hSw; (try dsimp only at hSw); go_simp; try (with_reducible rfl))
       simp only [Act.put,zA,zB,zC,zD,zE,zF]
       refine anyL_take (i:=11) (v:=?vv98) rfl (by kernel_rfl) (by kernel_rfl) (by kernel_rfl) (by kernel_rfl) (fun _ _ _ h=>h) (Or.inl ⟨by rfl,?hy98⟩) (by assumption) ?rest98
       case hy98=>(intro wx hSw; (try dsimp only at hSw); go_simp; try (with_reducible rfl))
       simp only [Act.put,zA,zB,zC,zD,zE,zF]
       refine anyL_take (i:=12) (v:=?vv99) rfl (by kernel_rfl) (by kernel_rfl) (by kernel_rfl) (by kernel_rfl) (fun _ _ _ h=>h) (Or.inl ⟨by rfl,?hy99⟩) (by assumption) ?rest99
       case hy99=>(intro wx hSw; (try dsimp only at hSw); go_simp; try (with_reducible rfl))
       simp only [Act.put,zA,zB,zC,zD,zE,zF]
       refine anyL_take (i:=13) (v:=?vv100) rfl (by kernel_rfl) (by kernel_rfl) (by kernel_rfl) (by kernel_rfl) (fun _ _ _ h=>h) (Or.inl ⟨by rfl,?hy100⟩) (by assumption) ?rest100
       case hy100=>(intro wx hSw; (try dsimp only at hSw); go_simp; try (with_reducible rfl))
       simp only [Act.put,zA,zB,zC,zD,zE,zF]
       refine anyL_take (i:=14) (v:=?vv101) rfl (by kernel_rfl) (by kernel_rfl) (by kernel_rfl) (by kernel_rfl) (fun _ _ _ h=>h) (Or.inl ⟨by rfl,?hy101⟩) (by assumption) ?rest101
       case hy101=>(intro wx hSw; (try dsimp only at hSw); go_simp; try (with_reducible rfl))
       simp only [Act.put,zA,zB,zC,zD,zE,zF]
       refine anyL_take (i:=15) (v:=?vv102) rfl (by kernel_rfl) (by kernel_rfl) (by kernel_rfl) (by kernel_rfl) (fun _ _ _ h=>h) (Or.inl ⟨by rfl,?hy102⟩) (by assumption) ?rest102
       case hy102=>(intro wx hSw; (try dsimp only at hSw); go_simp; try (with_reducible rfl))
       simp only [Act.put,zA,zB,zC,zD,zE,zF]
       refine anyL_take (i:=16) (v:=?vv103) rfl (by kernel_rfl) (by kernel_rfl) (by kernel_rfl) (by kernel_rfl) (fun _ _ _ h=>h) (Or.inl ⟨by rfl,?hy103⟩) (by assumption) ?rest103
       case hy103=>(intro wx hSw; (try dsimp only at hSw); go_simp; try (with_reducible rfl))
       simp only [Act.put,zA,zB,zC,zD,zE,zF]
       refine anyL_take (i:=17) (v:=?vv104) rfl (by kernel_rfl) (by kernel_rfl) (by kernel_rfl) (by kernel_rfl) (fun _ _ _ h=>h) (Or.inl ⟨by rfl,?hy104⟩) (by assumption) ?rest104
       case hy104=>(intro wx hSw; (try dsimp only at hSw); go_simp; try (with_reducible rfl))
       simp only [Act.put,zA,zB,zC,zD,zE,zF]
       refine anyL_take (i:=18) (v:=?vv105) rfl (by kernel_rfl) (by kernel_rfl) (by kernel_rfl) (by kernel_rfl) (fun _ _ _ h=>h) (Or.inl ⟨by rfl,?hy105⟩) (by assumption) ?rest105
       case hy105=>(intro wx hSw; (try dsimp only at hSw); go_simp; try (with_reducible rfl))
       simp only [Act.put,zA,zB,zC,zD,zE,zF]
       refine anyL_take (i:=19) (v:=?vv106) rfl (by kernel_rfl) (by kernel_rfl) (by kernel_rfl) (by kernel_rfl) (fun _ _ _ h=>h) (Or.inl ⟨by rfl,?hy106⟩) (by assumption) ?rest106
       case hy106=>(intro wx hSw; (try dsimp only at hSw); go_simp; try (with_reducible rfl))
       simp only [Act.put,zA,zB,zC,zD,zE,zF]
       refine anyL_done (by kernel_rfl) ?_ _
       refine then_norm ?_
       clear hs0 hsv d0 d1 HPX
       gi_wp2
       go_roundw
       case rel=>exact ⟨j + 1,by go_num,by omega,by rw [HX.out],HBV⟩
       case measure=>simp [intOf] <;> omega
   ·have hji:¬ (j:Int) < (n:Int):=by omega
    have hjn:j=L.length:=by have:=HN.out; omega
    have HJN:Hid (bestI rest L j=bestI rest L L.length):=hid (by rw [hjn])
    have hbw:=HB.out
    have hw2:=HW2.out
    have hz2:=HZ2.out
    have hz0:=HZ.out
    have HKF:Hid (KeepsOthers W wr):=hid (ko_below hbw)
    have HKD:Hid (Kd (z + 2) W wr):=hid ⟨hbw.size,hbw.block _ (by omega)⟩
    have HOW:Hid (OwI z b k M (.slice none 0 0) w wr):=hid (HO.out.grow (by omega) (gr_below hbw) (fun j e=>by cases e))
    cases hbo:bestI rest L j with
    | none=>
     have HFN:=hid (HN0.out (bestG_none (by rw [<-HJN.out,hbo])))
     have HMF:=hid (HMW.out.below hbw)
     simp only [bestV]
     clear hbo hjn hbw HN0 HS0 HMW HJN hz0 hz2 hw2
     gi_wp2
     exact ⟨HKF.out.from _,HKD.out,HFN.out,HOW.out,HMF.out,by have:=HKF.out.size; have:=HW2.out; omega⟩
    | some q=>
     obtain ⟨hql,hbg⟩:=bestG_some (rest:=rest) (L:=L) (q:=q) (by rw [<-HJN.out,hbo])
     have HOR:=hid (HS0.out _ hbg)
     have hrx:=HRL.out.grow (gr_below hbw) (Far.none _ _ _) (Nat.le_refl _)
     rw [HN.out] at hrx
     obtain ⟨b0,of0,y,hab,hbb,q0,q1,hy⟩:=rl_cell hrx hql
     simp only [hdV] at q1
     simp only at hab
     have hqi:(q:Int) < (n:Int):=by rw [HN.out]; omega
     have hq0:(0:Int)<=(q:Int):=by omega
     generalize L[q]=r at hy HOR
     obtain ⟨p,G⟩:=r
     obtain ⟨ya,yn,yc⟩:=y
     have hyn:=hy.len
     simp only at hyn hy q0 q1 HOR
     subst hyn hab
     have hbr:=HOW.out.br
     have e0:=hbr.c1
     have f0:=hbr.frozen 0
     have HFN:Hid (OwI z b k M (.slice ya G.length yc) w (wr.setCell ⟨z + 1,0,none⟩ (.slice ya G.length yc))/\GrW B (wr.setCell ⟨z + 1,0,none⟩ (.slice ya G.length yc)) (ya,G.length,yc) G):=hid ⟨⟨HOW.out.be.setCell (by simp) _,HOW.out.bm.other (by omega) 0 _,hbr.set 0 _⟩,hy.grow (gset wr (z + 1) 0 _) (Far.bk hbr (by decide)) (Nat.le_refl _)⟩
     simp only [bestV]
     clear hbo hjn hbw HN0 HS0 HMW HJN hrx hy hbr HOW hbg hz0 hz2 hw2
     gi_wp2
     exact ⟨(HKF.out.trans (KeepsOthers.setCell _ _ _)).from _,rfl,ya,yc,G,HFN.out.1,HFN.out.2,HOR.out,by have:=HKF.out.size; have:=HW2.out; simp [World.setCell]; omega⟩
 case done=>
  rintro D ys W hD hS ⟨h1,h2,h3,h4⟩ hdef
  have HG0:Hid (ownG M (dirsP P)=[]):=hid (by
   have:=ownG_none (M:=M) (pre:=T) (ds:=[]) (fun x hx=>h1 x (by rw [hS]; exact hx))
   rw [List.append_nil,HTT.out] at this
   exact this)
  have hz2:=HZ2.out
  have hz0:=HZ.out
  have e0:=h2.br.c1
  have f0:=h2.br.frozen 0
  have hk:BK (z + 1) #[.slice none 0 0] 27 (W.setCell ⟨z + 1,0,none⟩ (.slice none 0 0)):=h2.br.set 0 _
  have hd:(W.setCell ⟨z + 1,0,none⟩ (.slice none 0 0)).heap[D]? = some (.deferred (some [])):=(KeepsOthers.setCell _ _ _).same D _ hdef rfl
  have hgD:=grownBy_putObj' (W.setCell ⟨z + 1,0,none⟩ (.slice none 0 0)) D (.deferred none)
  have hk2:=(hk.grow1 hgD (by omega)).c1
  have HFN:Hid (GotOw B w M P (.returned (.slice none 0 0)) ((W.setCell ⟨z + 1,0,none⟩ (.slice none 0 0)).putObj D (.deferred none))):=hid (by
   refine ⟨none,0,by rw [HG0.out]; rfl,by rw [HG0.out]; exact GrW.nil _ _,?_⟩
   rw [<-hz0]
   exact (h2.be.setCell (by simp) _).grown hgD (by have:=h2.be.size; simp [World.setCell]; omega) (fun j e=>by cases e; omega))
  have HD:=hid hd
  clear h1 h2 h3 h4 hdef hk hd hgD HG0 hS hz0 hz2
  gi_wp2
  refine ⟨by simp,.inl ⟨_,_,rfl,run_takeDeferred HD.out,?_⟩⟩
  exact ⟨.slice none 0 0,by simp [results,Tryz.results28,go_sem,hk2],HFN.out⟩
 case stop=>
  rintro D c pre W hD hS ⟨rfl,a,c0,G,h2,h3,⟨p,x,hpx,hn,hx⟩,h5⟩ hdef
  have hz2:=HZ2.out
  have hz0:=HZ.out
  have HGG:ownG M (dirsP P)=G:=by
   rw [<-HTT.out]
   rw [hpx] at hS
   exact ownG_hit hS hn hx
  have hgD:=grownBy_putObj' W D (.deferred none)
  have hk2:=(h2.br.grow1 hgD (by omega)).c1
  have HFN:Hid (GotOw B w M P (.returned (.slice a G.length c0)) (W.putObj D (.deferred none))):=hid (by
   refine ⟨a,c0,by rw [HGG],?_,by rw [<-hz0]; exact h2.be.grown hgD (by have:=h2.be.size; omega) (fun j e=>by cases e; omega)⟩
   rw [HGG]
   exact h3.grow hgD (fun j e=>by cases e; exact .inr (fun t _ cs fz h=>by rw [hdef] at h; cases h)) (Nat.le_refl _))
  have HD:=hid hdef
  clear h2 h3 hpx hn hx hdef hgD hS HGG hz0 hz2
  gi_wp2
  refine ⟨by simp,.inl ⟨_,_,rfl,run_takeDeferred HD.out,?_⟩⟩
  exact ⟨.slice a G.length c0,by simp [results,Tryz.results28,go_sem,hk2],HFN.out⟩
end Go.Proofs.YtdedfkljaeloiaaGreatDoor
