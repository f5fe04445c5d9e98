/- slices.SortFunc at files, by the shelf's contract. -/
import Derived.Test.YtdedfkljaeloiaaGreatDoorG3
import Derived.Test.YtdedfkljaeloiaaGreatDoorTtSl
set_option maxRecDepth 100000
set_option maxHeartbeats 16000000
open Go.Lib (hid)
namespace Go.Proofs.YtdedfkljaeloiaaGreatDoor
open Go.RowKit Go.Shelf Go.Sort
set_option linter.unusedVariables false
instance:Inhabited Fl:=⟨⟨[],[]⟩⟩
def cmpFl (x y:Fl):Int:=cmpS x.path y.path
theorem ltOf_fl (x y:Fl):ltOf cmpFl x y=true ↔ ltS x.path y.path:=by
 unfold ltOf cmpFl
 rw [decide_eq_true_eq]
 exact (cmpS_lt x.path y.path).1
theorem ltOf_fl' (x y:Fl):ltOf cmpFl x y=false ↔ ¬ ltS x.path y.path:=by
 rw [<-ltOf_fl,Bool.not_eq_true]
theorem swoFl:SWO (ltOf cmpFl) where
 irrefl x:=by rw [ltOf_fl']; exact ltS_irrefl _
 trans x y z h1 h2:=by rw [ltOf_fl] at *; exact ltS_trans h1 h2
 ntrans x y z h1 h2:=by
  rw [ltOf_fl'] at *
  intro h
  rcases ltS_total x.path y.path with g | g | g
  ·exact h1 g
  ·rw [g] at h; exact h2 h
  ·exact h2 (ltS_trans g h)
theorem lcmp_any (x y:Fl) (w:World):Calls Tryz.prog 57 #[.agg #[.string ⟨x.path.toArray⟩,.string ⟨x.data.toArray⟩],.agg #[.string ⟨y.path.toArray⟩,.string ⟨y.data.toArray⟩]] w fun e w'=>e = .returned (.int .i64 (cmpFl x y))/\Laid w w':=by
 obtain ⟨P,D⟩:=x
 obtain ⟨Q,E⟩:=y
 unfold cmpFl
 have H:Hid (∀ W,Calls Tryz.prog 58 #[.string ⟨P.toArray⟩,.string ⟨Q.toArray⟩] W fun e w'=>e = .returned (.int .i64 (cmpS P Q))/\w' = W):=hid (fun W=>Any.strings_Compare Tryz.compareS ⟨P.toArray⟩ ⟨Q.toArray⟩ W)
 obtain ⟨c0,c1⟩:=((BK.new w #[.string ⟨P.toArray⟩,.string ⟨D.toArray⟩] 55).alloc (.cells #[.string ⟨Q.toArray⟩,.string ⟨E.toArray⟩] 55)).c2
 obtain ⟨d0,d1⟩:=(BK.new2 w (.cells #[.string ⟨P.toArray⟩,.string ⟨D.toArray⟩] 55) #[.string ⟨Q.toArray⟩,.string ⟨E.toArray⟩] 55).c2
 simp only
 go_enter Tryz.func57,Tryz.ntmps57
 go_wp2_with fail
 (with_reducible refine (H.out _).mono ?_)
 rintro e w' ⟨rfl,rfl⟩
 go_wp2_with fail
 go_ret
 exact ⟨rfl,((Laid.refl w).alloc _).alloc _⟩
theorem cmpLaysFl (blk off size:Nat) (w:World):CmpLays Tryz.prog 57 #[] flCs 2 cmpFl blk off size w:=
 fun _ _ _ _ x y=>lcmp_any x y _
theorem flat_gcs (l:List Fl):flatK flCs 2 l.toArray=(gcs flCs l).toArray:=by
 apply Array.ext
 ·simp [gcs_length layFl]
 ·intro t h1 h2
  have ht:t < l.length * 2:=by simpa using h1
  have hg:=get_flatK flCs 2 l.toArray t (by simpa using ht)
  rw [getElem!_pos _ t h1] at hg
  rw [hg]
  have hi:t / 2 < l.length:=by omega
  have e:(l.toArray)[t / 2]! = l[t / 2]:=by rw [getElem!_pos _ _ (by simpa using hi)]; simp
  rw [e]
  have h3:=gcs_at layFl l (t / 2) hi (t % 2) (Nat.mod_lt _ (by decide))
  rw [show t / 2 * 2 + t % 2=t by omega] at h3
  have hlen:t < (gcs flCs l).length:=by rw [gcs_length layFl]; exact ht
  rw [List.getElem?_eq_getElem hlen] at h3
  have hlen2:t % 2 < (flCs l[t / 2]).length:=by simp [flCs]; omega
  rw [List.getElem?_eq_getElem hlen2] at h3
  injection h3 with h3
  rw [List.getElem_toArray,h3,getElem!_pos (flCs l[t / 2]) _ hlen2]
theorem sorted_eq {fs l:List Fl} {d':Array Fl} (hp:fs.Perm l) (hl:AscF l) (h1:PermIn 0 fs.toArray.size fs.toArray d') (h2:SortedIn (ltOf cmpFl) 0 fs.toArray.size d'):d' = l.toArray:=by
 obtain ⟨hs,_,hpm⟩:=h1
 have e1:(d'.extract 0 fs.toArray.size).toList=d'.toList:=by rw [<-hs]; simp
 have e2:(fs.toArray.extract 0 fs.toArray.size).toList=fs:=by simp
 rw [e1,e2] at hpm
 have hpl:=hpm.trans hp
 have hnd:(l.map (·.path)).Nodup:=by
  rw [List.nodup_iff_pairwise_ne,List.pairwise_map]
  exact hl.imp (fun h e=>by rw [e] at h; exact ltS_irrefl _ h)
 have hnd':(d'.toList.map (·.path)).Nodup:=(hpl.map _).nodup_iff.2 hnd
 have hasc:AscF d'.toList:=by
  unfold AscF
  rw [List.pairwise_iff_getElem]
  intro i j hi hj hij
  have hz:d'.toList.length=fs.toArray.size:=by rw [<-hs]; simp
  have h3:=h2 i j (Nat.zero_le _) hij (by omega)
  rw [ltOf_fl'] at h3
  have gi:d'[i]! = d'.toList[i]:=by rw [getElem!_pos _ _ (by simpa using hi)]; simp
  have gj:d'[j]! = d'.toList[j]:=by rw [getElem!_pos _ _ (by simpa using hj)]; simp
  rw [gi,gj] at h3
  rcases ltS_total d'.toList[i].path d'.toList[j].path with h | h | h
  ·exact h
  ·exfalso
   have:=(List.nodup_iff_pairwise_ne.1 hnd')
   rw [List.pairwise_map] at this
   exact (List.pairwise_iff_getElem.1 this i j hi hj hij) h
  ·exact absurd h h3
 have:=ascF_ext hasc hl (fun x=>hpl.mem_iff)
 rw [<-this]
theorem sortFl_any {base:Nat} (a:Option Addr) (fs l:List Fl) (c:Nat) (w:World) (hp:fs.Perm l) (hl:AscF l) (ho:w.ownsRow base 55 2 (.slice a fs.length c) fs.length (gcs flCs fs)) (hn:(fs.length:Int)<=1000000000) :
  Calls Tryz.prog 56 #[.slice a fs.length c,.func (.func 57) #[] #[]] w fun e w'=>e = .returned (.tuple #[])/\w'.ownsRow base 55 2 (.slice a fs.length c) fs.length (gcs flCs l)/\w.grownBy w' (Value.slice a fs.length c).ownBlock:=by
 rcases ho.2 with ⟨h1,h2⟩ | ⟨g,cap,cur,h1,hbase,hg,hcap,hmax,hcs,htake⟩
 ·have hd:fs=[]:=List.eq_nil_of_length_eq_zero h2
  subst hd
  have hl0:l=[]:=List.Perm.eq_nil (hp.symm)
  subst hl0
  have:=AnyF.slices_SortFunc_none Tryz.sortFl a c (.func (.func 57) #[] #[]) w
  refine Calls.mono this fun e w' ⟨he,hw⟩=>⟨he,?_,?_⟩
  ·rw [hw]; exact ho
  ·rw [hw]; exact ⟨rfl,rfl,rfl,Nat.le_refl _,fun _ _ _=>rfl⟩
 ·cases h1
  have eg:∀ args w,(callFunc 57 args).run Tryz.prog w = .ok (.enter 57 args) w:=enters_of Tryz.func57 (by kernel_rfl) rfl
  have hH:HoldsK flCs 2 w g 0 fs.toArray:=by
   unfold HoldsK
   rw [flat_gcs]
   intro j hj
   have hj':j < (gcs flCs fs).length:=by simpa using hj
   refine ⟨?_,Lib.frozen_of_heap hg _⟩
   rw [Lib.cell_of_heap hg,Nat.zero_add]
   have h3:(cur.toList.take (fs.length * 2))[j]? = (gcs flCs fs)[j]?:=by rw [htake]
   rw [List.getElem?_take_of_lt (by rw [gcs_length layFl] at hj'; exact hj'),Array.getElem?_toList] at h3
   rw [h3,List.getElem?_eq_getElem hj',getElem!_pos _ j hj]
   simp
  have hcon:=AnyQ.slices_SortFunc Tryz.sortFl 2 Tryz.isAgg55 Tryz.sizeOf55 flCs (fun _=>rfl) (fun x v hv=>layFl.one x v hv) cmpFl swoFl 57 #[] g 0 c fs.toArray w eg (cmpLaysFl g 0 _ w) hH (Array.getElem?_eq_some_iff.1 hg).1 (by simp; omega)
  have hcon2:Calls Tryz.prog 56 #[.slice (some ⟨g,0,none⟩) fs.length c,.func (.func 57) #[] #[]] w _:=hcon
  refine hcon2.mono fun e w' ⟨he,d',n,os,h1,h2,hw⟩=>⟨he,?_,?_⟩
  ·rw [hw,sorted_eq hp hl h1 h2]
   unfold sortWorldK putRowK
   have hll:l.length=fs.length:=hp.length_eq.symm
   change (grow (putRow id (Go.Sort.ahead w n) g 0 (flatK flCs 2 l.toArray)) os).ownsRow _ _ _ _ _ _
   rw [flat_gcs]
   have hl2:(gcs flCs l).length=fs.length * 2:=by rw [gcs_length layFl,hll]
   exact ⟨hl2,.inr ⟨g,c,_,rfl,hbase,heap_sortedD _ hg,hcap,hmax,by simp [putCells,hcs],by rw [<-hl2]; exact take_putCellsD cur _ (by rw [hl2,hcs]; exact Nat.mul_le_mul_right _ hcap)⟩⟩
  ·rw [hw]
   unfold sortWorldK putRowK
   exact grownBy_sortedD _
end Go.Proofs.YtdedfkljaeloiaaGreatDoor
