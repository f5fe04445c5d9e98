/- Joined texts: PkJk, PkJl, PkJh, PkJm. -/
import Derived.Test.YtijkieiihpiljaaGreatP8
import Derived.Test.YtijkieiihpiljaaGreatP10
import Derived.Test.YtijkieiihpiljaaGreatK6
import Derived.Laws.MakeOwn
import Derived.Laws.EntriesVeiled
import Derived.Test.YtijkieiihpiljaaGreatK4
/- Packs: choose,what it holds. -/
set_option maxRecDepth 100000
set_option maxHeartbeats 16000000
open Go.Lib (hid)
namespace Go.Proofs.YtijkieiihpiljaaGreat
open Go.RowKit Go.Shelf
set_option linter.unusedVariables false
theorem infoCh:(Tryz.prog.info? 132).map (fun i=>(i.zero,i.size,i.bytes))=some (some (.agg #[.bool false,.int .u64 0,.int .u64 0,.string ⟨#[]⟩,.int .i64 0]),5,48):=by kernel_rfl
theorem made_ch (n:Nat):madeCells #[.bool false,.int .u64 0,.int .u64 0,.string ⟨#[]⟩,.int .i64 0] (n * 5)=(gcs chCs (List.replicate n ⟨false,(0,0),[],0⟩)).toArray:=by
 apply Array.ext
 ·rw [size_madeCells]; simp [gcs_length layCh]
 ·intro k h1 h2
  rw [size_madeCells] at h1
  have hk:k / 5 < n:=by omega
  have h3:=gcs_at layCh (List.replicate n (⟨false,(0,0),[],0⟩:Chc)) (k / 5) (by simpa using hk) (k % 5) (by omega)
  rw [show k / 5 * 5 + k % 5=k by omega] at h3
  rw [List.getElem_replicate] at h3
  have h4:(madeCells #[.bool false,.int .u64 0,.int .u64 0,.string ⟨#[]⟩,.int .i64 0] (n * 5))[k]=(#[.bool false,.int .u64 0,.int .u64 0,.string ⟨#[]⟩,.int .i64 0]:Array Value)[k % 5]!:=by
   unfold madeCells
   simp
  rw [h4]
  simp only [List.getElem_toArray]
  have h5:=(List.getElem?_eq_some_iff.1 (h3.trans (List.getElem?_eq_getElem (by simp [chCs]; omega)))).2
  rw [h5]
  rcases (by omega:k % 5=0\/k % 5=1\/k % 5=2\/k % 5=3\/k % 5=4) with h | h | h | h | h <;> simp [h,chCs]
theorem wpIn_normal {F:Fence} {n:Nat} {P:Program} {c:Code} {Q:Exit->Act->World->Prop} {a:Act} {w:World} (h:c.wpIn F n P (Exit.then (fun a w=>Q .normal a w) (fun _ _ _=>False)) a w):c.wpIn F n P Q a w:=
 wpIn_mono h (fun e a w hq=>by
  cases e with
  | normal=>exact hq
  | ret=>exact hq.elim
  | exit i=>exact hq.elim
  | goto t=>exact hq.elim
  | panic ch=>exact hq.elim
  | outgrown=>exact hq.elim)
theorem then_normal {Q:Exit->Act->World->Prop} {a:Act} {w:World} (h:Q .normal a w):Exit.then (fun a w=>Q .normal a w) (fun _ _ _=>False) .normal a w:=h
structure ChI (w:World) (la:Option Addr) (lc n mb:Nat) (L:List Chc) (W:World):Prop where
 row:BK (w.heap.size + 2) (gcs chCs L).toArray 132 W
 bb:BK (w.heap.size + 3) #[.slice (some ⟨w.heap.size + 2,0,none⟩) n n] 73 W
 lx:BK w.heap.size #[.slice la n lc] 24 W
 dx:BK (w.heap.size + 1) #[.map (some mb)] 70 W
 bel:Below w.heap.size w W
section
variable {w W W':World} {la:Option Addr} {lc n mb:Nat} {L:List Chc}
theorem ChI.below (h:ChI w la lc n mb L W) (hb:Below W.heap.size W W'):ChI w la lc n mb L W':=⟨h.row.below hb,h.bb.below hb,h.lx.below hb,h.dx.below hb,h.bel.trans (hb.mono h.bel.size)⟩
theorem bk_put {b:Nat} {cs:Array Value} {t:TypeId} {l:Nat} {o o':Obj} (h:BK b cs t W) (hl:W.heap[l]? = some o) (ho:o.isCells=false):BK b cs t (W.putObj l o'):=
 (World.putObj_heap_other (fun e=>by rw [<-e,show W.heap[b]? = _ from h] at hl; cases hl; cases ho)).trans h
theorem ChI.putObj (h:ChI w la lc n mb L W) {l:Nat} {o o':Obj} (hlo:w.heap.size<=l) (hl:W.heap[l]? = some o) (ho:o.isCells=false):ChI w la lc n mb L (W.putObj l o'):=
 ⟨bk_put h.row hl ho,bk_put h.bb hl ho,bk_put h.lx hl ho,bk_put h.dx hl ho,below_put h.bel hlo⟩
theorem ChI.set (h:ChI w la lc n mb L W) {i:Nat} (hi:i < L.length) (c:Chc) {X:World}
  (hX:X=((((W.setCell ⟨w.heap.size + 2,i * 5,none⟩ (.bool c.sm)).setCell ⟨w.heap.size + 2,i * 5 + 1,none⟩ (.int .u64 c.b.1)).setCell ⟨w.heap.size + 2,i * 5 + 2,none⟩ (.int .u64 c.b.2)).setCell ⟨w.heap.size + 2,i * 5 + 3,none⟩ (.string ⟨c.tx.toArray⟩)).setCell ⟨w.heap.size + 2,i * 5 + 4,none⟩ (.int .i64 (c.sz:Int))) :
  ChI w la lc n mb (L.set i c) X/\W.grownBy X (some (w.heap.size + 2)):=by
 have hg:W.grownBy X (some (w.heap.size + 2)):=by rw [hX]; exact gown (gown (gown (gown (gset _ _ _ _) _ _) _ _) _ _) _ _
 refine ⟨⟨by rw [hX]; exact ch_set h.row hi c,h.bb.grow1 hg (by omega),h.lx.grow1 hg (by omega),h.dx.grow1 hg (by omega),?_⟩,hg⟩
 exact h.bel.grown hg h.bel.size (fun k e=>by cases e; omega)
theorem ChI.set0 (h:ChI w la lc n mb L W) {i:Nat} (hi:i < L.length):ChI w la lc n mb (L.set i { L[i] with sm:=false }) (W.setCell ⟨w.heap.size + 2,i * 5,none⟩ (.bool false))/\W.grownBy (W.setCell ⟨w.heap.size + 2,i * 5,none⟩ (.bool false)) (some (w.heap.size + 2)):=by
 have hg:=gset W (w.heap.size + 2) (i * 5) (.bool false)
 refine ⟨⟨?_,h.bb.grow1 hg (by omega),h.lx.grow1 hg (by omega),h.dx.grow1 hg (by omega),?_⟩,hg⟩
 ·have h1:=h.row.set (i * 5 + 0) (.bool false)
  rw [List.setIfInBounds_toArray,gcs_set layCh L i hi 0 (.bool false) { L[i] with sm:=false } (by decide) rfl] at h1
  exact h1
 ·exact h.bel.grown hg h.bel.size (fun k e=>by cases e; omega)
theorem ChI.cells (h:ChI w la lc n mb L W) {i:Nat} (hi:i < L.length):∀ j v,(chCs L[i])[j]? = some v->W.cell? ⟨w.heap.size + 2,i * 5 + j,none⟩=some v:=by
 intro j v hv
 have hj:j < 5:=by have:=(List.getElem?_eq_some_iff.1 hv).1; simpa [chCs] using this
 rw [h.row.cell]
 simp only [List.getElem?_toArray]
 rw [gcs_at layCh L i hi j hj,hv]
theorem ChI.end_ {K:Nat->Prop} (h:W.grownBy W' (some (w.heap.size + 2))) (hr:BK (w.heap.size + 2) (gcs chCs L).toArray 132 W) (hK:∀ k,K k->k < W.heap.size/\k ≠ w.heap.size + 2) {m m':Nat} (hm:w.heap.size + 2 < m) (hm':m'<=W.heap.size) :
  KeepsOthers W W'/\KeptOn K W W'/\∀ k o,m<=k->k < m'->W.heap[k]? = some o->notBytes o->W'.heap[k]? = some o:=by
 refine ⟨⟨h.size,fun k o hk ho=>(h.block k (Array.getElem?_eq_some_iff.1 hk).1 (fun e=>?_)).trans hk⟩,⟨h.os,h.tape,h.output,h.size,fun k hk=>h.block k (hK k hk).1 (fun e=>(hK k hk).2 (Option.some.inj e))⟩,fun k o h1 h2 hk _=>(h.block k (by omega) (fun e=>by cases e; omega)).trans hk⟩
 cases e
 rw [show W.heap[w.heap.size + 2]? = _ from hr] at hk
 cases hk; cases ho
end
section
attribute [local go_sem] Oper.semAt_some
theorem run_makeCh (n:Nat) (hn:n<=1000) (W:World):(Instr.makeSlice 73 (.int .i64 (n:Int)) (.int .i64 (n:Int))).run Tryz.prog W = .ok (.slice (some ⟨W.heap.size,0,none⟩) n n) (W.alloc (.cells (gcs chCs (List.replicate n ⟨false,(0,0),[],0⟩)).toArray 132)):=by
 obtain ⟨i0,hi,hz0,hz1,hz2⟩:=info_parts infoCh
 have h:=run_makeSlice (P:=Tryz.prog) W 73 132 i0 _ Tryz.underlying73 hi hz0 .i64 .i64 (n:Int) (n:Int) (by omega) (Int.le_refl _) (by rw [hz1]; simp; omega) (by rw [hz2]; omega) (by omega)
 rw [hz1,Int.toNat_natCast] at h
 rw [h,<-made_ch n]
 rfl
structure ChPre (xs:List Itm) (l base:List (Int × Int)) (la ba:Option Addr) (mb nm:Nat) (w:World):Prop where
 ld:Digs w.heap.size w la l
 bd:Digs w.heap.size w ba base
 mp:MapG digG mb nm (datV xs) w
 okl:∀ d ∈ l,OkD d
 okb:∀ d ∈ base,OkD d
 nl:l.length<=1000
 nb:(base.length:Int)<=1000000
 dl:∀ d ∈ l,(datD xs d).length<=1000
 db:∀ d ∈ base,(datD xs d).length<=1000
theorem candidates_any (la ba:Option Addr) (nl lc nb bc mb:Nat) (w:World):Calls Tryz.prog 72 #[.slice la nl lc,.slice ba nb bc,.map (some mb)] w fun e w'=>e = .returned (.func (.func 110) #[] #[.pointer (some ⟨w.heap.size + 1,0,none⟩),.pointer (some ⟨w.heap.size + 2,0,none⟩),.pointer (some ⟨w.heap.size,0,none⟩)])/\
  w' = ((w.alloc (.cells #[.slice la nl lc] 24)).alloc (.cells #[.slice ba nb bc] 24)).alloc (.cells #[.map (some mb)] 70):=by
 go_enter Tryz.func72,Tryz.ntmps72
 go_wp2_with fail
 go_ret
 exact ⟨rfl,rfl⟩
def endL (xs:List Itm) (l base:List (Int × Int)):List Chc:=(List.range l.length).map fun i=>bstE xs (l.getD i (0,0)) (pkO xs (l.getD i (0,0)) (base ++ l.take i))
theorem endL_of {xs:List Itm} {l base:List (Int × Int)} {pre:List Cd} (h:∀ i,i < l.length->visC pre i=base ++ l.take i):bstL xs l pre=endL xs l base:=by
 unfold bstL endL
 refine List.map_congr_left (fun i hi=>?_)
 unfold bstI
 rw [h i (List.mem_range.1 hi)]
theorem endL_done (xs:List Itm) (l base:List (Int × Int)):bstL xs l (candS l base)=endL xs l base:=endL_of (fun i _=>visC_cand base l i)
theorem candE_mem:∀ (l:List (Int × Int)) (k:Nat),∀ x ∈ candE l k,x.1 ∈ l/\x.2<=k + l.length
 | [],k,x,h=>by simp [candE] at h
 | d :: l,k,x,h=>by
  rw [candE] at h
  rcases List.mem_cons.1 h with rfl | h
  ·exact ⟨by simp,by simp⟩
  ·obtain ⟨h1,h2⟩:=candE_mem l (k + 1) x h
   exact ⟨by simp [h1],by rw [List.length_cons]; omega⟩
theorem candS_mem {l base:List (Int × Int)} {x:Cd} (h:x ∈ candS l base):(x.1 ∈ base\/x.1 ∈ l)/\x.2<=l.length:=by
 unfold candS at h
 rcases List.mem_append.1 h with h | h
 ·obtain ⟨d,hd,rfl⟩:=List.mem_map.1 h
  exact ⟨.inl hd,Nat.zero_le _⟩
 ·obtain ⟨h1,h2⟩:=candE_mem l 0 x h
  exact ⟨.inr h1,by omega⟩
theorem bgrown {w w':World} {b:Nat} (hb:Below w.heap.size w w'):w.grownBy w' (some b):=⟨hb.os,hb.tape,hb.output,hb.size,fun k hk _=>hb.block k hk⟩
theorem gbel2 {u x y:World} {b:Nat} (h:u.grownBy x (some b)) (g:Below x.heap.size x y):u.grownBy y (some b):=gtrans h ⟨g.os,g.tape,g.output,g.size,fun k hk _=>g.block k hk⟩
def finK (xs:List Itm) (l base:List (Int × Int)) (k:Nat):List Chc:=(List.range l.length).map fun j=>if j < k then finC xs (l.getD j (0,0)) (bstE xs (l.getD j (0,0)) (pkO xs (l.getD j (0,0)) (base ++ l.take j))) else bstE xs (l.getD j (0,0)) (pkO xs (l.getD j (0,0)) (base ++ l.take j))
theorem finK_len {xs:List Itm} {l base:List (Int × Int)} {k:Nat}:(finK xs l base k).length=l.length:=by simp [finK]
theorem finK_get (xs:List Itm) (l base:List (Int × Int)) (k:Nat) {j:Nat} (h:j < (finK xs l base k).length):(finK xs l base k)[j]=if j < k then finC xs (l.getD j (0,0)) (bstE xs (l.getD j (0,0)) (pkO xs (l.getD j (0,0)) (base ++ l.take j))) else bstE xs (l.getD j (0,0)) (pkO xs (l.getD j (0,0)) (base ++ l.take j)):=by simp [finK]
theorem finK_at (xs:List Itm) (l base:List (Int × Int)) {k:Nat} (h:k < (finK xs l base k).length):(finK xs l base k)[k]=bstE xs (l.getD k (0,0)) (pkO xs (l.getD k (0,0)) (base ++ l.take k)):=by rw [finK_get,if_neg (by omega)]
theorem finK_zero (xs:List Itm) (l base:List (Int × Int)):finK xs l base 0=endL xs l base:=by
 unfold finK endL
 exact List.map_congr_left (fun j _=>if_neg (by omega))
theorem finK_all {xs:List Itm} {l base:List (Int × Int)} {k:Nat} (h:l.length<=k):finK xs l base k=finL xs l base:=by
 unfold finK finL
 exact List.map_congr_left (fun j hj=>if_pos (by have:=List.mem_range.1 hj; omega))
theorem finK_next (xs:List Itm) (l base:List (Int × Int)) (k:Nat):finK xs l base (k + 1)=(finK xs l base k).set k (finC xs (l.getD k (0,0)) (bstE xs (l.getD k (0,0)) (pkO xs (l.getD k (0,0)) (base ++ l.take k)))):=by
 refine List.ext_getElem (by simp [finK]) (fun j h1 h2=>?_)
 have h3:j < (finK xs l base k).length:=by simpa using h2
 rw [List.getElem_set,finK_get,finK_get _ _ _ _ h3]
 by_cases e:k=j
 ·subst e; rw [if_pos (by omega),if_pos rfl]
 ·rw [if_neg e]
  by_cases e2:j < k
  ·rw [if_pos (by omega),if_pos e2]
  ·rw [if_neg (by omega),if_neg e2]
theorem choose_any {xs:List Itm} {l base:List (Int × Int)} {la ba:Option Addr} {lc bc mb nm:Nat} {w:World} (hp:ChPre xs l base la ba mb nm w) :
  Calls Tryz.prog 33 #[.slice la l.length lc,.slice ba base.length bc,.map (some mb)] w fun e w'=>e = .returned (.slice (some ⟨w.heap.size + 2,0,none⟩) l.length l.length)/\Hid (GIn chCs 5 w'.heap.size w' (some ⟨w.heap.size + 2,0,none⟩) (finL xs l base))/\Below w.heap.size w w':=by
 refine (callsIn_wide (n:=5)).1 ?_
 refine callsIn_of_wp_marks Tryz.func33 rfl trivial ?_ rfl
 simp only [Tryz.ntmps33,List.size_toArray,List.length_cons,List.length_nil,Nat.reduceAdd,Nat.reduceSub,Array.replicate_succ,Array.replicate_zero,List.push_toArray,List.append_toArray,List.nil_append,List.cons_append]
 have HP:=hid hp
 obtain ⟨n,hn⟩:∃ n,n=l.length:=⟨_,rfl⟩
 obtain ⟨nb,hnb⟩:∃ nb,nb=base.length:=⟨_,rfl⟩
 have HN:Hid (n=l.length):=hid hn
 have HNB:Hid (nb=base.length):=hid hnb
 have hn1:n<=1000:=by rw [hn]; exact hp.nl
 have hni:(n:Int)<=1000:=by omega
 rw [<-hn,<-hnb]
 have hmk:=run_makeCh n hn1
 obtain ⟨RZ,hRZ⟩:∃ RZ,RZ=(gcs chCs (List.replicate n (⟨false,(0,0),[],0⟩:Chc))).toArray:=⟨_,rfl⟩
 rw [<-hRZ] at hmk
 obtain ⟨w1,hw1⟩:∃ w1,w1=(((w.alloc (.cells #[.slice la n lc] 24)).alloc (.cells #[.map (some mb)] 70)).alloc (.cells RZ 132)).alloc (.cells #[.slice (some ⟨w.heap.size + 2,0,none⟩) n n] 73):=⟨_,rfl⟩
 have hs1:w1.heap.size=w.heap.size + 4:=by rw [hw1]; simp
 have hb1:Below w.heap.size w w1:=by rw [hw1]; exact ((((Below.refl _ _).alloc (Nat.le_refl _) _).alloc (by simp) _).alloc (by simp; omega) _).alloc (by simp; omega) _
 have hCI1:ChI w la lc n mb (bstL xs l []) w1:=by
  refine ⟨?_,?_,?_,?_,hb1⟩
  ·rw [bstL_nil,<-hn,<-hRZ,hw1]; exact (BK.new3 _ _ _ _ _).alloc _
  ·rw [hw1]; exact BK.new4 _ _ _ _ _ _
  ·rw [hw1]; exact ((BK.new _ _ _).alloc _).alloc _ |>.alloc _
  ·rw [hw1]; exact ((BK.new2 _ _ _ _).alloc _).alloc _
 obtain ⟨w2,hw2⟩:∃ w2,w2=((w1.alloc (.cells #[.slice la n lc] 24)).alloc (.cells #[.slice ba nb bc] 24)).alloc (.cells #[.map (some mb)] 70):=⟨_,rfl⟩
 have hb2:Below w1.heap.size w1 w2:=by rw [hw2]; exact (((Below.refl _ _).alloc (Nat.le_refl _) _).alloc (by simp) _).alloc (by simp; omega) _
 have hs2:w2.heap.size=w1.heap.size + 3:=by rw [hw2]; simp
 have HCI:Hid (ChI w la lc n mb (bstL xs l []) w2):=hid (hCI1.below hb2)
 have hb12:=hb1.trans (hb2.mono hb1.size)
 have hca:CaIn xs l base (fun k=>k < w2.heap.size/\k ≠ w.heap.size + 2) w.heap.size (w.heap.size + 5) (w.heap.size + 6) (w.heap.size + 4) mb nm ba la bc lc w2:=by
  refine ⟨?_,?_,?_,hp.bd.below hb12 (Nat.le_refl _),hp.ld.below hb12 (Nat.le_refl _),hp.mp.below_lt hb12 hp.mp.lt,hp.okb,hp.okl,⟨by omega,by omega,by omega,?_⟩,fun k hk=>⟨by omega,by omega⟩⟩
  ·rw [<-hnb]
   have:BK (w1.heap.size + 1) #[.slice ba nb bc] 24 w2:=by rw [hw2]; exact (BK.new2 _ _ _ _).alloc _
   rw [hs1] at this
   exact this.c1
  ·have:BK (w1.heap.size + 2) #[.map (some mb)] 70 w2:=by rw [hw2]; exact BK.new3 _ _ _ _ _
   rw [hs1] at this
   exact this.c1
  ·rw [<-hn]
   have:BK w1.heap.size #[.slice la n lc] 24 w2:=by rw [hw2]; exact ((BK.new _ _ _).alloc _).alloc _
   rw [hs1] at this
   exact this.c1
  ·have:=hp.mp.lt; exact ⟨by omega,by omega⟩
 have HIT:=hid (cand_iter hca (fun k hk=>hk.1) (by rw [<-hn]; omega) hp.nb 4 (by omega))
 have HSZ:Hid (w1.heap.size=w.heap.size + 4/\w2.heap.size=w.heap.size + 7):=hid ⟨hs1,by omega⟩
 have HCD:=hid (candidates_any la ba n lc nb bc mb w1)
 rw [<-hw2] at HCD
 have hmk2:(Instr.makeSlice 73 (.int .i64 (n:Int)) (.int .i64 (n:Int))).run Tryz.prog ((w.alloc (.cells #[.slice la n lc] 24)).alloc (.cells #[.map (some mb)] 70)) = .ok (.slice (some ⟨w.heap.size + 2,0,none⟩) n n) (((w.alloc (.cells #[.slice la n lc] 24)).alloc (.cells #[.map (some mb)] 70)).alloc (.cells RZ 132)):=by
  have:=hmk ((w.alloc (.cells #[.slice la n lc] 24)).alloc (.cells #[.map (some mb)] 70))
  simpa using this
 rw [hw1] at HCD
 have HW1:=hid hw1
 clear hp hn hnb hmk hRZ hs1 hb1 hCI1 hw2 hb2 hs2 hb12 hca hw1
 gi_wp2
 refine ⟨trivial,?_⟩
 refine (callsIn_wide.2 HCD.out).mono ?_
 rintro e u ⟨rfl,rfl⟩
 clear HCD hmk2
 gi_wp2
 have HCC:=hid hn1
 refine wpIn_rangeFunc_brk (α:=Cd) (bs:=8) 137 (cdCs xs) rfl (by omega) rfl trivial (enters_of Tryz.func110 (by kernel_rfl) rfl) (K:=fun k=>k < u.heap.size/\k ≠ w.heap.size + 2) (fun k hk=>hk.1) HIT.out
  (fun pre W=>ChI w la lc n mb (bstL xs l pre) W/\u.heap.size<=W.heap.size) (fun W=>ChI w la lc n mb (endL xs l base) W) 0 (fun s W W' h hb=>⟨h.1.below hb,Nat.le_trans h.2 hb.size⟩) (fun W W' h hb=>h.below hb) (fun s W l o o' hl hlo ho h=>⟨h.1.putObj (by have:=HSZ.out; omega) hlo ho,by simpa using h.2⟩) (fun W l o o' hl hlo ho h=>h.putObj (by have:=HSZ.out; omega) hlo ho) ⟨HCI.out,Nat.le_refl _⟩ (fun W h=>by rw [<-endL_done]; exact h.1) ?assign ?body ?tail
 case assign=>
  intro lp x W
  simp only [List.setIfInBounds_toArray,List.set_cons_zero,List.set_cons_succ]
  obtain ⟨⟨x1,x2⟩,f⟩:=x
  simp only [cdVal,cdCs]
  gi_wp2
  refine ⟨?_,?_⟩ <;> first | trivial | rfl
 case tail=>
  intro D W hD hJ hK
  have HK0:=hid hK
  have HJ0:Hid (ChI w la lc n mb (finK xs l base 0) W):=hid (by rw [finK_zero]; exact hJ)
  have HDW:Hid (w.heap.size<=D):=hid (by have:=HSZ.out; omega)
  have lxc:=hJ.lx.c1
  clear hJ hK HIT HCI
  gi_wp2
  gi_loopw [84] (fun i wr=>∃ (k:Nat),k<=n/\i = .int .i64 (k:Int)/\Hid (ChI w la lc n mb (finK xs l base k) wr)/\Hid (wr.heap[D]? = some (.deferred (some [])))) (fun i _=>n - (intOf i).toNat)
  case atStart=>exact ⟨0,by omega,rfl,HJ0,HK0⟩
  clear HJ0 HK0 lxc
  obtain ⟨k,hk,rfl,HJ,HK⟩:=hrel
  by_cases hlt:k < n
  ·have hkn:(k:Int) < (n:Int):=by omega
   have hkl:k < l.length:=by rw [<-HN.out]; exact hlt
   have hbel:=HJ.out.bel
   obtain ⟨b0,o0,haa,hb0,q0,q1⟩:=(HP.out.ld.below hbel (Nat.le_refl _)) k hkl
   have hod:=HP.out.okl _ (List.getElem_mem hkl)
   have hdl:=HP.out.dl _ (List.getElem_mem hkl)
   have hgd:l.getD k (0,0)=l[k]:=by simp [List.getD,hkl]
   have hkf:k < (finK xs l base k).length:=by rw [finK_len]; exact hkl
   have hfa:=finK_at xs l base hkf
   have hfn:=finK_next xs l base k
   rw [hgd] at hfa hfn
   have hcl:=HJ.out.cells hkf
   rw [hfa] at hcl
   generalize l[k]=d at *
   obtain ⟨x,y⟩:=d
   simp only at q0 q1
   obtain ⟨v,hv⟩:∃ v,v=(wr.alloc (.cells #[.int .u64 x,.int .u64 y] 41)).drew:=⟨_,rfl⟩
   have hbv:Below wr.heap.size wr v:=by rw [hv]; exact ((Below.refl _ _).alloc (Nat.le_refl _) _).drew
   have hset:=HJ.out.below hbv
   have hxv:BK wr.heap.size #[.int .u64 x,.int .u64 y] 41 v:=by
    have:BK wr.heap.size #[.int .u64 x,.int .u64 y] 41 (wr.alloc (.cells #[.int .u64 x,.int .u64 y] 41)):=BK.new _ _ _
    rw [hv]; exact this
   obtain ⟨e,he⟩:∃ e,e=bstE xs (x,y) (pkO xs (x,y) (base ++ l.take k)):=⟨_,rfl⟩
   rw [<-he] at hfa hfn hcl
   have hez:(e.sz:Int)<=1000000:=by
    rw [he]
    cases hpk:pkO xs (x,y) (base ++ l.take k) with
    | none=>simp [bstE]
    | some p=>
     obtain ⟨b,z⟩:=p
     obtain ⟨m1,m2⟩:=pkO_mem hpk
     simp only [bstE]
     rw [m2,txS_eq]
     have hb:(datD xs b).length<=1000:=by
      rcases List.mem_append.1 m1 with h | h
      ·exact HP.out.db _ h
      ·exact HP.out.dl _ (List.mem_of_mem_take h)
     have:=(diff_enc (a:=datD xs b) (b:=datD xs (x,y)) (by omega) (by omega)).2.1
     have h2:=enc_length (txD xs (x,y) b).length
     unfold txD at h2 ⊢
     unfold putX
     rw [List.length_append]
     omega
   have hc3:=(hbv.cell (p:=⟨w.heap.size + 2,k * 5 + 4,none⟩) HJ.out.row.lt).trans (hcl 4 _ rfl)
   have HTS:=hid (textSize_any (datD xs (x,y)).length (by omega) v)
   have hss:=ba_len (datD xs (x,y))
   obtain ⟨tz,htz⟩:∃ tz,tz=(putX (datD xs (x,y))).length:=⟨_,rfl⟩
   rw [show (Cw.enc (datD xs (x,y)).length).length + (datD xs (x,y)).length=tz by rw [htz]; unfold putX; rw [List.length_append]] at HTS
   have hwe:IntKind.i64.wrap ((e.sz:Int) + 16)=((e.sz + 16:Nat):Int):=by rw [wrap_i64 (by omega) (by omega)]; omega
   obtain ⟨es,hes⟩:∃ es,es=e.sz + 16:=⟨_,rfl⟩
   rw [<-hes] at hwe
   have hfc:finC xs (x,y) e=if tz<=es then { e with sm:=false } else e:=by unfold finC; rw [htz,hes]
   rw [hfc] at hfn
   have HALL:Hid (∀ Wx,Below v.heap.size v Wx->Wx.cell? ⟨w.heap.size + 3,0,none⟩=some (.slice (some ⟨w.heap.size + 2,0,none⟩) n n)/\Wx.cell? ⟨w.heap.size + 2,k * 5 + 4,none⟩=some (.int .i64 (e.sz:Int))/\Wx.cell? ⟨w.heap.size + 1,0,none⟩=some (.map (some mb))/\Wx.cell? ⟨wr.heap.size,0,none⟩=some (.int .u64 x)/\Wx.cell? ⟨wr.heap.size,1,none⟩=some (.int .u64 y)/\(Instr.lookup 70 (.map (some mb)) (.agg #[.int .u64 x,.int .u64 y]) false).run Tryz.prog Wx = .ok (.string ⟨(datD xs (x,y)).toArray⟩) Wx):=hid (fun Wx hb=>by
    have h1:=hset.below hb
    have h2:=hxv.below hb
    have h3:=(HP.out.mp.below_lt h1.bel HP.out.mp.lt).look Tryz.underlying70 (zeroStr Wx) (a:=(x,y)) hod
    rw [datV_get] at h3
    exact ⟨h1.bb.c1,(hb.cell (p:=⟨w.heap.size + 2,k * 5 + 4,none⟩) hset.row.lt).trans hc3,h1.dx.c1,(BK.c2 h2).1,(BK.c2 h2).2,h3⟩)
   have hs0:=HALL.out v (Below.refl _ _)
   have HCI:=hid hset
   have HFN:=hid hfn
   have HFA:Hid (∀ h,(finK xs l base k)[k]'h=e):=hid (fun _=>hfa)
   have HKF:Hid (k < (finK xs l base k).length):=hid hkf
   have HKv:Hid (v.heap[D]? = some (.deferred (some []))):=hid ((hbv.block D (Array.getElem?_eq_some_iff.1 HK.out).1).trans HK.out)
   have HV:=hid hv
   obtain ⟨ez,hezq⟩:∃ ez,ez=e.sz:=⟨_,rfl⟩
   rw [<-hezq] at hwe hs0 HALL
   generalize (datD xs (x,y)).length=dl at *
   subst haa
   clear hbv hxv hv he hcl hc3 htz hes hfc hset hfa hfn hbel hod hdl hgd hkf HJ HK hezq hez
   have hgk:(k:Int) < (n:Int):=hkn
   rw [HV.out] at hs0 HTS
   gi_wp2
   refine wpIn_normal ?_
   refine wpIn_wide.2 ?_
   refine wp_region_held_drew (S:=(fun Wx=>Wx.cell? ⟨w.heap.size + 3,0,none⟩=some (.slice (some ⟨w.heap.size + 2,0,none⟩) n n)/\Wx.cell? ⟨w.heap.size + 2,k * 5 + 4,none⟩=some (.int .i64 (ez:Int))/\Wx.cell? ⟨w.heap.size + 1,0,none⟩=some (.map (some mb))/\Wx.cell? ⟨wr.heap.size,0,none⟩=some (.int .u64 x)/\Wx.cell? ⟨wr.heap.size,1,none⟩=some (.int .u64 y)/\(Instr.lookup 70 (.map (some mb)) (.agg #[.int .u64 x,.int .u64 y]) false).run Tryz.prog Wx = .ok (.string ⟨(datD xs (x,y)).toArray⟩) Wx)) (by kernel_rfl) hs0 (fun hHeld=>?_)
   refine wpAnyH_take (i:=0) (v:=?vv110) rfl (by kernel_rfl) (by kernel_rfl) (by kernel_rfl) (fun _ _ _ h=>h) (Or.inl ⟨by rfl,?hy110⟩) (by assumption) ?rest110
   case hy110=>(intro wx hSw; (try dsimp only at hSw); go_simp; try (with_reducible rfl))
   simp only [Act.put,zA,zC,zD,zE,zF]
   refine wpAnyH_take (i:=1) (v:=?vv111) rfl (by kernel_rfl) (by kernel_rfl) (by kernel_rfl) (fun _ _ _ h=>h) (Or.inl ⟨by rfl,?hy111⟩) (by assumption) ?rest111
   case hy111=>(intro wx hSw; (try dsimp only at hSw); go_simp; try (with_reducible rfl))
   simp only [Act.put,zA,zB,zC,zD,zE,zF]
   refine wpAnyH_take (i:=2) (v:=?vv112) rfl (by kernel_rfl) (by kernel_rfl) (by kernel_rfl) (fun _ _ _ h=>h) (Or.inl ⟨by rfl,?hy112⟩) (by assumption) ?rest112
   case hy112=>(intro wx hSw; (try dsimp only at hSw); go_simp; try (with_reducible rfl))
   simp only [Act.put,zA,zB,zC,zD,zE,zF]
   refine wpAnyH_take (i:=3) (v:=?vv113) rfl (by kernel_rfl) (by kernel_rfl) (by kernel_rfl) (fun _ _ _ h=>h) (Or.inl ⟨by rfl,?hy113⟩) (by assumption) ?rest113
   case hy113=>(intro wx hSw; (try dsimp only at hSw); go_simp; try (with_reducible rfl))
   simp only [Act.put,zA,zB,zC,zD,zE,zF]
   refine wpAnyH_take (i:=4) (v:=?vv114) rfl (by kernel_rfl) (by kernel_rfl) (by kernel_rfl) (fun _ _ _ h=>h) (Or.inl ⟨by rfl,?hy114⟩) (by assumption) ?rest114
   case hy114=>(intro wx hSw; (try dsimp only at hSw); go_simp; try (with_reducible rfl))
   simp only [Act.put,zA,zB,zC,zD,zE,zF]
   refine wpAnyH_take (i:=5) (v:=?vv115) rfl (by kernel_rfl) (by kernel_rfl) (by kernel_rfl) (fun _ _ _ h=>h) (Or.inl ⟨by rfl,?hy115⟩) (by assumption) ?rest115
   case hy115=>(intro wx hSw; (try dsimp only at hSw); go_simp; try (with_reducible rfl))
   simp only [Act.put,zA,zB,zC,zD,zE,zF]
   refine wpAnyH_take (i:=6) (v:=?vv116) rfl (by kernel_rfl) (by kernel_rfl) (by kernel_rfl) (fun _ _ _ h=>h) (Or.inl ⟨by rfl,?hy116⟩) (by assumption) ?rest116
   case hy116=>(intro wx hSw; (try dsimp only at hSw); go_simp; try (with_reducible rfl))
   simp only [Act.put,zA,zB,zC,zD,zE,zF]
   refine wpAnyH_take (i:=7) (v:=?vv117) rfl (by kernel_rfl) (by kernel_rfl) (by kernel_rfl) (fun _ _ _ h=>h) (Or.inl ⟨by rfl,?hy117⟩) (by assumption) ?rest117
   case hy117=>(intro wx hSw; (try dsimp only at hSw); go_simp; try (with_reducible rfl))
   simp only [Act.put,zA,zB,zC,zD,zE,zF]
   refine wpAnyH_take (i:=8) (v:=?vv118) rfl (by kernel_rfl) (by kernel_rfl) (by kernel_rfl) (fun _ _ _ h=>h) (Or.inl ⟨by rfl,?hy118⟩) (by assumption) ?rest118
   case hy118=>(intro wx hSw; (try dsimp only at hSw); go_simp; try (with_reducible rfl))
   simp only [Act.put,zA,zB,zC,zD,zE,zF]
   refine wpAnyH_take (i:=9) (v:=?vv119) rfl (by kernel_rfl) (by kernel_rfl) (by kernel_rfl) (fun _ _ _ h=>h) (Or.inl ⟨by rfl,?hy119⟩) (by assumption) ?rest119
   case hy119=>(intro wx hSw; (try dsimp only at hSw); go_simp; try (with_reducible rfl))
   simp only [Act.put,zA,zB,zC,zD,zE,zF]
   refine wpAnyH_ready (rs:=[10]) (by kernel_rfl) (by simp) ?_
   refine AllReadyH.cons rfl (fun K hK=>?_) AllReadyH.nil
   go_simp
   (with_reducible refine (HTS.out).mono ?_)
   rintro e2 uz ⟨rfl,hbz⟩
   rw [<-HV.out] at hbz
   have hsz:=HALL.out uz hbz
   have HBZ:=hid hbz
   clear hbz hHeld hs0 HTS HV
   refine hK.out _ _ (hsz) (fun hHeld=>?_)
   clear hK K
   refine wpAnyH_take (i:=11) (v:=?vv120) rfl (by kernel_rfl) (by kernel_rfl) (by kernel_rfl) (fun _ _ _ h=>h) (Or.inl ⟨by rfl,?hy120⟩) (by assumption) ?rest120
   case hy120=>(intro wx hSw; (try dsimp only at hSw); go_simp; try (with_reducible rfl))
   simp only [Act.put,zA,zB,zC,zD,zE,zF]
   refine wpAnyH_done (by kernel_rfl) ?_ _
   refine then_normal ?_
   have hJz:=HCI.out.below HBZ.out
   have hKz:uz.heap[D]? = some (.deferred (some [])):=(HBZ.out.block D (Array.getElem?_eq_some_iff.1 HKv.out).1).trans HKv.out
   clear hHeld HALL
   by_cases hge:tz<=es
   ·have hgi:(tz:Int)<=(es:Int):=by omega
    obtain ⟨r1,r2⟩:=hJz.set0 HKF.out
    simp only [HFA.out] at r1
    have hfn:=HFN.out
    rw [if_pos hge] at hfn
    rw [<-hfn] at r1
    have HR1:=hid r1
    have HK1:Hid ((uz.setCell ⟨w.heap.size + 2,k * 5,none⟩ (.bool false)).heap[D]? = some (.deferred (some []))):=hid ((r2.block D (Array.getElem?_eq_some_iff.1 hKz).1 (fun e=>by cases e; rw [show uz.heap[w.heap.size + 2]? = _ from hJz.row] at hKz; cases hKz)).trans hKz)
    have hrf:=hJz.row.frozen (k * 5)
    have hrc:uz.cell? ⟨w.heap.size + 2,k * 5,none⟩=some (.bool ((finK xs l base k)[k]'HKF.out).sm):=hJz.cells HKF.out 0 _ rfl
    have bxc:=hJz.bb.c1
    rw [HFA.out] at hrc
    clear hJz hKz r1 r2 hfn hsz
    gi_wp2
    go_roundw
    case rel=>exact ⟨k + 1,by omega,by go_num,HR1,HK1⟩
    case measure=>simp [intOf] <;> omega
   ·have hgi:¬ (tz:Int)<=(es:Int):=by omega
    have hfn:=HFN.out
    rw [if_neg hge] at hfn
    have HR1:Hid (ChI w _ lc n mb (finK xs l base (k + 1)) uz):=hid (by
     have e1:(finK xs l base k).set k e=finK xs l base k:=by
      rw [<-HFA.out HKF.out]
      exact List.set_getElem_self _
     rw [hfn,e1]
     exact hJz)
    have HK1:=hid hKz
    clear hJz hKz hfn hsz
    gi_wp2
    go_roundw
    case rel=>exact ⟨k + 1,by omega,by go_num,HR1,HK1⟩
    case measure=>simp [intOf] <;> omega
  ·obtain rfl:k=n:=by omega
   have hkn:¬ (k:Int) < (k:Int):=by omega
   have hfa:=finK_all (xs:=xs) (base:=base) (l:=l) (k:=k) (by rw [<-HN.out]; exact Nat.le_refl _)
   rw [hfa] at HJ
   have bxc:=HJ.out.bb.c1
   have hJ2:=HJ.out.putObj (o':=.deferred none) HDW.out HK.out rfl
   have HG:Hid (GIn chCs 5 (wr.putObj D (.deferred none)).heap.size (wr.putObj D (.deferred none)) (some ⟨w.heap.size + 2,0,none⟩) (finL xs l base)):=hid (by
    intro i hi
    refine ⟨w.heap.size + 2,0,rfl,hJ2.row.lt,fun j v hv=>?_⟩
    rw [Nat.zero_add]
    exact hJ2.cells hi j v hv)
   have HB2:=hid hJ2.bel
   have HKw:=hid HK.out
   clear hfa hJ2 HJ HK
   gi_wp2
   refine ⟨by simp,.inl ⟨_,_,rfl,run_takeDeferred HKw.out,?_⟩⟩
   exact ⟨_,by simp [results,Tryz.results33,go_sem],rfl,HG,HB2.out⟩
 case body=>
  intro lp pre x W0 Wy W hl hok hJ hb0 h01 h12 hbx
  simp only [List.setIfInBounds_toArray,List.set_cons_zero,List.set_cons_succ]
  obtain ⟨⟨x1,x2⟩,f⟩:=x
  obtain ⟨hJ0,hus⟩:=hJ
  have hcm:=candS_mem (l:=l) (base:=base) (x:=((x1,x2),f)) (hok.subset (by simp))
  have hfn:f<=n:=by rw [HN.out]; exact hcm.2
  have hDL:(datD xs (x1,x2)).length<=1000:=by
   rcases hcm.1 with h | h
   ·exact HP.out.db _ h
   ·exact HP.out.dl _ h
  have hg0:=hJ0.row.lt
  have HJW:=hid (hJ0.below hb0)
  have hsW:=hb0.size
  have HSW:Hid (u.heap.size<=W.heap.size/\w.heap.size + 2 < W0.heap.size/\W0.heap.size<=Wy.heap.size/\Wy.heap.size<=W.heap.size):=hid ⟨by omega,hg0,h01,h12⟩
  have HOKP:=hid hok
  have lxc:=HJW.out.lx.c1
  simp only [cdVal,cdCs] at hbx ⊢
  have hbx2:BK Wy.heap.size #[.int .u64 x1,.int .u64 x2,.string ⟨(datD xs (x1,x2)).toArray⟩,.int .i64 (f:Int)] 137 W:=hbx
  have HBX:=hid hbx2
  have HDL:=hid hDL
  have HNS:=hid (newSource_any (datD xs (x1,x2)) W hDL)
  obtain ⟨c0,c1,c2,c3⟩:=BK.c4 (show BK _ #[.int .u64 x1,.int .u64 x2,.string ⟨(datD xs (x1,x2)).toArray⟩,.int .i64 (f:Int)] _ _ from hbx2)
  clear hbx hbx2 hJ0 hus hb0 h01 h12 hcm hDL hg0 hsW hok HCI HIT
  by_cases hff:f=n
  ·subst hff
   have hR:roundS (fun k=>k < u.heap.size/\k ≠ w.heap.size + 2) 0 (fun pre W=>ChI w la lc f mb (bstL xs l pre) W/\u.heap.size<=W.heap.size) (fun W=>ChI w la lc f mb (endL xs l base) W) (pre ++ [((x1,x2),f)]) W0 Wy W (.exit 0) { tmps:=#[],defers:=[] } W:=by
    refine ⟨rfl,KeepsOthers.refl W,KeptOn.refl _ _,fun k o _ _ h _=>h,?_⟩
    show ChI w la lc f mb (endL xs l base) W
    rw [<-endL_of (visC_break (by have:=HOKP.out; rw [HN.out] at this; exact this))]
    exact HJW.out
   have HR:=hid hR
   have hbq:((f:Int) == (f:Int))=true:=by simp
   clear hR HNS HJW HBX HOKP
   gi_wp2
   exact HR.out
  have hbq:((f:Int) == (n:Int))=false:=by simp; omega
  generalize hD0:datD xs (x1,x2)=D0 at *
  gi_wp2
  refine ⟨trivial,?_⟩
  refine (CallsIn.inRound lp (callsIn_wide.2 HNS.out)).mono ?_
  rintro e u1 ⟨ib,rfl,HI,hb1⟩
  obtain ⟨u2,hu2⟩:∃ u2,u2=u1.alloc (.cells #[.pointer (some ⟨ib,0,none⟩)] 140):=⟨_,rfl⟩
  have hb2:Below u1.heap.size u1 u2:=by rw [hu2]; exact (Below.refl _ _).alloc (Nat.le_refl _) _
  have hb12:=hb1.trans (hb2.mono hb1.size)
  have HSB:Hid (BK u1.heap.size #[.pointer (some ⟨ib,0,none⟩)] 140 u2):=hid (by rw [hu2]; exact BK.new _ _ _)
  have HI2:=hid (HI.out.below hb2)
  have HCI2:Hid (ChI w la lc n mb (mixL xs l pre ((x1,x2),f) f) u2):=hid (by
   have:=HJW.out.below hb12
   rw [<-mixL_start xs l pre ((x1,x2),f)] at this
   exact this)
  have HG2:Hid (W.grownBy u2 (some (w.heap.size + 2))):=hid (bgrown hb12)
  have HBX2:=hid (HBX.out.below hb12)
  have lxc2:=HCI2.out.lx.c1
  have HUS:Hid (W.heap.size<=u1.heap.size):=hid hb1.size
  obtain ⟨sb,hsb⟩:∃ sb,sb=u1.heap.size:=⟨_,rfl⟩
  rw [<-hsb] at HSB HUS
  have hu2':=HBX2.out
  obtain ⟨e0,e1,e2,e3⟩:=BK.c4 (show BK _ #[.int .u64 x1,.int .u64 x2,.string ⟨D0.toArray⟩,.int .i64 (f:Int)] _ _ from hu2')
  rw [hu2] at e0 e1 e2 e3
  have HU2:=hid hu2
  clear hb1 hb2 hb12 hu2 hu2' HNS HI c0 c1 c2 c3 lxc HBX
  gi_wp2
  rw [<-hsb,<-HU2.out]
  clear hsb HU2 e0 e1 e2 e3
  gi_loopw [10] (fun i wr=>∃ (k:Nat),f<=k/\k<=n/\i = .int .i64 (k:Int)/\Hid (ChI w la lc n mb (mixL xs l pre ((x1,x2),f) k) wr)/\Hid (W.grownBy wr (some (w.heap.size + 2)))/\Hid (IxOwn D0 (W.heap.size + 1) ib wr)/\Hid (BK sb #[.pointer (some ⟨ib,0,none⟩)] 140 wr)/\Hid (BK Wy.heap.size #[.int .u64 x1,.int .u64 x2,.string ⟨D0.toArray⟩,.int .i64 (f:Int)] 137 wr)) (fun i _=>n - (intOf i).toNat)
  case atStart=>exact ⟨f,Nat.le_refl _,hfn,rfl,HCI2,HG2,HI2,HSB,HBX2⟩
  clear HCI2 HG2 HI2 HSB HBX2 lxc2
  obtain ⟨k,hfk,hk,rfl,HCI,HG,HIX,HSB,HBX⟩:=hrel
  have lxc:=HCI.out.lx.c1
  by_cases hlt:k < n
  case neg=>
   obtain rfl:k=n:=by omega
   have hkn:¬ (k:Int) < (k:Int):=by omega
   have hR:roundS (fun k=>k < u.heap.size/\k ≠ w.heap.size + 2) 0 (fun pre W=>ChI w la lc k mb (bstL xs l pre) W/\u.heap.size<=W.heap.size) (fun W=>ChI w la lc k mb (endL xs l base) W) (pre ++ [((x1,x2),f)]) W0 Wy W .normal { tmps:=#[],defers:=[] } wr:=by
    obtain ⟨r1,r2,r3⟩:=ChI.end_ (w:=w) HG.out HJW.out.row (K:=fun k=>k < u.heap.size/\k ≠ w.heap.size + 2) (fun j hj=>⟨Nat.lt_of_lt_of_le hj.1 HSW.out.1,hj.2⟩) HSW.out.2.1 HSW.out.2.2.2
    refine ⟨r1,r2,r3,?_,Nat.le_trans HSW.out.1 HG.out.size⟩
    rw [<-mixL_end xs l pre ((x1,x2),f) (i:=k) (by rw [<-HN.out]; exact Nat.le_refl _)]
    exact HCI.out
   have HR:=hid hR
   clear hR HCI HG HIX HSB HBX
   gi_wp2
   exact HR.out
  case pos=>
  have hkn:(k:Int) < (n:Int):=by omega
  have hkl:k < l.length:=by rw [<-HN.out]; exact hlt
  obtain ⟨b0,o0,haa,hb0,q0,q1⟩:=(HP.out.ld.below HCI.out.bel (Nat.le_refl _)) k hkl
  have hod:=HP.out.okl _ (List.getElem_mem hkl)
  have hdl:=HP.out.dl _ (List.getElem_mem hkl)
  have hgd:l.getD k (0,0)=l[k]:=by simp [List.getD,hkl]
  have hml:k < (mixL xs l pre ((x1,x2),f) k).length:=by rw [mixL_len]; exact hkl
  have hma:=mixL_at xs l pre ((x1,x2),f) hml
  have hmn:=mixL_next xs l pre ((x1,x2),f) (i:=k)
  rw [bstI_step hfk,hgd] at hmn
  generalize l[k]=d at *
  obtain ⟨y1,y2⟩:=d
  simp only at q0 q1
  have htx:txD xs (y1,y2) (x1,x2)=(encL (diffS D0 (datD xs (y1,y2)))).1:=by unfold txD; rw [hD0]
  have htl:(txS xs (y1,y2) (x1,x2)).length=(Cw.enc (txD xs (y1,y2) (x1,x2)).length).length + (txD xs (y1,y2) (x1,x2)).length:=by rw [txS_eq]; unfold putX; rw [List.length_append]
  obtain ⟨g1,g2,g3,g4⟩:=diff_enc (a:=D0) (b:=datD xs (y1,y2)) (by have:=HDL.out; omega) (by omega)
  have hck:=diff_check (a:=D0) (b:=datD xs (y1,y2)) (n:=65536) (by have:=HDL.out; omega) (by omega) (by omega)
  have hall:=(enc_all hck).2.2.1
  have hbv:Below wr.heap.size wr wr.drew:=(Below.refl _ _).drew
  have HCd:=hid (HCI.out.below hbv)
  have HId:=hid (HIX.out.below hbv)
  have HDF:=hid (sdiff_any (HId.out.of) HDL.out (b:=datD xs (y1,y2)) (by omega))
  have HEN:Hid (∀ ad c uz,GIn opCs 3 uz.heap.size uz ad (diffS D0 (datD xs (y1,y2)))->Calls Tryz.prog 74 #[.slice ad (diffS D0 (datD xs (y1,y2))).length c] uz fun e w'=>e = .returned (.tuple #[.string ⟨(txD xs (y1,y2) (x1,x2)).toArray⟩,.int .i64 0])/\Below uz.heap.size uz w'):=hid (fun ad c uz hgi=>by
   have:=dencode_any (c:=c) hgi (by omega) (fun o ho=>by obtain ⟨_,_,m1,m2,m3⟩:=hall o ho; exact ⟨by omega,by omega,by omega⟩)
   rw [g1,<-htx] at this
   exact this)
  have hsbd:=HSB.out.below hbv
  have hbxd:=HBX.out.below hbv
  have HALL:Hid (∀ Wx,Below wr.drew.heap.size wr.drew Wx->Wx.cell? ⟨sb,0,none⟩=some (.pointer (some ⟨ib,0,none⟩))/\Wx.cell? ⟨w.heap.size + 1,0,none⟩=some (.map (some mb))/\Wx.cell? ⟨w.heap.size,0,none⟩=some (.slice la n lc)/\Wx.cell? ⟨b0,o0 + k * 2,none⟩=some (.int .u64 y1)/\Wx.cell? ⟨b0,o0 + k * 2 + 1,none⟩=some (.int .u64 y2)/\(Instr.lookup 70 (.map (some mb)) (.agg #[.int .u64 y1,.int .u64 y2]) false).run Tryz.prog Wx = .ok (.string ⟨(datD xs (y1,y2)).toArray⟩) Wx):=hid (fun Wx hb=>by
   have h1:=HCd.out.below hb
   have h2:=hsbd.below hb
   have h3:=(HP.out.mp.below_lt h1.bel HP.out.mp.lt).look Tryz.underlying70 (zeroStr Wx) (a:=(y1,y2)) hod
   rw [datV_get] at h3
   have hbl:b0 < wr.drew.heap.size:=Nat.lt_of_lt_of_le hb0 HCd.out.bel.size
   exact ⟨h2.c1,h1.dx.c1,h1.lx.c1,(hb.cell hbl).trans q0,(hb.cell (p:=⟨b0,o0 + k * 2 + 1,none⟩) hbl).trans q1,h3⟩)
  have hs0:=HALL.out _ (Below.refl _ _)
  obtain ⟨e,he⟩:∃ e,e=bstI xs l pre k:=⟨_,rfl⟩
  rw [<-he] at hma hmn
  obtain ⟨tx,htxx⟩:∃ tx,tx=txD xs (y1,y2) (x1,x2):=⟨_,rfl⟩
  rw [<-htxx] at HEN htl hmn
  have htx6:tx.length<=65536:=by rw [htxx,htx]; exact g2
  have HTS:=hid (fun W=>textSize_any tx.length (by omega) W)
  rw [<-htl] at HTS
  have hss:=ba_len tx
  generalize (txS xs (y1,y2) (x1,x2)).length=tz at HTS hmn
  generalize tx.length=txl at HTS hss
  have HMA:Hid (∀ h,(mixL xs l pre ((x1,x2),f) k)[k]'h=e):=hid (fun _=>hma)
  have HMN:=hid hmn
  have HML:Hid (k < (mixL xs l pre ((x1,x2),f) k).length):=hid hml
  have HGd:Hid (W.grownBy wr.drew (some (w.heap.size + 2))):=hid (gbel2 HG.out hbv)
  have HSBd:=hid hsbd
  have HBXd:=hid hbxd
  generalize diffS D0 (datD xs (y1,y2))=DF at HDF HEN
  subst haa
  clear htx htl g1 g2 g3 g4 hck hall hbv hsbd hbxd hma hmn hml hod hdl hgd he htxx htx6 HG HIX HSB HBX HCI
  gi_wp2
  refine wpIn_normal ?_
  refine wpIn_region_L (S:=(fun Wx=>Wx.cell? ⟨sb,0,none⟩=some (.pointer (some ⟨ib,0,none⟩))/\Wx.cell? ⟨w.heap.size + 1,0,none⟩=some (.map (some mb))/\Wx.cell? ⟨w.heap.size,0,none⟩=some (.slice (some ⟨b0,o0,none⟩) n lc)/\Wx.cell? ⟨b0,o0 + k * 2,none⟩=some (.int .u64 y1)/\Wx.cell? ⟨b0,o0 + k * 2 + 1,none⟩=some (.int .u64 y2)/\(Instr.lookup 70 (.map (some mb)) (.agg #[.int .u64 y1,.int .u64 y2]) false).run Tryz.prog Wx = .ok (.string ⟨(datD xs (y1,y2)).toArray⟩) Wx)) [] lp (by kernel_rfl) (fun ⟨_,_,h⟩=>h) (by kernel_rfl) hs0 (fun hHeld=>?_)
  refine anyL_take (i:=0) (v:=?vv121) rfl (by kernel_rfl) (by kernel_rfl) (by kernel_rfl) (by kernel_rfl) (fun _ _ _ h=>h) (Or.inl ⟨by rfl,?hy121⟩) (by assumption) ?rest121
  case hy121=>(intro wx hSw; (try dsimp only at hSw); go_simp; try (with_reducible rfl))
  simp only [Act.put,zA,zC,zD,zE,zF]
  refine anyL_take (i:=1) (v:=?vv122) rfl (by kernel_rfl) (by kernel_rfl) (by kernel_rfl) (by kernel_rfl) (fun _ _ _ h=>h) (Or.inl ⟨by rfl,?hy122⟩) (by assumption) ?rest122
  case hy122=>(intro wx hSw; (try dsimp only at hSw); go_simp; try (with_reducible rfl))
  simp only [Act.put,zA,zB,zC,zD,zE,zF]
  refine anyL_take (i:=2) (v:=?vv123) rfl (by kernel_rfl) (by kernel_rfl) (by kernel_rfl) (by kernel_rfl) (fun _ _ _ h=>h) (Or.inl ⟨by rfl,?hy123⟩) (by assumption) ?rest123
  case hy123=>(intro wx hSw; (try dsimp only at hSw); go_simp; try (with_reducible rfl))
  simp only [Act.put,zA,zB,zC,zD,zE,zF]
  refine anyL_take (i:=3) (v:=?vv124) rfl (by kernel_rfl) (by kernel_rfl) (by kernel_rfl) (by kernel_rfl) (fun _ _ _ h=>h) (Or.inl ⟨by rfl,?hy124⟩) (by assumption) ?rest124
  case hy124=>(intro wx hSw; (try dsimp only at hSw); go_simp; try (with_reducible rfl))
  simp only [Act.put,zA,zB,zC,zD,zE,zF]
  refine anyL_take (i:=4) (v:=?vv125) rfl (by kernel_rfl) (by kernel_rfl) (by kernel_rfl) (by kernel_rfl) (fun _ _ _ h=>h) (Or.inl ⟨by rfl,?hy125⟩) (by assumption) ?rest125
  case hy125=>(intro wx hSw; (try dsimp only at hSw); go_simp; try (with_reducible rfl))
  simp only [Act.put,zA,zB,zC,zD,zE,zF]
  refine anyL_take (i:=5) (v:=?vv126) rfl (by kernel_rfl) (by kernel_rfl) (by kernel_rfl) (by kernel_rfl) (fun _ _ _ h=>h) (Or.inl ⟨by rfl,?hy126⟩) (by assumption) ?rest126
  case hy126=>(intro wx hSw; (try dsimp only at hSw); go_simp; try (with_reducible rfl))
  simp only [Act.put,zA,zB,zC,zD,zE,zF]
  refine anyL_take (i:=6) (v:=?vv127) rfl (by kernel_rfl) (by kernel_rfl) (by kernel_rfl) (by kernel_rfl) (fun _ _ _ h=>h) (Or.inl ⟨by rfl,?hy127⟩) (by assumption) ?rest127
  case hy127=>(intro wx hSw; (try dsimp only at hSw); go_simp; try (with_reducible rfl))
  simp only [Act.put,zA,zB,zC,zD,zE,zF]
  refine anyL_one (i:=7) (by kernel_rfl) rfl (fun K hK=>?_)
  go_simp
  (with_reducible refine (HDF.out).mono ?_)
  rintro e1 uz ⟨⟨ad,c,rfl,hgi,_⟩,hbz⟩
  have hsz:=HALL.out uz hbz
  have HEZ:=hid (HEN.out ad c uz hgi)
  have HBZ:=hid hbz
  clear hbz hgi hHeld HDF
  refine hK.out _ _ ((fun _=>hsz)) (fun hHeld=>?_)
  clear hK K
  refine anyL_one (i:=8) (by kernel_rfl) rfl (fun K hK=>?_)
  go_simp
  (with_reducible refine (HEZ.out).mono ?_)
  rintro e1 uy ⟨rfl,hby⟩
  have hbzy:=HBZ.out.trans (hby.mono HBZ.out.size)
  have hsy:=HALL.out uy hbzy
  have HBY:=hid hbzy
  clear hby hbzy hHeld HEZ HBZ hsz
  refine hK.out _ _ ((fun _=>hsy)) (fun hHeld=>?_)
  clear hK K
  refine anyL_take (i:=9) (v:=?vv128) rfl (by kernel_rfl) (by kernel_rfl) (by kernel_rfl) (by kernel_rfl) (fun _ _ _ h=>h) (Or.inl ⟨by rfl,?hy128⟩) (by assumption) ?rest128
  case hy128=>(intro wx hSw; (try dsimp only at hSw); go_simp; try (with_reducible rfl))
  simp only [Act.put,zA,zB,zC,zD,zE,zF]
  refine anyL_take (i:=10) (v:=?vv129) rfl (by kernel_rfl) (by kernel_rfl) (by kernel_rfl) (by kernel_rfl) (fun _ _ _ h=>h) (Or.inl ⟨by rfl,?hy129⟩) (by assumption) ?rest129
  case hy129=>(intro wx hSw; (try dsimp only at hSw); go_simp; try (with_reducible rfl))
  simp only [Act.put,zA,zB,zC,zD,zE,zF]
  refine anyL_take (i:=11) (v:=?vv130) rfl (by kernel_rfl) (by kernel_rfl) (by kernel_rfl) (by kernel_rfl) (fun _ _ _ h=>h) (Or.inl ⟨by rfl,?hy130⟩) (by assumption) ?rest130
  case hy130=>(intro wx hSw; (try dsimp only at hSw); go_simp; try (with_reducible rfl))
  simp only [Act.put,zA,zB,zC,zD,zE,zF]
  refine anyL_take (i:=12) (v:=?vv131) rfl (by kernel_rfl) (by kernel_rfl) (by kernel_rfl) (by kernel_rfl) (fun _ _ _ h=>h) (Or.inl ⟨by rfl,?hy131⟩) (by assumption) ?rest131
  case hy131=>(intro wx hSw; (try dsimp only at hSw); go_simp; try (with_reducible rfl))
  simp only [Act.put,zA,zB,zC,zD,zE,zF]
  refine anyL_take (i:=13) (v:=?vv132) rfl (by kernel_rfl) (by kernel_rfl) (by kernel_rfl) (by kernel_rfl) (fun _ _ _ h=>h) (Or.inl ⟨by rfl,?hy132⟩) (by assumption) ?rest132
  case hy132=>(intro wx hSw; (try dsimp only at hSw); go_simp; try (with_reducible rfl))
  simp only [Act.put,zA,zB,zC,zD,zE,zF]
  refine anyL_done (by kernel_rfl) ?_ _
  refine then_normal ?_
  have HT2:=hid (HTS.out uy)
  clear hHeld hs0 hsy HALL HEN HTS
  gi_wp2
  refine ⟨trivial,?_⟩
  refine (CallsIn.inRound lp (callsIn_wide.2 HT2.out)).mono ?_
  rintro e1 ux ⟨rfl,hbx⟩
  have hbxx:=HBY.out.trans (hbx.mono HBY.out.size)
  have HC1:=hid (HCd.out.below hbxx)
  have HI1:=hid (HId.out.below hbxx)
  have HS1:=hid (HSBd.out.below hbxx)
  have HX1:=hid (HBXd.out.below hbxx)
  have HG1:=hid (gbel2 HGd.out hbxx)
  have bxc:=HC1.out.bb.c1
  have s0:ux.cell? ⟨w.heap.size + 2,k * 5,none⟩=some (.bool e.sm):=by
   have:ux.cell? ⟨w.heap.size + 2,k * 5,none⟩=some (.bool ((mixL xs l pre ((x1,x2),f) k)[k]'HML.out).sm):=HC1.out.cells HML.out 0 _ rfl
   rwa [HMA.out] at this
  have s4:ux.cell? ⟨w.heap.size + 2,k * 5 + 4,none⟩=some (.int .i64 (e.sz:Int)):=by
   have:ux.cell? ⟨w.heap.size + 2,k * 5 + 4,none⟩=some (.int .i64 (((mixL xs l pre ((x1,x2),f) k)[k]'HML.out).sz:Int)):=HC1.out.cells HML.out 4 _ rfl
   rwa [HMA.out] at this
  have s1:∃ v,ux.cell? ⟨w.heap.size + 2,k * 5 + 1,none⟩=some v:=⟨_,HC1.out.cells HML.out 1 _ rfl⟩
  have s2:∃ v,ux.cell? ⟨w.heap.size + 2,k * 5 + 2,none⟩=some v:=⟨_,HC1.out.cells HML.out 2 _ rfl⟩
  have s3:∃ v,ux.cell? ⟨w.heap.size + 2,k * 5 + 3,none⟩=some v:=⟨_,HC1.out.cells HML.out 3 _ rfl⟩
  obtain ⟨v1,s1⟩:=s1
  obtain ⟨v2,s2⟩:=s2
  obtain ⟨v3,s3⟩:=s3
  have hx1':=HX1.out
  obtain ⟨c0,c1,c2,c3⟩:=BK.c4 (show BK _ #[.int .u64 x1,.int .u64 x2,.string ⟨D0.toArray⟩,.int .i64 (f:Int)] _ _ from hx1')
  clear hx1' hbx hbxx HT2 HBY HCd HId HSBd HBXd HGd
  cases hesm:e.sm with
  | false=>
   rw [hesm] at s0
   have hset:=HC1.out.set HML.out ⟨true,(x1,x2),tx,tz⟩ rfl
   have hmn:=HMN.out
   rw [if_pos (.inl hesm)] at hmn
   have HCI3:=hid hset.1
   rw [<-hmn] at HCI3
   have HG3:=hid (gtrans HG1.out hset.2)
   have HI3:=hid (HI1.out.grown hset.2 (by have:=HSW.out; omega))
   have HS3:=hid (HS1.out.grow1 hset.2 (by have:=HSW.out; have:=HUS.out; omega))
   have HX3:=hid (HX1.out.grow1 hset.2 (by have:=HSW.out; omega))
   have hk0:=HC1.out.row
   have z0:=hk0.frozen (k * 5)
   have z1:=hk0.frozen (k * 5 + 1)
   have z2:=hk0.frozen (k * 5 + 2)
   have z3:=hk0.frozen (k * 5 + 3)
   have z4:=hk0.frozen (k * 5 + 4)
   simp only at HCI3 HG3 HI3 HS3 HX3
   clear hset hmn hk0 HC1 HG1 HI1 HS1 HX1
   gi_wp2
   go_roundw
   case rel=>exact ⟨k + 1,by omega,by omega,by go_num,HCI3,HG3,HI3,HS3,HX3⟩
   case measure=>simp [intOf] <;> omega
  | true=>
   rw [hesm] at s0
   by_cases hlz:tz < e.sz
   ·have hlzi:(tz:Int) < (e.sz:Int):=by omega
    have hset:=HC1.out.set HML.out ⟨true,(x1,x2),tx,tz⟩ rfl
    have hmn:=HMN.out
    rw [if_pos (.inr hlz)] at hmn
    have HCI3:=hid hset.1
    rw [<-hmn] at HCI3
    have HG3:=hid (gtrans HG1.out hset.2)
    have HI3:=hid (HI1.out.grown hset.2 (by have:=HSW.out; omega))
    have HS3:=hid (HS1.out.grow1 hset.2 (by have:=HSW.out; have:=HUS.out; omega))
    have HX3:=hid (HX1.out.grow1 hset.2 (by have:=HSW.out; omega))
    have hk0:=HC1.out.row
    have z0:=hk0.frozen (k * 5)
    have z1:=hk0.frozen (k * 5 + 1)
    have z2:=hk0.frozen (k * 5 + 2)
    have z3:=hk0.frozen (k * 5 + 3)
    have z4:=hk0.frozen (k * 5 + 4)
    simp only at HCI3 HG3 HI3 HS3 HX3
    clear hset hmn hk0 HC1 HG1 HI1 HS1 HX1
    gi_wp2
    go_roundw
    case rel=>exact ⟨k + 1,by omega,by omega,by go_num,HCI3,HG3,HI3,HS3,HX3⟩
    case measure=>simp [intOf] <;> omega
   ·have hlzi:¬ (tz:Int) < (e.sz:Int):=by omega
    have hmn:=HMN.out
    rw [if_neg (by rw [hesm]; simp [hlz])] at hmn
    have HCI3:Hid (ChI w _ lc n mb (mixL xs l pre ((x1,x2),f) (k + 1)) ux):=hid (by
     have e1:(mixL xs l pre ((x1,x2),f) k).set k e=mixL xs l pre ((x1,x2),f) k:=by
      rw [<-HMA.out HML.out]
      exact List.set_getElem_self _
     rw [hmn,e1]
     exact HC1.out)
    clear hmn HC1 s1 s2 s3 c0 c1 c2 c3
    gi_wp2
    go_roundw
    case rel=>exact ⟨k + 1,by omega,by omega,by go_num,HCI3,HG1,HI1,HS1,HX1⟩
    case measure=>simp [intOf] <;> omega
end
theorem assemble_any {xs:List Itm} {l:List (Int × Int)} {ch:List Chc} {la ca:Option Addr} {lc cc mb nm:Nat} {w:World} (hl:Digs w.heap.size w la l) (hch:GIn chCs 5 w.heap.size w ca ch) (hcl:ch.length=l.length) (hm:MapG digG mb nm (datV xs) w)
  (hll:l.length<=1000) (hok:∀ d ∈ l,OkD d) (hoc:∀ c ∈ ch,ChOk c) (hdl:∀ d ∈ l,(datD xs d).length<=1000000) :
  Calls Tryz.prog 32 #[.slice la l.length lc,.slice ca ch.length cc,.map (some mb)] w fun e w'=>e = .returned (.string ⟨(sealS (bodyC xs l ch)).toArray⟩)/\Below w.heap.size w w':=by
 have HL:=hid hl
 have HCH:=hid hch
 have HM:=hid hm
 have HMB:=hid hm.lt
 have HOK:=hid hok
 have HOC:=hid hoc
 have HDL:=hid hdl
 obtain ⟨n,hn⟩:∃ n,n=l.length:=⟨_,rfl⟩
 have HN:Hid (n=l.length):=hid hn
 have HNC:Hid (ch.length=n):=hid (by rw [hcl,hn])
 have hni:(n:Int)<=1000:=by omega
 rw [hcl,<-hn]
 obtain ⟨R,hR⟩:∃ R,R=bodyC xs l ch:=⟨_,rfl⟩
 have HR:Hid (R=Cw.enc n ++ (l.zip ch).flatMap fun p=>entC xs p.1 p.2):=hid (by rw [hR]; unfold bodyC; rw [hn])
 rw [<-hR]
 obtain ⟨bb,hbb⟩:∃ bb,bb=w.heap.size:=⟨_,rfl⟩
 obtain ⟨u1,hu1⟩:∃ u1,u1=(w.alloc (.cells #[.pointer none,.slice none 0 0] 125)).alloc (.cells #[.func (.func 66) #[] #[.pointer (some ⟨bb,0,none⟩)]] 117):=⟨_,rfl⟩
 have hbw:Below w.heap.size w u1:=by rw [hu1]; exact ((Below.refl _ _).alloc (Nat.le_refl _) _).alloc (by simp) _
 have hbk:u1.heap[bb]? = some (.cells #[.pointer none,.slice none 0 0] 125 (0,0)):=by
  have:BK w.heap.size #[.pointer none,.slice none 0 0] 125 u1:=by rw [hu1]; exact (BK.new _ _ _).alloc _
  rw [hbb]; exact this
 have hfk:BK (bb + 1) #[.func (.func 66) #[] #[.pointer (some ⟨bb,0,none⟩)]] 117 u1:=by rw [hu1,hbb]; exact BK.new2 _ _ _ _
 have HBW:Hid (BW w u1 bb [] u1):=hid (BW.start hbw (by omega) hbk)
 have HNM:=hid (asmNum_any n (by omega) HBW.out (by simp))
 rw [List.nil_append] at HNM
 have hfc:=hfk.c1
 have HFK:=hid hfk
 have HU:=hid hu1
 have HBB:Hid (bb=w.heap.size):=hid hbb
 clear hl hch hcl hm hok hoc hdl hn hR hbw hbk hfk hu1 hbb HBW
 go_enter Tryz.func32,Tryz.ntmps32
 go_wp2_with fail
 rw [<-HBB.out,<-HU.out]
 (with_reducible refine (HNM.out).mono ?_)
 rintro e u2 ⟨rfl,HB2⟩
 have HFK2:Hid (BK (bb + 1) #[.func (.func 66) #[] #[.pointer (some ⟨bb,0,none⟩)]] 117 u2):=hid (HB2.out.block HFK.out (by omega) (by decide))
 have HEL:=hid (enc_length n)
 have HNE:=hid (enc_ne n)
 generalize Cw.enc n=E at HB2 HR HEL HNE
 clear HNM HU hfc HFK
 go_wp2_with fail
 go_loopw [21] (fun i wr=>∃ (k:Nat) (w0:World),k<=n/\i = .int .i64 (k:Int)/\Hid (BW w w0 bb (E ++ ((l.zip ch).take k).flatMap fun p=>entC xs p.1 p.2) wr)/\Hid (BK (bb + 1) #[.func (.func 66) #[] #[.pointer (some ⟨bb,0,none⟩)]] 117 wr)) (fun i _=>n - (intOf i).toNat)
 case atStart=>exact ⟨0,u1,by omega,rfl,hid (by simpa using HB2.out),HFK2⟩
 clear HB2 HFK2
 obtain ⟨k,w0,hk,rfl,HB,HFK⟩:=hrel
 have hzl:∀ p ∈ (l.zip ch).take k,(entC xs p.1 p.2).length<=1000100:=fun p hp=>by
  have h1:=List.mem_of_mem_take hp
  have h2:=List.of_mem_zip h1
  exact entC_len (HOC.out _ h2.2).t (HDL.out _ h2.1)
 have hT:((E ++ ((l.zip ch).take k).flatMap fun p=>entC xs p.1 p.2).length:Int)<=1000100010:=by
  have h1:=flat_len _ hzl
  have h2:((l.zip ch).take k).length<=1000:=by rw [List.length_take]; omega
  have h3:=HEL.out
  have h4:((l.zip ch).take k).length * 1000100<=1000 * 1000100:=Nat.mul_le_mul_right _ h2
  rw [List.length_append]
  omega
 clear hzl
 by_cases hlt:k < n
 ·have hkn:(k:Int) < (n:Int):=by omega
  have hkl:k < l.length:=by rw [<-HN.out]; exact hlt
  have hkc:k < ch.length:=by rw [HNC.out]; exact hlt
  have hbel:=HB.out.bel
  obtain ⟨b0,o0,haa,hb0,q0,q1⟩:=(HL.out.below hbel (Nat.le_refl _)) k hkl
  obtain ⟨b1,o1,hca,hb1,r0,r1,r2,r3,r4⟩:=ch_cells (HCH.out) hkc
  have hnx:(((l.zip ch).take (k + 1)).flatMap fun p=>entC xs p.1 p.2)=(((l.zip ch).take k).flatMap fun p=>entC xs p.1 p.2) ++ entC xs l[k] ch[k]:=by rw [zip_take_snoc hkl hkc,List.flatMap_append]; simp
  have hod:=HOK.out _ (List.getElem_mem hkl)
  have hoc:=HOC.out _ (List.getElem_mem hkc)
  have hdl:=HDL.out _ (List.getElem_mem hkl)
  generalize l[k]=d at *
  generalize ch[k]=c at *
  obtain ⟨x,y⟩:=d
  obtain ⟨sm,⟨p,q⟩,tx,sz⟩:=c
  simp only at q0 q1 r0 r1 r2 r3 r4
  have HNX:=hid hnx
  generalize (((l.zip ch).take k).flatMap fun p=>entC xs p.1 p.2)=F at HB HNX hT
  obtain ⟨F2,hF2⟩:∃ F2,F2=(((l.zip ch).take (k + 1)).flatMap fun p=>entC xs p.1 p.2):=⟨_,rfl⟩
  rw [<-hF2] at HNX
  have HNX2:Hid ((((l.zip ch).take (k + 1)).flatMap fun p=>entC xs p.1 p.2)=F2):=hid hF2.symm
  obtain ⟨T,hTT⟩:∃ T,T=E ++ F:=⟨_,rfl⟩
  rw [<-hTT] at HB hT
  have HTT:=hid hTT
  obtain ⟨v,hv⟩:∃ v,v=wr.alloc (.cells #[.int .u64 x,.int .u64 y] 41):=⟨_,rfl⟩
  have hbv:Below wr.heap.size wr v:=by rw [hv]; exact (Below.refl _ _).alloc (Nat.le_refl _) _
  have hxv:BK wr.heap.size #[.int .u64 x,.int .u64 y] 41 v:=by rw [hv]; exact BK.new _ _ _
  have HBv:=hid (HB.out.below hbv).anew
  have hne:wr.heap.size ≠ bb:=by
   have:=bldF_lt HB.out.bld
   omega
  have hfv:=HFK.out.below hbv
  -- what stays through the builder's writes
  have HST:Hid (∀ T' W',BW w v bb T' W'->W'.cell? ⟨wr.heap.size,0,none⟩=some (.int .u64 x)/\W'.cell? ⟨wr.heap.size,1,none⟩=some (.int .u64 y)/\W'.cell? ⟨bb + 1,0,none⟩=some (.func (.func 66) #[] #[.pointer (some ⟨bb,0,none⟩)])/\BK (bb + 1) #[.func (.func 66) #[] #[.pointer (some ⟨bb,0,none⟩)]] 117 W'/\
    W'.cell? ⟨b1,o1 + k * 5,none⟩=some (.bool sm)/\W'.cell? ⟨b1,o1 + k * 5 + 1,none⟩=some (.int .u64 p)/\W'.cell? ⟨b1,o1 + k * 5 + 2,none⟩=some (.int .u64 q)/\W'.cell? ⟨b1,o1 + k * 5 + 3,none⟩=some (.string ⟨tx.toArray⟩)/\
    (Instr.lookup 70 (.map (some mb)) (.agg #[.int .u64 x,.int .u64 y]) false).run Tryz.prog W' = .ok (.string ⟨(datD xs (x,y)).toArray⟩) W'):=hid (fun T' W' h=>by
   have h1:=h.block hxv hne (by decide)
   have h2:=h.block hfv (by omega) (by decide)
   have hc:=h.bel
   have h3:=(HM.out.below_lt hc HMB.out).look Tryz.underlying70 (zeroStr W') (a:=(x,y)) hod
   rw [datV_get] at h3
   exact ⟨(BK.c2 h1).1,(BK.c2 h1).2,BK.c1 h2,h2,(hc.cell hb1).trans r0,(hc.cell (p:=⟨b1,o1 + k * 5 + 1,none⟩) hb1).trans r1,(hc.cell (p:=⟨b1,o1 + k * 5 + 2,none⟩) hb1).trans r2,(hc.cell (p:=⟨b1,o1 + k * 5 + 3,none⟩) hb1).trans r3,h3⟩)
  have HBY:=hid (fun W=>bytesOf_any x y (by have:=hod.1; unfold u64B at this; simp only at this; omega) (by have:=hod.2; unfold u64B at this; simp only at this; omega) W)
  have HBZ:=hid (fun W=>bytesOf_any p q (by have:=hoc.b.1; unfold u64B at this; simp only at this; omega) (by have:=hoc.b.2; unfold u64B at this; simp only at this; omega) W)
  have hbe:∀ z,(beD z).length=16:=beD_length
  have HBL:Hid (∀ z,(beD z).length=16):=hid hbe
  have HTX:=hid hoc.t
  have HDX:=hid hdl
  have HTL:=hid hT
  have hec:entC xs (x,y) ⟨sm,(p,q),tx,sz⟩=beD (x,y) ++ (if sm=true then Cw.enc 1 ++ (beD (p,q) ++ (Cw.enc tx.length ++ tx)) else Cw.enc 0 ++ (Cw.enc (datD xs (x,y)).length ++ datD xs (x,y))):=rfl
  have HF2:Hid (F2=F ++ (beD (x,y) ++ (if sm=true then Cw.enc 1 ++ (beD (p,q) ++ (Cw.enc tx.length ++ tx)) else Cw.enc 0 ++ (Cw.enc (datD xs (x,y)).length ++ datD xs (x,y))))):=hid (by rw [HNX.out,hec])
  obtain ⟨c0,c1,_,_,_⟩:=HST.out _ _ HBv.out
  rw [hv] at c0 c1
  have HV:=hid hv
  subst haa
  subst hca
  clear hnx hF2 HNX hTT hbv hxv hv HB hfv hod hoc hdl hbe hec r0 r1 r2 r3 r4 hT HFK hbel
  go_wp2_with fail
  (with_reducible refine (HBY.out _).mono ?_)
  rintro e u3 ⟨rfl,hb3⟩
  rw [<-HV.out] at hb3
  have HB3:=hid (HBv.out.below hb3)
  have HW3:=hid (writeStr_bw HB3.out (beD (x,y)) (by have:=HTL.out; rw [HBL.out]; omega))
  clear hb3 c0 c1 HV HBv
  go_wp2_with fail
  (with_reducible refine (HW3.out).mono ?_)
  rintro e u4 ⟨rfl,HB4⟩
  obtain ⟨d0,d1,df,dk,s0,s1,s2,s3,dl⟩:=HST.out _ _ HB4.out
  clear HW3 HB3 dk
  cases sm with
  | true=>
   have HF3:Hid (F2=F ++ (beD (x,y) ++ (Cw.enc 1 ++ (beD (p,q) ++ (Cw.enc tx.length ++ tx))))):=hid (by rw [HF2.out,if_pos rfl])
   have HN1:=hid (asmNum_any 1 (by omega) HB4.out (by rw [List.length_append,HBL.out]; have:=HTL.out; omega))
   rw [show ((1:Nat):Int)=1 from rfl] at HN1
   have he1:=enc_length 1
   clear HF2 dl d0 d1
   generalize hE1:Cw.enc 1=E1 at *
   clear hE1
   go_wp2_with fail
   (with_reducible refine (HN1.out).mono ?_)
   rintro e u5 ⟨rfl,HB5⟩
   obtain ⟨_,_,_,_,_,s1,s2,s3,_⟩:=HST.out _ _ HB5.out
   clear HN1 HB4 df s0
   go_wp2_with fail
   (with_reducible refine (HBZ.out _).mono ?_)
   rintro e u6 ⟨rfl,hb6⟩
   have HB6:=hid (HB5.out.below hb6)
   have HW6:=hid (writeStr_bw HB6.out (beD (p,q)) (by simp only [List.length_append,HBL.out]; have:=HTL.out; omega))
   clear hb6 HB5
   go_wp2_with fail
   (with_reducible refine (HW6.out).mono ?_)
   rintro e u7 ⟨rfl,HB7⟩
   obtain ⟨_,_,df,dk,_,_,_,s3,_⟩:=HST.out _ _ HB7.out
   have HT7:=hid (asmText_any tx (by have:=HTX.out; omega) HB7.out (by simp only [List.length_append,HBL.out]; have:=HTL.out; omega) df)
   clear HW6 HB6 dk s1 s2
   go_wp2_with fail
   (with_reducible refine (HT7.out).mono ?_)
   rintro e u8 ⟨rfl,HB8⟩
   obtain ⟨_,_,_,dk,_⟩:=HST.out _ _ HB8.out
   have HR2:Hid (BW w v bb (E ++ F2) u8):=hid (by
    have:=HB8.out
    rw [HTT.out] at this
    rw [HF3.out]
    simpa only [List.append_assoc] using this)
   have HK8:=hid dk
   clear HB8 HB7 HT7 df dk s3
   go_wp2_with fail
   go_roundw
   case rel=>exact ⟨k + 1,v,by omega,by go_num,by rw [HNX2.out]; exact HR2,HK8⟩
   case measure=>simp [intOf] <;> omega
  | false=>
   have HF3:Hid (F2=F ++ (beD (x,y) ++ (Cw.enc 0 ++ (Cw.enc (datD xs (x,y)).length ++ datD xs (x,y))))):=hid (by rw [HF2.out,if_neg (by simp)])
   have HN1:=hid (asmNum_any 0 (by omega) HB4.out (by rw [List.length_append,HBL.out]; have:=HTL.out; omega))
   rw [show ((0:Nat):Int)=0 from rfl] at HN1
   have he1:=enc_length 0
   clear HF2 d0 d1 dl
   generalize hE1:Cw.enc 0=E1 at *
   clear hE1
   go_wp2_with fail
   (with_reducible refine (HN1.out).mono ?_)
   rintro e u5 ⟨rfl,HB5⟩
   obtain ⟨d0,d1,df,_,_,_,_,_,dl⟩:=HST.out _ _ HB5.out
   have HT7:=hid (asmText_any (datD xs (x,y)) (by have:=HDX.out; omega) HB5.out (by simp only [List.length_append,HBL.out]; have:=HTL.out; omega) df)
   generalize datD xs (x,y)=D at *
   clear HN1 HB4 s0 s1 s2 s3
   go_wp2_with fail
   (with_reducible refine (HT7.out).mono ?_)
   rintro e u8 ⟨rfl,HB8⟩
   obtain ⟨_,_,_,dk,_⟩:=HST.out _ _ HB8.out
   have HR2:Hid (BW w v bb (E ++ F2) u8):=hid (by
    have:=HB8.out
    rw [HTT.out] at this
    rw [HF3.out]
    simpa only [List.append_assoc] using this)
   have HK8:=hid dk
   clear HB8 HB5 HT7 df dk d0 d1 dl
   go_wp2_with fail
   go_roundw
   case rel=>exact ⟨k + 1,v,by omega,by go_num,by rw [HNX2.out]; exact HR2,HK8⟩
   case measure=>simp [intOf] <;> omega
 ·obtain rfl:k=n:=by omega
  have hkn:¬ (k:Int) < (k:Int):=by omega
  have htk:(l.zip ch).take k=l.zip ch:=List.take_of_length_le (by rw [List.length_zip]; have:=HN.out; have:=HNC.out; omega)
  rw [htk] at HB hT
  rw [<-HR.out] at HB hT
  have hne:R ≠ []:=by rw [HR.out]; have:=HNE.out; simp [this]
  have HSTR:=hid (bldStr_bw HB.out hne)
  have HOF:=hid (fun W=>of_any R W (by omega))
  obtain ⟨h1,h2⟩:=okD_dig R
  have HBY:=hid (fun W=>bytesOf_any (digS R).1 (digS R).2 h1 h2 W)
  rw [show ((digS R).1,(digS R).2)=digS R from rfl] at HBY
  have HS:Hid ((⟨R.toArray⟩:ByteArray) ++ ⟨(beD (digS R)).toArray⟩=⟨(sealS R).toArray⟩):=hid (by rw [ba_append]; simp [sealS])
  have hsR:=ba_len R
  have hsT:=ba_len (beD (digS R))
  rw [beD_length] at hsT
  obtain ⟨rl,hrl⟩:∃ rl,rl=R.length:=⟨_,rfl⟩
  rw [<-hrl] at hsR hT
  generalize (digS R).1=x at HOF HBY
  generalize (digS R).2=y at HOF HBY
  generalize beD (digS R)=T at HBY HS hsT
  obtain ⟨RR,hRR⟩:∃ RR,RR=sealS R:=⟨_,rfl⟩
  rw [<-hRR] at HS
  have HRR:=hid hRR
  clear hRR
  clear HB htk hne h1 h2 HR HFK
  go_wp2_with fail
  (with_reducible refine (HSTR.out).mono ?_)
  rintro e u3 ⟨rfl,HB3⟩
  have HB4:=hid HB3.out.bel
  clear HSTR HB3
  go_wp2_with fail
  (with_reducible refine (HOF.out _).mono ?_)
  rintro e u4 ⟨rfl,hb4⟩
  have HB5:=hid (HB4.out.trans (hb4.mono HB4.out.size))
  clear hb4 HB4 HOF
  go_wp2_with fail
  (with_reducible refine (HBY.out _).mono ?_)
  rintro e u5 ⟨rfl,hb5⟩
  have HB6:=hid (HB5.out.trans (hb5.mono HB5.out.size))
  have hs:=HS.out
  clear hb5 HB5 HBY HS
  go_wp2_with fail
  go_ret
  exact ⟨by rw [<-HRR.out]; first | done | rfl,HB6.out⟩
theorem zeroBl (W:World):(zeroValue 4).run Tryz.prog W = .ok (.bool false) W:=by kernel_rfl
def datK (xs:List Itm) (k:Nat) (d:Int × Int):Option Value:=datV (xs.take k) d
theorem datK_next {xs:List Itm} (ha:Asc xs) {k:Nat} (hk:k < xs.length) (d:Int × Int):datK xs (k + 1) d=if d=xs[k].d then some (.string ⟨(xs[k]).data.toArray⟩) else datK xs k d:=by
 unfold datK datV
 rw [List.take_succ_eq_append_getElem hk,List.find?_append]
 by_cases e:d=xs[k].d
 ·rw [if_pos e]
  have:(xs.take k).find? (fun x=>decide (x.d=d))=none:=by
   rw [List.find?_eq_none]
   intro x hx
   obtain ⟨j,hj,rfl⟩:=List.getElem_of_mem hx
   rw [List.length_take] at hj
   simp only [List.getElem_take,decide_eq_true_eq]
   intro h
   have:=ha j k (by omega) hk (by omega)
   rw [h,e,cmpD_self] at this
   omega
  rw [this]
  simp [e]
 ·rw [if_neg e]
  cases (xs.take k).find? (fun x=>decide (x.d=d)) with
  | some x=>rfl
  | none=>simp [Ne.symm e]
def metV (seen:List (Int × Int)) (d:Int × Int):Option Value:=if d ∈ seen then some (.bool true) else none
theorem metV_get (seen:List (Int × Int)) (d:Int × Int):(metV seen d).getD (.bool false) = .bool (decide (d ∈ seen)):=by
 unfold metV
 by_cases e:d ∈ seen <;> simp [e]
theorem pkE_at {xs:List Itm} {l:List (Int × Int)} {k:Nat} (hk:k < l.length):pkE xs (l.drop k) (l.take k)=if hasS xs l[k]=false then 8 else if l[k] ∈ l.take k then 7 else pkE xs (l.drop (k + 1)) (l.take (k + 1)):=by
 rw [List.drop_eq_getElem_cons hk,pkE,List.take_succ_eq_append_getElem hk]
structure PkPool (xs:List Itm) (pc:Nat):Prop where
 asc:Asc xs
 okd:∀ x ∈ xs,OkD x.d
 dat:∀ x ∈ xs,x.data.length<=1000
 len:(xs.length:Int)<=1000000
 cap:xs.length<=pc
theorem datD_le {xs:List Itm} (h:∀ x ∈ xs,x.data.length<=1000) (d:Int × Int):(datD xs d).length<=1000:=by
 unfold datD datI
 cases hx:xs.find? (fun x=>decide (x.d=d)) with
 | none=>simp
 | some x=>exact h x (List.mem_of_find?_eq_some hx)
theorem okD_zero:OkD (0,0):=⟨⟨by decide,by decide⟩,⟨by decide,by decide⟩⟩
theorem finL_ok {xs:List Itm} {l base:List (Int × Int)} (hd:∀ d,(datD xs d).length<=1000) (hl:∀ d ∈ l,OkD d) (hb:∀ d ∈ base,OkD d):∀ c ∈ finL xs l base,ChOk c:=by
 intro c hc
 unfold finL at hc
 obtain ⟨i,_,rfl⟩:=List.mem_map.1 hc
 have key:ChOk (bstE xs (l.getD i (0,0)) (pkO xs (l.getD i (0,0)) (base ++ l.take i))):=by
  cases hpk:pkO xs (l.getD i (0,0)) (base ++ l.take i) with
  | none=>exact ⟨okD_zero,by simp [bstE]⟩
  | some p=>
   obtain ⟨b,z⟩:=p
   obtain ⟨m1,m2⟩:=pkO_mem hpk
   have h1:=hd b
   have h2:=hd (l.getD i (0,0))
   have h3:=(diff_enc (a:=datD xs b) (b:=datD xs (l.getD i (0,0))) (by omega) (by omega)).2.1
   refine ⟨?_,?_⟩
   ·rcases List.mem_append.1 m1 with h | h
    ·exact hb _ h
    ·exact hl _ (List.mem_of_mem_take h)
   ·simp only [bstE]; unfold txD; omega
 unfold finC
 split
 ·exact ⟨key.b,key.t⟩
 ·exact key
theorem finL_len (xs:List Itm) (l base:List (Int × Int)):(finL xs l base).length=l.length:=by simp [finL]
theorem pack_any {xs:List Itm} {l base:List (Int × Int)} {pa la ba:Option Addr} {pc lc bc:Nat} {w:World} (hp:PkPool xs pc) (hi:Its w.heap.size w pa xs) (hl:Digs w.heap.size w la l) (hb:Digs w.heap.size w ba base) (hok:∀ d ∈ l,OkD d) (hob:∀ d ∈ base,OkD d) (hll:(l.length:Int)<=1000000) (hbl:(base.length:Int)<=1000000) :
  Calls Tryz.prog 12 #[.slice pa xs.length pc,.slice la l.length lc,.slice ba base.length bc] w fun e w'=>e = .returned (.tuple #[.string ⟨(packS xs l base).1.toArray⟩,.int .i64 (packS xs l base).2])/\Below w.heap.size w w':=by
 have HP:=hid hp
 have HI:=hid hi
 have HL:=hid hl
 have HBD:=hid hb
 have HOL:=hid hok
 have HOB:=hid hob
 have HPI:Hid (∀ W,Below w.heap.size w W->PoolIn W pa xs pc):=hid (fun W hb=>⟨(hi.below hb (Nat.le_refl _)).mono hb.size,hp.cap,by have:=hp.len; omega,fun x hx=>by have:=hp.dat x hx; omega⟩)
 obtain ⟨nx,hnx⟩:∃ nx,nx=xs.length:=⟨_,rfl⟩
 obtain ⟨n,hn⟩:∃ n,n=l.length:=⟨_,rfl⟩
 obtain ⟨nb,hnb⟩:∃ nb,nb=base.length:=⟨_,rfl⟩
 have HNX:Hid (nx=xs.length):=hid hnx
 have HN:Hid (n=l.length):=hid hn
 have HNB:Hid (nb=base.length):=hid hnb
 have hxl:=hp.len
 rw [<-hnx] at hxl
 rw [<-hn] at hll
 rw [<-hnb] at hbl
 obtain ⟨R,hR⟩:∃ R,R=packS xs l base:=⟨_,rfl⟩
 have HR:=hid hR
 rw [<-hR,<-hnx,<-hn,<-hnb]
 have hmm:=@run_makeMap Tryz.prog
 clear hp hi hl hb hok hob hnx hn hnb hR
 by_cases hbig:1000 < n
 ·have hbi:(1000:Int) < (n:Int):=by omega
  have HR2:Hid (R=([],4)):=hid (by
   rw [HR.out]
   have:packE xs l base=4:=by unfold packE; rw [<-HN.out,if_pos hbig]
   unfold packS
   rw [this]
   rfl)
  have HB0:=hid (Below.refl w.heap.size w)
  clear HR
  go_enter Tryz.func12,Tryz.ntmps12
  go_wp2_with fail
  go_ret2
  exact ⟨by rw [HR2.out]; first | done | rfl,HB0.out⟩
 have hbi:¬ (1000:Int) < (n:Int):=by omega
 have HPE:Hid (packE xs l base=if pkE xs l [] ≠ 0 then pkE xs l [] else bsE xs base):=hid (by unfold packE; rw [<-HN.out,if_neg hbig])
 obtain ⟨q,hq⟩:∃ q,q=w.heap.size:=⟨_,rfl⟩
 have HQ:Hid (q=w.heap.size):=hid hq
 have HM0:Hid (MapG digG q 0 (datK xs 0) (w.alloc (.map #[] 0))):=hid (by rw [hq]; exact (MapG.made digG w).eq (fun d=>rfl))
 have HB0:Hid (Below w.heap.size w (w.alloc (.map #[] 0))):=hid ((Below.refl _ _).alloc (Nat.le_refl _) _)
 clear hq
 go_enter Tryz.func12,Tryz.ntmps12
 go_wp2_with fail
 rw [<-HQ.out]
 go_loopw [22] (fun i wr=>∃ k:Nat,k<=nx/\i = .int .i64 (k:Int)/\Hid (MapG digG q k (datK xs k) wr)/\Hid (Below w.heap.size w wr)) (fun i _=>nx - (intOf i).toNat)
 case atStart=>exact ⟨0,by omega,rfl,HM0,HB0⟩
 clear HM0 HB0
 obtain ⟨k,hk,rfl,HM,HB⟩:=hrel
 by_cases hlt:k < nx
 case pos=>
  have hki:(k:Int) < (nx:Int):=by omega
  have hkx:k < xs.length:=by rw [<-HNX.out]; exact hlt
  obtain ⟨b0,o0,haa,hb0,q0,q1,q2⟩:=(HI.out.below HB.out (Nat.le_refl _)) k hkx
  have hod:=HP.out.okd _ (List.getElem_mem hkx)
  have hnx:=datK_next HP.out.asc hkx
  generalize xs[k]=x at *
  obtain ⟨⟨x1,x2⟩,data⟩:=x
  simp only at q0 q1 q2 hod hnx
  obtain ⟨v,hv⟩:∃ v,v=wr.alloc (.cells #[.int .u64 x1,.int .u64 x2,.string ⟨data.toArray⟩] 63):=⟨_,rfl⟩
  have hbv:Below wr.heap.size wr v:=by rw [hv]; exact (Below.refl _ _).alloc (Nat.le_refl _) _
  have hxv:BK wr.heap.size #[.int .u64 x1,.int .u64 x2,.string ⟨data.toArray⟩] 63 v:=by rw [hv]; exact BK.new _ _ _
  have hm:=HM.out.below hbv
  obtain ⟨v2,hput,hmp,hg2,hs2⟩:=hm.put Tryz.underlying70 (a:=(x1,x2)) hod (by omega) (.string ⟨data.toArray⟩)
  have HPUT:(Instr.mapUpdate 70 (.map (some q)) (.agg #[.int .u64 x1,.int .u64 x2]) (.string ⟨data.toArray⟩)).run Tryz.prog v = .ok () v2:=hput
  have HM2:Hid (MapG digG q (k + 1) (datK xs (k + 1)) v2):=hid (hmp.eq (fun d=>by rw [hnx d]))
  have HB2:Hid (Below w.heap.size w v2):=hid ((HB.out.trans (hbv.mono HB.out.size)).grown hg2 (Nat.le_trans HB.out.size hbv.size) (fun j e=>by cases e; rw [HQ.out]; exact Nat.le_refl _))
  obtain ⟨c0,c1,c2⟩:=BK.c3 (show BK _ #[.int .u64 x1,.int .u64 x2,.string ⟨data.toArray⟩] _ _ from hxv)
  rw [hv] at HPUT c0 c1 c2
  subst haa
  clear hv hbv hxv hm hput hmp hg2 hs2 hnx hod HM HB
  go_wp2_with fail
  go_roundw
  case rel=>exact ⟨k + 1,by omega,by go_num,HM2,HB2⟩
  case measure=>simp [intOf] <;> omega
 case neg=>
 obtain rfl:k=nx:=by omega
 have hki:¬ (k:Int) < (k:Int):=by omega
 have HMK:Hid (MapG digG q k (datV xs) wr):=hid (HM.out.eq (fun d=>by unfold datK; rw [HNX.out,List.take_length]))
 obtain ⟨q2,hq2⟩:∃ q2,q2=wr.heap.size:=⟨_,rfl⟩
 have HQ2:Hid (q2=wr.heap.size):=hid hq2
 have HM1:Hid (MapG digG q2 0 (metV (l.take 0)) (wr.alloc (.map #[] 0))):=hid (by rw [hq2]; exact (MapG.made digG wr).eq (fun d=>by simp [metV]))
 have HMK1:Hid (MapG digG q k (datV xs) (wr.alloc (.map #[] 0))):=hid (HMK.out.alloc _)
 have HB1:Hid (Below w.heap.size w (wr.alloc (.map #[] 0))):=hid (HB.out.alloc HB.out.size _)
 have HQL:Hid (q < q2/\w.heap.size<=q2):=hid ⟨by rw [hq2]; exact HMK.out.lt,by rw [hq2]; exact HB.out.size⟩
 clear hq2 HM HB HMK
 go_wp2_with fail
 rw [<-HQ2.out]
 clear HQ2
 go_loopw [35] (fun i wr=>∃ j:Nat,j<=n/\i = .int .i64 (j:Int)/\Hid (MapG digG q k (datV xs) wr)/\Hid (MapG digG q2 j (metV (l.take j)) wr)/\Hid (Below w.heap.size w wr)/\Hid (pkE xs l []=pkE xs (l.drop j) (l.take j))) (fun i _=>n - (intOf i).toNat)
 case atStart=>exact ⟨0,by omega,rfl,HMK1,HM1,HB1,hid (by simp)⟩
 clear HM1 HMK1 HB1
 obtain ⟨j,hj,rfl,HMK,HM,HB,HPK⟩:=hrel
 by_cases hltj:j < n
 case pos=>
  have hji:(j:Int) < (n:Int):=by omega
  have hjl:j < l.length:=by rw [<-HN.out]; exact hltj
  obtain ⟨b0,o0,haa,hb0,r0,r1⟩:=(HL.out.below HB.out (Nat.le_refl _)) j hjl
  have hod:=HOL.out _ (List.getElem_mem hjl)
  have hpe:=pkE_at (xs:=xs) hjl
  have htk:l.take (j + 1)=l.take j ++ [l[j]]:=List.take_succ_eq_append_getElem hjl
  generalize l[j]=d at *
  obtain ⟨x1,x2⟩:=d
  simp only at r0 r1
  obtain ⟨v,hv⟩:∃ v,v=wr.alloc (.cells #[.int .u64 x1,.int .u64 x2] 41):=⟨_,rfl⟩
  have hbv:Below wr.heap.size wr v:=by rw [hv]; exact (Below.refl _ _).alloc (Nat.le_refl _) _
  have hxv:BK wr.heap.size #[.int .u64 x1,.int .u64 x2] 41 v:=by rw [hv]; exact BK.new _ _ _
  have hbwv:=HB.out.trans (hbv.mono HB.out.size)
  have HHS:=hid (has_any pa xs pc x1 x2 v (HPI.out v hbwv) HP.out.asc)
  rw [<-HNX.out] at HHS
  have HMKv:=hid (HMK.out.below hbv)
  have HMv:=hid (HM.out.below hbv)
  obtain ⟨c0,c1⟩:=BK.c2 (show BK _ #[.int .u64 x1,.int .u64 x2] _ _ from hxv)
  have HXV:=hid hxv
  have HBV:=hid hbwv
  rw [hv] at HHS c0 c1
  have HV:=hid hv
  have HPE2:Hid (pkE xs l []=if hasS xs (x1,x2)=false then 8 else if (x1,x2) ∈ l.take j then 7 else pkE xs (l.drop (j + 1)) (l.take (j + 1))):=hid (HPK.out.trans hpe)
  have HTK:Hid (l.take (j + 1)=l.take j ++ [(x1,x2)]):=hid htk
  subst haa
  clear hv hbv hxv hbwv hpe htk HB HMK HM HPK
  go_wp2_with fail
  (with_reducible refine (HHS.out).mono ?_)
  rintro e u ⟨rfl,hbu⟩
  rw [<-HV.out] at hbu
  have HBU:=hid (HBV.out.trans (hbu.mono HBV.out.size))
  have HMKu:=hid (HMKv.out.below hbu)
  have HMu:=HMv.out.below hbu
  have hxu:=HXV.out.below hbu
  clear HHS c0 c1 HV hbu HBV HMKv HMv HXV
  cases hh:hasS xs (x1,x2) with
  | false=>
   have HR2:Hid (R=([],8)):=hid (by
    have h1:=HPE2.out
    rw [if_pos hh] at h1
    have h2:=HPE.out
    rw [h1,if_pos (by decide)] at h2
    rw [HR.out]; unfold packS; rw [h2]; rfl)
   clear HR HPE HPE2
   go_wp2_with fail
   go_ret2
   exact ⟨by rw [HR2.out]; first | done | rfl,HBU.out⟩
  | true=>
   have hlk:=HMu.look Tryz.underlying71 (zeroBl u) (a:=(x1,x2)) hod
   rw [metV_get] at hlk
   have hlk2:(Instr.lookup 71 (.map (some q2)) (.agg #[.int .u64 x1,.int .u64 x2]) false).run Tryz.prog u = .ok (.bool (decide ((x1,x2) ∈ l.take j))) u:=hlk
   obtain ⟨c0,c1⟩:=BK.c2 (show BK _ #[.int .u64 x1,.int .u64 x2] _ _ from hxu)
   by_cases hmem:(x1,x2) ∈ l.take j
   ·have HR2:Hid (R=([],7)):=hid (by
     have h1:=HPE2.out
     rw [if_neg (by rw [hh]; simp),if_pos hmem] at h1
     have h2:=HPE.out
     rw [h1,if_pos (by decide)] at h2
     rw [HR.out]; unfold packS; rw [h2]; rfl)
    rw [decide_eq_true hmem] at hlk2
    clear HR HPE HPE2 hlk hmem hxu HMu
    go_wp2_with fail
    go_ret2
    exact ⟨by rw [HR2.out]; first | done | rfl,HBU.out⟩
   ·rw [decide_eq_false hmem] at hlk2
    obtain ⟨v2,hput,hmp,hg2,hs2⟩:=HMu.put Tryz.underlying71 (a:=(x1,x2)) hod (by omega) (.bool true)
    have HPUT:(Instr.mapUpdate 71 (.map (some q2)) (.agg #[.int .u64 x1,.int .u64 x2]) (.bool true)).run Tryz.prog u = .ok () v2:=hput
    have HM2:Hid (MapG digG q2 (j + 1) (metV (l.take (j + 1))) v2):=hid (hmp.eq (fun d=>by
     rw [HTK.out]
     unfold metV
     by_cases e:d=(x1,x2)
     ·subst e; simp
     ·simp [e]))
    have HMK2:Hid (MapG digG q k (datV xs) v2):=hid (HMKu.out.kept hg2 (by have:=HQL.out.1; intro e; injection e with e; omega))
    have HB2:Hid (Below w.heap.size w v2):=hid (HBU.out.grown hg2 HBU.out.size (fun j e=>by cases e; exact HQL.out.2))
    have HPK2:Hid (pkE xs l []=pkE xs (l.drop (j + 1)) (l.take (j + 1))):=hid (by
     have h1:=HPE2.out
     rwa [if_neg (by rw [hh]; simp),if_neg hmem] at h1)
    clear hlk hmem hxu HMu hput hmp hg2 hs2 HPE2 HMKu HBU
    go_wp2_with fail
    go_roundw
    case rel=>exact ⟨j + 1,by omega,by go_num,HMK2,HM2,HB2,HPK2⟩
    case measure=>simp [intOf] <;> omega
 case neg=>
 obtain rfl:j=n:=by omega
 have hji:¬ (j:Int) < (j:Int):=by omega
 have HPE2:Hid (packE xs l base=bsE xs base):=hid (by
  have h1:=HPK.out
  have e1:l.drop j=[]:=List.drop_of_length_le (by have:=HN.out; omega)
  rw [e1] at h1
  have h2:=HPE.out
  rw [h1] at h2
  rw [h2,if_neg (by simp [pkE])])
 clear HPE HPK HM
 go_wp2_with fail
 go_loopw [51] (fun i wr=>∃ m:Nat,m<=nb/\i = .int .i64 (m:Int)/\Hid (MapG digG q k (datV xs) wr)/\Hid (Below w.heap.size w wr)/\Hid (∀ d ∈ base.take m,hasS xs d=true)) (fun i _=>nb - (intOf i).toNat)
 case atStart=>exact ⟨0,by omega,rfl,HMK,HB,hid (by simp)⟩
 clear HMK HB
 obtain ⟨m,hm,rfl,HMK,HB,HHA⟩:=hrel
 by_cases hltm:m < nb
 case pos=>
  have hmi:(m:Int) < (nb:Int):=by omega
  have hml:m < base.length:=by rw [<-HNB.out]; exact hltm
  obtain ⟨b0,o0,haa,hb0,r0,r1⟩:=(HBD.out.below HB.out (Nat.le_refl _)) m hml
  have htk:base.take (m + 1)=base.take m ++ [base[m]]:=List.take_succ_eq_append_getElem hml
  have hmb:=List.getElem_mem hml
  generalize base[m]=d at *
  obtain ⟨x1,x2⟩:=d
  simp only at r0 r1
  obtain ⟨v,hv⟩:∃ v,v=wr.alloc (.cells #[.int .u64 x1,.int .u64 x2] 41):=⟨_,rfl⟩
  have hbv:Below wr.heap.size wr v:=by rw [hv]; exact (Below.refl _ _).alloc (Nat.le_refl _) _
  have hxv:BK wr.heap.size #[.int .u64 x1,.int .u64 x2] 41 v:=by rw [hv]; exact BK.new _ _ _
  have hbwv:=HB.out.trans (hbv.mono HB.out.size)
  have HHS:=hid (has_any pa xs pc x1 x2 v (HPI.out v hbwv) HP.out.asc)
  rw [<-HNX.out] at HHS
  have HMKv:=hid (HMK.out.below hbv)
  obtain ⟨c0,c1⟩:=BK.c2 (show BK _ #[.int .u64 x1,.int .u64 x2] _ _ from hxv)
  have HBV:=hid hbwv
  rw [hv] at HHS c0 c1
  have HV:=hid hv
  have HTK:Hid (base.take (m + 1)=base.take m ++ [(x1,x2)]):=hid htk
  have HMB:Hid ((x1,x2) ∈ base):=hid hmb
  subst haa
  clear hv hbv hxv hbwv htk HB HMK hmb
  go_wp2_with fail
  (with_reducible refine (HHS.out).mono ?_)
  rintro e u ⟨rfl,hbu⟩
  rw [<-HV.out] at hbu
  have HBU:=hid (HBV.out.trans (hbu.mono HBV.out.size))
  have HMKu:=hid (HMKv.out.below hbu)
  clear HHS c0 c1 HV hbu HBV HMKv
  cases hh:hasS xs (x1,x2) with
  | false=>
   have HR2:Hid (R=([],8)):=hid (by
    have h2:=HPE2.out
    have h3:bsE xs base=8:=by
     unfold bsE
     rw [if_neg (fun h=>by rw [List.all_eq_true.1 h _ HMB.out] at hh; cases hh)]
    rw [h3] at h2
    rw [HR.out]; unfold packS; rw [h2]; rfl)
   clear HR HPE2
   go_wp2_with fail
   go_ret2
   exact ⟨by rw [HR2.out]; first | done | rfl,HBU.out⟩
  | true=>
   have HHA2:Hid (∀ d ∈ base.take (m + 1),hasS xs d=true):=hid (fun d hd=>by
    rw [HTK.out] at hd
    rcases List.mem_append.1 hd with h | h
    ·exact HHA.out d h
    ·rw [List.mem_singleton.1 h]; exact hh)
   clear HHA hh
   go_wp2_with fail
   go_roundw
   case rel=>exact ⟨m + 1,by omega,by go_num,HMKu,HBU,HHA2⟩
   case measure=>simp [intOf] <;> omega
 case neg=>
 obtain rfl:m=nb:=by omega
 have hmi:¬ (m:Int) < (m:Int):=by omega
 have HR2:Hid (R=(sealS (packB xs l base),0)):=hid (by
  have h2:=HPE2.out
  have h3:bsE xs base=0:=by
   unfold bsE
   have:=HHA.out
   rw [show base.take m=base from List.take_of_length_le (by have:=HNB.out; omega)] at this
   rw [if_pos (List.all_eq_true.2 this)]
  rw [h3] at h2
  rw [HR.out]; unfold packS; rw [h2]; rfl)
 have hdd:=datD_le HP.out.dat
 have HCH:=hid (choose_any (lc:=lc) (bc:=bc) (⟨(HL.out.below HB.out (Nat.le_refl _)).mono HB.out.size,(HBD.out.below HB.out (Nat.le_refl _)).mono HB.out.size,HMK.out,HOL.out,HOB.out,by rw [<-HN.out]; omega,by rw [<-HNB.out]; omega,fun d _=>hdd d,fun d _=>hdd d⟩:ChPre xs l base la ba q k wr))
 rw [<-HN.out,<-HNB.out] at HCH
 have HAS:Hid (∀ uu,Below wr.heap.size wr uu->GIn chCs 5 uu.heap.size uu (some ⟨wr.heap.size + 2,0,none⟩) (finL xs l base)->Calls Tryz.prog 32 #[.slice la j lc,.slice (some ⟨wr.heap.size + 2,0,none⟩) j j,.map (some q)] uu fun e w'=>e = .returned (.string ⟨(sealS (packB xs l base)).toArray⟩)/\Below uu.heap.size uu w'):=hid (fun uu hb hg=>by
  have hbb:=HB.out.trans (hb.mono HB.out.size)
  have:=assemble_any (lc:=lc) (cc:=j) (ca:=some ⟨wr.heap.size + 2,0,none⟩) ((HL.out.below hbb (Nat.le_refl _)).mono hbb.size) hg (finL_len xs l base) (HMK.out.below hb) (by rw [<-HN.out]; omega) HOL.out (finL_ok hdd HOL.out HOB.out) (fun d _=>by have:=hdd d; omega)
  rw [body_fin,finL_len,<-HN.out] at this
  exact this)
 clear HR HPE2 HHA hdd
 go_wp2_with fail
 (with_reducible refine (HCH.out).mono ?_)
 rintro e uu ⟨rfl,HG,hbu⟩
 have HA2:=hid (HAS.out uu hbu HG.out)
 have HB2:=hid (HB.out.trans (hbu.mono HB.out.size))
 clear HCH HAS hbu HG HB HMK
 go_wp2_with fail
 (with_reducible refine (HA2.out).mono ?_)
 rintro e u3 ⟨rfl,hb3⟩
 have HB3:=hid (HB2.out.trans (hb3.mono HB2.out.size))
 clear hb3 HB2 HA2
 go_wp2_with fail
 go_ret2
 exact ⟨by rw [HR2.out]; first | done | rfl,HB3.out⟩
end Go.Proofs.YtijkieiihpiljaaGreat
