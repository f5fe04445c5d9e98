/- Joined texts: PkJa, PkJb, PkJc, PkJd, PkJe. -/
import Derived.Test.YtijkieiihpiljaaGreatP9
import Derived.Test.YtijkieiihpiljaaGreatP1
import Derived.Test.YtijkieiihpiljaaGreatP8
import Derived.Test.YtijkieiihpiljaaGreatK6
import Derived.Test.YtijkieiihpiljaaGreatP5
import Derived.Laws.EntriesVeiled
import Derived.Test.YtijkieiihpiljaaGreatK2
/- Deltas: what join holds; its flush. -/
set_option maxRecDepth 100000
set_option maxHeartbeats 16000000
open Go.Lib (hid)
namespace Go.Proofs.YtijkieiihpiljaaGreat
open Go.RowKit Go.Shelf
set_option linter.unusedVariables false
theorem bldLen_any {B b:Nat} {bs:List Value} {W:World} (h:Lib.IsBuilderF 125 5 B b bs W):Calls Tryz.prog 142 #[.pointer (some ⟨b,0,none⟩)] W fun e w'=>e = .returned (.int .i64 (bs.length:Int))/\w' = W:=by
 have key:∃ a c,W.cell? ⟨b,1,none⟩=some (.slice a bs.length c):=by
  rcases h with ⟨_,v,hb,hown,_⟩ | ⟨_,v,hb,hown,_⟩
  all_goals
   have hc:W.cell? ⟨b,1,none⟩=some v:=by rw [Lib.cell_of_heap hb]; rfl
   rcases hown.2 with ⟨rfl,h0⟩ | ⟨g,cap,cur,fz,rfl,_⟩
   ·exact ⟨none,0,by rw [hc,h0]⟩
   ·exact ⟨_,_,hc⟩
 obtain ⟨a,c,hc⟩:=key
 generalize bs.length=n at *
 clear h
 go_enter Tryz.func142,Tryz.ntmps142
 go_wp2_with fail
 go_ret
 exact ⟨rfl,rfl⟩
theorem bldReset_any {B b:Nat} {bs:List Value} {W:World} (h:Lib.IsBuilderF 125 5 B b bs W):Calls Tryz.prog 143 #[.pointer (some ⟨b,0,none⟩)] W fun e w'=>e = .returned (.tuple #[])/\w' = (W.setCell ⟨b,0,none⟩ (.pointer none)).setCell ⟨b,1,none⟩ (.slice none 0 0):=by
 have key:∃ p v,BK b #[p,v] 125 W:=by
  rcases h with ⟨_,v,hb,_,_⟩ | ⟨_,v,hb,_,_⟩
  ·exact ⟨_,_,hb⟩
  ·exact ⟨_,_,hb⟩
 obtain ⟨p,v,hb⟩:=key
 have hb2:BK b #[.pointer none,v] 125 (W.setCell ⟨b,0,none⟩ (.pointer none)):=hb.set 0 (.pointer none)
 obtain ⟨c0,c1⟩:=BK.c2 (show BK _ #[p,v] _ _ from hb)
 obtain ⟨fc0,fc1⟩:=BK.f2 (hb)
 obtain ⟨d0,d1⟩:=BK.c2 (show BK _ #[.pointer none,v] _ _ from hb2)
 obtain ⟨fd0,fd1⟩:=BK.f2 (hb2)
 clear h hb hb2
 go_enter Tryz.func143,Tryz.ntmps143
 go_wp2_with fail
 go_end0
 exact ⟨rfl,rfl⟩
theorem reset_fresh {B b:Nat} {bs:List Value} {W:World} (h:Lib.IsBuilderF 125 5 B b bs W):BK b #[.pointer none,.slice none 0 0] 125 ((W.setCell ⟨b,0,none⟩ (.pointer none)).setCell ⟨b,1,none⟩ (.slice none 0 0)):=by
 have key:∃ p v,BK b #[p,v] 125 W:=by
  rcases h with ⟨_,v,hb,_,_⟩ | ⟨_,v,hb,_,_⟩
  ·exact ⟨_,_,hb⟩
  ·exact ⟨_,_,hb⟩
 obtain ⟨p,v,hb⟩:=key
 have hb2:BK b #[.pointer none,v] 125 (W.setCell ⟨b,0,none⟩ (.pointer none)):=hb.set 0 (.pointer none)
 exact hb2.set 1 (.slice none 0 0)
structure FrK (M N:Nat) (W W':World):Prop where
 fr:∀ k o,M<=k->k < N->W.heap[k]? = some o->notBytes o->W'.heap[k]? = some o
 ot:KeepsOthers W W'
 fn:∀ (k:Nat) (cs:Array Value) (f:Nat × Nat),W.heap[k]? = some (Obj.cells cs 1 f)->W'.heap[k]? = some (Obj.cells cs 1 f)
theorem FrK.refl (M N:Nat) (W:World):FrK M N W W:=⟨fun _ _ _ _ h _=>h,KeepsOthers.refl W,fun _ _ _ h=>h⟩
theorem FrK.trans {M N:Nat} {A B C:World} (h:FrK M N A B) (g:FrK M N B C):FrK M N A C:=⟨fun k o h1 h2 h3 h4=>g.fr k o h1 h2 (h.fr k o h1 h2 h3 h4) h4,h.ot.trans g.ot,fun k cs f h1=>g.fn k cs f (h.fn k cs f h1)⟩
theorem FrK.below {M N:Nat} {W W':World} (hb:Below W.heap.size W W'):FrK M N W W':=
 ⟨fun k o _ _ h _=>(hb.block k (Array.getElem?_eq_some_iff.1 h).1).trans h,⟨hb.size,fun k o h _=>(hb.block k (Array.getElem?_eq_some_iff.1 h).1).trans h⟩,fun k cs f h=>(hb.block k (Array.getElem?_eq_some_iff.1 h).1).trans h⟩
theorem FrK.grown {M N k0:Nat} {W W':World} (hg:W.grownBy W' (some k0)) (hk:k0 < M\/N<=k0) (hc:∃ cs e f,W.heap[k0]? = some (.cells cs e f)/\e ≠ 1):FrK M N W W':=by
 refine ⟨fun k o h1 h2 h _=>(hg.block k (Array.getElem?_eq_some_iff.1 h).1 (fun e=>by cases e; omega)).trans h,⟨hg.size,fun k o h ho=>(hg.block k (Array.getElem?_eq_some_iff.1 h).1 (fun e=>?_)).trans h⟩,fun k c1 f1 h=>(hg.block k (Array.getElem?_eq_some_iff.1 h).1 (fun e=>?_)).trans h⟩
 ·obtain ⟨cs,t,f,hcs,_⟩:=hc
  cases e
  rw [hcs] at h
  cases h
  cases ho
 ·obtain ⟨cs,t,f,hcs,ht⟩:=hc
  cases e
  rw [hcs] at h
  injection h with h
  injection h with _ h2 _
  exact ht h2
theorem FrK.own {M N:Nat} {W W':World} {B:Nat} {e:TypeId} {z n:Nat} {v:Value} {xs:List Value} (ho:W.ownsRow B e z v n xs) (hg:W.grownBy W' v.ownBlock) (hk:∀ k,v.ownBlock=some k->k < M\/N<=k) (he:e ≠ 1):FrK M N W W':=by
 cases hv:v.ownBlock with
 | none=>
  rw [hv] at hg
  exact ⟨fun k o _ _ h _=>(hg.block k (Array.getElem?_eq_some_iff.1 h).1 (by simp)).trans h,⟨hg.size,fun k o h _=>(hg.block k (Array.getElem?_eq_some_iff.1 h).1 (by simp)).trans h⟩,fun k cs f h=>(hg.block k (Array.getElem?_eq_some_iff.1 h).1 (by simp)).trans h⟩
 | some k=>
  rw [hv] at hg
  obtain ⟨c,hc⟩:=own_kind ho k hv
  exact FrK.grown hg (hk k hv) ⟨c,e,_,hc,he⟩
theorem FrK.bld {M N b:Nat} {W W':World} (hk:Kept b W W') (hs:W.heap.size<=W'.heap.size) (hb:b < M) (hc:∃ cs e f,W.heap[b]? = some (.cells cs e f)/\e ≠ 1):FrK M N W W':=by
 refine ⟨fun k o h1 h2 h hn=>hk k o h (fun e=>by cases e; omega) hn,⟨hs,fun k o h ho=>hk k o h (fun e=>?_) (fun c f e=>by subst e; cases ho)⟩,fun k c1 f1 h=>hk k _ h (fun e=>?_) (fun c f e=>by injection e with _ h2 _; exact absurd h2 (by decide))⟩
 ·obtain ⟨cs,t,f,hcs,_⟩:=hc
  cases e
  rw [hcs] at h
  cases h
  cases ho
 ·obtain ⟨cs,t,f,hcs,ht⟩:=hc
  cases e
  rw [hcs] at h
  injection h with h
  injection h with _ h2 _
  exact ht h2
structure JSt (B M N lb tb:Nat) (va:Option Addr) (vc:Nat) (st:List Dop × List UInt8) (W:World):Prop where
 bld:Lib.IsBuilderF 125 5 B tb (Lib.byteCells st.2) W
 box:BK lb #[.slice va st.1.length vc] 143 W
 row:W.ownsRow B 180 3 (.slice va st.1.length vc) st.1.length (gcs opCs st.1)
 own:∀ k,(Value.slice va st.1.length vc).ownBlock=some k->k < M\/N<=k
 lo:B<=lb/\B<=tb/\lb < M/\tb < M
 nn:N<=W.heap.size
section
variable {B M N lb tb vc:Nat} {va:Option Addr} {st:List Dop × List UInt8} {W W':World}
theorem bld_cells {b:Nat} {bs:List Value} (h:Lib.IsBuilderF 125 5 B b bs W):∃ p v,BK b #[p,v] 125 W:=by
 rcases h with ⟨_,v,hb,_,_⟩ | ⟨_,v,hb,_,_⟩
 ·exact ⟨_,_,hb⟩
 ·exact ⟨_,_,hb⟩
theorem JSt.ne (h:JSt B M N lb tb va vc st W):lb ≠ tb:=fun e=>by
 obtain ⟨p,v,hb⟩:=bld_cells h.bld
 have h1:W.heap[lb]? = _:=h.box
 rw [e,show W.heap[tb]? = _ from hb] at h1
 cases h1
theorem JSt.below (h:JSt B M N lb tb va vc st W) (hb:Below W.heap.size W W'):JSt B M N lb tb va vc st W':=⟨bldF_below h.bld hb,h.box.below hb,own_below h.row hb,h.own,h.lo,Nat.le_trans h.nn hb.size⟩
theorem JSt.wrote (h:JSt B M N lb tb va vc st W) {t:List UInt8} (hb:Lib.IsBuilderF 125 5 B tb (Lib.byteCells t) W') (hk:Kept tb W W') (hg:Below B W W'):JSt B M N lb tb va vc (st.1,t) W'/\FrK M N W W':=by
 obtain ⟨p,v,hbk⟩:=bld_cells h.bld
 have hs:=hg.size
 refine ⟨⟨hb,(hk lb _ h.box (fun e=>h.ne (Option.some.inj e)) (fun c f e=>by injection e with _ h2 _; exact absurd h2 (by decide))),?_,h.own,h.lo,Nat.le_trans h.nn hs⟩,FrK.bld hk hs h.lo.2.2.2 ⟨_,_,_,hbk,by decide⟩⟩
 rcases h.row.2 with ⟨h1,h2⟩ | ⟨g,c,cur,h1,h2,h3,h4⟩
 ·exact ⟨h.row.1,.inl ⟨h1,h2⟩⟩
 ·refine ⟨h.row.1,.inr ⟨g,c,cur,h1,h2,hk g _ h3 (fun e=>?_) (fun c f e=>by injection e with _ h2 _; exact absurd h2 (by decide)),h4⟩⟩
  cases e
  rw [show W.heap[tb]? = _ from hbk] at h3
  injection h3 with h3
  injection h3 with _ h5 _
  exact absurd h5 (by decide)
theorem JSt.push (h:JSt B M N lb tb va vc st W) (x:Dop) (hl:(st.1.length:Int)<=1000000):∃ va' vc' W1,Hid ((Builtin.append_ #[143,143] 143 #[.slice va st.1.length vc,.slice (some ⟨W.heap.size,0,none⟩) 1 1]).run Tryz.prog (W.alloc (.cells (opCs x).toArray 180)) = .ok (.slice va' (st.1.length + 1) vc') W1)/\BK lb #[.slice va st.1.length vc] 143 W1/\
  JSt B M N lb tb va' vc' (st.1 ++ [x],st.2) (W1.setCell ⟨lb,0,none⟩ (.slice va' (st.1.length + 1) vc'))/\FrK M N W (W1.setCell ⟨lb,0,none⟩ (.slice va' (st.1.length + 1) vc'))/\Below B W (W1.setCell ⟨lb,0,none⟩ (.slice va' (st.1.length + 1) vc')):=by
 have hlb:=h.box.lt
 have hlo:=h.lo
 have hnn:=h.nn
 obtain ⟨v',W1,hrun,hown,hg,hat⟩:=append_op rfl h.row x hl (by omega)
 obtain ⟨va',vc',rfl,_⟩:=ownsRow_sliceN hown
 have hbw:Below W.heap.size W (W.alloc (.cells (opCs x).toArray 180)):=(Below.refl _ _).alloc (Nat.le_refl _) _
 have h2:=h.below hbw
 have hbx:BK lb #[.slice va st.1.length vc] 143 W1:=h2.box.grow hg (fun k e hk=>row_box h2.row h2.box (by decide) (by rw [e,hk]))
 have hg2:=gset W1 lb 0 (.slice va' (st.1.length + 1) vc')
 have hf1:=FrK.own (M:=M) (N:=N) h2.row hg h.own (by decide)
 have hl':(st.1 ++ [x]).length=st.1.length + 1:=by simp
 have hnt:∀ k,(Value.slice va st.1.length vc).ownBlock=some k->k ≠ tb:=fun k e hk=>by
  subst hk
  obtain ⟨c,hc⟩:=own_kind h.row k e
  obtain ⟨p,v,hbk⟩:=bld_cells h.bld
  rw [show W.heap[k]? = _ from hbk] at hc
  injection hc with hc
  injection hc with _ h5 _
  exact absurd h5 (by decide)
 have hkb:Lib.IsBuilderF 125 5 B tb (Lib.byteCells st.2) W1:=by
  have key:∀ p,Lib.BuilderAtF 125 5 B tb p (Lib.byteCells st.2) (W.alloc (.cells (opCs x).toArray 180))->Lib.BuilderAtF 125 5 B tb p (Lib.byteCells st.2) W1:=by
   rintro p ⟨hB,v,hbk,ho,hne⟩
   refine ⟨hB,v,(hg.block tb (Array.getElem?_eq_some_iff.1 hbk).1 (fun e=>hnt tb e.symm rfl)).trans hbk,ho.kept hg ?_,hne⟩
   cases hv:v.ownBlock with
   | none=>exact .inl rfl
   | some k=>
    refine .inr (fun e=>?_)
    obtain ⟨c,f,hc⟩:=Lib.ownsRowF_kind ho k hv
    obtain ⟨c',hc'⟩:=own_kind h2.row k e.symm
    rw [hc] at hc'
    injection hc' with hc'
    injection hc' with _ h5 _
    exact absurd h5 (by decide)
  exact h2.bld.elim (fun x=>.inl (key _ x)) (fun x=>.inr (key _ x))
 have hsz:=hg.size
 have hs1:(W.alloc (.cells (opCs x).toArray 180)).heap.size=W.heap.size + 1:=by simp
 refine ⟨va',vc',W1,hrun,hbx,⟨bldF_set hkb (show W1.heap[lb]? = _ from hbx) h.ne (by decide) _,?_,?_,?_,hlo,?_⟩,((FrK.below hbw).trans hf1).trans (FrK.grown hg2 (.inl hlo.2.2.1) ⟨_,_,_,hbx,by decide⟩),?_⟩
 ·rw [hl']; exact hbx.set 0 _
 ·rw [hl']; exact hown.kept hg2 (.inr (row_box hown hbx (by decide)))
 ·rw [hl']
  intro k e
  rcases hat with h1 | h1
  ·rw [h1] at e; exact h.own k e
  ·rw [h1] at e; cases e; omega
 ·have:(W1.setCell ⟨lb,0,none⟩ (.slice va' (st.1.length + 1) vc')).heap.size=W1.heap.size:=by simp [World.setCell]
  omega
 ·exact ((hbw.mono (by omega)).grown hg (by omega) (fun k e=>(h.row.lt k e).1)).setCell hlo.1 _
end
theorem JSt.reset {B M N lb tb vc:Nat} {va:Option Addr} {st:List Dop × List UInt8} {W:World} (h:JSt B M N lb tb va vc st W):JSt B M N lb tb va vc (st.1,[]) ((W.setCell ⟨tb,0,none⟩ (.pointer none)).setCell ⟨tb,1,none⟩ (.slice none 0 0))/\FrK M N W ((W.setCell ⟨tb,0,none⟩ (.pointer none)).setCell ⟨tb,1,none⟩ (.slice none 0 0))/\Below B W ((W.setCell ⟨tb,0,none⟩ (.pointer none)).setCell ⟨tb,1,none⟩ (.slice none 0 0)):=by
 obtain ⟨p,v,hb⟩:=bld_cells h.bld
 have hg:=gown (gset W tb 0 (.pointer none)) 1 (.slice none 0 0)
 have hf:=reset_fresh h.bld
 have hrt:(Value.slice va st.1.length vc).ownBlock ≠ some tb:=row_box h.row hb (by decide)
 refine ⟨⟨fresh_at h.lo.2.1 hf,(h.box.other h.ne.symm _ _).other h.ne.symm _ _,h.row.kept hg (.inr hrt),h.own,h.lo,?_⟩,FrK.grown hg (.inl h.lo.2.2.2) ⟨_,_,_,hb,by decide⟩,((Below.refl B W).setCell h.lo.2.1 _).setCell h.lo.2.1 _⟩
 have:=hg.size
 exact Nat.le_trans h.nn this
theorem flush_any {B M N lb tb vc:Nat} {va:Option Addr} {st:List Dop × List UInt8} {W:World} (h:JSt B M N lb tb va vc st W) (hl:(st.1.length:Int)<=1000000) (ht:(st.2.length:Int)<=1000000) :
  Calls Tryz.prog 141 #[.pointer (some ⟨tb,0,none⟩),.pointer (some ⟨lb,0,none⟩)] W fun e w'=>e = .returned (.tuple #[])/\Hid (∃ va' vc',JSt B M N lb tb va' vc' (jnF st,[]) w'/\FrK M N W w'/\Below B W w'):=by
 obtain ⟨L,t⟩:=st
 have HLN:=hid (bldLen_any h.bld)
 rw [show (Lib.byteCells t).length=t.length from Lib.byteCells_length t] at HLN
 by_cases h0:t=[]
 ·subst h0
  have HR:Hid (∃ va' vc',JSt B M N lb tb va' vc' (jnF (L,[]),[]) W/\FrK M N W W/\Below B W W):=hid ⟨va,vc,h,FrK.refl _ _ _,Below.refl _ _⟩
  clear h
  go_enter Tryz.func141,Tryz.ntmps141
  go_wp2_with fail
  (with_reducible refine (HLN.out).mono ?_)
  rintro e u ⟨rfl,rfl⟩
  go_wp2_with fail
  go_end0
  exact ⟨rfl,HR⟩
 ·have hd:JSt B M N lb tb va vc (L,t) W.drew:=h.below ((Below.refl _ _).drew)
  have hpos:0 < t.length:=List.length_pos_iff.2 h0
  have HST:=hid (bldString_k B tb t W.drew hd.bld h0)
  have HBX:=hid hd
  have hjn:jnF (L,t)=L ++ [⟨0,0,t⟩]:=by unfold jnF; simp only; rw [if_neg h0]
  rw [hjn]
  obtain ⟨tl,htl⟩:∃ tl,tl=t.length:=⟨_,rfl⟩
  rw [<-htl] at HLN hpos
  have hti:(0:Int) < (tl:Int):=by omega
  have hlb0:=hd.box.c1
  simp only at hl hlb0
  have hb0:Below B W W.drew:=(Below.refl _ _).drew
  have HF0:Hid (FrK M N W W.drew):=hid (FrK.below ((Below.refl _ _).drew))
  obtain ⟨n,hn⟩:∃ n,n=L.length:=⟨_,rfl⟩
  have HN:Hid (n=L.length):=hid hn
  rw [<-hn] at hlb0 hl
  clear h hd hjn htl hn
  go_enter Tryz.func141,Tryz.ntmps141
  go_wp2_with fail
  (with_reducible refine (HLN.out).mono ?_)
  rintro e u ⟨rfl,rfl⟩
  go_wp2_with fail
  refine wp_region_L (S:=(fun Wx=>Wx.cell? ⟨lb,0,none⟩=some (.slice va n vc))) [5] (by kernel_rfl) hlb0 (fun hHeld=>?_)
  refine anyL_take (i:=0) (v:=?vv1) rfl (by kernel_rfl) (by kernel_rfl) (by kernel_rfl) (by kernel_rfl) (fun _ _ _ h=>h) (Or.inl ⟨by rfl,?hy1⟩) (by assumption) ?rest1
  case hy1=>(intro wx hSw; (try dsimp only at hSw); go_simp; try (with_reducible rfl))
  simp only [Act.put,zA,zC,zD,zE,zF]
  refine anyL_one (i:=1) (by kernel_rfl) rfl (fun K hK=>?_)
  go_simp
  (with_reducible refine (HST.out).mono ?_)
  rintro e u ⟨rfl,hb1,hb2,hb3⟩
  have hst1:Lib.IsBuilderF 125 5 B tb (Lib.byteCells t) u:=hb1
  obtain ⟨hj1,hf1⟩:=HBX.out.wrote hst1 hb3 hb2
  obtain ⟨va',vc',W1,hrun,hbx1,hj2,hf2,hB2⟩:=hj1.push ⟨0,0,t⟩ (by rw [<-HN.out]; exact hl)
  simp only [<-HN.out] at hrun hbx1 hj2 hf2 hB2
  obtain ⟨hj3,hf3,hB3⟩:=hj2.reset
  have HRS:=hid (bldReset_any hj2.bld)
  have HF:=hid (((HF0.out.trans hf1).trans hf2).trans hf3)
  have HBB:=hid (((hb0.trans hb2).trans hB2).trans hB3)
  have HJ:=hid hj3
  have hlb1:u.cell? ⟨lb,0,none⟩=some (.slice va n vc):=by have:=hj1.box.c1; simp only [<-HN.out] at this; exact this
  have hlb2:(u.alloc (.cells (opCs ⟨0,0,t⟩).toArray 180)).cell? ⟨lb,0,none⟩=some (.slice va n vc):=by
   have hba:Below u.heap.size u (u.alloc (.cells (opCs ⟨0,0,t⟩).toArray 180)):=(Below.refl _ _).alloc (Nat.le_refl _) _
   exact (hba.cell hj1.box.lt).trans hlb1
  have hlb3:W1.cell? ⟨lb,0,none⟩=some (.slice va n vc):=hbx1.c1
  have hf3':W1.frozen? ⟨lb,0,none⟩=false:=hbx1.frozen 0
  have HRUN:=hrun
  have HL1:=hid hlb1
  have HL2:=hid hlb2
  simp only [opCs,show ((0:Nat):Int)=0 from rfl] at HRUN HL2
  clear hrun hbx1 hj2 hf2 hB2 hj3 hf3 hB3 hj1 hf1 hst1 hb1 hb2 hb3 HST HBX hb0 HF0 hlb1 hlb2 HLN hHeld hlb0
  have hlb1:=HL1.out
  refine hK.out _ _ ((fun _=>hlb1)) (fun hHeld=>?_)
  clear hK K
  refine anyL_take (i:=2) (v:=?vv2) rfl (by kernel_rfl) (by kernel_rfl) (by kernel_rfl) (by kernel_rfl) (fun _ _ _ h=>h) (Or.inl ⟨by rfl,?hy2⟩) (by assumption) ?rest2
  case hy2=>(intro wx hSw; (try dsimp only at hSw); go_simp; try (with_reducible rfl))
  simp only [Act.put,zA,zB,zC,zD,zE,zF]
  refine anyL_one (i:=3) (by kernel_rfl) rfl (fun K hK=>?_)
  go_simp
  have hlb2:=HL2.out
  clear hHeld hlb1
  refine hK.out _ _ ((fun _=>hlb2)) (fun hHeld=>?_)
  clear hK K
  refine anyL_one (i:=4) (by kernel_rfl) rfl (fun K hK=>?_)
  refine step_append_run (by rfl) (.tmp 4) (.tmp 7) _ _ (by rfl) _ _ (by rfl) (by rfl) _ _ HRUN.out ?_
  clear hHeld hlb2
  refine hK.out _ _ ((fun _=>hlb3)) (fun hHeld=>?_)
  clear hK K
  refine anyL_one (i:=5) (by kernel_rfl) rfl (fun K hK=>?_)
  go_simp
  refine hK.out _ _ ((fun h=>absurd h (by decide))) (fun hHeld=>?_)
  clear hK K
  refine anyL_done (by kernel_rfl) ?_ _
  clear hHeld hlb3 hf3' HRUN HL1 HL2
  go_wp2_with fail
  (with_reducible refine (HRS.out).mono ?_)
  rintro e x ⟨rfl,rfl⟩
  clear HRS
  go_wp2_with fail
  go_end0
  exact ⟨rfl,hid ⟨va',vc',HJ.out,HF.out,HBB.out⟩⟩
section
attribute [local go_sem] Oper.semAt_some
theorem IterS.later {α:Type} {F:Fence} {m:Nat} {P:Program} {gf:FuncId} {lb:Array Value} {K:Nat->Prop} {enc:α->Value} {ok:List α->α->Prop} {xs:List α} {w w':World} (h:IterS F m P gf lb K enc ok xs w) (hb:Below w.heap.size w w'):IterS F m P gf lb K enc ok xs w':=
 fun l J Y hJ hY hYl W hW h0=>h l J Y hJ hY hYl W (hb.trans (hW.mono hb.size)) h0
theorem JSt.renew {B M N lb tb vc:Nat} {va:Option Addr} {st:List Dop × List UInt8} {W:World} (h:JSt B M N lb tb va vc st W) {M' N':Nat} (hM:W.heap.size<=M') (hN:N'<=W.heap.size):JSt B M' N' lb tb va vc st W:=by
 obtain ⟨p,v,hb⟩:=bld_cells h.bld
 exact ⟨h.bld,h.box,h.row,fun k e=>.inl (Nat.lt_of_lt_of_le (h.row.lt k e).2 hM),⟨h.lo.1,h.lo.2.1,Nat.lt_of_lt_of_le h.box.lt hM,Nat.lt_of_lt_of_le hb.lt hM⟩,hN⟩
structure JI (w:World) (st:List Dop × List UInt8) (W:World):Prop where
 st:∃ va vc,JSt w.heap.size W.heap.size W.heap.size w.heap.size (w.heap.size + 1) va vc st W
 fn:BK (w.heap.size + 2) #[.func (.func 141) #[] #[.pointer (some ⟨w.heap.size + 1,0,none⟩),.pointer (some ⟨w.heap.size,0,none⟩)]] 1 W
 bel:Below w.heap.size w W
theorem JI.below {w W W':World} {st:List Dop × List UInt8} (h:JI w st W) (hb:Below W.heap.size W W'):JI w st W':=by
 obtain ⟨⟨va,vc,h1⟩,h2,h3⟩:=h
 exact ⟨⟨va,vc,(h1.below hb).renew (Nat.le_refl _) (Nat.le_refl _)⟩,h2.below hb,h3.trans (hb.mono h3.size)⟩
theorem JSt.putObj {B M N lb tb vc:Nat} {va:Option Addr} {st:List Dop × List UInt8} {W:World} (h:JSt B M N lb tb va vc st W) {l:Nat} {o o':Obj} (hl:W.heap[l]? = some o) (ho:o.isCells=false):JSt B M N lb tb va vc st (W.putObj l o'):=by
 have hg:=grownBy_putObj' W l o'
 refine ⟨bldF_put h.bld hl ho,h.box.grow hg (fun k e hk=>?_),h.row.kept hg ?_,h.own,h.lo,by simpa using h.nn⟩
 ·cases e
  rw [hk,show W.heap[lb]? = _ from h.box] at hl
  cases hl; cases ho
 ·cases hv:(Value.slice va st.1.length vc).ownBlock with
  | none=>exact .inl rfl
  | some k=>
   refine .inr (fun e=>?_)
   cases e
   obtain ⟨c,hc⟩:=own_kind h.row l hv
   rw [hc] at hl
   cases hl; cases ho
theorem JI.putObj {w W:World} {st:List Dop × List UInt8} (h:JI w st W) {l:Nat} {o o':Obj} (hlo:w.heap.size<=l) (hl:W.heap[l]? = some o) (ho:o.isCells=false):JI w st (W.putObj l o'):=by
 obtain ⟨⟨va,vc,h1⟩,h2,h3⟩:=h
 refine ⟨⟨va,vc,(h1.putObj hl ho).renew (by simp) (by simp)⟩,(World.putObj_heap_other (fun e=>?_)).trans h2,below_put h3 hlo⟩
 rw [<-e,show W.heap[w.heap.size + 2]? = _ from h2] at hl
 cases hl; cases ho
def okP (xs:List Dop) (pre:List Dop) (x:Dop):Prop:=(pre ++ [x]) <+: xs
theorem JSt.write {B M N lb tb vc:Nat} {va:Option Addr} {st:List Dop × List UInt8} {W:World} (h:JSt B M N lb tb va vc st W) (s:List UInt8) (hl:(st.2.length:Int) + s.length<=140737488355328) (hB:B<=W.heap.size) :
  Calls Tryz.prog 68 #[.pointer (some ⟨tb,0,none⟩),.string ⟨s.toArray⟩] W fun e w'=>e = .returned (.tuple #[.int .i64 s.length,.nilIface])/\Hid (JSt B M N lb tb va vc (st.1,st.2 ++ s) w'/\FrK M N W w'/\Below B W w'):=by
 refine (writeString_k B tb (Lib.byteCells st.2) ⟨s.toArray⟩ W h.bld (by rw [Lib.byteCells_length,ba_len]; omega) hB).mono ?_
 rintro e x ⟨rfl,h1,h2,h3⟩
 refine ⟨by rw [ba_len],hid ?_⟩
 have hb:Lib.IsBuilderF 125 5 B tb (Lib.byteCells (st.2 ++ s)) x:=by
  refine .inr ?_
  rw [byteCells_append]
  have:=h1
  rwa [strCells_eq] at this
 obtain ⟨g1,g2⟩:=h.wrote hb h3 h2
 exact ⟨g1,g2,h2⟩
theorem JSt.setAt {B M N lb tb vc:Nat} {va:Option Addr} {st:List Dop × List UInt8} {W:World} (h:JSt B M N lb tb va vc st W) {i:Nat} (hi:i < st.1.length):∃ g,va=some ⟨g,0,none⟩/\(∀ j,W.frozen? ⟨g,j,none⟩=false)/\(∀ j,j < 3->W.cell? ⟨g,i * 3 + j,none⟩=(opCs st.1[i])[j]?)/\
  ∀ (o:Dop) (j:Nat) (u:Value),j < 3->opCs o=(opCs st.1[i]).set j u->JSt B M N lb tb va vc (st.1.set i o,st.2) (W.setCell ⟨g,i * 3 + j,none⟩ u)/\FrK M N W (W.setCell ⟨g,i * 3 + j,none⟩ u)/\Below B W (W.setCell ⟨g,i * 3 + j,none⟩ u):=by
 obtain ⟨g,c,cur,hs,hc,hB,hgl,hbk⟩:=own_at h.row (by omega)
 cases hs
 refine ⟨g,rfl,fun j=>hbk.frozen j,fun j hj=>?_,fun o j u hj ho=>?_⟩
 ·rw [h.row.cellAt (i * 3 + j) (by omega),gcs_at layOp st.1 i hi j hj]
 ·have hg2:=gset W g (i * 3 + j) u
  have hnb:g ≠ lb:=fun e=>row_box h.row h.box (by decide) (by rw [<-e]; rfl)
  obtain ⟨p,v,hb⟩:=bld_cells h.bld
  have hnt:g ≠ tb:=fun e=>row_box h.row hb (by decide) (by rw [<-e]; rfl)
  have key:∀ p,Lib.BuilderAtF 125 5 B tb p (Lib.byteCells st.2) W->Lib.BuilderAtF 125 5 B tb p (Lib.byteCells st.2) (W.setCell ⟨g,i * 3 + j,none⟩ u):=by
   rintro p ⟨hB,v,hbk2,ho,hne⟩
   refine ⟨hB,v,(hg2.block tb (Array.getElem?_eq_some_iff.1 hbk2).1 (fun e=>hnt (Option.some.inj e).symm)).trans hbk2,ho.kept hg2 ?_,hne⟩
   cases hv:v.ownBlock with
   | none=>exact .inl rfl
   | some k=>
    refine .inr (fun e=>?_)
    cases e
    obtain ⟨c,f,hc⟩:=Lib.ownsRowF_kind ho _ hv
    rw [show W.heap[g]? = _ from hbk] at hc
    injection hc with hc
    injection hc with _ h5 _
    exact absurd h5 (by decide)
  refine ⟨⟨h.bld.elim (fun x=>.inl (key _ x)) (fun x=>.inr (key _ x)),?_,?_,?_,h.lo,Nat.le_trans h.nn hg2.size⟩,FrK.grown hg2 (h.own g rfl) ⟨_,_,_,hbk,by decide⟩,(Below.refl B W).setCell hB _⟩
  ·rw [List.length_set]; exact h.box.other hnb _ _
  ·rw [List.length_set]; exact own_setG layOp h.row rfl hi hj u o ho
  ·rw [List.length_set]; exact h.own
theorem foldl_snoc (st:List Dop × List UInt8) (pre:List Dop) (x:Dop):(pre ++ [x]).foldl jnS st=jnS (pre.foldl jnS st) x:=by rw [List.foldl_append]; rfl
structure JBd (xs:List Dop):Prop where
 at_:∀ pre x,okP xs pre x->fitO x/\x.off + x.len<=1000000/\(pre.foldl jnS ([],[])).1.length<=900000/\(pre.foldl jnS ([],[])).2.length + x.data.length<=900000/\∀ y ∈ (pre.foldl jnS ([],[])).1,y.off + y.len<=1000000
 fin:(xs.foldl jnS ([],[])).1.length<=900000/\(xs.foldl jnS ([],[])).2.length<=900000
abbrev joinR (xs:List Dop):List Dop:=jnF (xs.foldl jnS ([],[]))
theorem jnF_le (st:List Dop × List UInt8):(jnF st).length<=st.1.length + 1:=by unfold jnF; split <;> simp
theorem jnF_mem {st:List Dop × List UInt8} {y:Dop} (h:y ∈ jnF st):y ∈ st.1\/(y.off=0/\y.len=0):=by
 unfold jnF at h
 split at h
 ·exact .inl h
 ·rcases List.mem_append.1 h with h | h
  ·exact .inl h
  ·rw [List.mem_singleton.1 h]; exact .inr ⟨rfl,rfl⟩
theorem join_any {gf:FuncId} {lb:Array Value} {B:Nat} {xs:List Dop} {w:World} (hit:IterS Fence.wide 4 Tryz.prog gf lb (fun k=>k < B) Dop.val (okP xs) xs w) (hB:B<=w.heap.size) (hen:∀ args w,(callFunc gf args).run Tryz.prog w = .ok (.enter gf args) w) (hbd:JBd xs) :
  Calls Tryz.prog 117 #[.func (.func gf) #[] lb] w fun e w'=>(∃ a c,e = .returned (.slice a (joinR xs).length c)/\GIn opCs 3 w'.heap.size w' a (joinR xs)/\(joinR xs).length<=c)/\Below w.heap.size w w':=by
 refine (callsIn_wide (n:=5)).1 ?_
 refine callsIn_of_wp_marks Tryz.func117 rfl trivial ?_ rfl
 simp only [Tryz.ntmps117,List.size_toArray,List.length_cons,List.length_nil,Nat.reduceAdd,Nat.reduceSub,Array.replicate_succ,Array.replicate_zero,List.push_toArray,List.append_toArray,List.nil_append,List.cons_append]
 have HIT:=hid hit
 have HBD:=hid hbd
 have HB:=hid hB
 obtain ⟨w1,hw1⟩:∃ w1,w1=((w.alloc (.cells #[.slice none 0 0] 143)).alloc (.cells #[.pointer none,.slice none 0 0] 125)).alloc (.cells #[.func (.func 141) #[] #[.pointer (some ⟨w.heap.size + 1,0,none⟩),.pointer (some ⟨w.heap.size,0,none⟩)]] 1):=⟨_,rfl⟩
 have hb1:Below w.heap.size w w1:=by rw [hw1]; exact (((Below.refl _ _).alloc (Nat.le_refl _) _).alloc (by simp) _).alloc (by simp; omega) _
 have h0:BK w.heap.size #[.slice none 0 0] 143 w1:=by rw [hw1]; exact ((BK.new _ _ _).alloc _).alloc _
 have h1:BK (w.heap.size + 1) #[.pointer none,.slice none 0 0] 125 w1:=by rw [hw1]; exact (BK.new2 _ _ _ _).alloc _
 have h2:BK (w.heap.size + 2) #[.func (.func 141) #[] #[.pointer (some ⟨w.heap.size + 1,0,none⟩),.pointer (some ⟨w.heap.size,0,none⟩)]] 1 w1:=by rw [hw1]; exact BK.new3 _ _ _ _ _
 have HJ0:Hid (JI w ([],[]) w1):=hid ⟨⟨none,0,fresh_at (Nat.le_succ _) h1,h0,World.ownsRow_nil _ _ _ _,by simp [Value.ownBlock],⟨Nat.le_refl _,by omega,h0.lt,h1.lt⟩,Nat.le_refl _⟩,h2,hb1⟩
 have HIT2:=hid (HIT.out.later hb1)
 have hsz:w1.heap.size=w.heap.size + 3:=by rw [hw1]; simp
 have HSZ:=hid hsz
 have HW1:=hid hw1
 clear hit hbd hB hb1 h0 h1 h2 hsz hw1
 gi_wp2
 rw [show w.heap.size + 1 + 1=w.heap.size + 2 from rfl,<-HW1.out]
 clear HW1
 refine wpIn_rangeFunc_box (α:=Dop) (bs:=6) 180 (fun x=>(opCs x).toArray) rfl (by omega) rfl trivial hen (K:=fun k=>k < B) (fun k hk=>by have:=HSZ.out; have:=HB.out; omega) HIT2.out
  (fun pre W=>JI w (pre.foldl jnS ([],[])) W) (fun _=>False) 99 (fun s W W' h hb=>h.below hb) (fun W W' h hb=>h) (fun s W l o o' hl hlo ho h=>h.putObj (by have:=HSZ.out; omega) hlo ho) (fun W l o o' _ _ _ h=>h) HJ0.out ?assign ?body ?done (fun D W _ h _=>h.elim)
 case assign=>
  intro l x W
  simp only [List.setIfInBounds_toArray,List.set_cons_zero,List.set_cons_succ]
  obtain ⟨off,len,data⟩:=x
  simp only [Dop.val,opCs]
  gi_wp2
  refine ⟨?_,?_⟩ <;> first | trivial | rfl
 case done=>
  intro D W hD hJ hK
  have hJ2:=hJ.putObj (o':=.deferred none) (by have:=HSZ.out; omega) hK rfl
  obtain ⟨⟨va,vc,hst⟩,hfn,hbel⟩:=hJ
  have hfc:=hfn.c1
  have HFL:=hid (flush_any hst (by have:=HBD.out.fin.1; omega) (by have:=HBD.out.fin.2; omega))
  have HBL:=hid hbel
  have hDl:D < W.heap.size:=(Array.getElem?_eq_some_iff.1 hK).1
  have hDw:w.heap.size<=D:=by have:=HSZ.out; omega
  clear hJ2 hst hfn hbel
  gi_wp2
  refine ⟨trivial,?_⟩
  refine (callsIn_wide.2 HFL.out).mono ?_
  rintro e u ⟨rfl,HU⟩
  obtain ⟨va',vc',hst,hfr,hbl⟩:=HU.out
  have hK2:u.heap[D]? = some (.deferred (some [])):=hfr.ot.same _ _ hK rfl
  obtain ⟨a,c,hac,hcc⟩:=ownsRow_sliceN hst.row
  cases hac
  have hlc:=hst.box.c1
  have HG:=hid (own_gin layOp rfl (hst.putObj (o':=.deferred none) hK2 rfl).row)
  have HB2:=hid (below_put (o:=.deferred none) (HBL.out.trans hbl) hDw)
  have HCC:=hid hcc
  have HK2:=hid hK2
  simp only at hlc
  clear HFL HU hst hfr hbl hcc hK hK2
  gi_wp2
  refine ⟨by simp,.inl ⟨_,_,rfl,run_takeDeferred HK2.out,?_⟩⟩
  exact ⟨_,by simp [results,Tryz.results117,go_sem],⟨_,_,rfl,HG.out,HCC.out⟩,HB2.out⟩
 case body=>
  intro l pre x W0 Wy W hl hok hJ hb0 h01 h12 hbx
  simp only [List.setIfInBounds_toArray,List.set_cons_zero,List.set_cons_succ]
  obtain ⟨⟨va,vc,hst0⟩,hfn0,hbel0⟩:=hJ
  have hJW:=(JI.below ⟨⟨va,vc,hst0⟩,hfn0,hbel0⟩ hb0)
  have hM:w.heap.size + 3<=W0.heap.size:=by have:=hfn0.lt; omega
  have hst:JSt w.heap.size W0.heap.size W.heap.size w.heap.size (w.heap.size + 1) va vc (pre.foldl jnS ([],[])) W:=
   ⟨(hst0.below hb0).bld,(hst0.below hb0).box,(hst0.below hb0).row,fun k e=>.inl (hst0.row.lt k e).2,⟨Nat.le_refl _,by omega,by omega,by omega⟩,Nat.le_refl _⟩
  obtain ⟨hfit,hx1,hx2,hx3,hx4⟩:=HBD.out.at_ pre x hok
  have hfnW:=hJW.fn
  have hbelW:=hJW.bel
  -- what a round leaves
  have HEND:Hid (∀ W' va' vc',JSt w.heap.size W0.heap.size W.heap.size w.heap.size (w.heap.size + 1) va' vc' (jnS (pre.foldl jnS ([],[])) x) W'->FrK W0.heap.size W.heap.size W W'->Below w.heap.size W W'->
    roundS (fun k=>k < B) 99 (fun pre W=>JI w (pre.foldl jnS ([],[])) W) (fun _=>False) (pre ++ [x]) W0 Wy W .normal { tmps:=#[],defers:=[] } W'):=hid (fun W' va' vc' g1 g2 g3=>by
   refine ⟨g2.ot,KeptOn.of_below g3 (fun k hk=>by have:=HB.out; omega),fun k o k1 k2 k3 k4=>g2.fr k o k1 (by omega) k3 k4,?_⟩
   show JI w ((pre ++ [x]).foldl jnS ([],[])) W'
   rw [foldl_snoc]
   exact ⟨⟨va',vc',g1.renew (Nat.le_refl _) (Nat.le_refl _)⟩,g2.fn _ _ _ hfnW,hbelW.trans g3⟩)
  have HST:=hid hst
  have HWY:Hid (W0.heap.size<=Wy.heap.size/\Wy.heap.size<=W.heap.size/\w.heap.size<=W.heap.size):=hid ⟨h01,h12,by omega⟩
  obtain ⟨L,t,hLt⟩:∃ L t,pre.foldl jnS ([],[])=(L,t):=⟨_,_,rfl⟩
  rw [hLt] at HST HEND hx2 hx3 hx4
  simp only at hx2
  have hIS:=isIns_any x W
  have hjS:jnS (L,t) x=if insO x=true then (L,t ++ x.data) else (jnC (jnF (L,t)) x,[]):=rfl
  have HBX:Hid (BK Wy.heap.size (opCs x).toArray 180 W):=hid hbx
  have HFN:Hid (∀ W',FrK W0.heap.size W.heap.size W W'->W'.cell? ⟨w.heap.size + 2,0,none⟩=some (.func (.func 141) #[] #[.pointer (some ⟨w.heap.size + 1,0,none⟩),.pointer (some ⟨w.heap.size,0,none⟩)])):=hid (fun W' g=>(BK.c1 (g.fn _ _ _ hfnW)))
  have HBK:Hid (∀ W',FrK W0.heap.size W.heap.size W W'->BK Wy.heap.size (opCs x).toArray 180 W'):=hid (fun W' g=>g.fr _ _ h01 (Array.getElem?_eq_some_iff.1 hbx).1 hbx (fun c f e=>by injection e with _ h2 _; exact absurd h2 (by decide)))
  clear hst hJW hfnW hbelW hst0 hfn0 hbel0 hbx hb0 h01 h12
  cases hins:insO x with
  | true=>
   rw [if_pos hins] at hjS
   rw [hins] at hIS
   have HWR:=hid (fun (W':World) (hJ:JSt w.heap.size W0.heap.size W.heap.size w.heap.size (w.heap.size + 1) va vc (L,t) W') (hB:w.heap.size<=W'.heap.size)=>hJ.write x.data (by simp only at hx3 ⊢; omega) hB)
   rw [hjS] at HEND
   obtain ⟨off,len,data⟩:=x
   simp only [Dop.val,opCs] at hIS HBX HWR HEND HBK ⊢
   have HIS:=hid hIS
   obtain ⟨c0,c1,c2⟩:=BK.c3 (show BK _ #[.int .i64 (off:Int),.int .i64 (len:Int),.string ⟨data.toArray⟩] _ _ from HBX.out)
   clear hIS hjS hins
   gi_wp2
   refine ⟨trivial,?_⟩
   refine (CallsIn.inRound l (callsIn_wide.2 HIS.out)).mono ?_
   rintro e u1 ⟨rfl,hb1⟩
   have hk1:=HBX.out.below hb1
   have hj1:=HST.out.below hb1
   have HW1:=hid (HWR.out u1 hj1 (Nat.le_trans HWY.out.2.2 hb1.size))
   have HF1:Hid (FrK W0.heap.size W.heap.size W u1):=hid (FrK.below hb1)
   have HB1:=hid hb1
   obtain ⟨d0,d1,d2⟩:=BK.c3 (show BK _ #[.int .i64 (off:Int),.int .i64 (len:Int),.string ⟨data.toArray⟩] _ _ from hk1)
   clear hk1 hj1 hb1 HIS c0 c1 c2
   gi_wp2
   refine ⟨trivial,?_⟩
   refine (CallsIn.inRound l (callsIn_wide.2 HW1.out)).mono ?_
   rintro e u2 ⟨rfl,HU⟩
   obtain ⟨g1,g2,g3⟩:=HU.out
   have HR:=hid (HEND.out u2 va vc g1 (HF1.out.trans g2) ((HB1.out.mono HWY.out.2.2).trans g3))
   clear HU g1 g2 g3 HW1 d0 d1 d2
   gi_wp2
   exact HR.out
  | false=>
   rw [if_neg (by simp [hins])] at hjS
   rw [hins] at hIS
   have HFL:=hid (fun (W':World) (hJ:JSt w.heap.size W0.heap.size W.heap.size w.heap.size (w.heap.size + 1) va vc (L,t) W')=>flush_any hJ (by simp only at hx3 ⊢; omega) (by simp only at hx3 ⊢; omega))
   have hjl:=jnF_le (L,t)
   have hjm:∀ y ∈ jnF (L,t),y.off + y.len<=1000000:=fun y hy=>by
    rcases jnF_mem hy with h | ⟨h1,h2⟩
    ·exact hx4 y h
    ·omega
   simp only at hjl hx3
   rw [hjS] at HEND
   generalize jnF (L,t)=L' at HFL hjl hjm HEND
   have hl':(L'.length:Int)<=1000000:=by omega
   have HICX:=hid (fun (y:Dop) (W':World)=>isCopy_any y W')
   obtain ⟨off,len,data⟩:=x
   simp only at hx1
   simp only [Dop.val,opCs] at hIS HBX HEND HBK ⊢
   have HIS:=hid hIS
   obtain ⟨c0,c1,c2⟩:=BK.c3 (show BK _ #[.int .i64 (off:Int),.int .i64 (len:Int),.string ⟨data.toArray⟩] _ _ from HBX.out)
   clear hIS hjS hins hx3 hx4 hjl hLt hfit
   gi_wp2
   refine ⟨trivial,?_⟩
   refine (CallsIn.inRound l (callsIn_wide.2 HIS.out)).mono ?_
   rintro e u1 ⟨rfl,hb1⟩
   have HF1:Hid (FrK W0.heap.size W.heap.size W u1):=hid (FrK.below hb1)
   have HB1:=hid hb1
   have hfc:=HFN.out u1 HF1.out
   have HFL1:=hid (HFL.out u1 (HST.out.below hb1))
   clear hb1 HIS c0 c1 c2 HFL
   gi_wp2
   refine ⟨trivial,?_⟩
   refine (CallsIn.inRound l (callsIn_wide.2 HFL1.out)).mono ?_
   rintro e u2 ⟨rfl,HU⟩
   obtain ⟨va',vc',hst2,hf2,hb2⟩:=HU.out
   have hF2:=HF1.out.trans hf2
   have HF2:=hid hF2
   have HB2:=hid ((HB1.out.mono HWY.out.2.2).trans hb2)
   have HS2:=hid hst2
   obtain ⟨n,hn⟩:∃ n,n=L'.length:=⟨_,rfl⟩
   have HN:Hid (n=L'.length):=hid hn
   have hlc:=hst2.box.c1
   simp only at hlc
   rw [<-hn] at hlc
   clear HU hst2 hf2 hb2 hfc HFL1 hF2
   have HJC0:Hid (L' = []->jnC L' ⟨off,len,data⟩=L' ++ [⟨off,len,data⟩]):=hid (fun h=>by subst h; rfl)
   have HJC1:Hid (∀ L0 y,L' = L0 ++ [y]->jnC L' ⟨off,len,data⟩=if copyO y=true/\y.off + y.len=off then L0 ++ [⟨y.off,y.len + len,y.data⟩] else L' ++ [⟨off,len,data⟩]):=hid (fun L0 y h=>by subst h; unfold jnC; simp)
   have hn0:(n:Int)<=1000000:=by omega
   rcases List.eq_nil_or_concat L' with hnil | ⟨L0,y,hcc⟩
   ·have hnz:n=0:=by rw [hn,hnil]; rfl
    subst hnz
    have HJC:=hid (HJC0.out hnil)
    have hw0:IntKind.i64.wrap (0 - 1) = -1:=by decide
    clear HJC0 HJC1 hnil hn hjm
    gi_wp2
    refine wpIn_region_L (S:=(fun _=>True)) [] l (by kernel_rfl) (fun ⟨_,_,h⟩=>h) (by kernel_rfl) trivial (fun hHeld=>?_)
    refine anyL_take (i:=0) (v:=?vv3) rfl (by kernel_rfl) (by kernel_rfl) (by kernel_rfl) (by kernel_rfl) (fun _ _ _ h=>h) (Or.inl ⟨by rfl,?hy3⟩) (by assumption) ?rest3
    case hy3=>(intro wx hSw; (try dsimp only at hSw); go_simp; try (with_reducible rfl))
    simp only [Act.put,zA,zC,zD,zE,zF]
    refine anyL_take (i:=1) (v:=?vv4) rfl (by kernel_rfl) (by kernel_rfl) (by kernel_rfl) (by kernel_rfl) (fun _ _ _ h=>h) (Or.inl ⟨by rfl,?hy4⟩) (by assumption) ?rest4
    case hy4=>(intro wx hSw; (try dsimp only at hSw); go_simp; try (with_reducible rfl))
    simp only [Act.put,zA,zB,zC,zD,zE,zF]
    refine anyL_take (i:=2) (v:=?vv5) rfl (by kernel_rfl) (by kernel_rfl) (by kernel_rfl) (by kernel_rfl) (fun _ _ _ h=>h) (Or.inl ⟨by rfl,?hy5⟩) (by assumption) ?rest5
    case hy5=>(intro wx hSw; (try dsimp only at hSw); go_simp; try (with_reducible rfl))
    simp only [Act.put,zA,zB,zC,zD,zE,zF]
    refine anyL_take (i:=3) rfl (by kernel_rfl) (by kernel_rfl) (by kernel_rfl) (by kernel_rfl) (fun _ _ _ h=>h) (Or.inr ⟨by rfl,rfl⟩) (by assumption) ?_
    simp only [Act.put,zA,zB,zC,zD,zE,zF]
    refine anyL_take (i:=4) rfl (by kernel_rfl) (by kernel_rfl) (by kernel_rfl) (by kernel_rfl) (fun _ _ _ h=>h) (Or.inr ⟨by rfl,rfl⟩) (by assumption) ?_
    simp only [Act.put,zA,zB,zC,zD,zE,zF]
    refine anyL_take (i:=5) rfl (by kernel_rfl) (by kernel_rfl) (by kernel_rfl) (by kernel_rfl) (fun _ _ _ h=>h) (Or.inr ⟨by rfl,rfl⟩) (by assumption) ?_
    simp only [Act.put,zA,zB,zC,zD,zE,zF]
    refine anyL_take (i:=6) rfl (by kernel_rfl) (by kernel_rfl) (by kernel_rfl) (by kernel_rfl) (fun _ _ _ h=>h) (Or.inr ⟨by rfl,rfl⟩) (by assumption) ?_
    simp only [Act.put,zA,zB,zC,zD,zE,zF]
    refine anyL_take (i:=7) rfl (by kernel_rfl) (by kernel_rfl) (by kernel_rfl) (by kernel_rfl) (fun _ _ _ h=>h) (Or.inr ⟨by rfl,rfl⟩) (by assumption) ?_
    simp only [Act.put,zA,zB,zC,zD,zE,zF]
    refine anyL_take (i:=8) (v:=?vv11) rfl (by kernel_rfl) (by kernel_rfl) (by kernel_rfl) (by kernel_rfl) (fun _ _ _ h=>h) (Or.inl ⟨by rfl,?hy11⟩) (by assumption) ?rest11
    case hy11=>(intro wx hSw; (try dsimp only at hSw); go_simp; try (with_reducible rfl))
    simp only [Act.put,zA,zB,zC,zD,zE,zF]
    refine anyL_take (i:=9) (v:=?vv12) rfl (by kernel_rfl) (by kernel_rfl) (by kernel_rfl) (by kernel_rfl) (fun _ _ _ h=>h) (Or.inl ⟨by rfl,?hy12⟩) (by assumption) ?rest12
    case hy12=>(intro wx hSw; (try dsimp only at hSw); go_simp; try (with_reducible rfl))
    simp only [Act.put,zA,zB,zC,zD,zE,zF]
    refine anyL_take (i:=10) rfl (by kernel_rfl) (by kernel_rfl) (by kernel_rfl) (by kernel_rfl) (fun _ _ _ h=>h) (Or.inr ⟨by rfl,rfl⟩) (by assumption) ?_
    simp only [Act.put,zA,zB,zC,zD,zE,zF]
    refine anyL_take (i:=11) rfl (by kernel_rfl) (by kernel_rfl) (by kernel_rfl) (by kernel_rfl) (fun _ _ _ h=>h) (Or.inr ⟨by rfl,rfl⟩) (by assumption) ?_
    simp only [Act.put,zA,zB,zC,zD,zE,zF]
    refine anyL_take (i:=12) rfl (by kernel_rfl) (by kernel_rfl) (by kernel_rfl) (by kernel_rfl) (fun _ _ _ h=>h) (Or.inr ⟨by rfl,rfl⟩) (by assumption) ?_
    simp only [Act.put,zA,zB,zC,zD,zE,zF]
    refine anyL_take (i:=13) rfl (by kernel_rfl) (by kernel_rfl) (by kernel_rfl) (by kernel_rfl) (fun _ _ _ h=>h) (Or.inr ⟨by rfl,rfl⟩) (by assumption) ?_
    simp only [Act.put,zA,zB,zC,zD,zE,zF]
    refine anyL_take (i:=14) rfl (by kernel_rfl) (by kernel_rfl) (by kernel_rfl) (by kernel_rfl) (fun _ _ _ h=>h) (Or.inr ⟨by rfl,rfl⟩) (by assumption) ?_
    simp only [Act.put,zA,zB,zC,zD,zE,zF]
    refine anyL_take (i:=15) rfl (by kernel_rfl) (by kernel_rfl) (by kernel_rfl) (by kernel_rfl) (fun _ _ _ h=>h) (Or.inr ⟨by rfl,rfl⟩) (by assumption) ?_
    simp only [Act.put,zA,zB,zC,zD,zE,zF]
    refine anyL_take (i:=16) rfl (by kernel_rfl) (by kernel_rfl) (by kernel_rfl) (by kernel_rfl) (fun _ _ _ h=>h) (Or.inr ⟨by rfl,rfl⟩) (by assumption) ?_
    simp only [Act.put,zA,zB,zC,zD,zE,zF]
    refine anyL_take (i:=17) rfl (by kernel_rfl) (by kernel_rfl) (by kernel_rfl) (by kernel_rfl) (fun _ _ _ h=>h) (Or.inr ⟨by rfl,rfl⟩) (by assumption) ?_
    simp only [Act.put,zA,zB,zC,zD,zE,zF]
    refine anyL_take (i:=18) rfl (by kernel_rfl) (by kernel_rfl) (by kernel_rfl) (by kernel_rfl) (fun _ _ _ h=>h) (Or.inr ⟨by rfl,rfl⟩) (by assumption) ?_
    simp only [Act.put,zA,zB,zC,zD,zE,zF]
    refine anyL_take (i:=19) rfl (by kernel_rfl) (by kernel_rfl) (by kernel_rfl) (by kernel_rfl) (fun _ _ _ h=>h) (Or.inr ⟨by rfl,rfl⟩) (by assumption) ?_
    simp only [Act.put,zA,zB,zC,zD,zE,zF]
    refine anyL_take (i:=20) rfl (by kernel_rfl) (by kernel_rfl) (by kernel_rfl) (by kernel_rfl) (fun _ _ _ h=>h) (Or.inr ⟨by rfl,rfl⟩) (by assumption) ?_
    simp only [Act.put,zA,zB,zC,zD,zE,zF]
    refine anyL_take (i:=21) rfl (by kernel_rfl) (by kernel_rfl) (by kernel_rfl) (by kernel_rfl) (fun _ _ _ h=>h) (Or.inr ⟨by rfl,rfl⟩) (by assumption) ?_
    simp only [Act.put,zA,zB,zC,zD,zE,zF]
    refine anyL_take (i:=22) rfl (by kernel_rfl) (by kernel_rfl) (by kernel_rfl) (by kernel_rfl) (fun _ _ _ h=>h) (Or.inr ⟨by rfl,rfl⟩) (by assumption) ?_
    simp only [Act.put,zA,zB,zC,zD,zE,zF]
    refine anyL_take (i:=23) rfl (by kernel_rfl) (by kernel_rfl) (by kernel_rfl) (by kernel_rfl) (fun _ _ _ h=>h) (Or.inr ⟨by rfl,rfl⟩) (by assumption) ?_
    simp only [Act.put,zA,zB,zC,zD,zE,zF]
    refine anyL_take (i:=24) (v:=?vv27) rfl (by kernel_rfl) (by kernel_rfl) (by kernel_rfl) (by kernel_rfl) (fun _ _ _ h=>h) (Or.inl ⟨by rfl,?hy27⟩) (by assumption) ?rest27
    case hy27=>(intro wx hSw; (try dsimp only at hSw); go_simp; try (with_reducible rfl))
    simp only [Act.put,zA,zB,zC,zD,zE,zF]
    refine anyL_done (by kernel_rfl) ?_ _
    clear hHeld hlc
    have hJz:JSt w.heap.size W0.heap.size W.heap.size w.heap.size (w.heap.size + 1) va' vc' (L',[]) u2.drew:=HS2.out.below ((Below.refl _ _).drew)
    have hFz:=HF2.out.trans (FrK.below ((Below.refl _ _).drew))
    have hBz:=HB2.out.drew
    obtain ⟨va3,vc3,W3,hrun,hbx3,hj4,hf4,hb4⟩:=hJz.push ⟨off,len,data⟩ (by simp only; have:=HN.out; omega)
    simp only [<-HN.out] at hrun hbx3 hj4 hf4 hb4
    have HR:=hid (HEND.out _ va3 vc3 (by rw [HJC.out]; exact hj4) (hFz.trans hf4) (hBz.trans hb4))
    have hbz:=HBK.out u2.drew hFz
    obtain ⟨x0,x1,x2⟩:=BK.c3 (show BK _ #[.int .i64 (off:Int),.int .i64 (len:Int),.string ⟨data.toArray⟩] _ _ from hbz)
    have hlz:=hJz.box.c1
    simp only [<-HN.out] at hlz
    have hl3:=hbx3.c1
    have hl3f:=hbx3.frozen 0
    have HRUN:=hrun
    simp only [opCs] at HRUN
    clear hrun hbx3 hj4 hf4 hb4 hbz hJz hFz hBz
    gi_wp2_with (gi_at_builtin; refine wpListIn_app _ rfl _ _ _ _ rfl _ _ rfl rfl _ _ HRUN.out ?_)
    exact HR.out
   ·rw [List.concat_eq_append] at hcc
    have hnz:n=L0.length + 1:=by rw [hn,hcc]; simp
    obtain ⟨k,hk⟩:∃ k,k=L0.length:=⟨_,rfl⟩
    rw [<-hk] at hnz
    have HNK:Hid (n=k + 1):=hid hnz
    have hJC:=HJC1.out L0 y hcc
    have hyb:=hjm y (by rw [hcc]; simp)
    have hkl:k < (L',([]:List UInt8)).1.length:=by simp only; omega
    have hJd:JSt w.heap.size W0.heap.size W.heap.size w.heap.size (w.heap.size + 1) va' vc' (L',[]) u2.drew:=HS2.out.below ((Below.refl _ _).drew)
    obtain ⟨g,hva,hfz,hcl,hst⟩:=hJd.setAt hkl
    subst hva
    have hyk:L'[k]'(by simpa using hkl)=y:=by
     have:L'[k]? = some y:=by rw [hcc,hk]; simp
     exact (List.getElem?_eq_some_iff.1 this).2
    simp only [hyk] at hcl hst
    have hy0:=hcl 0 (by decide)
    have hy1:=hcl 1 (by decide)
    have hy2:=hcl 2 (by decide)
    obtain ⟨yo,yl,yd⟩:=y
    rw [show (opCs ⟨yo,yl,yd⟩)[0]? = some (.int .i64 (yo:Int)) from rfl,Nat.add_zero] at hy0
    rw [show (opCs ⟨yo,yl,yd⟩)[1]? = some (.int .i64 (yl:Int)) from rfl] at hy1
    rw [show (opCs ⟨yo,yl,yd⟩)[2]? = some (.string ⟨yd.toArray⟩) from rfl] at hy2
    simp only at hyb hJC
    have hFd:FrK W0.heap.size W.heap.size W u2.drew:=HF2.out.trans (FrK.below ((Below.refl _ _).drew))
    have hxb:=HBK.out u2.drew hFd
    obtain ⟨x0,x1,x2⟩:=BK.c3 (show BK _ #[.int .i64 (off:Int),.int .i64 (len:Int),.string ⟨data.toArray⟩] _ _ from hxb)
    have hlcd:u2.drew.cell? ⟨w.heap.size,0,none⟩=some (.slice (some ⟨g,0,none⟩) n vc'):=hlc
    have HALL:Hid (∀ Wx,Below u2.drew.heap.size u2.drew Wx->Wx.cell? ⟨w.heap.size,0,none⟩=some (.slice (some ⟨g,0,none⟩) n vc')/\Wx.cell? ⟨g,k * 3,none⟩=some (.int .i64 (yo:Int))/\Wx.cell? ⟨g,k * 3 + 1,none⟩=some (.int .i64 (yl:Int))/\Wx.cell? ⟨g,k * 3 + 2,none⟩=some (.string ⟨yd.toArray⟩)/\Wx.cell? ⟨Wy.heap.size,0,none⟩=some (.int .i64 (off:Int))/\Wx.cell? ⟨Wy.heap.size,1,none⟩=some (.int .i64 (len:Int))):=hid (fun Wx hb=>by
     have hgl:=World.block_lt_of_cell? _ _ hy0
     have hwl:=World.block_lt_of_cell? _ _ hlcd
     have hxl:=World.block_lt_of_cell? _ _ x0
     exact ⟨(hb.cell hwl).trans hlcd,(hb.cell hgl).trans hy0,(hb.cell (p:=⟨g,k * 3 + 1,none⟩) hgl).trans hy1,(hb.cell (p:=⟨g,k * 3 + 2,none⟩) hgl).trans hy2,(hb.cell hxl).trans x0,(hb.cell (p:=⟨Wy.heap.size,1,none⟩) hxl).trans x1⟩)
    have hs0:=HALL.out u2.drew (Below.refl _ _)
    have hnz1:(n:Int) - 1=(k:Int):=by omega
    have hwn:IntKind.i64.wrap ((n:Int) - 1)=(k:Int):=by rw [wrap_i64 (by omega) (by omega)]; omega
    have hk0:(0:Int)<=(k:Int):=by omega
    have hkn:(k:Int) < (n:Int):=by omega
    have hwy:IntKind.i64.wrap ((yo:Int) + (yl:Int))=((yo + yl:Nat):Int):=by rw [wrap_i64 (by omega) (by omega)]; omega
    obtain ⟨ye,hye⟩:∃ ye,ye=yo + yl:=⟨_,rfl⟩
    rw [<-hye] at hwy hJC hyb
    have HIC:=hid (HICX.out ⟨yo,yl,yd⟩ u2.drew)
    simp only [Dop.val] at HIC
    have HSET:=hid (hst ⟨yo,yl + len,yd⟩ 1 (.int .i64 ((yl + len:Nat):Int)) (by decide) (by simp [opCs]))
    have HSE:Hid (L'.set k ⟨yo,yl + len,yd⟩=L0 ++ [⟨yo,yl + len,yd⟩]):=hid (by rw [hcc,hk]; simp)
    have hf1:=hfz (k * 3 + 1)
    have HYE:Hid (ye=yo + yl):=hid hye
    have HYK:Hid (∀ hk,L'[k]'hk=⟨yo,yl,yd⟩):=hid (fun _=>hyk)
    have HJd:=hid hJd
    have HFd:=hid hFd
    clear HJC0 HJC1 hcc hn hjm hJd hFd hcl hst hfz hy0 hy1 hy2 hxb x0 x1 x2 hlcd hyk hk hkl hye hnz
    generalize copyO ⟨yo,yl,yd⟩=cb at HIC hJC
    cases cb with
    | false=>
     rw [if_neg (by simp)] at hJC
     have HJC:=hid hJC
     clear hJC
     gi_wp2
     refine wpIn_region_L (S:=(fun Wx=>Wx.cell? ⟨w.heap.size,0,none⟩=some (.slice (some ⟨g,0,none⟩) n vc')/\Wx.cell? ⟨g,k * 3,none⟩=some (.int .i64 (yo:Int))/\Wx.cell? ⟨g,k * 3 + 1,none⟩=some (.int .i64 (yl:Int))/\Wx.cell? ⟨g,k * 3 + 2,none⟩=some (.string ⟨yd.toArray⟩)/\Wx.cell? ⟨Wy.heap.size,0,none⟩=some (.int .i64 (off:Int))/\Wx.cell? ⟨Wy.heap.size,1,none⟩=some (.int .i64 (len:Int)))) [] l (by kernel_rfl) (fun ⟨_,_,h⟩=>h) (by kernel_rfl) hs0 (fun hHeld=>?_)
     refine anyL_take (i:=0) (v:=?vv28) rfl (by kernel_rfl) (by kernel_rfl) (by kernel_rfl) (by kernel_rfl) (fun _ _ _ h=>h) (Or.inl ⟨by rfl,?hy28⟩) (by assumption) ?rest28
     case hy28=>(intro wx hSw; (try dsimp only at hSw); go_simp; try (with_reducible rfl))
     simp only [Act.put,zA,zC,zD,zE,zF]
     refine anyL_take (i:=1) (v:=?vv29) rfl (by kernel_rfl) (by kernel_rfl) (by kernel_rfl) (by kernel_rfl) (fun _ _ _ h=>h) (Or.inl ⟨by rfl,?hy29⟩) (by assumption) ?rest29
     case hy29=>(intro wx hSw; (try dsimp only at hSw); go_simp; try (with_reducible rfl))
     simp only [Act.put,zA,zB,zC,zD,zE,zF]
     refine anyL_take (i:=2) (v:=?vv30) rfl (by kernel_rfl) (by kernel_rfl) (by kernel_rfl) (by kernel_rfl) (fun _ _ _ h=>h) (Or.inl ⟨by rfl,?hy30⟩) (by assumption) ?rest30
     case hy30=>(intro wx hSw; (try dsimp only at hSw); go_simp; try (with_reducible rfl))
     simp only [Act.put,zA,zB,zC,zD,zE,zF]
     refine anyL_take (i:=3) (v:=?vv31) rfl (by kernel_rfl) (by kernel_rfl) (by kernel_rfl) (by kernel_rfl) (fun _ _ _ h=>h) (Or.inl ⟨by rfl,?hy31⟩) (by assumption) ?rest31
     case hy31=>(intro wx hSw; (try dsimp only at hSw); go_simp; try (with_reducible rfl))
     simp only [Act.put,zA,zB,zC,zD,zE,zF]
     refine anyL_take (i:=4) (v:=?vv32) rfl (by kernel_rfl) (by kernel_rfl) (by kernel_rfl) (by kernel_rfl) (fun _ _ _ h=>h) (Or.inl ⟨by rfl,?hy32⟩) (by assumption) ?rest32
     case hy32=>(intro wx hSw; (try dsimp only at hSw); go_simp; try (with_reducible rfl))
     simp only [Act.put,zA,zB,zC,zD,zE,zF]
     refine anyL_take (i:=5) (v:=?vv33) rfl (by kernel_rfl) (by kernel_rfl) (by kernel_rfl) (by kernel_rfl) (fun _ _ _ h=>h) (Or.inl ⟨by rfl,?hy33⟩) (by assumption) ?rest33
     case hy33=>(intro wx hSw; (try dsimp only at hSw); go_simp; try (with_reducible rfl))
     simp only [Act.put,zA,zB,zC,zD,zE,zF]
     refine anyL_take (i:=6) (v:=?vv34) rfl (by kernel_rfl) (by kernel_rfl) (by kernel_rfl) (by kernel_rfl) (fun _ _ _ h=>h) (Or.inl ⟨by rfl,?hy34⟩) (by assumption) ?rest34
     case hy34=>(intro wx hSw; (try dsimp only at hSw); go_simp; try (with_reducible rfl))
     simp only [Act.put,zA,zB,zC,zD,zE,zF]
     refine anyL_one (i:=7) (by kernel_rfl) rfl (fun K hK=>?_)
     go_simp
     (with_reducible refine (HIC.out).mono ?_)
     rintro e uz ⟨rfl,hbz⟩
     have hsz:=HALL.out uz hbz
     have HBZ:=hid hbz
     clear hbz hHeld
     refine hK.out _ _ ((fun _=>hsz)) (fun hHeld=>?_)
     clear hK K
     refine anyL_take (i:=8) (v:=?vv35) rfl (by kernel_rfl) (by kernel_rfl) (by kernel_rfl) (by kernel_rfl) (fun _ _ _ h=>h) (Or.inl ⟨by rfl,?hy35⟩) (by assumption) ?rest35
     case hy35=>(intro wx hSw; (try dsimp only at hSw); go_simp; try (with_reducible rfl))
     simp only [Act.put,zA,zB,zC,zD,zE,zF]
     refine anyL_take (i:=9) (v:=?vv36) rfl (by kernel_rfl) (by kernel_rfl) (by kernel_rfl) (by kernel_rfl) (fun _ _ _ h=>h) (Or.inl ⟨by rfl,?hy36⟩) (by assumption) ?rest36
     case hy36=>(intro wx hSw; (try dsimp only at hSw); go_simp; try (with_reducible rfl))
     simp only [Act.put,zA,zB,zC,zD,zE,zF]
     refine anyL_take (i:=10) rfl (by kernel_rfl) (by kernel_rfl) (by kernel_rfl) (by kernel_rfl) (fun _ _ _ h=>h) (Or.inr ⟨by rfl,rfl⟩) (by assumption) ?_
     simp only [Act.put,zA,zB,zC,zD,zE,zF]
     refine anyL_take (i:=11) rfl (by kernel_rfl) (by kernel_rfl) (by kernel_rfl) (by kernel_rfl) (fun _ _ _ h=>h) (Or.inr ⟨by rfl,rfl⟩) (by assumption) ?_
     simp only [Act.put,zA,zB,zC,zD,zE,zF]
     refine anyL_take (i:=12) rfl (by kernel_rfl) (by kernel_rfl) (by kernel_rfl) (by kernel_rfl) (fun _ _ _ h=>h) (Or.inr ⟨by rfl,rfl⟩) (by assumption) ?_
     simp only [Act.put,zA,zB,zC,zD,zE,zF]
     refine anyL_take (i:=13) rfl (by kernel_rfl) (by kernel_rfl) (by kernel_rfl) (by kernel_rfl) (fun _ _ _ h=>h) (Or.inr ⟨by rfl,rfl⟩) (by assumption) ?_
     simp only [Act.put,zA,zB,zC,zD,zE,zF]
     refine anyL_take (i:=14) rfl (by kernel_rfl) (by kernel_rfl) (by kernel_rfl) (by kernel_rfl) (fun _ _ _ h=>h) (Or.inr ⟨by rfl,rfl⟩) (by assumption) ?_
     simp only [Act.put,zA,zB,zC,zD,zE,zF]
     refine anyL_take (i:=15) rfl (by kernel_rfl) (by kernel_rfl) (by kernel_rfl) (by kernel_rfl) (fun _ _ _ h=>h) (Or.inr ⟨by rfl,rfl⟩) (by assumption) ?_
     simp only [Act.put,zA,zB,zC,zD,zE,zF]
     refine anyL_take (i:=16) rfl (by kernel_rfl) (by kernel_rfl) (by kernel_rfl) (by kernel_rfl) (fun _ _ _ h=>h) (Or.inr ⟨by rfl,rfl⟩) (by assumption) ?_
     simp only [Act.put,zA,zB,zC,zD,zE,zF]
     refine anyL_take (i:=17) rfl (by kernel_rfl) (by kernel_rfl) (by kernel_rfl) (by kernel_rfl) (fun _ _ _ h=>h) (Or.inr ⟨by rfl,rfl⟩) (by assumption) ?_
     simp only [Act.put,zA,zB,zC,zD,zE,zF]
     refine anyL_take (i:=18) rfl (by kernel_rfl) (by kernel_rfl) (by kernel_rfl) (by kernel_rfl) (fun _ _ _ h=>h) (Or.inr ⟨by rfl,rfl⟩) (by assumption) ?_
     simp only [Act.put,zA,zB,zC,zD,zE,zF]
     refine anyL_take (i:=19) rfl (by kernel_rfl) (by kernel_rfl) (by kernel_rfl) (by kernel_rfl) (fun _ _ _ h=>h) (Or.inr ⟨by rfl,rfl⟩) (by assumption) ?_
     simp only [Act.put,zA,zB,zC,zD,zE,zF]
     refine anyL_take (i:=20) rfl (by kernel_rfl) (by kernel_rfl) (by kernel_rfl) (by kernel_rfl) (fun _ _ _ h=>h) (Or.inr ⟨by rfl,rfl⟩) (by assumption) ?_
     simp only [Act.put,zA,zB,zC,zD,zE,zF]
     refine anyL_take (i:=21) rfl (by kernel_rfl) (by kernel_rfl) (by kernel_rfl) (by kernel_rfl) (fun _ _ _ h=>h) (Or.inr ⟨by rfl,rfl⟩) (by assumption) ?_
     simp only [Act.put,zA,zB,zC,zD,zE,zF]
     refine anyL_take (i:=22) rfl (by kernel_rfl) (by kernel_rfl) (by kernel_rfl) (by kernel_rfl) (fun _ _ _ h=>h) (Or.inr ⟨by rfl,rfl⟩) (by assumption) ?_
     simp only [Act.put,zA,zB,zC,zD,zE,zF]
     refine anyL_take (i:=23) rfl (by kernel_rfl) (by kernel_rfl) (by kernel_rfl) (by kernel_rfl) (fun _ _ _ h=>h) (Or.inr ⟨by rfl,rfl⟩) (by assumption) ?_
     simp only [Act.put,zA,zB,zC,zD,zE,zF]
     refine anyL_take (i:=24) (v:=?vv51) rfl (by kernel_rfl) (by kernel_rfl) (by kernel_rfl) (by kernel_rfl) (fun _ _ _ h=>h) (Or.inl ⟨by rfl,?hy51⟩) (by assumption) ?rest51
     case hy51=>(intro wx hSw; (try dsimp only at hSw); go_simp; try (with_reducible rfl))
     simp only [Act.put,zA,zB,zC,zD,zE,zF]
     refine anyL_done (by kernel_rfl) ?_ _
     clear hHeld hlc hs0 hsz HALL HIC
     have hJz:JSt w.heap.size W0.heap.size W.heap.size w.heap.size (w.heap.size + 1) (some ⟨g,0,none⟩) vc' (L',[]) uz:=HJd.out.below HBZ.out
     have hFz:=HFd.out.trans (FrK.below HBZ.out)
     have hBz:=HB2.out.drew.trans (HBZ.out.mono (Nat.le_trans HWY.out.2.2 HFd.out.ot.size))
     obtain ⟨va3,vc3,W3,hrun,hbx3,hj4,hf4,hb4⟩:=hJz.push ⟨off,len,data⟩ (by simp only; have:=HN.out; omega)
     simp only [<-HN.out] at hrun hbx3 hj4 hf4 hb4
     have HR:=hid (HEND.out _ va3 vc3 (by rw [HJC.out]; exact hj4) (hFz.trans hf4) (hBz.trans hb4))
     have hbz:=HBK.out uz hFz
     obtain ⟨x0,x1,x2⟩:=BK.c3 (show BK _ #[.int .i64 (off:Int),.int .i64 (len:Int),.string ⟨data.toArray⟩] _ _ from hbz)
     have hlz:=hJz.box.c1
     simp only [<-HN.out] at hlz
     have hl3:=hbx3.c1
     have hl3f:=hbx3.frozen 0
     have HRUN:=hrun
     simp only [opCs] at HRUN
     clear hrun hbx3 hj4 hf4 hb4 hbz hJz hFz hBz
     gi_wp2_with (gi_at_builtin; refine wpListIn_app _ rfl _ _ _ _ rfl _ _ rfl rfl _ _ HRUN.out ?_)
     exact HR.out
    | true=>
     by_cases hoff:ye=off
     ·rw [if_pos ⟨rfl,hoff⟩] at hJC
      have hbq:((ye:Int) == (off:Int))=true:=by simp [hoff]
      have HJC:=hid hJC
      have hlen:(yl:Int) + len<=3000000:=by have:=HYE.out; omega
      have hwl:IntKind.i64.wrap ((yl:Int) + (len:Int))=((yl + len:Nat):Int):=by rw [wrap_i64 (by omega) (by omega)]; omega
      obtain ⟨zl,hzl⟩:∃ zl,zl=yl + len:=⟨_,rfl⟩
      rw [<-hzl] at hwl HSET HSE
      have HYZ:Hid (zl=yl + len):=hid hzl
      clear hJC hzl hlen
      gi_wp2
      refine wpIn_region_L (S:=(fun Wx=>Wx.cell? ⟨w.heap.size,0,none⟩=some (.slice (some ⟨g,0,none⟩) n vc')/\Wx.cell? ⟨g,k * 3,none⟩=some (.int .i64 (yo:Int))/\Wx.cell? ⟨g,k * 3 + 1,none⟩=some (.int .i64 (yl:Int))/\Wx.cell? ⟨g,k * 3 + 2,none⟩=some (.string ⟨yd.toArray⟩)/\Wx.cell? ⟨Wy.heap.size,0,none⟩=some (.int .i64 (off:Int))/\Wx.cell? ⟨Wy.heap.size,1,none⟩=some (.int .i64 (len:Int)))) [] l (by kernel_rfl) (fun ⟨_,_,h⟩=>h) (by kernel_rfl) hs0 (fun hHeld=>?_)
      refine anyL_take (i:=0) (v:=?vv52) rfl (by kernel_rfl) (by kernel_rfl) (by kernel_rfl) (by kernel_rfl) (fun _ _ _ h=>h) (Or.inl ⟨by rfl,?hy52⟩) (by assumption) ?rest52
      case hy52=>(intro wx hSw; (try dsimp only at hSw); go_simp; try (with_reducible rfl))
      simp only [Act.put,zA,zC,zD,zE,zF]
      refine anyL_take (i:=1) (v:=?vv53) rfl (by kernel_rfl) (by kernel_rfl) (by kernel_rfl) (by kernel_rfl) (fun _ _ _ h=>h) (Or.inl ⟨by rfl,?hy53⟩) (by assumption) ?rest53
      case hy53=>(intro wx hSw; (try dsimp only at hSw); go_simp; try (with_reducible rfl))
      simp only [Act.put,zA,zB,zC,zD,zE,zF]
      refine anyL_take (i:=2) (v:=?vv54) rfl (by kernel_rfl) (by kernel_rfl) (by kernel_rfl) (by kernel_rfl) (fun _ _ _ h=>h) (Or.inl ⟨by rfl,?hy54⟩) (by assumption) ?rest54
      case hy54=>(intro wx hSw; (try dsimp only at hSw); go_simp; try (with_reducible rfl))
      simp only [Act.put,zA,zB,zC,zD,zE,zF]
      refine anyL_take (i:=3) (v:=?vv55) rfl (by kernel_rfl) (by kernel_rfl) (by kernel_rfl) (by kernel_rfl) (fun _ _ _ h=>h) (Or.inl ⟨by rfl,?hy55⟩) (by assumption) ?rest55
      case hy55=>(intro wx hSw; (try dsimp only at hSw); go_simp; try (with_reducible rfl))
      simp only [Act.put,zA,zB,zC,zD,zE,zF]
      refine anyL_take (i:=4) (v:=?vv56) rfl (by kernel_rfl) (by kernel_rfl) (by kernel_rfl) (by kernel_rfl) (fun _ _ _ h=>h) (Or.inl ⟨by rfl,?hy56⟩) (by assumption) ?rest56
      case hy56=>(intro wx hSw; (try dsimp only at hSw); go_simp; try (with_reducible rfl))
      simp only [Act.put,zA,zB,zC,zD,zE,zF]
      refine anyL_take (i:=5) (v:=?vv57) rfl (by kernel_rfl) (by kernel_rfl) (by kernel_rfl) (by kernel_rfl) (fun _ _ _ h=>h) (Or.inl ⟨by rfl,?hy57⟩) (by assumption) ?rest57
      case hy57=>(intro wx hSw; (try dsimp only at hSw); go_simp; try (with_reducible rfl))
      simp only [Act.put,zA,zB,zC,zD,zE,zF]
      refine anyL_take (i:=6) (v:=?vv58) rfl (by kernel_rfl) (by kernel_rfl) (by kernel_rfl) (by kernel_rfl) (fun _ _ _ h=>h) (Or.inl ⟨by rfl,?hy58⟩) (by assumption) ?rest58
      case hy58=>(intro wx hSw; (try dsimp only at hSw); go_simp; try (with_reducible rfl))
      simp only [Act.put,zA,zB,zC,zD,zE,zF]
      refine anyL_one (i:=7) (by kernel_rfl) rfl (fun K hK=>?_)
      go_simp
      (with_reducible refine (HIC.out).mono ?_)
      rintro e uz ⟨rfl,hbz⟩
      have hsz:=HALL.out uz hbz
      have HBZ:=hid hbz
      clear hbz hHeld
      refine hK.out _ _ ((fun _=>hsz)) (fun hHeld=>?_)
      clear hK K
      refine anyL_take (i:=8) (v:=?vv59) rfl (by kernel_rfl) (by kernel_rfl) (by kernel_rfl) (by kernel_rfl) (fun _ _ _ h=>h) (Or.inl ⟨by rfl,?hy59⟩) (by assumption) ?rest59
      case hy59=>(intro wx hSw; (try dsimp only at hSw); go_simp; try (with_reducible rfl))
      simp only [Act.put,zA,zB,zC,zD,zE,zF]
      refine anyL_take (i:=9) (v:=?vv60) rfl (by kernel_rfl) (by kernel_rfl) (by kernel_rfl) (by kernel_rfl) (fun _ _ _ h=>h) (Or.inl ⟨by rfl,?hy60⟩) (by assumption) ?rest60
      case hy60=>(intro wx hSw; (try dsimp only at hSw); go_simp; try (with_reducible rfl))
      simp only [Act.put,zA,zB,zC,zD,zE,zF]
      refine anyL_take (i:=10) (v:=?vv61) rfl (by kernel_rfl) (by kernel_rfl) (by kernel_rfl) (by kernel_rfl) (fun _ _ _ h=>h) (Or.inl ⟨by rfl,?hy61⟩) (by assumption) ?rest61
      case hy61=>(intro wx hSw; (try dsimp only at hSw); go_simp; try (with_reducible rfl))
      simp only [Act.put,zA,zB,zC,zD,zE,zF]
      refine anyL_take (i:=11) (v:=?vv62) rfl (by kernel_rfl) (by kernel_rfl) (by kernel_rfl) (by kernel_rfl) (fun _ _ _ h=>h) (Or.inl ⟨by rfl,?hy62⟩) (by assumption) ?rest62
      case hy62=>(intro wx hSw; (try dsimp only at hSw); go_simp; try (with_reducible rfl))
      simp only [Act.put,zA,zB,zC,zD,zE,zF]
      refine anyL_take (i:=12) (v:=?vv63) rfl (by kernel_rfl) (by kernel_rfl) (by kernel_rfl) (by kernel_rfl) (fun _ _ _ h=>h) (Or.inl ⟨by rfl,?hy63⟩) (by assumption) ?rest63
      case hy63=>(intro wx hSw; (try dsimp only at hSw); go_simp; try (with_reducible rfl))
      simp only [Act.put,zA,zB,zC,zD,zE,zF]
      refine anyL_take (i:=13) (v:=?vv64) rfl (by kernel_rfl) (by kernel_rfl) (by kernel_rfl) (by kernel_rfl) (fun _ _ _ h=>h) (Or.inl ⟨by rfl,?hy64⟩) (by assumption) ?rest64
      case hy64=>(intro wx hSw; (try dsimp only at hSw); go_simp; try (with_reducible rfl))
      simp only [Act.put,zA,zB,zC,zD,zE,zF]
      refine anyL_take (i:=14) (v:=?vv65) rfl (by kernel_rfl) (by kernel_rfl) (by kernel_rfl) (by kernel_rfl) (fun _ _ _ h=>h) (Or.inl ⟨by rfl,?hy65⟩) (by assumption) ?rest65
      case hy65=>(intro wx hSw; (try dsimp only at hSw); go_simp; try (with_reducible rfl))
      simp only [Act.put,zA,zB,zC,zD,zE,zF]
      refine anyL_take (i:=15) (v:=?vv66) rfl (by kernel_rfl) (by kernel_rfl) (by kernel_rfl) (by kernel_rfl) (fun _ _ _ h=>h) (Or.inl ⟨by rfl,?hy66⟩) (by assumption) ?rest66
      case hy66=>(intro wx hSw; (try dsimp only at hSw); go_simp; try (with_reducible rfl))
      simp only [Act.put,zA,zB,zC,zD,zE,zF]
      refine anyL_take (i:=16) (v:=?vv67) rfl (by kernel_rfl) (by kernel_rfl) (by kernel_rfl) (by kernel_rfl) (fun _ _ _ h=>h) (Or.inl ⟨by rfl,?hy67⟩) (by assumption) ?rest67
      case hy67=>(intro wx hSw; (try dsimp only at hSw); go_simp; try (with_reducible rfl))
      simp only [Act.put,zA,zB,zC,zD,zE,zF]
      refine anyL_take (i:=17) (v:=?vv68) rfl (by kernel_rfl) (by kernel_rfl) (by kernel_rfl) (by kernel_rfl) (fun _ _ _ h=>h) (Or.inl ⟨by rfl,?hy68⟩) (by assumption) ?rest68
      case hy68=>(intro wx hSw; (try dsimp only at hSw); go_simp; try (with_reducible rfl))
      simp only [Act.put,zA,zB,zC,zD,zE,zF]
      refine anyL_take (i:=18) (v:=?vv69) rfl (by kernel_rfl) (by kernel_rfl) (by kernel_rfl) (by kernel_rfl) (fun _ _ _ h=>h) (Or.inl ⟨by rfl,?hy69⟩) (by assumption) ?rest69
      case hy69=>(intro wx hSw; (try dsimp only at hSw); go_simp; try (with_reducible rfl))
      simp only [Act.put,zA,zB,zC,zD,zE,zF]
      refine anyL_take (i:=19) (v:=?vv70) rfl (by kernel_rfl) (by kernel_rfl) (by kernel_rfl) (by kernel_rfl) (fun _ _ _ h=>h) (Or.inl ⟨by rfl,?hy70⟩) (by assumption) ?rest70
      case hy70=>(intro wx hSw; (try dsimp only at hSw); go_simp; try (with_reducible rfl))
      simp only [Act.put,zA,zB,zC,zD,zE,zF]
      refine anyL_take (i:=20) (v:=?vv71) rfl (by kernel_rfl) (by kernel_rfl) (by kernel_rfl) (by kernel_rfl) (fun _ _ _ h=>h) (Or.inl ⟨by rfl,?hy71⟩) (by assumption) ?rest71
      case hy71=>(intro wx hSw; (try dsimp only at hSw); go_simp; try (with_reducible rfl))
      simp only [Act.put,zA,zB,zC,zD,zE,zF]
      refine anyL_take (i:=21) (v:=?vv72) rfl (by kernel_rfl) (by kernel_rfl) (by kernel_rfl) (by kernel_rfl) (fun _ _ _ h=>h) (Or.inl ⟨by rfl,?hy72⟩) (by assumption) ?rest72
      case hy72=>(intro wx hSw; (try dsimp only at hSw); go_simp; try (with_reducible rfl))
      simp only [Act.put,zA,zB,zC,zD,zE,zF]
      refine anyL_take (i:=22) (v:=?vv73) rfl (by kernel_rfl) (by kernel_rfl) (by kernel_rfl) (by kernel_rfl) (fun _ _ _ h=>h) (Or.inl ⟨by rfl,?hy73⟩) (by assumption) ?rest73
      case hy73=>(intro wx hSw; (try dsimp only at hSw); go_simp; try (with_reducible rfl))
      simp only [Act.put,zA,zB,zC,zD,zE,zF]
      refine anyL_take (i:=23) (v:=?vv74) rfl (by kernel_rfl) (by kernel_rfl) (by kernel_rfl) (by kernel_rfl) (fun _ _ _ h=>h) (Or.inl ⟨by rfl,?hy74⟩) (by assumption) ?rest74
      case hy74=>(intro wx hSw; (try dsimp only at hSw); go_simp; try (with_reducible rfl))
      simp only [Act.put,zA,zB,zC,zD,zE,zF]
      refine anyL_take (i:=24) (v:=?vv75) rfl (by kernel_rfl) (by kernel_rfl) (by kernel_rfl) (by kernel_rfl) (fun _ _ _ h=>h) (Or.inl ⟨by rfl,?hy75⟩) (by assumption) ?rest75
      case hy75=>(intro wx hSw; (try dsimp only at hSw); go_simp; try (with_reducible rfl))
      simp only [Act.put,zA,zB,zC,zD,zE,zF]
      refine anyL_done (by kernel_rfl) ?_ _
      clear hHeld
      have hbzd:Below u2.drew.heap.size u2.drew uz.drew:=HBZ.out.trans ((Below.refl _ _).drew.mono HBZ.out.size)
      have hsd:=HALL.out uz.drew hbzd
      have hJd2:JSt w.heap.size W0.heap.size W.heap.size w.heap.size (w.heap.size + 1) (some ⟨g,0,none⟩) vc' (L',[]) uz.drew:=HJd.out.below hbzd
      obtain ⟨g',hgg,hfz',_,hst'⟩:=hJd2.setAt (i:=k) (by simp only; have:=HNK.out; have:=HN.out; omega)
      cases hgg
      have hyk2:L'[k]'(by have:=HNK.out; have:=HN.out; omega)=⟨yo,yl,yd⟩:=HYK.out _
      simp only [hyk2] at hst'
      obtain ⟨r1,r2,r3⟩:=hst' ⟨yo,zl,yd⟩ 1 (.int .i64 (zl:Int)) (by decide) (by simp [opCs])
      simp only [HSE.out] at r1
      have hjc:jnC L' ⟨off,len,data⟩=L0 ++ [⟨yo,zl,yd⟩]:=by rw [HJC.out,HYZ.out]
      have HR:=hid (HEND.out (uz.drew.setCell ⟨g,k * 3 + 1,none⟩ (.int .i64 (zl:Int))) _ _ (by rw [hjc]; exact r1) ((HFd.out.trans (FrK.below hbzd)).trans r2) ((HB2.out.drew.trans (hbzd.mono (Nat.le_trans HWY.out.2.2 HFd.out.ot.size))).trans r3))
      have hf1':=hfz' (k * 3 + 1)
      clear hlc hs0 hsz HALL HIC hJd2 hst' r1 r2 r3 hbzd hfz' hyk2 hjc
      gi_wp2
      refine wpIn_region_L (S:=(fun Wx=>Wx.cell? ⟨w.heap.size,0,none⟩=some (.slice (some ⟨g,0,none⟩) n vc')/\Wx.cell? ⟨g,k * 3,none⟩=some (.int .i64 (yo:Int))/\Wx.cell? ⟨g,k * 3 + 1,none⟩=some (.int .i64 (yl:Int))/\Wx.cell? ⟨g,k * 3 + 2,none⟩=some (.string ⟨yd.toArray⟩)/\Wx.cell? ⟨Wy.heap.size,0,none⟩=some (.int .i64 (off:Int))/\Wx.cell? ⟨Wy.heap.size,1,none⟩=some (.int .i64 (len:Int)))) [10] l (by kernel_rfl) (fun ⟨_,_,h⟩=>h) (by kernel_rfl) hsd (fun hHeld=>?_)
      refine anyL_take (i:=0) (v:=?vv76) rfl (by kernel_rfl) (by kernel_rfl) (by kernel_rfl) (by kernel_rfl) (fun _ _ _ h=>h) (Or.inl ⟨by rfl,?hy76⟩) (by assumption) ?rest76
      case hy76=>(intro wx hSw; (try dsimp only at hSw); go_simp; try (with_reducible rfl))
      simp only [Act.put,zA,zC,zD,zE,zF]
      refine anyL_take (i:=1) (v:=?vv77) rfl (by kernel_rfl) (by kernel_rfl) (by kernel_rfl) (by kernel_rfl) (fun _ _ _ h=>h) (Or.inl ⟨by rfl,?hy77⟩) (by assumption) ?rest77
      case hy77=>(intro wx hSw; (try dsimp only at hSw); go_simp; try (with_reducible rfl))
      simp only [Act.put,zA,zB,zC,zD,zE,zF]
      refine anyL_take (i:=2) (v:=?vv78) rfl (by kernel_rfl) (by kernel_rfl) (by kernel_rfl) (by kernel_rfl) (fun _ _ _ h=>h) (Or.inl ⟨by rfl,?hy78⟩) (by assumption) ?rest78
      case hy78=>(intro wx hSw; (try dsimp only at hSw); go_simp; try (with_reducible rfl))
      simp only [Act.put,zA,zB,zC,zD,zE,zF]
      refine anyL_take (i:=3) (v:=?vv79) rfl (by kernel_rfl) (by kernel_rfl) (by kernel_rfl) (by kernel_rfl) (fun _ _ _ h=>h) (Or.inl ⟨by rfl,?hy79⟩) (by assumption) ?rest79
      case hy79=>(intro wx hSw; (try dsimp only at hSw); go_simp; try (with_reducible rfl))
      simp only [Act.put,zA,zB,zC,zD,zE,zF]
      refine anyL_take (i:=4) (v:=?vv80) rfl (by kernel_rfl) (by kernel_rfl) (by kernel_rfl) (by kernel_rfl) (fun _ _ _ h=>h) (Or.inl ⟨by rfl,?hy80⟩) (by assumption) ?rest80
      case hy80=>(intro wx hSw; (try dsimp only at hSw); go_simp; try (with_reducible rfl))
      simp only [Act.put,zA,zB,zC,zD,zE,zF]
      refine anyL_take (i:=5) (v:=?vv81) rfl (by kernel_rfl) (by kernel_rfl) (by kernel_rfl) (by kernel_rfl) (fun _ _ _ h=>h) (Or.inl ⟨by rfl,?hy81⟩) (by assumption) ?rest81
      case hy81=>(intro wx hSw; (try dsimp only at hSw); go_simp; try (with_reducible rfl))
      simp only [Act.put,zA,zB,zC,zD,zE,zF]
      refine anyL_take (i:=6) (v:=?vv82) rfl (by kernel_rfl) (by kernel_rfl) (by kernel_rfl) (by kernel_rfl) (fun _ _ _ h=>h) (Or.inl ⟨by rfl,?hy82⟩) (by assumption) ?rest82
      case hy82=>(intro wx hSw; (try dsimp only at hSw); go_simp; try (with_reducible rfl))
      simp only [Act.put,zA,zB,zC,zD,zE,zF]
      refine anyL_take (i:=7) (v:=?vv83) rfl (by kernel_rfl) (by kernel_rfl) (by kernel_rfl) (by kernel_rfl) (fun _ _ _ h=>h) (Or.inl ⟨by rfl,?hy83⟩) (by assumption) ?rest83
      case hy83=>(intro wx hSw; (try dsimp only at hSw); go_simp; try (with_reducible rfl))
      simp only [Act.put,zA,zB,zC,zD,zE,zF]
      refine anyL_take (i:=8) (v:=?vv84) rfl (by kernel_rfl) (by kernel_rfl) (by kernel_rfl) (by kernel_rfl) (fun _ _ _ h=>h) (Or.inl ⟨by rfl,?hy84⟩) (by assumption) ?rest84
      case hy84=>(intro wx hSw; (try dsimp only at hSw); go_simp; try (with_reducible rfl))
      simp only [Act.put,zA,zB,zC,zD,zE,zF]
      refine anyL_take (i:=9) (v:=?vv85) rfl (by kernel_rfl) (by kernel_rfl) (by kernel_rfl) (by kernel_rfl) (fun _ _ _ h=>h) (Or.inl ⟨by rfl,?hy85⟩) (by assumption) ?rest85
      case hy85=>(intro wx hSw; (try dsimp only at hSw); go_simp; try (with_reducible rfl))
      simp only [Act.put,zA,zB,zC,zD,zE,zF]
      refine anyL_one (i:=10) (by kernel_rfl) rfl (fun K hK=>?_)
      have hsd1:=hsd.2.2.1
      go_simp
      refine hK.out _ _ ((fun h=>absurd h (by decide))) (fun hHeld=>?_)
      clear hK K
      refine anyL_done (by kernel_rfl) ?_ _
      clear hHeld hsd hsd1 hf1'
      gi_wp2
      exact HR.out
     ·rw [if_neg (fun h=>hoff h.2)] at hJC
      have hbq:((ye:Int) == (off:Int))=false:=by simp; omega
      have HJC:=hid hJC
      clear hJC hoff
      gi_wp2
      refine wpIn_region_L (S:=(fun Wx=>Wx.cell? ⟨w.heap.size,0,none⟩=some (.slice (some ⟨g,0,none⟩) n vc')/\Wx.cell? ⟨g,k * 3,none⟩=some (.int .i64 (yo:Int))/\Wx.cell? ⟨g,k * 3 + 1,none⟩=some (.int .i64 (yl:Int))/\Wx.cell? ⟨g,k * 3 + 2,none⟩=some (.string ⟨yd.toArray⟩)/\Wx.cell? ⟨Wy.heap.size,0,none⟩=some (.int .i64 (off:Int))/\Wx.cell? ⟨Wy.heap.size,1,none⟩=some (.int .i64 (len:Int)))) [] l (by kernel_rfl) (fun ⟨_,_,h⟩=>h) (by kernel_rfl) hs0 (fun hHeld=>?_)
      refine anyL_take (i:=0) (v:=?vv86) rfl (by kernel_rfl) (by kernel_rfl) (by kernel_rfl) (by kernel_rfl) (fun _ _ _ h=>h) (Or.inl ⟨by rfl,?hy86⟩) (by assumption) ?rest86
      case hy86=>(intro wx hSw; (try dsimp only at hSw); go_simp; try (with_reducible rfl))
      simp only [Act.put,zA,zC,zD,zE,zF]
      refine anyL_take (i:=1) (v:=?vv87) rfl (by kernel_rfl) (by kernel_rfl) (by kernel_rfl) (by kernel_rfl) (fun _ _ _ h=>h) (Or.inl ⟨by rfl,?hy87⟩) (by assumption) ?rest87
      case hy87=>(intro wx hSw; (try dsimp only at hSw); go_simp; try (with_reducible rfl))
      simp only [Act.put,zA,zB,zC,zD,zE,zF]
      refine anyL_take (i:=2) (v:=?vv88) rfl (by kernel_rfl) (by kernel_rfl) (by kernel_rfl) (by kernel_rfl) (fun _ _ _ h=>h) (Or.inl ⟨by rfl,?hy88⟩) (by assumption) ?rest88
      case hy88=>(intro wx hSw; (try dsimp only at hSw); go_simp; try (with_reducible rfl))
      simp only [Act.put,zA,zB,zC,zD,zE,zF]
      refine anyL_take (i:=3) (v:=?vv89) rfl (by kernel_rfl) (by kernel_rfl) (by kernel_rfl) (by kernel_rfl) (fun _ _ _ h=>h) (Or.inl ⟨by rfl,?hy89⟩) (by assumption) ?rest89
      case hy89=>(intro wx hSw; (try dsimp only at hSw); go_simp; try (with_reducible rfl))
      simp only [Act.put,zA,zB,zC,zD,zE,zF]
      refine anyL_take (i:=4) (v:=?vv90) rfl (by kernel_rfl) (by kernel_rfl) (by kernel_rfl) (by kernel_rfl) (fun _ _ _ h=>h) (Or.inl ⟨by rfl,?hy90⟩) (by assumption) ?rest90
      case hy90=>(intro wx hSw; (try dsimp only at hSw); go_simp; try (with_reducible rfl))
      simp only [Act.put,zA,zB,zC,zD,zE,zF]
      refine anyL_take (i:=5) (v:=?vv91) rfl (by kernel_rfl) (by kernel_rfl) (by kernel_rfl) (by kernel_rfl) (fun _ _ _ h=>h) (Or.inl ⟨by rfl,?hy91⟩) (by assumption) ?rest91
      case hy91=>(intro wx hSw; (try dsimp only at hSw); go_simp; try (with_reducible rfl))
      simp only [Act.put,zA,zB,zC,zD,zE,zF]
      refine anyL_take (i:=6) (v:=?vv92) rfl (by kernel_rfl) (by kernel_rfl) (by kernel_rfl) (by kernel_rfl) (fun _ _ _ h=>h) (Or.inl ⟨by rfl,?hy92⟩) (by assumption) ?rest92
      case hy92=>(intro wx hSw; (try dsimp only at hSw); go_simp; try (with_reducible rfl))
      simp only [Act.put,zA,zB,zC,zD,zE,zF]
      refine anyL_one (i:=7) (by kernel_rfl) rfl (fun K hK=>?_)
      go_simp
      (with_reducible refine (HIC.out).mono ?_)
      rintro e uz ⟨rfl,hbz⟩
      have hsz:=HALL.out uz hbz
      have HBZ:=hid hbz
      clear hbz hHeld
      refine hK.out _ _ ((fun _=>hsz)) (fun hHeld=>?_)
      clear hK K
      refine anyL_take (i:=8) (v:=?vv93) rfl (by kernel_rfl) (by kernel_rfl) (by kernel_rfl) (by kernel_rfl) (fun _ _ _ h=>h) (Or.inl ⟨by rfl,?hy93⟩) (by assumption) ?rest93
      case hy93=>(intro wx hSw; (try dsimp only at hSw); go_simp; try (with_reducible rfl))
      simp only [Act.put,zA,zB,zC,zD,zE,zF]
      refine anyL_take (i:=9) (v:=?vv94) rfl (by kernel_rfl) (by kernel_rfl) (by kernel_rfl) (by kernel_rfl) (fun _ _ _ h=>h) (Or.inl ⟨by rfl,?hy94⟩) (by assumption) ?rest94
      case hy94=>(intro wx hSw; (try dsimp only at hSw); go_simp; try (with_reducible rfl))
      simp only [Act.put,zA,zB,zC,zD,zE,zF]
      refine anyL_take (i:=10) (v:=?vv95) rfl (by kernel_rfl) (by kernel_rfl) (by kernel_rfl) (by kernel_rfl) (fun _ _ _ h=>h) (Or.inl ⟨by rfl,?hy95⟩) (by assumption) ?rest95
      case hy95=>(intro wx hSw; (try dsimp only at hSw); go_simp; try (with_reducible rfl))
      simp only [Act.put,zA,zB,zC,zD,zE,zF]
      refine anyL_take (i:=11) (v:=?vv96) rfl (by kernel_rfl) (by kernel_rfl) (by kernel_rfl) (by kernel_rfl) (fun _ _ _ h=>h) (Or.inl ⟨by rfl,?hy96⟩) (by assumption) ?rest96
      case hy96=>(intro wx hSw; (try dsimp only at hSw); go_simp; try (with_reducible rfl))
      simp only [Act.put,zA,zB,zC,zD,zE,zF]
      refine anyL_take (i:=12) (v:=?vv97) rfl (by kernel_rfl) (by kernel_rfl) (by kernel_rfl) (by kernel_rfl) (fun _ _ _ h=>h) (Or.inl ⟨by rfl,?hy97⟩) (by assumption) ?rest97
      case hy97=>(intro wx hSw; (try dsimp only at hSw); go_simp; try (with_reducible rfl))
      simp only [Act.put,zA,zB,zC,zD,zE,zF]
      refine anyL_take (i:=13) (v:=?vv98) rfl (by kernel_rfl) (by kernel_rfl) (by kernel_rfl) (by kernel_rfl) (fun _ _ _ h=>h) (Or.inl ⟨by rfl,?hy98⟩) (by assumption) ?rest98
      case hy98=>(intro wx hSw; (try dsimp only at hSw); go_simp; try (with_reducible rfl))
      simp only [Act.put,zA,zB,zC,zD,zE,zF]
      refine anyL_take (i:=14) (v:=?vv99) rfl (by kernel_rfl) (by kernel_rfl) (by kernel_rfl) (by kernel_rfl) (fun _ _ _ h=>h) (Or.inl ⟨by rfl,?hy99⟩) (by assumption) ?rest99
      case hy99=>(intro wx hSw; (try dsimp only at hSw); go_simp; try (with_reducible rfl))
      simp only [Act.put,zA,zB,zC,zD,zE,zF]
      refine anyL_take (i:=15) (v:=?vv100) rfl (by kernel_rfl) (by kernel_rfl) (by kernel_rfl) (by kernel_rfl) (fun _ _ _ h=>h) (Or.inl ⟨by rfl,?hy100⟩) (by assumption) ?rest100
      case hy100=>(intro wx hSw; (try dsimp only at hSw); go_simp; try (with_reducible rfl))
      simp only [Act.put,zA,zB,zC,zD,zE,zF]
      refine anyL_take (i:=16) (v:=?vv101) rfl (by kernel_rfl) (by kernel_rfl) (by kernel_rfl) (by kernel_rfl) (fun _ _ _ h=>h) (Or.inl ⟨by rfl,?hy101⟩) (by assumption) ?rest101
      case hy101=>(intro wx hSw; (try dsimp only at hSw); go_simp; try (with_reducible rfl))
      simp only [Act.put,zA,zB,zC,zD,zE,zF]
      refine anyL_take (i:=17) (v:=?vv102) rfl (by kernel_rfl) (by kernel_rfl) (by kernel_rfl) (by kernel_rfl) (fun _ _ _ h=>h) (Or.inl ⟨by rfl,?hy102⟩) (by assumption) ?rest102
      case hy102=>(intro wx hSw; (try dsimp only at hSw); go_simp; try (with_reducible rfl))
      simp only [Act.put,zA,zB,zC,zD,zE,zF]
      refine anyL_take (i:=18) (v:=?vv103) rfl (by kernel_rfl) (by kernel_rfl) (by kernel_rfl) (by kernel_rfl) (fun _ _ _ h=>h) (Or.inl ⟨by rfl,?hy103⟩) (by assumption) ?rest103
      case hy103=>(intro wx hSw; (try dsimp only at hSw); go_simp; try (with_reducible rfl))
      simp only [Act.put,zA,zB,zC,zD,zE,zF]
      refine anyL_take (i:=19) (v:=?vv104) rfl (by kernel_rfl) (by kernel_rfl) (by kernel_rfl) (by kernel_rfl) (fun _ _ _ h=>h) (Or.inl ⟨by rfl,?hy104⟩) (by assumption) ?rest104
      case hy104=>(intro wx hSw; (try dsimp only at hSw); go_simp; try (with_reducible rfl))
      simp only [Act.put,zA,zB,zC,zD,zE,zF]
      refine anyL_take (i:=20) (v:=?vv105) rfl (by kernel_rfl) (by kernel_rfl) (by kernel_rfl) (by kernel_rfl) (fun _ _ _ h=>h) (Or.inl ⟨by rfl,?hy105⟩) (by assumption) ?rest105
      case hy105=>(intro wx hSw; (try dsimp only at hSw); go_simp; try (with_reducible rfl))
      simp only [Act.put,zA,zB,zC,zD,zE,zF]
      refine anyL_take (i:=21) (v:=?vv106) rfl (by kernel_rfl) (by kernel_rfl) (by kernel_rfl) (by kernel_rfl) (fun _ _ _ h=>h) (Or.inl ⟨by rfl,?hy106⟩) (by assumption) ?rest106
      case hy106=>(intro wx hSw; (try dsimp only at hSw); go_simp; try (with_reducible rfl))
      simp only [Act.put,zA,zB,zC,zD,zE,zF]
      refine anyL_take (i:=22) (v:=?vv107) rfl (by kernel_rfl) (by kernel_rfl) (by kernel_rfl) (by kernel_rfl) (fun _ _ _ h=>h) (Or.inl ⟨by rfl,?hy107⟩) (by assumption) ?rest107
      case hy107=>(intro wx hSw; (try dsimp only at hSw); go_simp; try (with_reducible rfl))
      simp only [Act.put,zA,zB,zC,zD,zE,zF]
      refine anyL_take (i:=23) (v:=?vv108) rfl (by kernel_rfl) (by kernel_rfl) (by kernel_rfl) (by kernel_rfl) (fun _ _ _ h=>h) (Or.inl ⟨by rfl,?hy108⟩) (by assumption) ?rest108
      case hy108=>(intro wx hSw; (try dsimp only at hSw); go_simp; try (with_reducible rfl))
      simp only [Act.put,zA,zB,zC,zD,zE,zF]
      refine anyL_take (i:=24) (v:=?vv109) rfl (by kernel_rfl) (by kernel_rfl) (by kernel_rfl) (by kernel_rfl) (fun _ _ _ h=>h) (Or.inl ⟨by rfl,?hy109⟩) (by assumption) ?rest109
      case hy109=>(intro wx hSw; (try dsimp only at hSw); go_simp; try (with_reducible rfl))
      simp only [Act.put,zA,zB,zC,zD,zE,zF]
      refine anyL_done (by kernel_rfl) ?_ _
      clear hHeld hlc hs0 hsz HALL HIC
      have hJz:JSt w.heap.size W0.heap.size W.heap.size w.heap.size (w.heap.size + 1) (some ⟨g,0,none⟩) vc' (L',[]) uz:=HJd.out.below HBZ.out
      have hFz:=HFd.out.trans (FrK.below HBZ.out)
      have hBz:=HB2.out.drew.trans (HBZ.out.mono (Nat.le_trans HWY.out.2.2 HFd.out.ot.size))
      obtain ⟨va3,vc3,W3,hrun,hbx3,hj4,hf4,hb4⟩:=hJz.push ⟨off,len,data⟩ (by simp only; have:=HN.out; omega)
      simp only [<-HN.out] at hrun hbx3 hj4 hf4 hb4
      have HR:=hid (HEND.out _ va3 vc3 (by rw [HJC.out]; exact hj4) (hFz.trans hf4) (hBz.trans hb4))
      have hbz:=HBK.out uz hFz
      obtain ⟨x0,x1,x2⟩:=BK.c3 (show BK _ #[.int .i64 (off:Int),.int .i64 (len:Int),.string ⟨data.toArray⟩] _ _ from hbz)
      have hlz:=hJz.box.c1
      simp only [<-HN.out] at hlz
      have hl3:=hbx3.c1
      have hl3f:=hbx3.frozen 0
      have HRUN:=hrun
      simp only [opCs] at HRUN
      clear hrun hbx3 hj4 hf4 hb4 hbz hJz hFz hBz
      gi_wp2_with (gi_at_builtin; refine wpListIn_app _ rfl _ _ _ _ rfl _ _ rfl rfl _ _ HRUN.out ?_)
      exact HR.out
end
theorem fold_join:∀ (xs:List Dop) (st:List Dop × List UInt8),lastC st.1->(∀ x ∈ xs,fitO x)->jnF (xs.foldl jnS st)=xs.foldl addO (jnF st)
 | [],st,_,_=>rfl
 | x :: xs,st,hc,hf=>by
  obtain ⟨h1,h2⟩:=jn_law (o:=x) hc (hf x (by simp))
  rw [List.foldl_cons,List.foldl_cons,fold_join xs _ h2 (fun y hy=>hf y (by simp [hy])),h1]
structure JnB (A n:Nat) (st:List Dop × List UInt8):Prop where
 l:st.1.length<=2 * n
 t:st.2.length<=n
 e:∀ y ∈ st.1,y.off + y.len<=A
theorem JnB.next {A n:Nat} {st:List Dop × List UInt8} (h:JnB A n st) {x:Dop} (h1:x.off + x.len<=A) (h2:x.data.length<=1):JnB A (n + 1) (jnS st x):=by
 obtain ⟨L,t⟩:=st
 have hl:=h.l
 have ht:=h.t
 have hj:=jnF_le (L,t)
 have hm:∀ y ∈ jnF (L,t),y.off + y.len<=A:=fun y hy=>by
  rcases jnF_mem hy with h3 | ⟨h3,h4⟩
  ·exact h.e y h3
  ·omega
 simp only at hl ht hj
 by_cases hi:insO x=true
 ·have:jnS (L,t) x=(L,t ++ x.data):=by unfold jnS; rw [if_pos hi]
  rw [this]
  exact ⟨by simp only; omega,by simp only [List.length_append]; omega,h.e⟩
 ·have:jnS (L,t) x=(jnC (jnF (L,t)) x,[]):=by unfold jnS; rw [if_neg hi]
  rw [this]
  generalize jnF (L,t)=L' at hj hm
  have key:(jnC L' x).length<=L'.length + 1/\∀ y ∈ jnC L' x,y.off + y.len<=A:=by
   rcases List.eq_nil_or_concat L' with rfl | ⟨L0,y,rfl⟩
   ·exact ⟨by simp [jnC],fun z hz=>by simp [jnC] at hz; rw [hz]; exact h1⟩
   ·rw [List.concat_eq_append] at hm ⊢
    unfold jnC
    simp only [List.getLast?_append,List.getLast?_singleton,Option.some_or,List.dropLast_concat]
    by_cases hc:copyO y=true/\y.off + y.len=x.off
    ·rw [if_pos hc]
     refine ⟨by simp,fun z hz=>?_⟩
     rcases List.mem_append.1 hz with hz | hz
     ·exact hm z (by simp [hz])
     ·rw [List.mem_singleton.1 hz]; simp only; omega
    ·rw [if_neg hc]
     refine ⟨by simp,fun z hz=>?_⟩
     rcases List.mem_append.1 hz with hz | hz
     ·exact hm z hz
     ·rw [List.mem_singleton.1 hz]; exact h1
  exact ⟨by simp only; omega,by simp,key.2⟩
theorem jnB_fold {A:Nat}:∀ (pre:List Dop) {n:Nat} {st:List Dop × List UInt8},JnB A n st->(∀ x ∈ pre,x.off + x.len<=A/\x.data.length<=1)->JnB A (n + pre.length) (pre.foldl jnS st)
 | [],n,st,h,_=>h
 | x :: pre,n,st,h,hp=>by
  have h1:=h.next (hp x (by simp)).1 (hp x (by simp)).2
  have h2:=jnB_fold pre h1 (fun y hy=>hp y (by simp [hy]))
  rw [List.foldl_cons,List.length_cons]
  rwa [show n + 1 + pre.length=n + (pre.length + 1) by omega] at h2
theorem stepsGo_mem {a b:List UInt8}:∀ (f k:Nat),∀ x ∈ stepsGo a b f k,∃ j,j < b.length/\x=nextO a b j
 | 0,k,x,h=>by simp [stepsGo] at h
 | f + 1,k,x,h=>by
  rw [stepsGo] at h
  by_cases e:k < b.length
  ·rw [if_pos e] at h
   rcases List.mem_cons.1 h with h | h
   ·exact ⟨k,e,h⟩
   ·exact stepsGo_mem f _ x h
  ·rw [if_neg e] at h; simp at h
theorem stepsGo_len {a b:List UInt8}:∀ (f k:Nat),(stepsGo a b f k).length<=f
 | 0,k=>by simp [stepsGo]
 | f + 1,k=>by
  rw [stepsGo]
  by_cases e:k < b.length
  ·rw [if_pos e,List.length_cons]
   have:=stepsGo_len (a:=a) (b:=b) f (k + sizeO (nextO a b k))
   omega
  ·rw [if_neg e]; simp
theorem next_small {a b:List UInt8} {k:Nat} (hk:k < b.length):fitO (nextO a b k)/\(nextO a b k).off + (nextO a b k).len<=a.length/\(nextO a b k).data.length<=1:=by
 obtain ⟨h1,h2,_⟩:=nextO_fit (a:=a) hk
 refine ⟨h1,?_,?_⟩
 ·by_cases e:0 < (nextO a b k).len
  ·exact h2 e
  ·rcases h1 with h1 | ⟨g1,g2,_⟩
   ·exact absurd h1.1 e
   ·omega
 ·unfold nextO
  split
  ·simp
  ·simp only [List.length_take]; omega
theorem steps_small {a b:List UInt8}:∀ x ∈ stepsS a b,fitO x/\x.off + x.len<=a.length/\x.data.length<=1:=fun x hx=>by
 obtain ⟨j,hj,rfl⟩:=stepsGo_mem _ _ x hx
 exact next_small hj
theorem steps_bd {a b:List UInt8} (ha:a.length<=1000) (hb:b.length<=100000):JBd (stepsS a b):=by
 have hlen:(stepsS a b).length<=b.length:=stepsGo_len _ _
 have key:∀ pre,pre <+: stepsS a b->JnB a.length pre.length (pre.foldl jnS ([],[])):=fun pre hp=>by
  have:=jnB_fold pre (A:=a.length) (n:=0) (st:=([],[])) ⟨by simp,by simp,fun y hy=>by simp at hy⟩ (fun x hx=>(steps_small x (hp.subset hx)).2)
  rwa [Nat.zero_add] at this
 refine ⟨fun pre x hok=>?_,?_⟩
 ·have hp:pre <+: stepsS a b:=(List.prefix_append pre [x]).trans hok
  have h1:=key pre hp
  have h2:=hp.length_le
  obtain ⟨g1,g2,g3⟩:=steps_small x (hok.subset (by simp))
  have:=h1.l
  have:=h1.t
  exact ⟨g1,by omega,by omega,by omega,fun y hy=>by have:=h1.e y hy; omega⟩
 ·have h1:=key _ (List.prefix_refl _)
  have:=h1.l
  have:=h1.t
  omega
theorem steps_join (a b:List UInt8):joinR (stepsS a b)=diffS a b:=by
 unfold joinR
 rw [fold_join _ _ lastC_nil (fun x hx=>(steps_small x hx).1),diffS_steps]
 rfl
theorem newSource_any (a:List UInt8) (w:World) (ha:a.length<=1000):Calls Tryz.prog 73 #[.string ⟨a.toArray⟩] w fun e w'=>∃ ib,e = .returned (.agg #[.pointer (some ⟨ib,0,none⟩)])/\Hid (IxOwn a (w.heap.size + 1) ib w')/\Below w.heap.size w w':=by
 obtain ⟨w1,hw1⟩:∃ w1,w1=w.alloc (.cells #[.pointer none] 140):=⟨_,rfl⟩
 have hb1:Below w.heap.size w w1:=by rw [hw1]; exact (Below.refl _ _).alloc (Nat.le_refl _) _
 have HK:=hid (show BK w.heap.size #[.pointer none] 140 w1 by rw [hw1]; exact BK.new _ _ _)
 have HN:=hid (newIndex_any a w1 ha)
 have hss:=ba_len a
 have hex:(⟨a.toArray⟩:ByteArray).extract 0 a.length=⟨a.toArray⟩:=by rw [ex_mid]; simp
 have hn:(a.length:Int)<=65536:=by omega
 have hn1:min (a.length:Int) 65536=(a.length:Int):=by omega
 have HB:=hid hb1
 have hs1:w1.heap.size=w.heap.size + 1:=by rw [hw1]; simp
 have HS1:=hid hs1
 clear hs1
 generalize a.length=n at *
 rw [hw1] at HN
 have HW:=hid hw1
 clear hb1 hw1
 go_enter Tryz.func73,Tryz.ntmps73
 go_wp2_with fail
 (with_reducible refine (HN.out).mono ?_)
 rintro e u ⟨ib,rfl,HI,hb,hlo⟩
 rw [<-HW.out] at hb hlo HI
 rw [HS1.out] at HI
 have hk:=HK.out.below hb
 have hg:=gset u w.heap.size 0 (.pointer (some ⟨ib,0,none⟩))
 have hk2:BK w.heap.size #[.pointer (some ⟨ib,0,none⟩)] 140 (u.setCell ⟨w.heap.size,0,none⟩ (.pointer (some ⟨ib,0,none⟩))):=hk.set 0 _
 have HI2:Hid (IxOwn a (w.heap.size + 1) ib (u.setCell ⟨w.heap.size,0,none⟩ (.pointer (some ⟨ib,0,none⟩)))):=hid (HI.out.grown hg (Nat.lt_succ_self _))
 have HB2:=hid ((HB.out.trans (hb.mono HB.out.size)).setCell (p:=⟨w.heap.size,0,none⟩) (Nat.le_refl _) (.pointer (some ⟨ib,0,none⟩)))
 have r0:=BK.c1 (show BK _ #[.pointer none] _ _ from hk)
 have fr0:=BK.f1 (hk)
 have r3:=hk2.c1
 clear hk hk2 hg hb hlo HI HN HK HB HW
 go_wp2_with fail
 refine bodyPost_ret (v:=.agg #[.pointer (some ⟨ib,0,none⟩)]) (by simp [results,Tryz.results73,go_sem,r3]) rfl ?_
 exact ⟨ib,rfl,HI2,HB2.out⟩
theorem sdiff_any {a b:List UInt8} {ib:Nat} {w:World} (h:IxOf a w.heap.size ib w) (ha:a.length<=1000) (hb:b.length<=65536) :
  Calls Tryz.prog 75 #[.agg #[.pointer (some ⟨ib,0,none⟩)],.string ⟨b.toArray⟩] w fun e w'=>(∃ ad c,e = .returned (.slice ad (diffS a b).length c)/\GIn opCs 3 w'.heap.size w' ad (diffS a b)/\(diffS a b).length<=c)/\Below w.heap.size w w':=by
 obtain ⟨w1,hw1⟩:∃ w1,w1=((w.alloc (.cells #[.pointer (some ⟨ib,0,none⟩)] 140)).alloc (.cells #[.string ⟨b.toArray⟩] 9)).alloc (.cells #[.pointer (some ⟨ib,0,none⟩)] 138):=⟨_,rfl⟩
 obtain ⟨w2,hw2⟩:∃ w2,w2=w1.alloc (.cells #[.func (.func 115) #[] #[.pointer (some ⟨w.heap.size + 1,0,none⟩),.pointer (some ⟨w.heap.size + 2,0,none⟩)]] 189):=⟨_,rfl⟩
 have hs1:w1.heap.size=w.heap.size + 3:=by rw [hw1]; simp
 have hb1:Below w.heap.size w w1:=by rw [hw1]; exact (((Below.refl _ _).alloc (Nat.le_refl _) _).alloc (by simp) _).alloc (by simp; omega) _
 have hb2:Below w1.heap.size w1 w2:=by rw [hw2]; exact (Below.refl _ _).alloc (Nat.le_refl _) _
 have hb12:=hb1.trans (hb2.mono hb1.size)
 have k1:BK (w.heap.size + 1) #[.string ⟨b.toArray⟩] 9 w2:=by rw [hw2,hw1]; exact ((BK.new2 _ _ _ _).alloc _).alloc _
 have k2:BK (w.heap.size + 2) #[.pointer (some ⟨ib,0,none⟩)] 138 w2:=by rw [hw2,hw1]; exact (BK.new3 _ _ _ _ _).alloc _
 have k3:BK (w.heap.size + 3) #[.func (.func 115) #[] #[.pointer (some ⟨w.heap.size + 1,0,none⟩),.pointer (some ⟨w.heap.size + 2,0,none⟩)]] 189 w2:=by rw [hw2,<-hs1]; exact BK.new _ _ _
 have hs2:w2.heap.size=w.heap.size + 4:=by rw [hw2]; simp; omega
 have hdi:DiIn a b w2.heap.size ib (w.heap.size + 1) (w.heap.size + 2) (w.heap.size + 3) w2:=⟨(h.below hb12 (Nat.le_refl _)).mono hb12.size,k1.c1,k2.c1,k3.c1,by omega,by omega,by omega⟩
 have HJN:=hid (join_any (steps_iter hdi (Nat.le_refl _) ha (by omega) 4 (by omega)) (Nat.le_refl _) (enters_of Tryz.func118 (by kernel_rfl) rfl) (steps_bd ha (by omega)))
 rw [steps_join] at HJN
 have hss:=ba_len b
 have hn:¬ (65536:Int) < (b.length:Int):=by omega
 have HB:=hid hb12
 generalize b.length=n at *
 rw [hw2,hw1] at HJN
 have HW2:=hid hw2
 have HW1:=hid hw1
 clear h hb1 hb2 hb12 k1 k2 k3 hdi hw1 hw2
 generalize diffS a b=D at HJN ⊢
 go_enter Tryz.func75,Tryz.ntmps75
 go_wp2_with fail
 (with_reducible refine (HJN.out).mono ?_)
 rintro e u ⟨⟨ad,c,rfl,hg,hc⟩,hb⟩
 rw [<-HW1.out,<-HW2.out] at hb
 have HR:=hid hg
 have HC:=hid hc
 have HB2:=hid (HB.out.trans (hb.mono HB.out.size))
 clear hg hc hb HJN HB HW1 HW2
 go_wp2_with fail
 go_ret
 exact ⟨⟨ad,c,rfl,HR.out,HC.out⟩,HB2.out⟩
theorem dencNum_any {w0 u0:World} {b:Nat} {T:List UInt8} {w:World} (n:Nat) (hn:(n:Int)<=1099511627776) (h:BW w0 u0 b T w) (hT:(T.length:Int)<=70368744177664):Calls Tryz.prog 113 #[.int .i64 (n:Int),.pointer (some ⟨b,0,none⟩)] w fun e w'=>e = .returned (.tuple #[])/\Hid (BW w0 u0 b (T ++ Cw.enc n) w'):=by
 have HP:=hid (putInt_in (n:Int) (by omega) hn w)
 simp only [Int.toNat_natCast] at HP
 have hl:=enc_length n
 have HB:=hid h
 generalize Cw.enc n=E at HP hl ⊢
 have HTL:=hid hT
 have HEL:=hid hl
 clear h
 go_enter Tryz.func113,Tryz.ntmps113
 go_wp2_with fail
 (with_reducible refine (HP.out).mono ?_)
 rintro e u ⟨rfl,hb⟩
 have HB2:=hid (HB.out.below hb)
 have HW:=hid (writeStr_bw HB2.out E (by have:=HTL.out; have:=HEL.out; omega))
 clear hb HP HB HB2
 go_wp2_with fail
 (with_reducible refine (HW.out).mono ?_)
 rintro e u2 ⟨rfl,HW3⟩
 go_wp2_with fail
 go_end0
 exact ⟨rfl,HW3⟩
theorem enc_some (n:Nat):Cw.enc n ≠ []:=by
 unfold Cw.enc
 rw [Cw.encF]
 split <;> simp
theorem flat_tk (l:List Dop) (k:Nat):((l.take k).flatMap encO).length<=(l.flatMap encO).length:=by
 conv=>rhs; rw [<-List.take_append_drop k l,List.flatMap_append,List.length_append]
 omega
theorem enc_all {l:List Dop} (hc:checkD l 65536=0):encL l=(Cw.enc l.length ++ l.flatMap encO,0)/\l.length<=65536/\(∀ o ∈ l,fitO o/\sizeO o<=65536/\o.off<=65536/\o.len<=65536/\o.data.length<=65536)/\(l.flatMap encO).length<=90194313216:=by
 have h1:=(decD_enc hc).1
 have hc2:chkO 65536 l 0=0:=by unfold checkD at hc; rwa [if_neg (by omega)] at hc
 obtain ⟨g1,g2⟩:=chk_fit l 0 hc2 (by omega)
 have g3:∀ o ∈ l,fitO o/\sizeO o<=65536/\o.off<=65536/\o.len<=65536/\o.data.length<=65536:=fun o ho=>by
  obtain ⟨k1,k2,k3⟩:=g1 o ho
  have k4:=fit_data k1
  refine ⟨k1,k2,?_,?_,by omega⟩
  ·by_cases e:0 < o.len
   ·have:=k3 e; omega
   ·rcases k1 with ⟨k,_⟩ | ⟨_,k,_⟩ <;> omega
  ·by_cases e:0 < o.len
   ·have:=k3 e; omega
   ·omega
 refine ⟨h1,by omega,g3,?_⟩
 have key:∀ l:List Dop,(∀ o ∈ l,fitO o/\sizeO o<=65536/\o.data.length<=65536)->(l.flatMap encO).length<=l.length * 1376256:=by
  intro l
  induction l with
  | nil=>intro _; simp
  | cons o l ih=>
   intro h
   have e1:=encO_len (h o (by simp)).1 (h o (by simp)).2.2
   have e2:=(h o (by simp)).2.1
   have e3:=ih (fun x hx=>h x (by simp [hx]))
   rw [List.flatMap_cons,List.length_append,List.length_cons,Nat.add_mul]
   omega
 have h4:=key l (fun o ho=>⟨(g3 o ho).1,(g3 o ho).2.1,(g3 o ho).2.2.2.2⟩)
 have h5:l.length<=65536:=by omega
 exact Nat.le_trans h4 (Nat.le_trans (Nat.mul_le_mul_right 1376256 h5) (by decide))
theorem dencode_any {a:Option Addr} {l:List Dop} {c:Nat} {w:World} (hl:GIn opCs 3 w.heap.size w a l) (hll:(l.length:Int)<=1000000) (hs:∀ o ∈ l,o.data.length<=1099511627776/\o.len<=1099511627776/\o.off<=1099511627776) :
  Calls Tryz.prog 74 #[.slice a l.length c] w fun e w'=>e = .returned (.tuple #[.string ⟨(encL l).1.toArray⟩,.int .i64 (encL l).2])/\Below w.heap.size w w':=by
 have HC:=hid (dcheck_any a l c 65536 w hl (by decide) (by omega) hs)
 rw [show ((65536:Nat):Int)=65536 from rfl] at HC
 obtain ⟨R,hR⟩:∃ R,R=encL l:=⟨_,rfl⟩
 rw [<-hR]
 by_cases hce:checkD l 65536=0
 case neg=>
  have HR:Hid (R=([],checkD l 65536)):=hid (by rw [hR]; unfold encL; rw [if_pos hce])
  generalize checkD l 65536=ce at *
  have hne:(ce != 0)=true:=by simpa using hce
  generalize l.length=n at *
  clear hR hl hs hce
  go_enter Tryz.func74,Tryz.ntmps74
  go_wp2_with fail
  (with_reducible refine (HC.out).mono ?_)
  rintro e u ⟨rfl,hb⟩
  have HB:=hid hb
  clear hb HC
  go_wp2_with fail
  go_ret2
  exact ⟨by rw [HR.out]; first | done | rfl,HB.out⟩
 case pos=>
 obtain ⟨he,hn1,hall,hflat⟩:=enc_all hce
 have HR:Hid (R=(Cw.enc l.length ++ l.flatMap encO,0)):=hid (by rw [hR,he])
 have HALL:=hid hall
 have HFL:=hid hflat
 have HL:=hid hl
 rw [hce] at HC
 obtain ⟨n,hn⟩:∃ n,n=l.length:=⟨_,rfl⟩
 have HN:Hid (n=l.length):=hid hn
 rw [<-hn] at HC HR hn1 ⊢
 clear hR hl hs hce he hall hflat hn
 have hni:(n:Int)<=65536:=by omega
 go_enter Tryz.func74,Tryz.ntmps74
 go_wp2_with fail
 (with_reducible refine (HC.out).mono ?_)
 rintro e u ⟨rfl,hb⟩
 obtain ⟨u1,hu1⟩:∃ u1,u1=u.alloc (.cells #[.pointer none,.slice none 0 0] 125):=⟨_,rfl⟩
 obtain ⟨bb,hbb⟩:∃ bb,bb=u.heap.size:=⟨_,rfl⟩
 have hbw:Below w.heap.size w u1:=by rw [hu1]; exact hb.alloc hb.size _
 have HBW:Hid (BW w u1 bb [] u1):=hid (BW.start hbw (by rw [hbb]; exact hb.size) (by rw [hu1,hbb]; exact World.alloc_heap_new _ _))
 have HNM:=hid (dencNum_any n (by omega) HBW.out (by simp))
 rw [List.nil_append,hu1] at HNM
 have HU:=hid hu1
 clear hb hbw HC hu1 HBW
 go_wp2_with fail
 rw [<-hbb]
 clear hbb
 (with_reducible refine (HNM.out).mono ?_)
 rintro e u2 ⟨rfl,HB2⟩
 rw [<-HU.out] at HB2
 have HEL:=hid (enc_length n)
 have HNE:=hid (enc_some n)
 generalize Cw.enc n=E at HB2 HR HEL HNE
 clear HNM HU
 go_wp2_with fail
 go_loopw [23] (fun i wr=>∃ (k:Nat) (w0:World),k<=n/\i = .int .i64 (k:Int)/\Hid (BW w w0 bb (E ++ (l.take k).flatMap encO) wr)) (fun i _=>n - (intOf i).toNat)
 case atStart=>exact ⟨0,u1,by omega,rfl,hid (by simpa using HB2.out)⟩
 clear HB2
 obtain ⟨k,w0,hk,rfl,HB⟩:=hrel
 have hT:((E ++ (l.take k).flatMap encO).length:Int)<=90194313226:=by
  have h1:=flat_tk l k
  have h2:=HFL.out
  have h3:=HEL.out
  rw [List.length_append]
  omega
 by_cases hlt:k < n
 ·have hkn:(k:Int) < (n:Int):=by omega
  have hkl:k < l.length:=by rw [<-HN.out]; exact hlt
  obtain ⟨b0,o0,haa,hbl,q0,q1,q2⟩:=op_cells (HL.out.below HB.out.bel (Nat.le_refl _)) hkl
  obtain ⟨g1,g2,g3,g4,g5⟩:=HALL.out _ (List.getElem_mem hkl)
  have hnx:(l.take (k + 1)).flatMap encO=(l.take k).flatMap encO ++ encO l[k]:=by rw [List.take_succ_eq_append_getElem hkl,List.flatMap_append]; simp
  have hlen:=enc_length l[k].len
  have hlof:=enc_length l[k].off
  generalize l[k]=x at *
  obtain ⟨off,len,data⟩:=x
  simp only at q0 q1 q2 g3 g4 g5 hlen hlof
  have HNX:=hid hnx
  generalize (l.take k).flatMap encO=F at HB HNX hT
  obtain ⟨F2,hF2⟩:∃ F2,F2=(l.take (k + 1)).flatMap encO:=⟨_,rfl⟩
  rw [<-hF2] at HNX
  have HNX2:Hid ((l.take (k + 1)).flatMap encO=F2):=hid hF2.symm
  clear hF2
  obtain ⟨T,hTT⟩:∃ T,T=E ++ F:=⟨_,rfl⟩
  rw [<-hTT] at HB hT
  have HTT:=hid hTT
  obtain ⟨v,hv⟩:∃ v,v=wr.alloc (.cells #[.int .i64 (off:Int),.int .i64 (len:Int),.string ⟨data.toArray⟩] 180):=⟨_,rfl⟩
  have hbv:Below wr.heap.size wr v:=by rw [hv]; exact (Below.refl _ _).alloc (Nat.le_refl _) _
  have hxv:BK wr.heap.size #[.int .i64 (off:Int),.int .i64 (len:Int),.string ⟨data.toArray⟩] 180 v:=by rw [hv]; exact BK.new _ _ _
  have HBv:=hid (HB.out.below hbv).anew
  have hne:wr.heap.size ≠ bb:=by
   have:=bldF_lt HB.out.bld
   omega
  have HXB:Hid (∀ T' W',BW w v bb T' W'->BK wr.heap.size #[.int .i64 (off:Int),.int .i64 (len:Int),.string ⟨data.toArray⟩] 180 W'):=hid (fun T' W' h=>h.block hxv hne (by decide))
  have HNM:=hid (dencNum_any len (by omega) HBv.out (by omega))
  have HIC:=hid (fun W=>isCopy_any ⟨off,len,data⟩ W)
  simp only [Dop.val] at HIC
  have hfc:encO ⟨off,len,data⟩=Cw.enc len ++ (if copyO ⟨off,len,data⟩=true then Cw.enc off else (putT data).1):=rfl
  have HFC:Hid (F2=F ++ (Cw.enc len ++ (if copyO ⟨off,len,data⟩=true then Cw.enc off else (putT data).1))):=hid (by rw [HNX.out,hfc])
  generalize copyO ⟨off,len,data⟩=cb at HIC HFC
  obtain ⟨c0,c1,c2⟩:=BK.c3 (show BK _ #[.int .i64 (off:Int),.int .i64 (len:Int),.string ⟨data.toArray⟩] _ _ from hxv)
  rw [hv] at HNM c0 c1 c2
  have HV:=hid hv
  have HLEN:=hid hlen
  have HTL:=hid hT
  subst haa
  clear hbv hxv hv hnx hfc HNX g1 g2 HB HBv hTT hlen hT
  go_wp2_with fail
  (with_reducible refine (HNM.out).mono ?_)
  rintro e u3 ⟨rfl,HB3⟩
  rw [<-HV.out] at HB3
  have hx3:=HXB.out _ _ HB3.out
  obtain ⟨d0,d1,d2⟩:=BK.c3 (show BK _ #[.int .i64 (off:Int),.int .i64 (len:Int),.string ⟨data.toArray⟩] _ _ from hx3)
  clear hx3 HNM c0 c1 c2 HV
  go_wp2_with fail
  (with_reducible refine (HIC.out _).mono ?_)
  rintro e u4 ⟨rfl,hb4⟩
  have HB4:=hid (HB3.out.below hb4)
  have hx4:=HXB.out _ _ HB4.out
  obtain ⟨c0,c1,c2⟩:=BK.c3 (show BK _ #[.int .i64 (off:Int),.int .i64 (len:Int),.string ⟨data.toArray⟩] _ _ from hx4)
  clear hx4 hb4 HB3 HIC d0 d1 d2
  cases cb with
  | true=>
   have HF2:Hid (F2=F ++ (Cw.enc len ++ Cw.enc off)):=hid (by rw [HFC.out,if_pos rfl])
   have HNO:=hid (dencNum_any off (by omega) HB4.out (by rw [List.length_append]; have:=HTL.out; have:=HLEN.out; omega))
   clear HFC
   go_wp2_with fail
   (with_reducible refine (HNO.out).mono ?_)
   rintro e u5 ⟨rfl,HB5⟩
   have HR2:Hid (BW w v bb (E ++ F2) u5):=hid (by rw [HF2.out,<-List.append_assoc,<-List.append_assoc,<-HTT.out]; exact HB5.out)
   clear HB5 HNO c0 c1 c2 HB4
   go_wp2_with fail
   go_roundw
   case rel=>exact ⟨k + 1,v,by omega,by go_num,by rw [HNX2.out]; exact HR2⟩
   case measure=>simp [intOf] <;> omega
  | false=>
   have hpd:(putT data).1=putX data:=by unfold putT putX; rw [if_pos g5]
   have HF2:Hid (F2=F ++ (Cw.enc len ++ putX data)):=hid (by rw [HFC.out,if_neg (by simp),hpd])
   have HPT:=hid (putText_in data g5 u4)
   have hpl:(putX data).length<=65546:=by unfold putX; rw [List.length_append]; have:=enc_length data.length; omega
   generalize putX data=P at HF2 HPT hpl
   have HPL:=hid hpl
   clear HFC hpd hpl
   go_wp2_with fail
   (with_reducible refine (HPT.out).mono ?_)
   rintro e u5 ⟨rfl,hb5⟩
   have HB5:=hid (HB4.out.below hb5)
   have HWS:=hid (writeStr_bw HB5.out P (by rw [List.length_append]; have:=HTL.out; have:=HLEN.out; have:=HPL.out; omega))
   clear hb5 HPT c0 c1 c2 HB4
   go_wp2_with fail
   (with_reducible refine (HWS.out).mono ?_)
   rintro e u6 ⟨rfl,HB6⟩
   have HR2:Hid (BW w v bb (E ++ F2) u6):=hid (by rw [HF2.out,<-List.append_assoc,<-List.append_assoc,<-HTT.out]; exact HB6.out)
   clear HB6 HB5 HWS
   go_wp2_with fail
   go_roundw
   case rel=>exact ⟨k + 1,v,by omega,by go_num,by rw [HNX2.out]; exact HR2⟩
   case measure=>simp [intOf] <;> omega
 ·obtain rfl:k=n:=by omega
  have hkn:¬ (k:Int) < (k:Int):=by omega
  have htk:l.take k=l:=List.take_of_length_le (by have:=HN.out; omega)
  rw [htk] at HB
  have HR2:Hid (R=(E ++ l.flatMap encO,0)):=HR
  have hne:E ++ l.flatMap encO ≠ []:=by have:=HNE.out; simp [this]
  have HSTR:=hid (bldStr_bw HB.out hne)
  generalize E ++ l.flatMap encO=T at HSTR HR2
  clear HB htk hT hne HR
  go_wp2_with fail
  (with_reducible refine (HSTR.out).mono ?_)
  rintro e u3 ⟨rfl,HB3⟩
  go_wp2_with fail
  go_ret2
  exact ⟨by rw [HR2.out]; first | done | rfl,HB3.out.bel⟩
end Go.Proofs.YtijkieiihpiljaaGreat
