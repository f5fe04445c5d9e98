/- Joined texts: ApRd, ApRe, ApRf. -/
import Derived.Test.YtdedfkljaeloiaaGreatDoorG6
import Derived.Test.YtdedfkljaeloiaaGreatDoorPkHl
import Derived.RangeFuncNested
/- The reader of rules: its box,and what one word more does to it in memory. -/
set_option maxRecDepth 100000
set_option maxHeartbeats 16000000
open Go.Lib (hid)
namespace Go.Proofs.YtdedfkljaeloiaaGreatDoor
open Go.RowKit Go.Shelf
set_option linter.unusedVariables false
theorem own_far {W W':World} {base:Nat} {e:TypeId} {z:Nat} {v:Value} {n:Nat} {xs:List Value} {row:Option Nat} (h:W.ownsRow base e z v n xs) (hf:Far [e] W.heap.size W row) (hg:W.grownBy W' row):W'.ownsRow base e z v n xs:=
 h.kept hg (by
  rcases h.2 with ⟨h1,_⟩ | ⟨g,cap,cur,h1,_,h3,_⟩
  ·left; rw [h1]; rfl
  ·right
   rw [h1]
   intro e'
   rcases hf g e'.symm with h5 | h5
   ·have:=(Array.getElem?_eq_some_iff.1 h3).1; omega
   ·exact h5 e (by simp) _ _ h3)
theorem BK.far {b:Nat} {cs:Array Value} {t:TypeId} {W W':World} {row:Option Nat} (h:BK b cs t W) (hf:Far [t] W.heap.size W row) (hg:W.grownBy W' row):BK b cs t W':=
 h.grow hg (fun k e e'=>by
  subst e'
  rcases hf k e with h5 | h5
  ·have:=h.lt; omega
  ·exact h5 t (by simp) _ _ h)
theorem gal (W:World) (o:Obj):W.grownBy (W.alloc o) none:=World.grownBy_alloc _ _ _
abbrev TSt:TypeId:=9
abbrev TSl:TypeId:=44
abbrev TRu:TypeId:=127
abbrev TRd:TypeId:=164
structure Ke (w0 wk:World) (b:Nat) (W:World):Prop where
 gr:w0.grownBy W (some b)
 ko:KeepsOthers wk W
theorem Ke.step {w0 wk W W':World} {b:Nat} {row:Option Nat} (h:Ke w0 wk b W) (hg:W.grownBy W' row) (hr:∀ k,row=some k->(w0.heap.size<=k\/k=b)/\∃ cs t fz,W.heap[k]? = some (.cells cs t fz)):Ke w0 wk b W':=by
 refine ⟨⟨hg.os.trans h.gr.os,hg.tape.trans h.gr.tape,hg.output.trans h.gr.output,Nat.le_trans h.gr.size hg.size,fun k hk hb=>(hg.block k (Nat.lt_of_lt_of_le hk h.gr.size) (fun e=>?_)).trans (h.gr.block k hk hb)⟩,h.ko.trans ⟨hg.size,fun k o hk ho=>(hg.block k (Array.getElem?_eq_some_iff.1 hk).1 (fun e=>?_)).trans hk⟩⟩
 ·rcases (hr k e.symm).1 with h1 | h1
  ·omega
  ·exact hb (by rw [h1])
 ·obtain ⟨cs,t,fz,h1⟩:=(hr k e.symm).2
  rw [h1] at hk; cases hk; cases ho
theorem own_cl {W:World} {base n0 b:Nat} {e:TypeId} {z:Nat} {v:Value} {n:Nat} {xs:List Value} (h:W.ownsRow base e z v n xs) {k:Nat} (hk:v.ownBlock=some k) (hb:n0<=base):(n0<=k\/k=b)/\∃ cs t fz,W.heap[k]? = some (.cells cs t fz):=by
 refine ⟨.inl (Nat.le_trans hb (h.lt k hk).1),?_⟩
 rcases h.2 with ⟨h1,_⟩ | ⟨g,cap,cur,h1,_,h3,_⟩
 ·rw [h1] at hk; cases hk
 ·rw [h1] at hk; cases hk; exact ⟨_,_,_,h3⟩
structure RdD (w0 wk:World) (b pl:Nat) (R:List Ru) (W:World):Prop where
 lo:b < w0.heap.size
 be:Ke w0 wk b W
 ex:∃ ra rc L,BK b #[.int .i64 (pl:Int),.slice ra R.length rc] TRd W/\W.ownsRow w0.heap.size TRu 2 (.slice ra R.length rc) R.length (gcs ruCs L)/\Al (RuW W.heap.size W) L R
structure RdM (w0 wk:World) (b pl:Nat) (R:List Ru) (p:Pa) (G:List (List Pa)) (W:World):Prop where
 lo:b < w0.heap.size
 be:Ke w0 wk b W
 ex:∃ rg rc L Br H ga gc,BK b #[.int .i64 (pl:Int),.slice (some ⟨rg,0,none⟩) (R.length + 1) rc] TRd W/\W.ownsRow w0.heap.size TRu 2 (.slice (some ⟨rg,0,none⟩) (R.length + 1) rc) (R.length + 1) (gcs ruCs (L ++ [(p,(ga,G.length,gc))]))/\Al (RuW Br W) L R/\w0.heap.size<=Br/\Br<=W.heap.size/\
  W.ownsRow Br TSl 1 (.slice ga G.length gc) G.length (gcs slCs H)/\Al (SrW W.heap.size W) H G
structure RdO (w0 wk:World) (b pl:Nat) (R:List Ru) (p:Pa) (G:List (List Pa)) (g:List Pa) (W:World):Prop where
 lo:b < w0.heap.size
 be:Ke w0 wk b W
 ex:∃ rg rc L Br H gg gc Bg sa sc,BK b #[.int .i64 (pl:Int),.slice (some ⟨rg,0,none⟩) (R.length + 1) rc] TRd W/\W.ownsRow w0.heap.size TRu 2 (.slice (some ⟨rg,0,none⟩) (R.length + 1) rc) (R.length + 1) (gcs ruCs (L ++ [(p,(some ⟨gg,0,none⟩,G.length + 1,gc))]))/\Al (RuW Br W) L R/\w0.heap.size<=Br/\Br<=Bg/\Bg<=W.heap.size/\
  W.ownsRow Br TSl 1 (.slice (some ⟨gg,0,none⟩) (G.length + 1) gc) (G.length + 1) (gcs slCs (H ++ [(sa,g.length,sc)]))/\Al (SrW Bg W) H G/\W.ownsRow Bg TSt 1 (.slice sa g.length sc) g.length (gcs stCs g)
theorem Far.two {B:Nat} {W:World} {b:Nat} {cs:Array Value} (h:BK b cs TRd W):Far [TSt,TSl] B W (some b):=Far.bk h (by decide)
section
variable {w0 wk W:World} {b pl:Nat} {R:List Ru} {p:Pa} {G:List (List Pa)} {g:List Pa}
theorem RdD.size (h:RdD w0 wk b pl R W):w0.heap.size<=W.heap.size:=h.be.gr.size
theorem RdM.size (h:RdM w0 wk b pl R p G W):w0.heap.size<=W.heap.size:=h.be.gr.size
theorem RdO.size (h:RdO w0 wk b pl R p G g W):w0.heap.size<=W.heap.size:=h.be.gr.size
theorem RdD.place (h:RdD w0 wk b pl R W) (q:Nat):RdD w0 wk b q R (W.setCell ⟨b,0,none⟩ (.int .i64 (q:Int))):=by
 obtain ⟨ra,rc,L,h1,h2,h3⟩:=h.ex
 have hg:=gset W b 0 (.int .i64 (q:Int))
 refine ⟨h.lo,h.be.step hg (fun k e=>by cases e; exact ⟨.inr rfl,_,_,_,h1⟩),ra,rc,L,h1.set 0 _,own_far h2 (Far.bk h1 (by decide)) hg,h3.imp (fun a r hr=>hr.grow hg (Far.two h1) hg.size)⟩
theorem RdM.place (h:RdM w0 wk b pl R p G W) (q:Nat):RdM w0 wk b q R p G (W.setCell ⟨b,0,none⟩ (.int .i64 (q:Int))):=by
 obtain ⟨rg,rc,L,Br,H,ga,gc,h1,h2,h3,h4,h5,h6,h7⟩:=h.ex
 have hg:=gset W b 0 (.int .i64 (q:Int))
 refine ⟨h.lo,h.be.step hg (fun k e=>by cases e; exact ⟨.inr rfl,_,_,_,h1⟩),rg,rc,L,Br,H,ga,gc,h1.set 0 _,own_far h2 (Far.bk h1 (by decide)) hg,h3.imp (fun a r hr=>hr.grow hg (Far.two h1) (Nat.le_refl _)),h4,Nat.le_trans h5 hg.size,own_far h6 (Far.bk h1 (by decide)) hg,h7.imp (fun a r hr=>hr.grow hg ((Far.two h1).sub (by simp)) hg.size)⟩
theorem RdO.place (h:RdO w0 wk b pl R p G g W) (q:Nat):RdO w0 wk b q R p G g (W.setCell ⟨b,0,none⟩ (.int .i64 (q:Int))):=by
 obtain ⟨rg,rc,L,Br,H,ga,gc,Bg,sa,sc,h1,h2,h3,h4,h5,h6,h7,h8,h9⟩:=h.ex
 have hg:=gset W b 0 (.int .i64 (q:Int))
 refine ⟨h.lo,h.be.step hg (fun k e=>by cases e; exact ⟨.inr rfl,_,_,_,h1⟩),rg,rc,L,Br,H,ga,gc,Bg,sa,sc,h1.set 0 _,own_far h2 (Far.bk h1 (by decide)) hg,h3.imp (fun a r hr=>hr.grow hg (Far.two h1) (Nat.le_refl _)),h4,h5,Nat.le_trans h6 hg.size,own_far h7 (Far.bk h1 (by decide)) hg,h8.imp (fun a r hr=>hr.grow hg ((Far.two h1).sub (by simp)) (Nat.le_refl _)),own_far h9 (Far.bk h1 (by decide)) hg⟩
theorem RdO.toM (h:RdO w0 wk b pl R p G g W):RdM w0 wk b pl R p (G ++ [g]) W:=by
 obtain ⟨rg,rc,L,Br,H,ga,gc,Bg,sa,sc,h1,h2,h3,h4,h5,h6,h7,h8,h9⟩:=h.ex
 have hl:(G ++ [g]).length=G.length + 1:=by simp
 refine ⟨h.lo,h.be,rg,rc,L,Br,H ++ [(sa,g.length,sc)],some ⟨ga,0,none⟩,gc,h1,by rw [hl]; exact h2,h3,h4,by omega,by rw [hl]; exact h7,(h8.imp (fun a r hr=>hr.mono h6)).snoc ?_⟩
 exact RoW.of_own laySt rfl h9
theorem RdM.toD (h:RdM w0 wk b pl R p G W):RdD w0 wk b pl (R ++ [(p,G)]) W:=by
 obtain ⟨rg,rc,L,Br,H,ga,gc,h1,h2,h3,h4,h5,h6,h7⟩:=h.ex
 have hl:(R ++ [(p,G)]).length=R.length + 1:=by simp
 refine ⟨h.lo,h.be,some ⟨rg,0,none⟩,rc,L ++ [(p,(ga,G.length,gc))],by rw [hl]; exact h1,by rw [hl]; exact h2,(h3.imp (fun a r hr=>hr.mono h5)).snoc ⟨rfl,H,?_,h7⟩⟩
 have hH:=h7.len
 have:=RoW.of_own (W:=W) (base:=Br) (t:=TSl) (h:=(ga,G.length,gc)) laySl hH.symm h6
 exact this
theorem RdO.toD (h:RdO w0 wk b pl R p G g W):RdD w0 wk b pl (R ++ [(p,G ++ [g])]) W:=h.toM.toD
theorem RdD.push (h:RdD w0 wk b pl R W) (p:Pa) (hl:(R.length:Int)<=1000000):∃ ra rc rg rc' W',W.cell? ⟨b,1,none⟩=some (.slice ra R.length rc)/\
  Hid ((Builtin.append_ #[125,125] 125 #[.slice ra R.length rc,.slice (some ⟨W.heap.size,0,none⟩) 1 1]).run Tryz.prog (W.alloc (.cells #[.string ⟨p.toArray⟩,.slice none 0 0] TRu)) = .ok (.slice (some ⟨rg,0,none⟩) (R.length + 1) rc') W')/\W'.frozen? ⟨b,1,none⟩=false/\W'.cell? ⟨b,1,none⟩=some (.slice ra R.length rc)/\
  RdM w0 wk b pl R p [] (W'.setCell ⟨b,1,none⟩ (.slice (some ⟨rg,0,none⟩) (R.length + 1) rc')):=by
 obtain ⟨ra,rc,L,h1,h2,h3⟩:=h.ex
 have hLR:=h3.len
 obtain ⟨v',W',hrun,hown,hgr,_⟩:=append_ru hLR.symm h2 (p,(none,0,0)) hl h.size
 obtain ⟨rg,rc',rfl⟩:∃ rg rc',v' = .slice (some ⟨rg,0,none⟩) (R.length + 1) rc':=by
  rcases hown.2 with ⟨_,h0⟩ | ⟨g,cap,cur,e,_⟩
  ·omega
  ·exact ⟨g,cap,e⟩
 have ga:=gal W (.cells (ruCs (p,(none,0,0))).toArray TRu)
 have k1:=h1.alloc (.cells (ruCs (p,(none,0,0))).toArray TRu)
 have f1:=(h2.alloc (.cells (ruCs (p,(none,0,0))).toArray TRu))
 have k2:BK b _ TRd W':=k1.far (Far.own f1 (by decide)) hgr
 have hgs:=gset W' b 1 (.slice (some ⟨rg,0,none⟩) (R.length + 1) rc')
 refine ⟨ra,rc,rg,rc',W',h1.c2.2,hrun,k2.frozen 1,k2.c2.2,h.lo,?_,rg,rc',L,W.heap.size,[],none,0,k2.set 1 _,own_far hown (Far.bk k2 (by decide)) hgs,?_,h.size,?_,World.ownsRow_nil _ _ _ _,.nil⟩
 ·have b1:=h.be.step ga (fun k e=>by cases e)
  have b2:=b1.step hgr (fun k e=>own_cl f1 e (Nat.le_refl _))
  exact b2.step hgs (fun k e=>by cases e; exact ⟨.inr rfl,_,_,_,k2⟩)
 ·exact h3.imp (fun a r hr=>((hr.grow ga (Far.none _ _ _) (Nat.le_refl _)).grow hgr (Far.own f1 (by decide)) (Nat.le_refl _)).grow hgs (Far.two k2) (Nat.le_refl _))
 ·exact Nat.le_trans ga.size (Nat.le_trans hgr.size hgs.size)
theorem RdM.group (h:RdM w0 wk b pl R p G W) (hl:(G.length:Int)<=1000000):∃ rg rc ga gc ga' gc' W',W.cell? ⟨b,1,none⟩=some (.slice (some ⟨rg,0,none⟩) (R.length + 1) rc)/\W.cell? ⟨rg,R.length * 2 + 1,none⟩=some (.slice ga G.length gc)/\R.length + 1<=rc/\
  Hid ((Builtin.append_ #[27,27] 27 #[.slice ga G.length gc,.slice (some ⟨W.heap.size,0,none⟩) 1 1]).run Tryz.prog (W.alloc (.cells #[.slice none 0 0] TSl)) = .ok (.slice ga' (G.length + 1) gc') W')/\
  (W.alloc (.cells #[.slice none 0 0] TSl)).cell? ⟨b,1,none⟩=some (.slice (some ⟨rg,0,none⟩) (R.length + 1) rc)/\(W.alloc (.cells #[.slice none 0 0] TSl)).cell? ⟨rg,R.length * 2 + 1,none⟩=some (.slice ga G.length gc)/\
  W'.cell? ⟨b,1,none⟩=some (.slice (some ⟨rg,0,none⟩) (R.length + 1) rc)/\W'.cell? ⟨rg,R.length * 2 + 1,none⟩=some (.slice ga G.length gc)/\W'.frozen? ⟨rg,R.length * 2 + 1,none⟩=false/\
  RdO w0 wk b pl R p G [] (W'.setCell ⟨rg,R.length * 2 + 1,none⟩ (.slice ga' (G.length + 1) gc')):=by
 obtain ⟨rg,rc,L,Br,H,ga,gc,h1,h2,h3,h4,h5,h6,h7⟩:=h.ex
 have hLR:=h3.len
 have hHG:=h7.len
 obtain ⟨v',W',hrun,hown,hgr,_⟩:=append_sl hHG.symm h6 (none,0,0) hl h5
 obtain ⟨gg,gc',rfl⟩:∃ rg rc',v' = .slice (some ⟨rg,0,none⟩) (G.length + 1) rc':=by
  rcases hown.2 with ⟨_,h0⟩ | ⟨g,cap,cur,e,_⟩
  ·omega
  ·exact ⟨g,cap,e⟩
 have gA:=gal W (.cells (slCs (none,0,0)).toArray TSl)
 have k1:=h1.alloc (.cells (slCs (none,0,0)).toArray TSl)
 have f1:=(h6.alloc (.cells (slCs (none,0,0)).toArray TSl))
 have k2:BK b _ TRd W':=k1.far (Far.own f1 (by decide)) hgr
 have o1:=h2.alloc (.cells (slCs (none,0,0)).toArray TSl)
 have o2:=own_far o1 (Far.own f1 (by decide)) hgr
 have hcl:∀ {W:World},W.ownsRow w0.heap.size TRu 2 (.slice (some ⟨rg,0,none⟩) (R.length + 1) rc) (R.length + 1) (gcs ruCs (L ++ [(p,(ga,G.length,gc))]))->W.cell? ⟨rg,R.length * 2 + 1,none⟩=some (.slice ga G.length gc):=fun {W} ho=>by
  rw [ho.cellAt _ (by omega),<-hLR,gcs_at layRu _ L.length (by simp) 1 (by decide)]
  simp [ruCs,hdV]
 have hgs:=gset W' rg (R.length * 2 + 1) (.slice (some ⟨gg,0,none⟩) (G.length + 1) gc')
 have hst:=own_setG (i:=R.length) (j:=1) layRu o2 (by simp [hLR]) (by simp [hLR]) (by decide) (.slice (some ⟨gg,0,none⟩) (G.length + 1) gc') (p,(some ⟨gg,0,none⟩,G.length + 1,gc')) (by simp [ruCs,hdV,<-hLR])
 rw [show (L ++ [(p,(ga,G.length,gc))]).set R.length (p,(some ⟨gg,0,none⟩,G.length + 1,gc'))=L ++ [(p,(some ⟨gg,0,none⟩,G.length + 1,gc'))] by rw [<-hLR,List.set_append_right _ _ (Nat.le_refl _),Nat.sub_self]; rfl] at hst
 have hf3:∀ ts:List TypeId,TRu ∉ ts->∀ B,Far ts B W' (some rg):=fun ts ht B=>Far.own o2 ht
 refine ⟨rg,rc,ga,gc,_,gc',W',h1.c2.2,hcl h2,own_cap h2,hrun,k1.c2.2,hcl o1,k2.c2.2,hcl o2,o2.frozenAt _,h.lo,?_,rg,rc,L,Br,H,gg,gc',W.heap.size,none,0,k2.far (hf3 _ (by decide) _) hgs,hst,?_,h4,h5,?_,own_far hown (hf3 _ (by decide) _) hgs,?_,World.ownsRow_nil _ _ _ _⟩
 ·have b1:=h.be.step gA (fun k e=>by cases e)
  have b2:=b1.step hgr (fun k e=>own_cl f1 e h4)
  exact b2.step hgs (fun k e=>by cases e; exact own_cl o2 rfl (Nat.le_refl _))
 ·exact h3.imp (fun a r hr=>((hr.grow gA (Far.none _ _ _) (Nat.le_refl _)).grow hgr (Far.lo f1 (Nat.le_refl _)) (Nat.le_refl _)).grow hgs (hf3 _ (by decide) _) (Nat.le_refl _))
 ·exact Nat.le_trans gA.size (Nat.le_trans hgr.size hgs.size)
 ·exact h7.imp (fun a r hr=>((hr.grow gA (Far.none _ _ _) (Nat.le_refl _)).grow hgr (Far.own f1 (by decide)) (Nat.le_refl _)).grow hgs (hf3 _ (by decide) _) (Nat.le_refl _))
theorem RdO.person (h:RdO w0 wk b pl R p G g W) (s:Pa) (hl:(g.length:Int)<=1000000):∃ rg rc gg gc sa sc sa' sc' W',W.cell? ⟨b,1,none⟩=some (.slice (some ⟨rg,0,none⟩) (R.length + 1) rc)/\R.length + 1<=rc/\W.cell? ⟨rg,R.length * 2 + 1,none⟩=some (.slice (some ⟨gg,0,none⟩) (G.length + 1) gc)/\G.length + 1<=gc/\W.cell? ⟨gg,G.length,none⟩=some (.slice sa g.length sc)/\
  Hid ((Builtin.append_ #[44,44] 44 #[.slice sa g.length sc,.slice (some ⟨W.heap.size,0,none⟩) 1 1]).run Tryz.prog (W.alloc (.cells #[.string ⟨s.toArray⟩] TSt)) = .ok (.slice sa' (g.length + 1) sc') W')/\
  W'.cell? ⟨gg,G.length,none⟩=some (.slice sa g.length sc)/\W'.frozen? ⟨gg,G.length,none⟩=false/\
  RdO w0 wk b pl R p G (g ++ [s]) (W'.setCell ⟨gg,G.length,none⟩ (.slice sa' (g.length + 1) sc')):=by
 obtain ⟨rg,rc,L,Br,H,gg,gc,Bg,sa,sc,h1,h2,h3,h4,h5,h6,h7,h8,h9⟩:=h.ex
 have hLR:=h3.len
 have hHG:=h8.len
 obtain ⟨v',W',hrun,hown,hgr,_⟩:=append_st rfl h9 s hl h6
 obtain ⟨sg,sc',rfl⟩:∃ rg rc',v' = .slice (some ⟨rg,0,none⟩) (g.length + 1) rc':=by
  rcases hown.2 with ⟨_,h0⟩ | ⟨g,cap,cur,e,_⟩
  ·omega
  ·exact ⟨g,cap,e⟩
 have gA:=gal W (.cells (stCs s).toArray TSt)
 have k1:=h1.alloc (.cells (stCs s).toArray TSt)
 have f1:=(h9.alloc (.cells (stCs s).toArray TSt))
 have k2:BK b _ TRd W':=k1.far (Far.own f1 (by decide)) hgr
 have o1:=h2.alloc (.cells (stCs s).toArray TSt)
 have o2:=own_far o1 (Far.own f1 (by decide)) hgr
 have p1:=h7.alloc (.cells (stCs s).toArray TSt)
 have p2:=own_far p1 (Far.own f1 (by decide)) hgr
 have hcl:W.cell? ⟨rg,R.length * 2 + 1,none⟩=some (.slice (some ⟨gg,0,none⟩) (G.length + 1) gc):=by
  rw [h2.cellAt _ (by omega),<-hLR,gcs_at layRu _ L.length (by simp) 1 (by decide)]
  simp [ruCs,hdV]
 have hcg:∀ {W:World},W.ownsRow Br TSl 1 (.slice (some ⟨gg,0,none⟩) (G.length + 1) gc) (G.length + 1) (gcs slCs (H ++ [(sa,g.length,sc)]))->W.cell? ⟨gg,G.length,none⟩=some (.slice sa g.length sc):=fun {W} ho=>by
  have:=gcs_at laySl (H ++ [(sa,g.length,sc)]) H.length (by simp) 0 (by decide)
  rw [Nat.mul_one,Nat.add_zero] at this
  rw [ho.cellAt _ (by omega),<-hHG,this]
  simp [slCs,hdV]
 have hgs:=gset W' gg G.length (.slice (some ⟨sg,0,none⟩) (g.length + 1) sc')
 have hst:=own_setG (i:=G.length) (j:=0) laySl p2 (by simp [hHG]) (by simp [hHG]) (by decide) (.slice (some ⟨sg,0,none⟩) (g.length + 1) sc') (some ⟨sg,0,none⟩,g.length + 1,sc') (by simp [slCs,hdV,<-hHG])
 rw [show (H ++ [(sa,g.length,sc)]).set G.length (some ⟨sg,0,none⟩,g.length + 1,sc')=H ++ [(some ⟨sg,0,none⟩,g.length + 1,sc')] by rw [<-hHG,List.set_append_right _ _ (Nat.le_refl _),Nat.sub_self]; rfl,Nat.mul_one,Nat.add_zero] at hst
 have hf3:∀ ts:List TypeId,TSl ∉ ts->∀ B,Far ts B W' (some gg):=fun ts ht B=>Far.own p2 ht
 have hgl:(g ++ [s]).length=g.length + 1:=by simp
 have hgb:=(h7.lt gg rfl).1
 have h4':=h4
 refine ⟨rg,rc,gg,gc,sa,sc,_,sc',W',h1.c2.2,own_cap h2,hcl,own_cap h7,hcg h7,hrun,hcg p2,p2.frozenAt _,h.lo,?_,rg,rc,L,Br,H,gg,gc,Bg,some ⟨sg,0,none⟩,sc',k2.far (hf3 _ (by decide) _) hgs,own_far o2 (hf3 _ (by decide) _) hgs,?_,h4,h5,?_,by rw [hgl]; exact hst,?_,by rw [hgl]; exact own_far hown (hf3 _ (by decide) _) hgs⟩
 ·have b1:=h.be.step gA (fun k e=>by cases e)
  have b2:=b1.step hgr (fun k e=>own_cl f1 e (Nat.le_trans h4 h5))
  exact b2.step hgs (fun k e=>by cases e; exact own_cl p2 rfl h4)
 ·exact h3.imp (fun a r hr=>((hr.grow gA (Far.none _ _ _) (Nat.le_refl _)).grow hgr (Far.lo f1 h5) (Nat.le_refl _)).grow hgs (fun k e=>by cases e; exact .inl hgb) (Nat.le_refl _))
 ·exact Nat.le_trans h6 (Nat.le_trans gA.size (Nat.le_trans hgr.size hgs.size))
 ·exact h8.imp (fun a r hr=>((hr.grow gA (Far.none _ _ _) (Nat.le_refl _)).grow hgr (Far.lo f1 (Nat.le_refl _)) (Nat.le_refl _)).grow hgs (hf3 _ (by decide) _) (Nat.le_refl _))
theorem Far.down {ts:List TypeId} {B B':Nat} {W:World} {row:Option Nat} (h:Far ts B W row) (hB:B'<=B):Far ts B' W row:=fun k e=>(h k e).imp (fun h1=>Nat.le_trans hB h1) id
abbrev TAll:List TypeId:=[TSt,TSl,TRu,TRd]
theorem Ke.other {W':World} {row:Option Nat} (h:Ke w0 wk b W) (hg:W.grownBy W' row) (hlo:∀ k,row=some k->w0.heap.size<=k) {wk':World} (hk:KeepsOthers wk' W') (hb:b < w0.heap.size):Ke w0 wk' b W':=
 ⟨⟨hg.os.trans h.gr.os,hg.tape.trans h.gr.tape,hg.output.trans h.gr.output,Nat.le_trans h.gr.size hg.size,fun k hk1 hb1=>(hg.block k (Nat.lt_of_lt_of_le hk1 h.gr.size) (fun e=>by have:=hlo k e.symm; omega)).trans (h.gr.block k hk1 hb1)⟩,hk⟩
theorem RdD.grow {wk' W':World} {row:Option Nat} (h:RdD w0 wk b pl R W) (hg:W.grownBy W' row) (hf:Far TAll W.heap.size W row) (hlo:∀ k,row=some k->w0.heap.size<=k) (hk:KeepsOthers wk' W'):RdD w0 wk' b pl R W':=by
 obtain ⟨ra,rc,L,h1,h2,h3⟩:=h.ex
 exact ⟨h.lo,h.be.other hg hlo hk h.lo,ra,rc,L,h1.far (hf.sub (by decide)) hg,own_far h2 (hf.sub (by decide)) hg,h3.imp (fun a r hr=>hr.grow hg (hf.sub (by decide)) hg.size)⟩
theorem RdM.grow {wk' W':World} {row:Option Nat} (h:RdM w0 wk b pl R p G W) (hg:W.grownBy W' row) (hf:Far TAll W.heap.size W row) (hlo:∀ k,row=some k->w0.heap.size<=k) (hk:KeepsOthers wk' W'):RdM w0 wk' b pl R p G W':=by
 obtain ⟨rg,rc,L,Br,H,ga,gc,h1,h2,h3,h4,h5,h6,h7⟩:=h.ex
 exact ⟨h.lo,h.be.other hg hlo hk h.lo,rg,rc,L,Br,H,ga,gc,h1.far (hf.sub (by decide)) hg,own_far h2 (hf.sub (by decide)) hg,h3.imp (fun a r hr=>hr.grow hg ((hf.down h5).sub (by decide)) (Nat.le_refl _)),h4,Nat.le_trans h5 hg.size,own_far h6 (hf.sub (by decide)) hg,h7.imp (fun a r hr=>hr.grow hg (hf.sub (by decide)) hg.size)⟩
theorem RdO.grow {wk' W':World} {row:Option Nat} (h:RdO w0 wk b pl R p G g W) (hg:W.grownBy W' row) (hf:Far TAll W.heap.size W row) (hlo:∀ k,row=some k->w0.heap.size<=k) (hk:KeepsOthers wk' W'):RdO w0 wk' b pl R p G g W':=by
 obtain ⟨rg,rc,L,Br,H,ga,gc,Bg,sa,sc,h1,h2,h3,h4,h5,h6,h7,h8,h9⟩:=h.ex
 exact ⟨h.lo,h.be.other hg hlo hk h.lo,rg,rc,L,Br,H,ga,gc,Bg,sa,sc,h1.far (hf.sub (by decide)) hg,own_far h2 (hf.sub (by decide)) hg,h3.imp (fun a r hr=>hr.grow hg ((hf.down (Nat.le_trans h5 h6)).sub (by decide)) (Nat.le_refl _)),h4,h5,Nat.le_trans h6 hg.size,own_far h7 (hf.sub (by decide)) hg,h8.imp (fun a r hr=>hr.grow hg ((hf.down h6).sub (by decide)) (Nat.le_refl _)),own_far h9 (hf.sub (by decide)) hg⟩
theorem ko_below {W W':World} (hb:Below W.heap.size W W'):KeepsOthers W W':=⟨hb.size,fun k o hk _=>(hb.block k (Array.getElem?_eq_some_iff.1 hk).1).trans hk⟩
theorem gr_below {W W':World} (hb:Below W.heap.size W W'):W.grownBy W' none:=⟨hb.os,hb.tape,hb.output,hb.size,fun k hk _=>hb.block k hk⟩
theorem RdM.below {W':World} (h:RdM w0 wk b pl R p G W) (hb:Below W.heap.size W W'):RdM w0 wk b pl R p G W':=h.grow (gr_below hb) (Far.none _ _ _) (fun k e=>by cases e) (h.be.ko.trans (ko_below hb))
theorem RdO.below {W':World} (h:RdO w0 wk b pl R p G g W) (hb:Below W.heap.size W W'):RdO w0 wk b pl R p G g W':=h.grow (gr_below hb) (Far.none _ _ _) (fun k e=>by cases e) (h.be.ko.trans (ko_below hb))
theorem RdD.below {W':World} (h:RdD w0 wk b pl R W) (hb:Below W.heap.size W W'):RdD w0 wk b pl R W':=h.grow (gr_below hb) (Far.none _ _ _) (fun k e=>by cases e) (h.be.ko.trans (ko_below hb))
theorem RdM.drew (h:RdM w0 wk b pl R p G W):RdM w0 wk b pl R p G W.drew:=h.below (Below.refl _ _).drew
end
theorem wrapA {x:Int} (h0:-1000<=x) (h1:x<=100000000):IntKind.i64.wrap x=x:=by
 simp [IntKind.wrap,IntKind.bits,IntKind.signed]
 omega
theorem rdd_cells {w0 wk W:World} {b pl:Nat} {R:List Ru} (h:RdD w0 wk b pl R W):∃ ra rc,W.cell? ⟨b,0,none⟩=some (.int .i64 (pl:Int))/\W.cell? ⟨b,1,none⟩=some (.slice ra R.length rc)/\W.frozen? ⟨b,0,none⟩=false:=by
 obtain ⟨ra,rc,L,h1,_⟩:=h.ex
 exact ⟨ra,rc,h1.c2.1,h1.c2.2,h1.frozen 0⟩
theorem rdm_cells {w0 wk W:World} {b pl:Nat} {R:List Ru} {p:Pa} {G:List (List Pa)} (h:RdM w0 wk b pl R p G W):∃ rg rc,W.cell? ⟨b,0,none⟩=some (.int .i64 (pl:Int))/\W.cell? ⟨b,1,none⟩=some (.slice (some ⟨rg,0,none⟩) (R.length + 1) rc)/\W.frozen? ⟨b,0,none⟩=false:=by
 obtain ⟨rg,rc,_,_,_,_,_,h1,_⟩:=h.ex
 exact ⟨rg,rc,h1.c2.1,h1.c2.2,h1.frozen 0⟩
theorem rdo_cells {w0 wk W:World} {b pl:Nat} {R:List Ru} {p:Pa} {G:List (List Pa)} {g:List Pa} (h:RdO w0 wk b pl R p G g W):∃ rg rc,W.cell? ⟨b,0,none⟩=some (.int .i64 (pl:Int))/\W.cell? ⟨b,1,none⟩=some (.slice (some ⟨rg,0,none⟩) (R.length + 1) rc)/\W.frozen? ⟨b,0,none⟩=false:=by
 obtain ⟨rg,rc,_,_,_,_,_,_,_,_,h1,_⟩:=h.ex
 exact ⟨rg,rc,h1.c2.1,h1.c2.2,h1.frozen 0⟩
theorem begin_any {w0 wk w:World} {b pl:Nat} {R:List Ru} (h:RdD w0 wk b pl R w) (hl:(R.length:Int)<=1000000) (p:Pa):Calls Tryz.prog 143 #[.pointer (some ⟨b,0,none⟩),.string ⟨p.toArray⟩] w fun e w'=>e = .returned (.tuple #[])/\RdM w0 wk b pl R p [] w':=by
 obtain ⟨ra,rc,rg,rc',W',c1,HRUN,f1,c1',hm⟩:=h.push p hl
 have HM:=hid hm
 generalize R.length=n at c1 HRUN c1' HM
 clear hm hl
 go_enter Tryz.func143,Tryz.ntmps143
 go_wp2_with (at_builtin; refine Lib.wpList_append_run _ rfl _ _ _ _ rfl _ _ rfl rfl _ _ HRUN.out ?_)
 go_end0
 exact ⟨rfl,HM.out⟩
def RdS (w0 wk:World) (b pl:Nat) (R:List Ru) (W:World):Prop:=
 ((pl=0\/pl=1)/\RdD w0 wk b pl R W)\/(pl=2/\∃ R0 p,R=R0 ++ [(p,[])]/\RdM w0 wk b pl R0 p [] W)\/((pl=3\/pl=4)/\∃ R0 p G g,R=R0 ++ [(p,G ++ [g])]/\RdO w0 wk b pl R0 p G g W)
def ReadP (w0 wk w:World) (b pl:Nat) (R:List Ru) (s:Pa) (e:Ending) (W:World):Prop:=
 e = .returned (.bool (stepR pl R s).isSome)/\Ke w0 wk b W/\(∀ x,stepR pl R s=some x->RdS w0 wk b x.1 x.2 W)/\(stepR pl R s=none->Below w.heap.size w W)
theorem ReadP.some {w0 wk w W:World} {b pl:Nat} {R:List Ru} {s:Pa} {x:Nat × List Ru} (h:stepR pl R s=some x) (hb:Ke w0 wk b W) (hs:RdS w0 wk b x.1 x.2 W):ReadP w0 wk w b pl R s (.returned (.bool true)) W:=by
 refine ⟨by rw [h]; rfl,hb,fun y hy=>?_,fun hn=>by rw [h] at hn; cases hn⟩
 rw [h] at hy; cases hy; exact hs
theorem ReadP.none {w0 wk w W:World} {b pl:Nat} {R:List Ru} {s:Pa} (h:stepR pl R s=none) (hb:Ke w0 wk b W) (hw:Below w.heap.size w W):ReadP w0 wk w b pl R s (.returned (.bool false)) W:=by
 refine ⟨by rw [h]; rfl,hb,fun y hy=>?_,fun _=>hw⟩
 rw [h] at hy; cases hy
theorem read0_any {w0 wk w:World} {b:Nat} {R:List Ru} (h:RdD w0 wk b 0 R w) (hl:(R.length:Int)<=1000000) (s:Pa):Calls Tryz.prog 97 #[.pointer (some ⟨b,0,none⟩),.string ⟨s.toArray⟩] w (ReadP w0 wk w b 0 R s):=by
 obtain ⟨ra,rc,c0,c1,f0⟩:=rdd_cells h
 have hsub:IntKind.i64.wrap ((R.length:Int) - 1)=(R.length:Int) - 1:=wrapA (by omega) (by omega)
 have H:=hid h
 by_cases h1:s=[97,108,108]
 ·have HF:Hid (stepR 0 R s=some (2,R ++ [([],[])])):=hid (by unfold stepR; rw [if_pos ⟨rfl,h1⟩])
  have HC:=hid (begin_any h hl [])
  subst h1
  generalize R.length=n at c1 hl hsub
  clear h
  go_enter Tryz.func97,Tryz.ntmps97
  go_wp2_with fail
  have hx:=HC.out
  (with_reducible refine hx.mono ?_)
  clear hx
  rintro e u ⟨rfl,hm⟩
  obtain ⟨rg,rc2,d0,d1,g0⟩:=rdm_cells hm
  have HM:=hid (hm.place 2)
  clear hm c0 c1 f0 H HC
  go_wp2_with fail
  go_ret
  exact .some HF.out HM.out.be (.inr (.inl ⟨rfl,_,_,rfl,HM.out⟩))
 ·by_cases h2:s=[112,114,101,102,105,120]
  ·have HF:Hid (stepR 0 R s=some (1,R)):=hid (by unfold stepR; rw [if_neg (fun x=>h1 x.2),if_pos ⟨rfl,h2⟩])
   subst h2
   have HM:=hid (h.place 1)
   generalize R.length=n at c1 hl hsub
   clear h H h1
   go_enter Tryz.func97,Tryz.ntmps97
   go_wp2_with fail
   go_ret
   exact .some HF.out HM.out.be (.inl ⟨.inr rfl,HM.out⟩)
  ·have HF:Hid (stepR 0 R s=none):=hid (by unfold stepR; rw [if_neg (fun x=>h1 x.2),if_neg (fun x=>h2 x.2),if_neg (fun x=>absurd x.1 (by decide)),if_neg (fun x=>absurd x.1 (by decide)),if_neg (fun x=>absurd x.1 (by decide)),if_neg (fun x=>absurd x.1 (by decide))])
   have e1:(s == [97,108,108])=false:=by simpa using h1
   have e2:(s == [112,114,101,102,105,120])=false:=by simpa using h2
   generalize R.length=n at c1 hl hsub
   clear h h1 h2
   go_enter Tryz.func97,Tryz.ntmps97
   go_wp2_with fail
   go_ret
   exact .none HF.out H.out.be (Below.refl _ _)
theorem read1_any {w0 wk w:World} {b:Nat} {R:List Ru} (h:RdD w0 wk b 1 R w) (hl:(R.length:Int)<=1000000) (s:Pa) (hs:(s.length:Int)<=9223372036854775807):Calls Tryz.prog 97 #[.pointer (some ⟨b,0,none⟩),.string ⟨s.toArray⟩] w (ReadP w0 wk w b 1 R s):=by
 obtain ⟨ra,rc,c0,c1,f0⟩:=rdd_cells h
 have hsub:IntKind.i64.wrap ((R.length:Int) - 1)=(R.length:Int) - 1:=wrapA (by omega) (by omega)
 have H:=hid h
 have HP:=hid (isPrefix_any s hs w)
 cases h1:prefB s
 ·have HF:Hid (stepR 1 R s=none):=hid (by unfold stepR; rw [if_neg (fun x=>absurd x.1 (by decide)),if_neg (fun x=>absurd x.1 (by decide)),if_neg (fun x=>by have:=x.2; rw [h1] at this; cases this),if_neg (fun x=>absurd x.1 (by decide)),if_neg (fun x=>absurd x.1 (by decide)),if_neg (fun x=>absurd x.1 (by decide))])
  rw [h1] at HP
  generalize R.length=n at c1 hl hsub
  clear h
  go_enter Tryz.func97,Tryz.ntmps97
  go_wp2_with fail
  (with_reducible refine (HP.out).mono ?_)
  rintro e u ⟨rfl,rfl⟩
  clear HP
  go_wp2_with fail
  go_ret
  exact .none HF.out H.out.be (Below.refl _ _)
 ·have HF:Hid (stepR 1 R s=some (2,R ++ [(s,[])])):=hid (by unfold stepR; rw [if_neg (fun x=>absurd x.1 (by decide)),if_neg (fun x=>absurd x.1 (by decide)),if_pos ⟨rfl,h1⟩])
  rw [h1] at HP
  have HC:=hid (begin_any h hl s)
  generalize R.length=n at c1 hl hsub
  clear h h1
  go_enter Tryz.func97,Tryz.ntmps97
  go_wp2_with fail
  (with_reducible refine (HP.out).mono ?_)
  rintro e u ⟨rfl,rfl⟩
  clear HP
  go_wp2_with fail
  have hx:=HC.out
  (with_reducible refine hx.mono ?_)
  clear hx
  rintro e u ⟨rfl,hm⟩
  obtain ⟨rg,rc2,d0,d1,g0⟩:=rdm_cells hm
  have HM:=hid (hm.place 2)
  clear hm c0 c1 f0 H HC
  go_wp2_with fail
  go_ret
  exact .some HF.out HM.out.be (.inr (.inl ⟨rfl,_,_,rfl,HM.out⟩))
theorem read2_any {w0 wk w:World} {b:Nat} {R:List Ru} {p:Pa} {G:List (List Pa)} (h:RdM w0 wk b 2 R p G w) (hl:(R.length:Int)<=1000000) (hl2:(G.length:Int)<=1000000) (s:Pa):Calls Tryz.prog 97 #[.pointer (some ⟨b,0,none⟩),.string ⟨s.toArray⟩] w (ReadP w0 wk w b 2 (R ++ [(p,G)]) s):=by
 obtain ⟨rg,rc,c0,c1,f0⟩:=rdm_cells h
 have hwn:IntKind.i64.wrap ((R.length:Int) + 1 - 1)=(R.length:Int):=by rw [wrapA (by omega) (by omega)]; omega
 have hwn2:IntKind.i64.wrap (R.length:Int)=(R.length:Int):=wrapA (by omega) (by omega)
 have H:=hid h
 by_cases h1:s=[103,114,111,117,112]
 ·have HF:Hid (stepR 2 (R ++ [(p,G)]) s=some (3,R ++ [(p,G ++ [[]])])):=hid (by unfold stepR; rw [if_neg (fun x=>absurd x.1 (by decide)),if_neg (fun x=>absurd x.1 (by decide)),if_neg (fun x=>absurd x.1 (by decide)),if_pos ⟨.inl rfl,h1⟩,modLast_snoc])
  clear c1 rg rc
  obtain ⟨rg,rc,ga,gc,ga',gc',W',c1,c2,hrc,HRUN,a1,a2,b1,b2,b3,ho⟩:=h.drew.group hl2
  have c1:w.cell? _=_:=c1
  have c2:w.cell? _=_:=c2
  have hq:RdO w0 wk b 3 R p G [] _:=ho.place 3
  obtain ⟨_,_,k0,_,k1⟩:=rdo_cells ho
  have HO:=hid hq
  have HS1:=hid (And.intro a1 a2)
  have HS2:=hid (And.intro b1 b2)
  subst h1
  generalize G.length=m at c2 HRUN HS1 HS2 HO k0 k1
  generalize R.length=n at c1 c2 hl hwn hwn2 hrc HRUN HS1 HS2 HO k0 k1 b3
  have hlt1:(n:Int) < (n:Int) + 1:=by omega
  clear h a1 a2 b1 b2 ho hq H hl2
  go_enter Tryz.func97,Tryz.ntmps97
  go_wp2_with fail
  have hS0:w.cell? ⟨b,1,none⟩=some (.slice (some ⟨rg,0,none⟩) (n + 1) rc)/\w.cell? ⟨rg,n * 2 + 1,none⟩=some (.slice ga m gc):=⟨c1,c2⟩
  refine wp_region_L (S:=(fun Wx=>Wx.cell? ⟨b,1,none⟩=some (.slice (some ⟨rg,0,none⟩) (n + 1) rc)/\Wx.cell? ⟨rg,n * 2 + 1,none⟩=some (.slice ga m gc))) [17] (by kernel_rfl) hS0 (fun hHeld=>?_)
  refine anyL_take0 (i:=0) (v:=?vv1) rfl (by kernel_rfl) (by kernel_rfl) (by kernel_rfl) (by kernel_rfl) (fun _ _ _ h=>h) (Or.inl ⟨by rfl,?hy1⟩) (by assumption) ?rest1
  case hy1=>(intro wx hSw; go_simp; try (with_reducible rfl))
  simp only [Act.put,zA,zC,zD,zE,zF]
  refine anyL_take (i:=1) (v:=?vv2) rfl (by kernel_rfl) (by kernel_rfl) (by kernel_rfl) (by kernel_rfl) (fun _ _ _ h=>h) (Or.inl ⟨by rfl,?hy2⟩) (by assumption) ?rest2
  case hy2=>(intro wx hSw; (try dsimp only at hSw); go_simp; try (with_reducible rfl))
  simp only [Act.put,zA,zB,zC,zD,zE,zF]
  refine anyL_take (i:=2) (v:=?vv3) rfl (by kernel_rfl) (by kernel_rfl) (by kernel_rfl) (by kernel_rfl) (fun _ _ _ h=>h) (Or.inl ⟨by rfl,?hy3⟩) (by assumption) ?rest3
  case hy3=>(intro wx hSw; (try dsimp only at hSw); go_simp; try (with_reducible rfl))
  simp only [Act.put,zA,zB,zC,zD,zE,zF]
  refine anyL_take (i:=3) (v:=?vv4) rfl (by kernel_rfl) (by kernel_rfl) (by kernel_rfl) (by kernel_rfl) (fun _ _ _ h=>h) (Or.inl ⟨by rfl,?hy4⟩) (by assumption) ?rest4
  case hy4=>(intro wx hSw; (try dsimp only at hSw); go_simp; try (with_reducible rfl))
  simp only [Act.put,zA,zB,zC,zD,zE,zF]
  refine anyL_take (i:=4) (v:=?vv5) rfl (by kernel_rfl) (by kernel_rfl) (by kernel_rfl) (by kernel_rfl) (fun _ _ _ h=>h) (Or.inl ⟨by rfl,?hy5⟩) (by assumption) ?rest5
  case hy5=>(intro wx hSw; (try dsimp only at hSw); go_simp; try (with_reducible rfl))
  simp only [Act.put,zA,zB,zC,zD,zE,zF]
  refine anyL_take (i:=5) (v:=?vv6) rfl (by kernel_rfl) (by kernel_rfl) (by kernel_rfl) (by kernel_rfl) (fun _ _ _ h=>h) (Or.inl ⟨by rfl,?hy6⟩) (by assumption) ?rest6
  case hy6=>(intro wx hSw; (try dsimp only at hSw); go_simp; try (with_reducible rfl))
  simp only [Act.put,zA,zB,zC,zD,zE,zF]
  refine anyL_take (i:=6) (v:=?vv7) rfl (by kernel_rfl) (by kernel_rfl) (by kernel_rfl) (by kernel_rfl) (fun _ _ _ h=>h) (Or.inl ⟨by rfl,?hy7⟩) (by assumption) ?rest7
  case hy7=>(intro wx hSw; (try dsimp only at hSw); go_simp; try (with_reducible rfl))
  simp only [Act.put,zA,zB,zC,zD,zE,zF]
  refine anyL_take (i:=7) (v:=?vv8) rfl (by kernel_rfl) (by kernel_rfl) (by kernel_rfl) (by kernel_rfl) (fun _ _ _ h=>h) (Or.inl ⟨by rfl,?hy8⟩) (by assumption) ?rest8
  case hy8=>(intro wx hSw; (try dsimp only at hSw); go_simp; try (with_reducible rfl))
  simp only [Act.put,zA,zB,zC,zD,zE,zF]
  refine anyL_take (i:=8) (v:=?vv9) rfl (by kernel_rfl) (by kernel_rfl) (by kernel_rfl) (by kernel_rfl) (fun _ _ _ h=>h) (Or.inl ⟨by rfl,?hy9⟩) (by assumption) ?rest9
  case hy9=>(intro wx hSw; (try dsimp only at hSw); go_simp; try (with_reducible rfl))
  simp only [Act.put,zA,zB,zC,zD,zE,zF]
  refine anyL_take (i:=9) (v:=?vv10) rfl (by kernel_rfl) (by kernel_rfl) (by kernel_rfl) (by kernel_rfl) (fun _ _ _ h=>h) (Or.inl ⟨by rfl,?hy10⟩) (by assumption) ?rest10
  case hy10=>(intro wx hSw; (try dsimp only at hSw); go_simp; try (with_reducible rfl))
  simp only [Act.put,zA,zB,zC,zD,zE,zF]
  refine anyL_take (i:=10) (v:=?vv11) rfl (by kernel_rfl) (by kernel_rfl) (by kernel_rfl) (by kernel_rfl) (fun _ _ _ h=>h) (Or.inl ⟨by rfl,?hy11⟩) (by assumption) ?rest11
  case hy11=>(intro wx hSw; (try dsimp only at hSw); go_simp; try (with_reducible rfl))
  simp only [Act.put,zA,zB,zC,zD,zE,zF]
  refine anyL_take (i:=11) (v:=?vv12) rfl (by kernel_rfl) (by kernel_rfl) (by kernel_rfl) (by kernel_rfl) (fun _ _ _ h=>h) (Or.inl ⟨by rfl,?hy12⟩) (by assumption) ?rest12
  case hy12=>(intro wx hSw; (try dsimp only at hSw); go_simp; try (with_reducible rfl))
  simp only [Act.put,zA,zB,zC,zD,zE,zF]
  refine anyL_take (i:=12) (v:=?vv13) rfl (by kernel_rfl) (by kernel_rfl) (by kernel_rfl) (by kernel_rfl) (fun _ _ _ h=>h) (Or.inl ⟨by rfl,?hy13⟩) (by assumption) ?rest13
  case hy13=>(intro wx hSw; (try dsimp only at hSw); go_simp; try (with_reducible rfl))
  simp only [Act.put,zA,zB,zC,zD,zE,zF]
  refine anyL_one (i:=13) (by kernel_rfl) rfl (fun K hK=>?_)
  go_simp
  have hS1:=HS1.out
  clear hHeld hS0
  refine hK.out _ _ ((fun _=>hS1)) (fun hHeld=>?_)
  clear hK K
  refine anyL_one (i:=14) (by kernel_rfl) rfl (fun K hK=>?_)
  refine step_append_run (by rfl) (.tmp 86) (.tmp 87) _ _ (by rfl) _ _ (by rfl) (by rfl) _ _ HRUN.out ?_
  have hS2:=HS2.out
  clear hHeld hS1
  refine hK.out _ _ ((fun _=>hS2)) (fun hHeld=>?_)
  clear hK K
  refine anyL_take (i:=15) (v:=?vv14) rfl (by kernel_rfl) (by kernel_rfl) (by kernel_rfl) (by kernel_rfl) (fun _ _ _ h=>h) (Or.inl ⟨by rfl,?hy14⟩) (by assumption) ?rest14
  case hy14=>(intro wx hSw; (try dsimp only at hSw); go_simp; try (with_reducible rfl))
  simp only [Act.put,zA,zB,zC,zD,zE,zF]
  refine anyL_take (i:=16) (v:=?vv15) rfl (by kernel_rfl) (by kernel_rfl) (by kernel_rfl) (by kernel_rfl) (fun _ _ _ h=>h) (Or.inl ⟨by rfl,?hy15⟩) (by assumption) ?rest15
  case hy15=>(intro wx hSw; (try dsimp only at hSw); go_simp; try (with_reducible rfl))
  simp only [Act.put,zA,zB,zC,zD,zE,zF]
  refine anyL_one (i:=17) (by kernel_rfl) rfl (fun K hK=>?_)
  go_simp
  refine hK.out _ _ ((fun h=>absurd h (by decide))) (fun hHeld=>?_)
  clear hK K
  refine anyL_done (by kernel_rfl) ?_ _
  clear hHeld hS2 HRUN HS1 HS2
  go_wp2_with fail
  go_ret
  exact .some HF.out HO.out.be (.inr (.inr ⟨.inl rfl,_,_,_,_,rfl,HO.out⟩))
 ·have HF:Hid (stepR 2 (R ++ [(p,G)]) s=none):=hid (by unfold stepR; rw [if_neg (fun x=>absurd x.1 (by decide)),if_neg (fun x=>absurd x.1 (by decide)),if_neg (fun x=>absurd x.1 (by decide)),if_neg (fun x=>h1 x.2),if_neg (fun x=>absurd x.1 (by decide)),if_neg (fun x=>absurd x.1 (by decide))])
  have e1:(s == [103,114,111,117,112])=false:=by simpa using h1
  generalize R.length=n at c1 hl hwn hwn2
  clear h h1
  go_enter Tryz.func97,Tryz.ntmps97
  go_wp2_with fail
  go_ret
  exact .none HF.out H.out.be (Below.refl _ _)
theorem read3_any {w0 wk w:World} {b:Nat} {R:List Ru} {p:Pa} {G:List (List Pa)} {g:List Pa} (h:RdO w0 wk b 3 R p G g w) (hl:(R.length:Int)<=1000000) (hl2:(G.length:Int)<=100000) (hl3:(g.length:Int)<=1000000) (s:Pa) (hs:(s.length:Int)<=9223372036854775807):Calls Tryz.prog 97 #[.pointer (some ⟨b,0,none⟩),.string ⟨s.toArray⟩] w (ReadP w0 wk w b 3 (R ++ [(p,G ++ [g])]) s):=by
 obtain ⟨rg,rc,c0,c1,f0⟩:=rdo_cells h
 have hwn:IntKind.i64.wrap ((R.length:Int) + 1 - 1)=(R.length:Int):=by rw [wrapA (by omega) (by omega)]; omega
 have hwn2:IntKind.i64.wrap (R.length:Int)=(R.length:Int):=wrapA (by omega) (by omega)
 have H:=hid h
 have HP:=hid (isPerson_any s hs w)
 cases h1:personB s
 ·have HF:Hid (stepR 3 (R ++ [(p,G ++ [g])]) s=none):=hid (by unfold stepR; rw [if_neg (fun x=>absurd x.1 (by decide)),if_neg (fun x=>absurd x.1 (by decide)),if_neg (fun x=>absurd x.1 (by decide)),if_neg (fun x=>absurd x.1 (by decide)),if_neg (fun x=>by have:=x.2; rw [h1] at this; cases this),if_neg (fun x=>absurd x.1 (by decide))])
  rw [h1] at HP
  generalize hn:R.length=n at c1 hl hwn hwn2
  clear h hn
  go_enter Tryz.func97,Tryz.ntmps97
  go_wp2_with fail
  (with_reducible refine (HP.out).mono ?_)
  rintro e u ⟨rfl,hbu⟩
  have HBU:=hid hbu
  have HU:=hid (H.out.below hbu)
  obtain ⟨_,_,d0,_⟩:=rdo_cells HU.out
  clear HP hbu c0 c1 f0 H
  go_wp2_with fail
  go_ret
  exact .none HF.out HU.out.be HBU.out
 ·have HF:Hid (stepR 3 (R ++ [(p,G ++ [g])]) s=some (4,R ++ [(p,G ++ [g ++ [s]])])):=hid (by unfold stepR; rw [if_neg (fun x=>absurd x.1 (by decide)),if_neg (fun x=>absurd x.1 (by decide)),if_neg (fun x=>absurd x.1 (by decide)),if_neg (fun x=>absurd x.1 (by decide)),if_pos ⟨.inl rfl,h1⟩]; simp only [modLast_snoc])
  rw [h1] at HP
  clear h h1
  go_enter Tryz.func97,Tryz.ntmps97
  go_wp2_with fail
  (with_reducible refine (HP.out).mono ?_)
  rintro e u ⟨rfl,hbu⟩
  obtain ⟨rg,rc,gg,gc,sa,sc,sa',sc',W',c1,hrc,c2,hgc,c3,HRUN,b1,b2,ho⟩:=(H.out.below hbu).person s hl3
  have hq:RdO w0 wk b 4 R p G (g ++ [s]) _:=ho.place 4
  obtain ⟨_,_,k0,_,k1⟩:=rdo_cells ho
  have HO:=hid hq
  have hlt1:(R.length:Int) < (R.length:Int) + 1:=by omega
  have hlt2:(G.length:Int) < (G.length:Int) + 1:=by omega
  have hwm:IntKind.i64.wrap ((G.length:Int) + 1 - 1)=(G.length:Int):=by rw [wrapA (by omega) (by omega)]; omega
  have hwm2:IntKind.i64.wrap (G.length:Int)=(G.length:Int):=wrapA (by omega) (by omega)
  obtain ⟨d0,d1,e0⟩:u.cell? ⟨b,0,none⟩=some (.int .i64 3)/\True/\True:=⟨by obtain ⟨_,_,x,_⟩:=rdo_cells (H.out.below hbu); exact x,trivial,trivial⟩
  generalize G.length=m at c2 hgc c3 HRUN b1 b2 k0 k1 HO hlt2 hwm hwm2
  generalize R.length=n at c1 hrc c2 hl hwn hwn2 k0 k1 HO hlt1
  generalize g.length=q at c3 HRUN b1 k0 k1 HO
  clear hbu HP ho hq H
  go_wp2_with (at_builtin; refine Lib.wpList_append_run _ rfl _ _ _ _ rfl _ _ rfl rfl _ _ HRUN.out ?_)
  go_ret
  exact .some HF.out HO.out.be (.inr (.inr ⟨.inr rfl,_,_,_,_,rfl,HO.out⟩))
theorem read4_any {w0 wk w:World} {b:Nat} {R:List Ru} {p:Pa} {G:List (List Pa)} {g:List Pa} (h:RdO w0 wk b 4 R p G g w) (hl:(R.length:Int)<=1000000) (hl2:(G.length:Int)<=100000) (hl3:(g.length:Int)<=1000000) (s:Pa) (hs:(s.length:Int)<=9223372036854775807):Calls Tryz.prog 97 #[.pointer (some ⟨b,0,none⟩),.string ⟨s.toArray⟩] w (ReadP w0 wk w b 4 (R ++ [(p,G ++ [g])]) s):=by
 obtain ⟨rg,rc,c0,c1,f0⟩:=rdo_cells h
 have hwn:IntKind.i64.wrap ((R.length:Int) + 1 - 1)=(R.length:Int):=by rw [wrapA (by omega) (by omega)]; omega
 have hwn2:IntKind.i64.wrap (R.length:Int)=(R.length:Int):=wrapA (by omega) (by omega)
 have H:=hid h
 have HP:=hid (isPerson_any s hs w)
 by_cases hg:s=[103,114,111,117,112]
 ·have HF:Hid (stepR 4 (R ++ [(p,G ++ [g])]) s=some (3,R ++ [(p,(G ++ [g]) ++ [[]])])):=hid (by unfold stepR; rw [if_neg (fun x=>absurd x.1 (by decide)),if_neg (fun x=>absurd x.1 (by decide)),if_neg (fun x=>absurd x.1 (by decide)),if_pos ⟨.inr rfl,hg⟩,modLast_snoc])
  clear c1 rg rc
  have hGl:(G ++ [g]).length=G.length + 1:=by simp
  obtain ⟨rg,rc,ga,gc,ga',gc',W',c1,c2,hrc,HRUN,a1,a2,b1,b2,b3,ho⟩:=h.toM.drew.group (by rw [hGl]; omega)
  have c1:w.cell? _=_:=c1
  have c2:w.cell? _=_:=c2
  have hq:RdO w0 wk b 3 R p (G ++ [g]) [] _:=ho.place 3
  obtain ⟨_,_,k0,_,k1⟩:=rdo_cells ho
  have HO:=hid hq
  have HS1:=hid (And.intro a1 a2)
  have HS2:=hid (And.intro b1 b2)
  subst hg
  generalize (G ++ [g]).length=m at c2 HRUN HS1 HS2 HO k0 k1
  generalize R.length=n at c1 c2 hl hwn hwn2 hrc HRUN HS1 HS2 HO k0 k1 b3
  have hlt1:(n:Int) < (n:Int) + 1:=by omega
  clear h a1 a2 b1 b2 ho hq H hl2 hl3 hGl HP
  go_enter Tryz.func97,Tryz.ntmps97
  go_wp2_with fail
  have hS0:w.cell? ⟨b,1,none⟩=some (.slice (some ⟨rg,0,none⟩) (n + 1) rc)/\w.cell? ⟨rg,n * 2 + 1,none⟩=some (.slice ga m gc):=⟨c1,c2⟩
  refine wp_region_L (S:=(fun Wx=>Wx.cell? ⟨b,1,none⟩=some (.slice (some ⟨rg,0,none⟩) (n + 1) rc)/\Wx.cell? ⟨rg,n * 2 + 1,none⟩=some (.slice ga m gc))) [17] (by kernel_rfl) hS0 (fun hHeld=>?_)
  refine anyL_take0 (i:=0) (v:=?vv16) rfl (by kernel_rfl) (by kernel_rfl) (by kernel_rfl) (by kernel_rfl) (fun _ _ _ h=>h) (Or.inl ⟨by rfl,?hy16⟩) (by assumption) ?rest16
  case hy16=>(intro wx hSw; go_simp; try (with_reducible rfl))
  simp only [Act.put,zA,zC,zD,zE,zF]
  refine anyL_take (i:=1) (v:=?vv17) rfl (by kernel_rfl) (by kernel_rfl) (by kernel_rfl) (by kernel_rfl) (fun _ _ _ h=>h) (Or.inl ⟨by rfl,?hy17⟩) (by assumption) ?rest17
  case hy17=>(intro wx hSw; (try dsimp only at hSw); go_simp; try (with_reducible rfl))
  simp only [Act.put,zA,zB,zC,zD,zE,zF]
  refine anyL_take (i:=2) (v:=?vv18) rfl (by kernel_rfl) (by kernel_rfl) (by kernel_rfl) (by kernel_rfl) (fun _ _ _ h=>h) (Or.inl ⟨by rfl,?hy18⟩) (by assumption) ?rest18
  case hy18=>(intro wx hSw; (try dsimp only at hSw); go_simp; try (with_reducible rfl))
  simp only [Act.put,zA,zB,zC,zD,zE,zF]
  refine anyL_take (i:=3) (v:=?vv19) rfl (by kernel_rfl) (by kernel_rfl) (by kernel_rfl) (by kernel_rfl) (fun _ _ _ h=>h) (Or.inl ⟨by rfl,?hy19⟩) (by assumption) ?rest19
  case hy19=>(intro wx hSw; (try dsimp only at hSw); go_simp; try (with_reducible rfl))
  simp only [Act.put,zA,zB,zC,zD,zE,zF]
  refine anyL_take (i:=4) (v:=?vv20) rfl (by kernel_rfl) (by kernel_rfl) (by kernel_rfl) (by kernel_rfl) (fun _ _ _ h=>h) (Or.inl ⟨by rfl,?hy20⟩) (by assumption) ?rest20
  case hy20=>(intro wx hSw; (try dsimp only at hSw); go_simp; try (with_reducible rfl))
  simp only [Act.put,zA,zB,zC,zD,zE,zF]
  refine anyL_take (i:=5) (v:=?vv21) rfl (by kernel_rfl) (by kernel_rfl) (by kernel_rfl) (by kernel_rfl) (fun _ _ _ h=>h) (Or.inl ⟨by rfl,?hy21⟩) (by assumption) ?rest21
  case hy21=>(intro wx hSw; (try dsimp only at hSw); go_simp; try (with_reducible rfl))
  simp only [Act.put,zA,zB,zC,zD,zE,zF]
  refine anyL_take (i:=6) (v:=?vv22) rfl (by kernel_rfl) (by kernel_rfl) (by kernel_rfl) (by kernel_rfl) (fun _ _ _ h=>h) (Or.inl ⟨by rfl,?hy22⟩) (by assumption) ?rest22
  case hy22=>(intro wx hSw; (try dsimp only at hSw); go_simp; try (with_reducible rfl))
  simp only [Act.put,zA,zB,zC,zD,zE,zF]
  refine anyL_take (i:=7) (v:=?vv23) rfl (by kernel_rfl) (by kernel_rfl) (by kernel_rfl) (by kernel_rfl) (fun _ _ _ h=>h) (Or.inl ⟨by rfl,?hy23⟩) (by assumption) ?rest23
  case hy23=>(intro wx hSw; (try dsimp only at hSw); go_simp; try (with_reducible rfl))
  simp only [Act.put,zA,zB,zC,zD,zE,zF]
  refine anyL_take (i:=8) (v:=?vv24) rfl (by kernel_rfl) (by kernel_rfl) (by kernel_rfl) (by kernel_rfl) (fun _ _ _ h=>h) (Or.inl ⟨by rfl,?hy24⟩) (by assumption) ?rest24
  case hy24=>(intro wx hSw; (try dsimp only at hSw); go_simp; try (with_reducible rfl))
  simp only [Act.put,zA,zB,zC,zD,zE,zF]
  refine anyL_take (i:=9) (v:=?vv25) rfl (by kernel_rfl) (by kernel_rfl) (by kernel_rfl) (by kernel_rfl) (fun _ _ _ h=>h) (Or.inl ⟨by rfl,?hy25⟩) (by assumption) ?rest25
  case hy25=>(intro wx hSw; (try dsimp only at hSw); go_simp; try (with_reducible rfl))
  simp only [Act.put,zA,zB,zC,zD,zE,zF]
  refine anyL_take (i:=10) (v:=?vv26) rfl (by kernel_rfl) (by kernel_rfl) (by kernel_rfl) (by kernel_rfl) (fun _ _ _ h=>h) (Or.inl ⟨by rfl,?hy26⟩) (by assumption) ?rest26
  case hy26=>(intro wx hSw; (try dsimp only at hSw); go_simp; try (with_reducible rfl))
  simp only [Act.put,zA,zB,zC,zD,zE,zF]
  refine anyL_take (i:=11) (v:=?vv27) rfl (by kernel_rfl) (by kernel_rfl) (by kernel_rfl) (by kernel_rfl) (fun _ _ _ h=>h) (Or.inl ⟨by rfl,?hy27⟩) (by assumption) ?rest27
  case hy27=>(intro wx hSw; (try dsimp only at hSw); go_simp; try (with_reducible rfl))
  simp only [Act.put,zA,zB,zC,zD,zE,zF]
  refine anyL_take (i:=12) (v:=?vv28) rfl (by kernel_rfl) (by kernel_rfl) (by kernel_rfl) (by kernel_rfl) (fun _ _ _ h=>h) (Or.inl ⟨by rfl,?hy28⟩) (by assumption) ?rest28
  case hy28=>(intro wx hSw; (try dsimp only at hSw); go_simp; try (with_reducible rfl))
  simp only [Act.put,zA,zB,zC,zD,zE,zF]
  refine anyL_one (i:=13) (by kernel_rfl) rfl (fun K hK=>?_)
  go_simp
  have hS1:=HS1.out
  clear hHeld hS0
  refine hK.out _ _ ((fun _=>hS1)) (fun hHeld=>?_)
  clear hK K
  refine anyL_one (i:=14) (by kernel_rfl) rfl (fun K hK=>?_)
  refine step_append_run (by rfl) (.tmp 86) (.tmp 87) _ _ (by rfl) _ _ (by rfl) (by rfl) _ _ HRUN.out ?_
  have hS2:=HS2.out
  clear hHeld hS1
  refine hK.out _ _ ((fun _=>hS2)) (fun hHeld=>?_)
  clear hK K
  refine anyL_take (i:=15) (v:=?vv29) rfl (by kernel_rfl) (by kernel_rfl) (by kernel_rfl) (by kernel_rfl) (fun _ _ _ h=>h) (Or.inl ⟨by rfl,?hy29⟩) (by assumption) ?rest29
  case hy29=>(intro wx hSw; (try dsimp only at hSw); go_simp; try (with_reducible rfl))
  simp only [Act.put,zA,zB,zC,zD,zE,zF]
  refine anyL_take (i:=16) (v:=?vv30) rfl (by kernel_rfl) (by kernel_rfl) (by kernel_rfl) (by kernel_rfl) (fun _ _ _ h=>h) (Or.inl ⟨by rfl,?hy30⟩) (by assumption) ?rest30
  case hy30=>(intro wx hSw; (try dsimp only at hSw); go_simp; try (with_reducible rfl))
  simp only [Act.put,zA,zB,zC,zD,zE,zF]
  refine anyL_one (i:=17) (by kernel_rfl) rfl (fun K hK=>?_)
  go_simp
  refine hK.out _ _ ((fun h=>absurd h (by decide))) (fun hHeld=>?_)
  clear hK K
  refine anyL_done (by kernel_rfl) ?_ _
  clear hHeld hS2 HRUN HS1 HS2
  go_wp2_with fail
  go_ret
  exact .some HF.out HO.out.be (.inr (.inr ⟨.inl rfl,_,_,_,_,rfl,HO.out⟩))
 ·have e1:(s == [103,114,111,117,112])=false:=by simpa using hg
  cases h1:personB s
  ·rw [h1] at HP
   by_cases h2:s=[59]
   ·have HF:Hid (stepR 4 (R ++ [(p,G ++ [g])]) s=some (0,R ++ [(p,G ++ [g])])):=hid (by unfold stepR; rw [if_neg (fun x=>absurd x.1 (by decide)),if_neg (fun x=>absurd x.1 (by decide)),if_neg (fun x=>absurd x.1 (by decide)),if_neg (fun x=>hg x.2),if_neg (fun x=>by have:=x.2; rw [h1] at this; cases this),if_pos ⟨rfl,h2⟩])
    subst h2
    generalize hn:R.length=n at c1 hl hwn hwn2
    clear h hn hg h1
    go_enter Tryz.func97,Tryz.ntmps97
    go_wp2_with fail
    (with_reducible refine (HP.out).mono ?_)
    rintro e u ⟨rfl,hbu⟩
    obtain ⟨_,_,d0,_,g0⟩:=rdo_cells (H.out.below hbu)
    have HU:=hid ((H.out.below hbu).place 0)
    clear HP hbu c0 c1 f0 H
    go_wp2_with fail
    go_ret
    exact .some HF.out HU.out.be (.inl ⟨.inl rfl,HU.out.toD⟩)
   ·have HF:Hid (stepR 4 (R ++ [(p,G ++ [g])]) s=none):=hid (by unfold stepR; rw [if_neg (fun x=>absurd x.1 (by decide)),if_neg (fun x=>absurd x.1 (by decide)),if_neg (fun x=>absurd x.1 (by decide)),if_neg (fun x=>hg x.2),if_neg (fun x=>by have:=x.2; rw [h1] at this; cases this),if_neg (fun x=>h2 x.2)])
    have e2:(s == [59])=false:=by simpa using h2
    generalize hn:R.length=n at c1 hl hwn hwn2
    clear h hn hg h1 h2
    go_enter Tryz.func97,Tryz.ntmps97
    go_wp2_with fail
    (with_reducible refine (HP.out).mono ?_)
    rintro e u ⟨rfl,hbu⟩
    have HBU:=hid hbu
    have HU:=hid (H.out.below hbu)
    obtain ⟨_,_,d0,_⟩:=rdo_cells HU.out
    clear HP hbu c0 c1 f0 H
    go_wp2_with fail
    go_ret
    exact .none HF.out HU.out.be HBU.out
  ·have HF:Hid (stepR 4 (R ++ [(p,G ++ [g])]) s=some (4,R ++ [(p,G ++ [g ++ [s]])])):=hid (by unfold stepR; rw [if_neg (fun x=>absurd x.1 (by decide)),if_neg (fun x=>absurd x.1 (by decide)),if_neg (fun x=>absurd x.1 (by decide)),if_neg (fun x=>hg x.2),if_pos ⟨.inr rfl,h1⟩]; simp only [modLast_snoc])
   rw [h1] at HP
   clear h h1 hg
   go_enter Tryz.func97,Tryz.ntmps97
   go_wp2_with fail
   (with_reducible refine (HP.out).mono ?_)
   rintro e u ⟨rfl,hbu⟩
   obtain ⟨rg,rc,gg,gc,sa,sc,sa',sc',W',c1,hrc,c2,hgc,c3,HRUN,b1,b2,ho⟩:=(H.out.below hbu).person s hl3
   have hq:RdO w0 wk b 4 R p G (g ++ [s]) _:=ho.place 4
   obtain ⟨_,_,k0,_,k1⟩:=rdo_cells ho
   have HO:=hid hq
   have hlt1:(R.length:Int) < (R.length:Int) + 1:=by omega
   have hlt2:(G.length:Int) < (G.length:Int) + 1:=by omega
   have hwm:IntKind.i64.wrap ((G.length:Int) + 1 - 1)=(G.length:Int):=by rw [wrapA (by omega) (by omega)]; omega
   have hwm2:IntKind.i64.wrap (G.length:Int)=(G.length:Int):=wrapA (by omega) (by omega)
   obtain ⟨d0,d1,e0⟩:u.cell? ⟨b,0,none⟩=some (.int .i64 4)/\True/\True:=⟨by obtain ⟨_,_,x,_⟩:=rdo_cells (H.out.below hbu); exact x,trivial,trivial⟩
   generalize G.length=m at c2 hgc c3 HRUN b1 b2 k0 k1 HO hlt2 hwm hwm2
   generalize R.length=n at c1 hrc c2 hl hwn hwn2 k0 k1 HO hlt1
   generalize g.length=q at c3 HRUN b1 k0 k1 HO
   clear hbu HP ho hq H
   go_wp2_with (at_builtin; refine Lib.wpList_append_run _ rfl _ _ _ _ rfl _ _ rfl rfl _ _ HRUN.out ?_)
   go_ret
   exact .some HF.out HO.out.be (.inr (.inr ⟨.inr rfl,_,_,_,_,rfl,HO.out⟩))
def SzR (N:Nat) (R:List Ru):Prop:=R.length<=N/\∀ r ∈ R,r.2.length<=N/\∀ g ∈ r.2,g.length<=N
theorem modLast_len {α:Type} (f:α->α):∀ l:List α,(modLast f l).length=l.length
 | []=>rfl
 | [x]=>rfl
 | x :: y :: l=>by rw [modLast,List.length_cons,modLast_len f (y :: l)]; rfl
theorem modLast_mem {α:Type} (f:α->α):∀ (l:List α) (x:α),x ∈ modLast f l->x ∈ l\/∃ y ∈ l,x=f y
 | [],x,h=>by simp [modLast] at h
 | [a],x,h=>.inr ⟨a,by simp,by simpa [modLast] using h⟩
 | a :: b :: l,x,h=>by
  rw [modLast,List.mem_cons] at h
  rcases h with rfl | h
  ·exact .inl (by simp)
  ·rcases modLast_mem f (b :: l) x h with h1 | ⟨y,h1,h2⟩
   ·exact .inl (List.mem_cons_of_mem _ h1)
   ·exact .inr ⟨y,List.mem_cons_of_mem _ h1,h2⟩
theorem SzR.up {N:Nat} {R:List Ru} (h:SzR N R):SzR (N + 1) R:=⟨by have:=h.1; omega,fun r hr=>⟨by have:=(h.2 r hr).1; omega,fun g hg=>by have:=(h.2 r hr).2 g hg; omega⟩⟩
theorem SzR.push {N:Nat} {R:List Ru} (h:SzR N R) (p:Pa):SzR (N + 1) (R ++ [(p,[])]):=by
 refine ⟨by have:=h.1; simp; omega,fun r hr=>?_⟩
 rcases List.mem_append.1 hr with hr | hr
 ·exact h.up.2 r hr
 ·simp at hr; subst hr; simp
theorem stepR_sz {N pl:Nat} {R:List Ru} {s:Pa} {x:Nat × List Ru} (h:SzR N R) (hx:stepR pl R s=some x):SzR (N + 1) x.2:=by
 unfold stepR at hx
 split at hx
 ·cases hx; exact h.push _
 ·split at hx
  ·cases hx; exact h.up
  ·split at hx
   ·cases hx; exact h.push _
   ·split at hx
    ·cases hx
     refine ⟨by rw [modLast_len]; exact h.up.1,fun r hr=>?_⟩
     rcases modLast_mem _ _ _ hr with hr | ⟨y,hy,rfl⟩
     ·exact h.up.2 r hr
     ·refine ⟨by have:=(h.2 y hy).1; simp; omega,fun g hg=>?_⟩
      rcases List.mem_append.1 hg with hg | hg
      ·exact (h.up.2 y hy).2 g hg
      ·simp at hg; subst hg; simp
    ·split at hx
     ·cases hx
      refine ⟨by rw [modLast_len]; exact h.up.1,fun r hr=>?_⟩
      rcases modLast_mem _ _ _ hr with hr | ⟨y,hy,rfl⟩
      ·exact h.up.2 r hr
      ·refine ⟨by rw [modLast_len]; exact (h.up.2 y hy).1,fun g hg=>?_⟩
       rcases modLast_mem _ _ _ hg with hg | ⟨z,hz,rfl⟩
       ·exact (h.up.2 y hy).2 g hg
       ·have:=(h.2 y hy).2 z hz
        simp; omega
     ·split at hx
      ·cases hx; exact h.up
      ·cases hx
theorem read_any {w0 wk w:World} {b pl:Nat} {R:List Ru} (h:RdS w0 wk b pl R w) (hz:SzR 90000 R) (s:Pa) (hs:(s.length:Int)<=9223372036854775807):Calls Tryz.prog 97 #[.pointer (some ⟨b,0,none⟩),.string ⟨s.toArray⟩] w (ReadP w0 wk w b pl R s):=by
 have h1:=hz.1
 rcases h with ⟨rfl | rfl,h⟩ | ⟨rfl,R0,p,rfl,h⟩ | ⟨rfl | rfl,R0,p,G,g,rfl,h⟩
 ·exact read0_any h (by omega) s
 ·exact read1_any h (by omega) s hs
 ·exact read2_any h (by simp at h1; omega) (by simp) s
 ·have h2:=hz.2 (p,G ++ [g]) (by simp)
  have h3:=h2.2 g (by simp)
  have h4:=h2.1
  simp at h1 h4
  exact read3_any h (by omega) (by omega) (by omega) s hs
 ·have h2:=hz.2 (p,G ++ [g]) (by simp)
  have h3:=h2.2 g (by simp)
  have h4:=h2.1
  simp at h1 h4
  exact read4_any h (by omega) (by omega) (by omega) s hs
theorem RdS.grow {w0 wk wk' W W':World} {b pl:Nat} {R:List Ru} {row:Option Nat} (h:RdS w0 wk b pl R W) (hg:W.grownBy W' row) (hf:Far TAll W.heap.size W row) (hlo:∀ k,row=some k->w0.heap.size<=k) (hk:KeepsOthers wk' W'):RdS w0 wk' b pl R W':=by
 rcases h with ⟨h1,h⟩ | ⟨h1,R0,p,h2,h⟩ | ⟨h1,R0,p,G,g,h2,h⟩
 ·exact .inl ⟨h1,h.grow hg hf hlo hk⟩
 ·exact .inr (.inl ⟨h1,R0,p,h2,h.grow hg hf hlo hk⟩)
 ·exact .inr (.inr ⟨h1,R0,p,G,g,h2,h.grow hg hf hlo hk⟩)
theorem RdS.ke {w0 wk W:World} {b pl:Nat} {R:List Ru} (h:RdS w0 wk b pl R W):Ke w0 wk b W:=by
 rcases h with ⟨h1,h⟩ | ⟨h1,R0,p,h2,h⟩ | ⟨h1,R0,p,G,g,h2,h⟩
 ·exact h.be
 ·exact h.be
 ·exact h.be
theorem RdS.lo {w0 wk W:World} {b pl:Nat} {R:List Ru} (h:RdS w0 wk b pl R W):b < w0.heap.size:=by
 rcases h with ⟨h1,h⟩ | ⟨h1,R0,p,h2,h⟩ | ⟨h1,R0,p,G,g,h2,h⟩
 ·exact h.lo
 ·exact h.lo
 ·exact h.lo
theorem far_walk {W:World} {row:Option Nat} (hr:∀ r,row=some r->∃ o:Obj,W.heap[r]? = some o/\o.isCells=false) (B:Nat):Far TAll B W row:=fun k e=>.inr (fun t _ cs fz h=>by
 obtain ⟨o,h1,h2⟩:=hr k e
 rw [h1] at h; cases h; cases h2)
theorem RdS.cells {w0 wk W:World} {b pl:Nat} {R:List Ru} (h:RdS w0 wk b pl R W):∃ ra rc,BK b #[.int .i64 (pl:Int),.slice ra R.length rc] TRd W:=by
 rcases h with ⟨h1,h⟩ | ⟨h1,R0,p,rfl,h⟩ | ⟨h1,R0,p,G,g,rfl,h⟩
 ·obtain ⟨ra,rc,L,h1,_⟩:=h.ex
  exact ⟨ra,rc,h1⟩
 ·obtain ⟨ra,rc,L,_,_,_,_,h1,_⟩:=h.ex
  exact ⟨_,rc,by rw [List.length_append]; exact h1⟩
 ·obtain ⟨ra,rc,L,_,_,_,_,_,_,_,h1,_⟩:=h.ex
  exact ⟨_,rc,by rw [List.length_append]; exact h1⟩
theorem RdS.zero {w0 wk W:World} {b:Nat} {R:List Ru} (h:RdS w0 wk b 0 R W):RdD w0 wk b 0 R W:=by
 rcases h with ⟨h1,h⟩ | ⟨h1,_⟩ | ⟨h1,_⟩
 ·exact h
 ·omega
 ·omega
theorem RdD.rules {w0 wk W:World} {b pl:Nat} {R:List Ru} (h:RdD w0 wk b pl R W):∃ ra rc,BK b #[.int .i64 (pl:Int),.slice ra R.length rc] TRd W/\RlW W.heap.size W (ra,R.length,rc) R:=by
 obtain ⟨ra,rc,L,h1,h2,h3⟩:=h.ex
 have hl:=h3.len
 exact ⟨ra,rc,h1,L,RoW.of_own (h:=(ra,R.length,rc)) layRu hl.symm h2,h3⟩
end Go.Proofs.YtdedfkljaeloiaaGreatDoor
