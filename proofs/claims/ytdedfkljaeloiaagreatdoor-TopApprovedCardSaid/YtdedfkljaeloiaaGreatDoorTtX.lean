/- A range over a function whose iterator keeps a cell of its own, where a round may leave the function (the guide's law of ranges turned). No program in sight. -/
import Derived.Test.YtdedfkljaeloiaaGreatDoorK1
import Derived.RangeFuncFrom
set_option maxRecDepth 100000
set_option maxHeartbeats 16000000
open Go.Lib (hid)
namespace Go.Proofs.YtdedfkljaeloiaaGreatDoor
open Go.RowKit
variable {F:Fence} {n:Nat} {P:Program}
set_option linter.unusedVariables false
def Kb (bn k:Nat) (W W':World):Prop:=∀ b,bn<=b->b < bn + k->W'.heap[b]? = W.heap[b]?
def roundStops {α:Type} (bn kn:Nat) (I:List α->World->Prop) (Ix:World->Prop) (xs:List α) (W:World):Exit->Act->World->Prop
 | .normal,_,W'=>KeepsOthers W W'/\Kb bn kn W W'/\I xs W'
 | .ret,_,W'=>KeepsOthers W W'/\Ix W'
 | _,_,_=>False
def Abd {β:Type} (B bn:Nat) (J:β->World->Prop):Prop:=AbidesFrom B J/\∀ s W v,J s W->J s (W.setCell ⟨bn,0,none⟩ v)
theorem wpIn_rangeFunc_stop {α:Type} {g:Operand} {ps:Array Tmp} {assign body:Code} {Q:Exit->Act->World->Prop} {a:Act} {w:World}
  (hro:F.round=none) (h1:1<=n) {gf:Nat} {lb:Array Value} (hg:a.eval g = .func (.func gf) #[] lb) (hFg:F.fn gf) (eg:∀ args w,(callFunc gf args).run P w = .ok (.enter gf args) w)
  {enc:α->Value} {bn kn:Nat} {xs:List α}
  (hiter:∀ (l:Nat) (J:List α->World->Prop) (Jx:World->Prop) (W:World),Abd W.heap.size bn J->Abd W.heap.size bn (fun (_:Unit)=>Jx)->
   (∀ pre x W,x ∈ xs->J pre W->YieldAt F (n - 1 - 1) P l #[enc x] W fun e W'=>(e = .returned (.bool true)/\J (pre ++ [x]) W'/\Kb bn kn W W')\/(e = .returned (.bool false)/\Jx W'))->
   Kb bn kn w W->J [] W->CallsIn F (n - 1) P gf (#[.func (.yield l) #[] #[]] ++ lb) W fun e W'=>(∃ v,e = .returned v)/\(J xs W'\/Jx W'))
  (hps:ps.size=1) (hk0:0 < kn) (hbn:bn + kn<=w.heap.size)
  (I:List α->World->Prop) (Ix:World->Prop) (hI:OwnFrom w.heap.size I) (hIx:OwnFrom w.heap.size (fun (_:Unit)=>Ix))
  (hIs:∀ s W v,I s W->I s (W.setCell ⟨bn,0,none⟩ v)) (hIxs:∀ W v,Ix W->Ix (W.setCell ⟨bn,0,none⟩ v))
  (h0:I [] w) (a₁:α->Act)
  (hassign:∀ (l:Nat) (x:α) (W:World) (K:Act->World->Prop),K (a₁ x) W->
   assign.wpIn (F.inRound l) (n - 1 - 1) P (Exit.then K (fun _ _ _=>False)) { tmps:=(ps.zip #[enc x]).foldl (fun t (p,v)=>t.setIfInBounds p v) a.tmps,defers:=[] } W)
  (hbody:∀ (l:Nat) (pre:List α) (x:α) (W:World),w.heap.size<=l->x ∈ xs->I pre W->body.wpIn (F.inRound l) (n - 1 - 1) P (roundStops bn kn I Ix (pre ++ [x]) W) (a₁ x) W)
  (hdone:∀ (D:Nat) (W:World),w.heap.size<=D->I xs W->W.heap[D]? = some (.deferred (some []))->Q .normal { a with defers:={ target:=.collected D,args:=#[] } :: a.defers } W)
  (hstop:∀ (D:Nat) (W:World),w.heap.size<=D->Ix W->W.heap[D]? = some (.deferred (some []))->Code.ret.wpIn F n P Q { a with defers:={ target:=.collected D,args:=#[] } :: a.defers } W) :
  (Code.rangeFunc g ps assign body).wpIn F n P Q a w:=by
 refine wpIn_rangeFunc ?_
 intro fn hfn
 rw [hro]
 obtain ⟨rec,hrec⟩:∃ rec:LoopState->Option Code->Loop,rec=fun st pe=>{ state:=st,pending:=pe,fn,tmps:=a.tmps,params:=ps,assign,body,defers:=w.heap.size }:=⟨_,rfl⟩
 obtain ⟨W1,hW1⟩:∃ W1,(w.alloc (.deferred (some []))).alloc (.loop (rec .ready none))=W1:=⟨_,rfl⟩
 have hL1:W1.heap[w.heap.size + 1]? = some (.loop (rec .ready none)):=by
  rw [<-hW1]; have:=World.alloc_heap_new (w.alloc (.deferred (some []))) (.loop (rec .ready none)); rwa [World.size_alloc] at this
 have hK1:W1.heap[w.heap.size]? = some (.deferred (some [])):=by
  rw [<-hW1]; exact (Below.heap_alloc _ _ _ (by simp)).trans (World.alloc_heap_new w _)
 have hI1:I [] W1:=by rw [<-hW1]; exact hI.alloc _ (hI.alloc _ h0)
 have hb1:Kb bn kn w W1:=fun b _ hb=>by
  rw [<-hW1]; exact (Below.heap_alloc _ _ _ (by simp; omega)).trans (Below.heap_alloc _ _ _ (by omega))
 refine ⟨w.heap.size + 1,[{ target:=.collected w.heap.size,args:=#[] }],W1,{ target:=.fn (.func gf) lb,args:=#[.func (.yield (w.heap.size + 1)) #[] #[]] },W1,gf,
  #[.func (.yield (w.heap.size + 1)) #[] #[]] ++ lb,W1,?_,?_,?_,?_,fun _=>h1,?_⟩
 ·rw [<-hW1,hrec]; exact run_enterLoop_outer _ _ _ _ _
 ·simp only [resolve,hg]
  simp [go_sem]
 ·intro f' hf'; simp [Target.leads] at hf'; subst hf'; exact hFg
 ·simp [invoke,go_sem,eg]
 ·have hnw:∀ {A B:World} {row:Option Nat},(∀ r,row=some r->W1.heap.size<=r/\∃ o:Obj,A.heap[r]? = some o/\o.isWalk=true)->(∀ r,row=some r->w.heap.size<=r/\∃ o:Obj,A.heap[r]? = some o/\o.isCells=false):=
   fun hr r e=>by obtain ⟨hB,o,ho,hw⟩:=hr r e; exact ⟨by rw [<-hW1] at hB; simp at hB; omega,o,ho,Obj.not_cells_of_walk hw⟩
  refine (hiter (w.heap.size + 1)
   (fun pre W=>I pre W/\W.heap[w.heap.size + 1]? = some (.loop (rec .ready none))/\W.heap[w.heap.size]? = some (.deferred (some [])))
   (fun W=>Ix W/\W.heap[w.heap.size + 1]? = some (.loop (rec .done (some .ret)))/\W.heap[w.heap.size]? = some (.deferred (some [])))
   W1
   ⟨fun s A B row hs hg' hr=>⟨hI s A B row hs.1 hg' (hnw (B:=B) hr),(grownBy_keeps hg' (fun r e=>(hr r e).2) hs.2.1 rfl).trans hs.2.1,(grownBy_keeps hg' (fun r e=>(hr r e).2) hs.2.2 rfl).trans hs.2.2⟩,
    fun s W v hs=>⟨hIs _ _ _ hs.1,(Below.heap_setCell W _ v _ (by simp; omega)).trans hs.2.1,(Below.heap_setCell W _ v _ (by simp; omega)).trans hs.2.2⟩⟩
   ⟨fun s A B row hs hg' hr=>⟨hIx s A B row hs.1 hg' (hnw (B:=B) hr),(grownBy_keeps hg' (fun r e=>(hr r e).2) hs.2.1 rfl).trans hs.2.1,(grownBy_keeps hg' (fun r e=>(hr r e).2) hs.2.2 rfl).trans hs.2.2⟩,
    fun s W v hs=>⟨hIxs _ _ hs.1,(Below.heap_setCell W _ v _ (by simp; omega)).trans hs.2.1,(Below.heap_setCell W _ v _ (by simp; omega)).trans hs.2.2⟩⟩
   ?_ hb1 ⟨hI1,hL1,hK1⟩).mono ?_
  ·rintro pre x W hmem ⟨hi,hl,hk⟩
   have hlt:w.heap.size + 1 < W.heap.size:=(Array.getElem?_eq_some_iff.1 hl).1
   have hy:=run_yield (P:=P) (args:=#[enc x]) hl (by rw [hrec]; simp [hps])
   rw [hrec] at hy
   refine ⟨fn,_,assign,body,hy,roundIn_of_wpIn hfn (hassign _ x W _ ⟨_,run_beginRound hl (by rw [hrec]),?_⟩)⟩
   have hl2:(W.putObj (w.heap.size + 1) (.loop { rec .ready none with state:=.busy })).heap[w.heap.size + 1]? = some (.loop { rec .ready none with state:=.busy }):=World.putObj_heap_same hlt
   have hk2:(W.putObj (w.heap.size + 1) (.loop { rec .ready none with state:=.busy })).heap[w.heap.size]? = some (.deferred (some [])):=(World.putObj_heap_other (by omega)).trans hk
   refine wpIn_mono (hbody _ pre x _ (by omega) hmem (hI.putObj _ hi (by omega) hl rfl)) ?_
   rintro e a3 W3 hp
   cases e with
   | normal=>
    obtain ⟨hk3,hbn3,hi3⟩:=hp
    have hl3:=hk3.same _ _ hl2 rfl
    have hr:=run_endRound (P:=P) none hl3
    rw [hrec] at hr hl3 ⊢
    refine ⟨_,_,hr,.inl ⟨rfl,⟨hI.putObj _ hi3 (by omega) hl3 rfl,World.putObj_heap_same (Array.getElem?_eq_some_iff.1 hl3).1,(World.putObj_heap_other (by omega)).trans (hk3.same _ _ hk2 rfl)⟩,?_⟩⟩
    intro b hb1 hb2
    rw [World.putObj_heap_other (by omega),hbn3 b hb1 hb2,World.putObj_heap_other (by omega)]
   | ret=>
    obtain ⟨hk3,hi3⟩:=hp
    have hl3:=hk3.same _ _ hl2 rfl
    have hr:=run_endRound (P:=P) (some .ret) hl3
    rw [hrec] at hr hl3 ⊢
    exact ⟨_,_,hr,.inr ⟨rfl,OwnFrom.putObj (s:=()) hIx _ hi3 (by omega) hl3 rfl,World.putObj_heap_same (Array.getElem?_eq_some_iff.1 hl3).1,(World.putObj_heap_other (by omega)).trans (hk3.same _ _ hk2 rfl)⟩⟩
   | exit id=>exact hp.elim
   | goto t=>exact hp.elim
   | panic ch=>exact hp.elim
   | outgrown=>exact hp.elim
  ·rintro e W2 ⟨⟨v,rfl⟩,(⟨hi,hl,hk⟩ | ⟨hi,hl,hk⟩)⟩
   ·exact ⟨none,_,by have:=run_endLoop (P:=P) hl (by rw [hrec]; simp); rw [hrec] at this; exact this,hdone _ _ (Nat.le_refl _) (hI.putObj _ hi (by omega) hl rfl) ((World.putObj_heap_other (by omega)).trans hk)⟩
   ·exact ⟨some .ret,_,by have:=run_endLoop (P:=P) hl (by rw [hrec]; simp); rw [hrec] at this; exact this,hstop _ _ (Nat.le_refl _) (OwnFrom.putObj (s:=()) hIx _ hi (by omega) hl rfl) ((World.putObj_heap_other (by omega)).trans hk)⟩
end Go.Proofs.YtdedfkljaeloiaaGreatDoor
