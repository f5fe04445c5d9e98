/- tree.all, tree.Load where all is well. -/
import Derived.Test.YtdedfkljaeloiaaGreatDoorTtVw
import Derived.Test.YtdedfkljaeloiaaGreatDoorTtSr
import Derived.RangeFuncNested
set_option maxRecDepth 100000
set_option maxHeartbeats 16000000
open Go.Lib (hid)
namespace Go.Proofs.YtdedfkljaeloiaaGreatDoor
open Go.RowKit Go.Shelf
set_option linter.unusedVariables false
attribute [local go_sem] Oper.semAt_some
theorem all_any (a:Option Addr) (n c:Nat) (d1 d2:Int) (w:World):Calls Tryz.prog 55 #[.slice a n c,.agg #[.int .u64 d1,.int .u64 d2]] w fun e w'=>e = .returned (.func (.func 88) #[] #[.pointer (some ⟨w.heap.size,0,none⟩),.pointer (some ⟨w.heap.size + 1,0,none⟩)])/\w' = (w.alloc (.cells #[.slice a n c] 32)).alloc (.cells #[.int .u64 d1,.int .u64 d2] 35):=by
 go_enter Tryz.func55,Tryz.ntmps55
 go_wp2_with fail
 go_ret
 exact ⟨rfl,rfl⟩
theorem all1_stops (B0 lb:Nat) (w0:World) (a:Option Addr) (xs:List Itm) (c:Nat) (hpp:∀ W,Below B0 w0 W->PoolIn W a xs c) (ha:Asc xs) (n:Nat) (d1 d2:Int) (V:List Fl) (hV:Vis xs n (d1,d2) [] V) (pb db:Nat) (w:World) (hB:Below B0 w0 w) (hlb:lb < w.heap.size) (hB0:B0<=w.heap.size)
  (hp:BK pb #[.slice a xs.length c] 32 w) (hd:BK db #[.int .u64 d1,.int .u64 d2] 35 w) :
  SeqStopsK Fence.wide (5 - 1) Tryz.prog 88 #[.pointer (some ⟨pb,0,none⟩),.pointer (some ⟨db,0,none⟩)] (fun x:Fl=>#[visV x]) (KpF B0 lb) (fun ys=>ys=V) (fun _=>True) V.length w:=fun l J Jx W hW hA hAx hY h0=>by
 have HV:=hid (visit_in B0 lb V.length w0 a xs c hpp ha l J (fun W=>∃ pre,Jx pre W) (fun s A B hj hb=>hA s A B none hj ⟨hb.os,hb.tape,hb.output,hb.size,fun k hk _=>hb.block k hk⟩ (fun r e=>by cases e))
  (fun m pre x W1 hj hl=>yieldAt_any rfl m (YieldAt.mono (hY pre x W1 hj hl) (fun e w h=>h.elim .inl (fun ⟨h1,h2⟩=>.inr ⟨h1,_,h2⟩)))) n d1 d2 [] V [] W hV (hB.trans (hW.mono hB0)) (by have:=hW.size; omega) (by have:=hW.size; omega) h0 (by simp) (by simp))
 have c0:=(hp.below hW).c1
 obtain ⟨c1,c2⟩:=(hd.below hW).c2
 generalize xs.length=nx at HV c0
 clear hY hA hAx h0 hV hpp ha
 refine callsIn_of_wp Tryz.func88 rfl trivial ?_ rfl
 simp only [Tryz.ntmps88,List.size_toArray,List.length_cons,List.length_nil,Nat.reduceAdd,Nat.reduceSub,Array.replicate_succ,Array.replicate_zero,List.push_toArray,List.append_toArray,List.nil_append,List.cons_append]
 gi_wp2
 refine ⟨trivial,?_⟩
 refine (callsIn_wide.2 HV.out).mono ?_
 rintro e u (⟨rfl,hj,_⟩ | ⟨rfl,pre,hx⟩)
 ·gi_wp2
  go_end0
  exact ⟨⟨_,rfl⟩,.inl ⟨_,rfl,hj⟩⟩
 ·gi_wp2
  go_end0
  exact ⟨⟨_,rfl⟩,.inr ⟨pre,trivial,hx⟩⟩
def GotLd (w:World) (l:List Fl) (e:Ending) (w':World):Prop:=∃ ra rc,e = .returned (.tuple #[.slice ra l.length rc,.int .i64 0])/\w'.ownsRow w.heap.size 55 2 (.slice ra l.length rc) l.length (gcs flCs l)/\Below w.heap.size w w'
theorem own_cellsT {W:World} {base:Nat} {e:TypeId} {z:Nat} {m:Nat} {v:Value} {cs:List Value} (h:W.ownsRow base e z v m cs) {k:Nat} (hk:v.ownBlock=some k) {o:Obj} (ho:W.heap[k]? = some o):o.isCells=true/\∀ cs' t fr,o = .cells cs' t fr->t=e:=by
 rcases h.2 with ⟨rfl,_⟩ | ⟨g,cap,cur,rfl,_,hg,_⟩
 ·cases hk
 ·cases hk
  rw [hg] at ho
  cases ho
  exact ⟨rfl,fun cs' t fr e=>by injection e with _ e2; exact e2.symm⟩
theorem wpListIn_append_runT {F:Fence} {n:Nat} {P:Program} (w:World) {ops:Array Oper} {rest:List Oper} {o:Oper} {a:Act} {Q:Exit->Act->World->Prop} (hg:o.guard=none) (s x:Operand) (t tn:TypeId)
  (hop:o.op=Op.call { callee:=Callee.builtin Builtin.append,args:=#[s,x],argTypes:=#[t,tn] }) (vs vx:Value) (hs:a.eval s=vs) (hx:a.eval x=vx)
  (v':Value) (w':World) (hr:(Builtin.append_ #[t,tn] o.type #[vs,vx]).run P w = .ok v' w') (h:wpListIn F n P ops Q rest (a.put o.dst v') w'):wpListIn F n P ops Q (o :: rest) a w:=by
 refine wpListIn_plain hg fun K hK'=>?_
 unfold Oper.wpIn
 refine ⟨?_,?_⟩
 ·simp [Oper.about,hop,resolve,Target.leads,Sem.run_pure]
 ·rw [Oper.semAt_plain F _ _ (by rw [hop]; intro c hc'; cases hc')]
  simp [execOp,hop,resolve,invoke,builtin,hs,hx,hr,Result.andThen]
  exact hK' _ _ h
structure LdI (w:World) (pre:List Fl) (v:Value) (W:World):Prop where
 be:Below w.heap.size w W
 b4:BK (w.heap.size + 1) #[.slice none 0 0] 23 W
 b5:BK (w.heap.size + 1 + 1) #[.int .i64 0] 28 W
 bk:BK (w.heap.size + 1 + 1 + 1) #[v] 23 W
 ow:W.ownsRow (w.heap.size + 4) 55 2 v pre.length (gcs flCs pre)
def AxL (a:Act) (x:Fl) (a':Act) (W:World):Prop:=∃ p,BK p #[.string ⟨x.path.toArray⟩,.string ⟨x.data.toArray⟩,.int .i64 0] 118 W/\a' = { tmps:=(a.tmps.setIfInBounds 11 (visV x)).setIfInBounds 7 (.pointer (some ⟨p,0,none⟩)),defers:=[] }
theorem rf_boxL {g:Operand} {assign body:Code} {Q:Exit->Act->World->Prop} {a:Act} {w:World} {F:Fence} {n:Nat} {P:Program}
  (hro:F.round=none) (h1:1<=n) {gf:Nat} {lb:Array Value} (hg:a.eval g = .func (.func gf) #[] lb) (hFg:F.fn gf) (eg:∀ args w,(callFunc gf args).run P w = .ok (.enter gf args) w)
  {Kp:World->World->Prop} {S Sp:List Fl->Prop} {N:Nat} (hseq:SeqStopsK F (n - 1) P gf lb (fun x:Fl=>#[visV x]) Kp S Sp N w)
  (hKt:∀ {A B C:World},Kp A B->Kp B C->Kp A C) (hKb:∀ (W:World) (l:Nat) (o o':Obj),w.heap.size<=l->W.heap[l]? = some o->o.isCells=false->o.isWalk=false->Kp W (W.putObj l o'))
  (I:List Fl->World->Prop) (hI:OwnFrom w.heap.size I) (h0:I [] w)
  (hassign:∀ (l:Nat) (pre:List Fl) (x:Fl) (W:World) (K:Act->World->Prop),I pre W->(∀ a' W',KeepsFrom w.heap.size W W'->Kp W W'->I pre W'->AxL a x a' W'->K a' W')->
   assign.wpIn (F.inRound l) (n - 1 - 1) P (Exit.then K (fun _ _ _=>False)) { tmps:=((#[11]:Array Tmp).zip (#[visV x])).foldl (fun t (p,v)=>t.setIfInBounds p v) a.tmps,defers:=[] } W)
  (hbody:∀ (l:Nat) (pre:List Fl) (x:Fl) (a':Act) (W:World),I pre W->AxL a x a' W->pre.length < N->body.wpIn (F.inRound l) (n - 1 - 1) P (ownPostG w.heap.size Kp I (fun _ _ _=>False) (pre ++ [x]) W) a' W)
  (hdone:∀ (D:Nat) (xs:List Fl) (W:World),w.heap.size<=D->S xs->I xs W->W.heap[D]? = some (.deferred (some []))->Q .normal { a with defers:={ target:=.collected D,args:=#[] } :: a.defers } W) :
  (Code.rangeFunc g #[11] assign body).wpIn F n P Q a w:=
 wpIn_rangeFunc_ownH hro h1 hg hFg eg hseq hKt hKb (Below.refl _ _) (fun _=>rfl) I (fun _ _ _=>False) hI (fun _ _ _ _ _ h _ _=>h) h0 (AxL a)
  (fun z a' _ W W' row h hg hr=>by
   obtain ⟨p,hb,e⟩:=h
   refine ⟨p,hb.grow hg (fun k hk hp=>?_),e⟩
   obtain ⟨_,o,ho,hc⟩:=hr k hk
   rw [hp,show W.heap[p]? = _ from hb] at ho
   cases ho
   cases hc)
  hassign (fun l pre x a' W _ _ hi hax hlen=>hbody l pre x a' W hi hax hlen) hdone (fun D c pre W _ _ h _=>h.elim)
theorem KpF.putObj {B0 lb:Nat} {W:World} {l:Nat} {o:Obj} (o':Obj) (hl:B0<=l) (ho:W.heap[l]? = some o) (hc:o.isCells=false):KpF B0 lb W (W.putObj l o'):=
 ⟨by simp,(Below.refl _ W).grown (grownBy_putObj' W l o') (by have:=(Array.getElem?_eq_some_iff.1 ho).1; omega) (fun k e=>by cases e; exact hl),fun b cs t fr hb _ _=>by
  rw [World.putObj_heap_other (fun e=>by rw [e,ho] at hb; cases hb; cases hc)]; exact hb⟩
theorem load_any (a:Option Addr) (xs:List Itm) (c:Nat) (d1 d2:Int) (n:Nat) (V l:List Fl) (w:World) (hp:PoolIn w a xs c) (ha:Asc xs) (hV:Vis xs n (d1,d2) [] V) (hperm:V.Perm l) (hl:AscF l) (hn:l.length<=200) :
  Calls Tryz.prog 25 #[.slice a xs.length c,.agg #[.int .u64 d1,.int .u64 d2]] w (GotLd w l):=by
 have HPI:=hid (fun W (hW:Below w.heap.size w W)=>hp.below hW)
 have hvn:V.length<=200:=by rw [hperm.length_eq]; exact hn
 have HV:=hid hV
 have HA:=hid ha
 have HPM:=hid hperm
 have HAL:=hid hl
 clear hp ha hV hperm hl
 refine (callsIn_wide (n:=5)).1 ?_
 refine callsIn_of_wp_marks Tryz.func25 rfl trivial ?_ rfl
 simp only [Tryz.ntmps25,List.size_toArray,List.length_cons,List.length_nil,Nat.reduceAdd,Nat.reduceSub,Array.replicate_succ,Array.replicate_zero,List.push_toArray,List.append_toArray,List.nil_append,List.cons_append]
 obtain ⟨u1,hu1⟩:∃ u1,u1=(((w.alloc (.cells #[.int .u64 d1,.int .u64 d2] 35)).alloc (.cells #[.slice none 0 0] 23)).alloc (.cells #[.int .i64 0] 28)).alloc (.cells #[.slice none 0 0] 23):=⟨_,rfl⟩
 have hz1:u1.heap.size=w.heap.size + 4:=by rw [hu1]; simp
 have HB1:Hid (Below w.heap.size w u1):=hid (by rw [hu1]; exact ((((Below.refl _ w).alloc (Nat.le_refl _) _).alloc (by simp) _).alloc (by simp; omega) _).alloc (by simp; omega) _)
 have HI1:Hid (LdI w [] (.slice none 0 0) u1):=hid ⟨HB1.out,by rw [hu1]; exact ((BK.new2 _ _ _ _).alloc _).alloc _,by
   rw [hu1]
   exact (by have h:=BK.new ((w.alloc (.cells #[.int .u64 d1,.int .u64 d2] 35)).alloc (.cells #[.slice none 0 0] 23)) #[.int .i64 0] 28; simp only [World.size_alloc] at h; exact h:BK (w.heap.size + 1 + 1) _ _ _).alloc _,by
   rw [hu1]
   have h:=BK.new (((w.alloc (.cells #[.int .u64 d1,.int .u64 d2] 35)).alloc (.cells #[.slice none 0 0] 23)).alloc (.cells #[.int .i64 0] 28)) #[.slice none 0 0] 23
   simp only [World.size_alloc] at h
   exact h,World.ownsRow_nil _ _ _ _⟩
 have HD0:Hid (BK w.heap.size #[.int .u64 d1,.int .u64 d2] 35 u1):=hid (by rw [hu1]; exact (((BK.new _ _ _).alloc _).alloc _).alloc _)
 obtain ⟨c0,c1⟩:=HD0.out.c2
 have HC:=hid (all_any a xs.length c d1 d2 u1)
 rw [hu1] at c0 c1
 have HU:=hid hu1
 clear hu1
 gi_wp2
 refine ⟨trivial,?_⟩
 rw [<-HU.out]
 refine (callsIn_wide.2 HC.out).mono ?_
 rintro e u2 ⟨rfl,hu2⟩
 have HB12:Hid (Below u1.heap.size u1 u2):=hid (by rw [hu2]; exact ((Below.refl _ u1).alloc (Nat.le_refl _) _).alloc (by simp) _)
 have HP2:Hid (BK (w.heap.size + 4) #[.slice a xs.length c] 32 u2):=hid (by rw [hu2,<-hz1]; exact (BK.new _ _ _).alloc _)
 have HD2:Hid (BK (w.heap.size + 4 + 1) #[.int .u64 d1,.int .u64 d2] 35 u2):=hid (by rw [hu2,<-hz1]; exact BK.new2 _ _ _ _)
 have hz2:u2.heap.size=w.heap.size + 6:=by rw [hu2]; simp; omega
 have HI2:Hid (LdI w [] (.slice none 0 0) u2):=hid ⟨HB1.out.trans (HB12.out.mono (by omega)),HI1.out.b4.below HB12.out,HI1.out.b5.below HB12.out,HI1.out.bk.below HB12.out,World.ownsRow_nil _ _ _ _⟩
 clear hu2 c0 c1 HC HU HI1 HB1 HD0
 gi_wp2_with fail
 refine rf_boxL rfl (by omega) (gf:=88) (lb:=#[.pointer (some ⟨w.heap.size + 4,0,none⟩),.pointer (some ⟨w.heap.size + 4 + 1,0,none⟩)]) rfl trivial (enters_of Tryz.func88 (by kernel_rfl) rfl)
  (all1_stops w.heap.size (w.heap.size + 1 + 1 + 1) w a xs c HPI.out HA.out n d1 d2 V HV.out _ _ u2 HI2.out.be (by omega) (by omega) HP2.out HD2.out) (fun h k=>h.trans k)
  (fun W l o o' hl ho hc hw=>KpF.putObj o' (by omega) ho hc)
  (fun pre W=>∃ v,LdI w pre v W) ?hI ?h0 ?assign ?body ?done
 case hI=>
  rintro s W W' row ⟨v,h⟩ hg hr
  refine ⟨v,h.be.grown hg h.be.size (fun k e=>by have:=(hr k e).1; omega),h.b4.grow hg (fun k e hk=>by have:=(hr k e).1; omega),h.b5.grow hg (fun k e hk=>by have:=(hr k e).1; omega),h.bk.grow hg (fun k e hk=>by have:=(hr k e).1; omega),h.ow.kept hg ?_⟩
  cases hv:v.ownBlock with
  | none=>exact .inl rfl
  | some k=>
   refine .inr (fun e=>?_)
   obtain ⟨_,o,ho,hc⟩:=hr k e.symm
   have:=(own_cellsT h.ow hv ho).1
   rw [hc] at this; cases this
 case h0=>exact ⟨_,HI2.out⟩
 case assign=>
  rintro l pre x W K ⟨v,h⟩ hK
  obtain ⟨W1,hW1⟩:∃ W1,W1=W.alloc (.cells #[.string ⟨x.path.toArray⟩,.string ⟨x.data.toArray⟩,.int .i64 0] 118):=⟨_,rfl⟩
  have HB:Hid (Below W.heap.size W W1):=hid (by rw [hW1]; exact (Below.refl _ _).alloc (Nat.le_refl _) _)
  have hzw:=h.be.size
  have HX:Hid (KeepsFrom u2.heap.size W W1/\KpF w.heap.size (w.heap.size + 1 + 1 + 1) W W1/\(∃ v,LdI w pre v W1)/\BK W.heap.size #[.string ⟨x.path.toArray⟩,.string ⟨x.data.toArray⟩,.int .i64 0] 118 W1):=hid ⟨by rw [hW1]; exact (KeepsOthers.alloc _ _).from _,KpF.of HB.out (by omega),⟨v,h.be.trans (HB.out.mono (by omega)),h.b4.below HB.out,h.b5.below HB.out,h.bk.below HB.out,own_below h.ow HB.out⟩,by rw [hW1]; exact BK.new _ _ _⟩
  clear h HB
  subst hW1
  simp only [visV]
  gi_wp2
  exact hK _ _ HX.out.1 HX.out.2.1 HX.out.2.2.1 ⟨W.heap.size,HX.out.2.2.2,rfl⟩
 case body=>
  rintro l' pre x a' W ⟨v,h⟩ ⟨p,hbp,rfl⟩ hlen
  obtain ⟨va,vc,rfl,hvc⟩:=ownsRow_sliceN h.ow
  have hbl:=h.bk.lt
  have hbs:=h.be.size
  obtain ⟨v',W2,hrun,hown',hg',hat'⟩:=append_fl rfl h.ow x (by omega) (by omega)
  have hnb:=Boxed.not_row h.bk (by decide) h.ow
  have hn4:=Boxed.not_row h.b4 (by decide) h.ow
  have hn5:=Boxed.not_row h.b5 (by decide) h.ow
  have hbk2:BK (w.heap.size + 1 + 1 + 1) #[.slice va pre.length vc] 23 W2:=(h.bk.alloc _).grow hg' (fun k e hk=>hnb (by rw [<-hk,e]))
  have hbk3:BK (w.heap.size + 1 + 1 + 1) #[v'] 23 (W2.setCell ⟨w.heap.size + 1 + 1 + 1,0,none⟩ v'):=hbk2.set 0 v'
  have hown2:=hown'
  obtain ⟨a2,c2,rfl,_⟩:=ownsRow_sliceN hown2
  have hsz:W.heap.size + 1<=W2.heap.size:=by have:=hg'.size; simpa using this
  have hset:∀ v,(W2.setCell ⟨w.heap.size + 1 + 1 + 1,0,none⟩ v).heap.size=W2.heap.size:=fun v=>by simp [World.setCell]
  have hstep:∀ k,k < W.heap.size->k ≠ w.heap.size + 1 + 1 + 1->(Value.slice va pre.length vc).ownBlock ≠ some k->∀ v,(W2.setCell ⟨w.heap.size + 1 + 1 + 1,0,none⟩ v).heap[k]? = W.heap[k]?:=fun k hk h3 h4 v=>
   (Below.heap_setCell _ _ _ _ h3).trans ((hg'.block k (by simp; omega) (fun e=>h4 e.symm)).trans (Below.heap_alloc _ _ _ hk))
  have HFN:Hid (ownPostG u2.heap.size (KpF w.heap.size (w.heap.size + 1 + 1 + 1)) (fun pre W=>∃ v,LdI w pre v W) (fun _ _ _=>False) (pre ++ [x]) W .normal { tmps:=#[],defers:=[] } (W2.setCell ⟨w.heap.size + 1 + 1 + 1,0,none⟩ (.slice a2 (pre.length + 1) c2))):=hid (by
   have hbe:Below w.heap.size w (W2.setCell ⟨w.heap.size + 1 + 1 + 1,0,none⟩ (.slice a2 (pre.length + 1) c2)):=((h.be.alloc h.be.size _).grown hg' (by have:=h.be.size; simp; omega) (fun k e=>by have:=(h.ow.lt k e).1; omega)).setCell (by simp; omega) _
   refine ⟨⟨by rw [hset]; omega,fun k o _ hk ho=>?_⟩,⟨by rw [hset]; omega,?_,fun b cs t fr hb hne ht=>?_⟩,_,hbe,?_,?_,hbk3,by have:=own_kept hown' (grownBy_setCell' W2 (w.heap.size + 1 + 1 + 1) (.slice a2 (pre.length + 1) c2)) (by omega); simpa using this⟩
   ·rw [hstep k (Array.getElem?_eq_some_iff.1 hk).1 (fun e=>?_) (fun e=>?_),hk]
    ·rw [e,show W.heap[w.heap.size + 1 + 1 + 1]? = _ from h.bk] at hk
     cases hk
     cases ho
    ·have:=(own_cellsT h.ow e hk).1
     rw [ho] at this
     cases this
   ·exact (((Below.refl _ W).alloc (by omega) _).grown hg' (by simp; omega) (fun k e=>by have:=(h.ow.lt k e).1; omega)).setCell (by simp; omega) _
   ·rw [hstep b (Array.getElem?_eq_some_iff.1 hb).1 hne (fun e=>?_),hb]
    exact ht ((own_cellsT h.ow e hb).2 _ _ _ rfl)
   ·exact ((h.b4.alloc _).grow hg' (fun k e hk=>hn4 (by rw [<-hk,e]))).other (by omega) 0 _
   ·exact ((h.b5.alloc _).grow hg' (fun k e hk=>hn5 (by rw [<-hk,e]))).other (by omega) 0 _)
  have e0:W.cell? ⟨w.heap.size + 1 + 1 + 1,0,none⟩=some (.slice va pre.length vc):=h.bk.c1
  obtain ⟨e1,e2,e5⟩:=hbp.c3
  have e3:=hbk2.c1
  have e4:W2.frozen? ⟨w.heap.size + 1 + 1 + 1,0,none⟩=false:=hbk2.frozen 0
  have e6:=hbk3.c1
  have HRUN:=hid hrun
  clear hrun hown' hg' hat' hown2 hnb hn4 hn5 hbk2 hbk3 h hbp hstep hset
  simp only [List.setIfInBounds_toArray,List.set_cons_succ,List.set_cons_zero]
  have hpl:(pre.length:Int) + 1<=200:=by omega
  generalize pre.length=L1 at HRUN HFN e0 e3 e6 hvc hpl
  simp only [visV,flCs] at HRUN ⊢
  gi_wp2_with (gi_at_builtin; refine wpListIn_append_runT _ rfl _ _ _ _ rfl _ _ rfl rfl _ _ HRUN.out.out ?_)
  exact HFN.out
 case done=>
  rintro D ys W hD hS ⟨v,h⟩ hdef
  subst hS
  obtain ⟨va,vc,rfl,hvc⟩:=ownsRow_sliceN h.ow
  have HS:=hid (sortFl_any va ys l vc W HPM.out HAL.out h.ow (by omega))
  have HW:=hid h
  have e0:=h.bk.c1
  have hnl:ys.length=l.length:=HPM.out.length_eq
  have HDF:=hid hdef
  have hzw:=h.be.size
  rw [hnl] at HS e0 HW hvc
  clear h hdef
  gi_wp2
  refine ⟨trivial,?_⟩
  refine (callsIn_wide.2 HS.out).mono ?_
  rintro e W4 ⟨rfl,ho4,hg4⟩
  obtain ⟨L1,hL1⟩:∃ L1,L1=l.length:=⟨_,rfl⟩
  have hw:=HW.out
  rw [<-hL1] at hw ho4 hg4 e0 hvc
  have hlow:∀ k,(Value.slice va L1 vc).ownBlock=some k->w.heap.size + 4<=k:=fun k hk=>(ho4.lt k hk).1
  have hlb:=hw.bk.lt
  have hb4:BK (w.heap.size + 1) #[.slice none 0 0] 23 W4:=hw.b4.grow hg4 (fun k e hk=>by have:=hlow k e; omega)
  have hb5:BK (w.heap.size + 1 + 1) #[.int .i64 0] 28 W4:=hw.b5.grow hg4 (fun k e hk=>by have:=hlow k e; omega)
  have hbl:BK (w.heap.size + 1 + 1 + 1) #[.slice va L1 vc] 23 W4:=hw.bk.grow hg4 (fun k e hk=>by have:=hlow k e; omega)
  have hDl:=(Array.getElem?_eq_some_iff.1 HDF.out).1
  have hd4:W4.heap[D]? = some (.deferred (some [])):=(hg4.block D hDl (fun e=>by have:=(own_cellsT hw.ow e.symm HDF.out).1; cases this)).trans HDF.out
  have f0:=hbl.c1
  have f1:=hb4.frozen 0
  have f2:=hb5.frozen 0
  obtain ⟨W5,hW5⟩:∃ W5,W5=W4.setCell ⟨w.heap.size + 1,0,none⟩ (.slice va L1 vc):=⟨_,rfl⟩
  obtain ⟨W6,hW6⟩:∃ W6,W6=W5.setCell ⟨w.heap.size + 1 + 1,0,none⟩ (.int .i64 0):=⟨_,rfl⟩
  have hb45:BK (w.heap.size + 1) #[.slice va L1 vc] 23 W5:=by rw [hW5]; exact hb4.set 0 _
  have hb55:BK (w.heap.size + 1 + 1) #[.int .i64 0] 28 W5:=by rw [hW5]; exact hb5.other (by omega) 0 _
  have hb46:BK (w.heap.size + 1) #[.slice va L1 vc] 23 W6:=by rw [hW6]; exact hb45.other (by omega) 0 _
  have hb56:BK (w.heap.size + 1 + 1) #[.int .i64 0] 28 W6:=by rw [hW6]; exact hb55.set 0 _
  have f3:=hb55.frozen 0
  have f5:=hb4.c1
  have f6:=hb55.c1
  have hd6:W6.heap[D]? = some (.deferred (some [])):=by rw [hW6,hW5]; exact (Below.heap_setCell _ _ _ _ (by simp; omega)).trans ((Below.heap_setCell _ _ _ _ (by simp; omega)).trans hd4)
  have ho6:W6.ownsRow (w.heap.size + 4) 55 2 (.slice va L1 vc) L1 (gcs flCs l):=by
   rw [hW6,hW5]
   exact own_kept (own_kept ho4 (grownBy_setCell' W4 _ _) (by omega)) (grownBy_setCell' _ _ _) (by omega)
  have hbe4:Below w.heap.size w W4:=hw.be.grown hg4 (by omega) (fun k e=>by have:=hlow k e; omega)
  have hbe6:Below w.heap.size w W6:=by rw [hW6,hW5]; exact (hbe4.setCell (by simp) _).setCell (by simp; omega) _
  have hgD:=grownBy_putObj' W6 D (.deferred none)
  have hne:∀ {p:Nat} {cs:Array Value} {t:TypeId},BK p cs t W6->D ≠ p:=fun hp e=>by
   have hp':W6.heap[_]? = _:=hp
   rw [<-e,hd6] at hp'
   cases hp'
  have ho7:(W6.putObj D (.deferred none)).ownsRow (w.heap.size + 4) 55 2 (.slice va L1 vc) L1 (gcs flCs l):=by
   refine ho6.kept hgD ?_
   cases hv:(Value.slice va L1 vc).ownBlock with
   | none=>exact .inl rfl
   | some k=>
    refine .inr (fun e=>?_)
    cases e
    have:=(own_cellsT ho6 hv hd6).1
    cases this
  have hbe7:Below w.heap.size w (W6.putObj D (.deferred none)):=hbe6.grown hgD hbe6.size (fun k e=>by cases e; omega)
  have HR:Hid (GotLd w l (.returned (.tuple #[.slice va L1 vc,.int .i64 0])) (W6.putObj D (.deferred none))):=hid ⟨va,vc,by rw [hL1],by rw [<-hL1]; exact own_le ho7 (by omega),hbe7⟩
  have g0:=(hb46.grow1 hgD (hne hb46)).c1
  have g1:=(hb56.grow1 hgD (hne hb56)).c1
  rw [hW5] at f3 f6
  have HW6:=hid hW6
  have HW5:=hid hW5
  have HD6:=hid hd6
  clear hw ho4 hg4 hlow hb4 hb5 hbl hd4 hb45 hb55 hb46 hb56 hd6 ho6 hbe4 hbe6 hgD hne ho7 hbe7 hW5 hW6 HW HS HDF e0
  rw [<-hL1]
  clear hL1 hnl
  gi_wp2
  rw [<-HW5.out,<-HW6.out]
  refine ⟨by simp,.inl ⟨_,_,rfl,run_takeDeferred HD6.out,?_⟩⟩
  exact ⟨.tuple #[.slice va L1 vc,.int .i64 0],by simp [results,Tryz.results25,go_sem,g0,g1],HR.out⟩
end Go.Proofs.YtdedfkljaeloiaaGreatDoor
