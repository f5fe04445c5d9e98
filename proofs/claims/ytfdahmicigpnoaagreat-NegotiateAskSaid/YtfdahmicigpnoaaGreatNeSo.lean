/- slices.Values, AppendSeq, Collect, SortedFunc at digests. -/
import Derived.Test.YtfdahmicigpnoaaGreatNeLi
import Derived.Test.YtfdahmicigpnoaaGreatK11
set_option maxRecDepth 100000
set_option maxHeartbeats 16000000
open Go.Lib (hid)
namespace Go.Proofs.YtfdahmicigpnoaaGreat
open Go.RowKit Go.Shelf
set_option linter.unusedVariables false
theorem valsD_any (a:Option Addr) (n c:Nat) (w:World) :
  Calls Tryz.prog 141 #[.slice a n c] w fun e w'=>e = .returned (.func (.func 198) #[] #[.pointer (some ⟨w.heap.size,0,none⟩)])/\w.alloc (.cells #[.slice a n c] 24)=w':=by
 go_enter Tryz.func141,Tryz.ntmps141
 go_wp2
 go_ret
 exact ⟨rfl,rfl⟩
attribute [local go_sem] Oper.semAt_some
theorem below_grown_none (W:World) (o:Obj):W.grownBy (W.alloc o) none:=⟨rfl,rfl,rfl,by simp,fun k hk _=>Below.heap_alloc _ _ _ hk⟩
theorem grownBy_setCell0_q (W:World) (b:Nat) (v:Value):W.grownBy (W.setCell ⟨b,0,none⟩ v) (some b):=⟨rfl,rfl,rfl,by simp [World.setCell],fun k _ hk=>Below.heap_setCell _ _ _ k (fun e=>hk (by rw [e]))⟩
theorem Kp.alloc {Bs:Nat} {pa:Option Addr} {W:World} (o:Obj) (h1:Bs < W.heap.size) (h2:∀ ad,pa=some ad->ad.block < W.heap.size):Kp Bs pa W (W.alloc o):=
 ⟨by simp,Below.heap_alloc _ _ _ h1,fun ad e=>Below.heap_alloc _ _ _ (h2 ad e)⟩
theorem vals1_in (F:Fence) (nn:Nat) (hF:F.fn 198) (hro:F.round=none) (hn:1<=nn) (l Bs:Nat) (pa pk:Option Addr) (c:Nat) (L:List (Int × Int)) (hpk:0 < L.length->pk=pa) (hL:(L.length:Int)<=1000000) (J Jx:List (Int × Int)->World->Prop) (B0:Nat) (hJA:AbidesFrom B0 J)
  (hY:∀ pre x W,J pre W->pre.length < L.length->YieldAt F (nn - 1) Tryz.prog l #[.agg #[.int .u64 x.1,.int .u64 x.2]] W fun e W'=>
   (e = .returned (.bool true)/\J (pre ++ [x]) W'/\Kp Bs pk W W')\/(e = .returned (.bool false)/\Jx (pre ++ [x]) W'))
  (W:World) (hb:BK Bs #[.slice pa L.length c] 24 W) (hd:Digs W.heap.size W pa L) (h0:J [] W) :
  CallsIn F nn Tryz.prog 198 #[.func (.yield l) #[] #[],.pointer (some ⟨Bs,0,none⟩)] W fun e W'=>(∃ v,e = .returned v)/\((∃ xs,xs=L/\J xs W')\/(∃ pre,True/\Jx pre W')):=by
 refine callsIn_of_wp Tryz.func198 rfl hF ?_ hro
 simp only [Tryz.ntmps198,List.size_toArray,List.length_cons,List.length_nil,Nat.reduceAdd,Nat.reduceSub,Array.replicate_succ,Array.replicate_zero,List.push_toArray,List.append_toArray,List.nil_append,List.cons_append]
 obtain ⟨n,hnn⟩:∃ n,n=L.length:=⟨_,rfl⟩
 rw [<-hnn] at hb hL
 have HN:=hid hnn
 have HY:=hid hY
 have hc0:W.cell? ⟨Bs,0,none⟩=some (.slice pa n c):=by rw [hb.cell]; rfl
 have HB:=hid hb
 have HD:=hid hd
 have HJA:=hid hJA
 clear hY hb hd hnn hJA
 gi_wp2
 gi_loopw [7] (fun i wr=>∃ (j:Nat) (pre:List (Int × Int)),i = .int .i64 j/\j<=n/\Hid (pre=L.take j)/\J pre wr/\Hid (BK Bs #[.slice pa n c] 24 wr)/\Hid (Digs wr.heap.size wr pa L)) (fun i _=>n - (intOf i).toNat)
 case atStart=>exact ⟨0,[],rfl,by omega,hid (by simp),h0,HB,HD⟩
 case round=>
  obtain ⟨j,pre,rfl,hjn,HP,hJ',HBX,HDX⟩:=hrel
  clear hc0 HB HD h0
  by_cases hj:j < n
  ·have hjL:j < L.length:=by have:=HN.out; omega
   have hpk2:=hpk (by omega)
   subst hpk2
   obtain ⟨b,off,rfl,hbl,q0,q1⟩:=HDX.out j hjL
   have HX:Hid (L.take (j + 1)=L.take j ++ [L[j]]):=hid (List.take_succ_eq_append_getElem hjL)
   generalize L[j]=dd at q0 q1 HX
   obtain ⟨d1,d2⟩:=dd
   simp only at q0 q1
   have hlen:pre.length < L.length:=by
    have h1:=congrArg List.length HP.out
    rw [List.length_take] at h1
    omega
   have hjn2:(j:Int) < (n:Int):=by omega
   obtain ⟨w1,hw1⟩:∃ w1,w1=wr.alloc (.cells #[.int .u64 d1,.int .u64 d2] 41):=⟨_,rfl⟩
   have hJ1:J pre w1:=by
    rw [hw1]
    exact HJA.out _ _ _ none hJ' (below_grown_none _ _) (by simp)
   have HBX1:Hid (BK Bs #[.slice (some ⟨b,off,none⟩) n c] 24 w1):=hid (by rw [hw1]; exact HBX.out.alloc _)
   have HDX1:Hid (Digs w1.heap.size w1 (some ⟨b,off,none⟩) L):=hid (by rw [hw1]; exact HDX.out.ahead ((Below.refl _ _).alloc (Nat.le_refl _) _))
   obtain ⟨fn,tmps,assign,body,hy,hR⟩:=HY.out pre (d1,d2) w1 hJ1 hlen
   dsimp only at hy
   rw [hw1] at hy
   have HW1:=hid hw1
   clear hlen hw1 hJ1 hJ' HBX HDX
   gi_wp2
   rw [<-HW1.out]
   refine hR.mono ?_
   rintro e W3 (⟨rfl,hJ3,hk3⟩ | ⟨rfl,hJx3⟩)
   ·gi_wp2
    go_roundw
    case rel=>exact ⟨j + 1,pre ++ [(d1,d2)],by go_num,by omega,hid (by rw [HX.out,HP.out]),hJ3,hid (hk3.2.1.trans HBX1.out),hid (hk3.digs HDX1.out)⟩
    case measure=>simp [intOf] <;> omega
   ·gi_wp2
    refine bodyPost_ret (results_none rfl _ _ _) rfl ?_
    exact ⟨⟨_,rfl⟩,.inr ⟨_,trivial,hJx3⟩⟩
  ·have hjn2:¬ (j:Int) < (n:Int):=by omega
   have HE:Hid (pre=L):=hid (by rw [HP.out,List.take_of_length_le (by have:=HN.out; omega)])
   have HJE:J L wr:=by rw [<-HE.out]; exact hJ'
   clear HP
   gi_wp2
   go_end0
   first | exact ⟨⟨_,rfl⟩,.inl HJE⟩ | exact ⟨⟨_,rfl⟩,.inl ⟨pre,HE.out,hJ'⟩⟩
theorem vals_stops (F:Fence) (nn:Nat) (hF:F.fn 198) (hro:F.round=none) (hn:1<=nn) (Bs:Nat) (pa pk:Option Addr) (c:Nat) (L:List (Int × Int)) (hpk:0 < L.length->pk=pa) (hL:(L.length:Int)<=1000000) (w:World) (hb:BK Bs #[.slice pa L.length c] 24 w) (hd:Digs w.heap.size w pa L) :
  SeqStopsK F nn Tryz.prog 198 #[.pointer (some ⟨Bs,0,none⟩)] (fun x:Int × Int=>#[.agg #[.int .u64 x.1,.int .u64 x.2]]) (Kp Bs pk) (fun xs=>xs=L) (fun _=>True) L.length w:=fun l J Jx W hW hA _ hY h0=>
 vals1_in F nn hF hro hn l Bs pa pk c L hpk hL J Jx _ hA hY W (hb.below hW) ((hd.below hW (Nat.le_refl _)).mono hW.size) h0
def AxC (a:Act) (z:Int × Int) (a':Act) (W:World):Prop:=∃ p,BK p #[.int .u64 z.1,.int .u64 z.2] 41 W/\a' = { tmps:=(a.tmps.setIfInBounds 7 (.agg #[.int .u64 z.1,.int .u64 z.2])).setIfInBounds 5 (.pointer (some ⟨p,0,none⟩)),defers:=[] }
theorem rf_boxC {g:Operand} {assign body:Code} {Q:Exit->Act->World->Prop} {a:Act} {w:World} {F:Fence} {n:Nat} {P:Program}
  (hro:F.round=none) (h1:1<=n) {gf:Nat} {lb:Array Value} (hg:a.eval g = .func (.func gf) #[] lb) (hFg:F.fn gf) (eg:∀ args w,(callFunc gf args).run P w = .ok (.enter gf args) w)
  {Kp:World->World->Prop} {S Sp:List (Int × Int)->Prop} {N:Nat} (hseq:SeqStopsK F (n - 1) P gf lb (fun x:Int × Int=>#[.agg #[.int .u64 x.1,.int .u64 x.2]]) Kp S Sp N w)
  (hKt:∀ {A B C:World},Kp A B->Kp B C->Kp A C) (hKb:∀ (W:World) (l:Nat) (o o':Obj),w.heap.size<=l->W.heap[l]? = some o->o.isCells=false->o.isWalk=false->Kp W (W.putObj l o'))
  (I:List (Int × Int)->World->Prop) (hI:OwnFrom w.heap.size I) (h0:I [] w)
  (hassign:∀ (l:Nat) (pre:List (Int × Int)) (x:Int × Int) (W:World) (K:Act->World->Prop),I pre W->(∀ a' W',KeepsFrom w.heap.size W W'->Kp W W'->I pre W'->AxC a x a' W'->K a' W')->
   assign.wpIn (F.inRound l) (n - 1 - 1) P (Exit.then K (fun _ _ _=>False)) { tmps:=((#[7]:Array Tmp).zip (#[.agg #[.int .u64 x.1,.int .u64 x.2]])).foldl (fun t (p,v)=>t.setIfInBounds p v) a.tmps,defers:=[] } W)
  (hbody:∀ (l:Nat) (pre:List (Int × Int)) (x:Int × Int) (a':Act) (W:World),I pre W->AxC a x a' W->pre.length < N->body.wpIn (F.inRound l) (n - 1 - 1) P (ownPostG w.heap.size Kp I (fun _ _ _=>False) (pre ++ [x]) W) a' W)
  (hdone:∀ (D:Nat) (xs:List (Int × Int)) (W:World),w.heap.size<=D->S xs->I xs W->W.heap[D]? = some (.deferred (some []))->Q .normal { a with defers:={ target:=.collected D,args:=#[] } :: a.defers } W) :
  (Code.rangeFunc g #[7] assign body).wpIn F n P Q a w:=
 wpIn_rangeFunc_ownH hro h1 hg hFg eg hseq hKt hKb (Below.refl _ _) (fun _=>rfl) I (fun _ _ _=>False) hI (fun _ _ _ _ _ h _ _=>h) h0 (AxC a)
  (fun z a' _ W W' row h hg hr=>by
   obtain ⟨p,hb,e⟩:=h
   refine ⟨p,hb.grow hg (fun k hk hp=>?_),e⟩
   obtain ⟨_,o,ho,hc⟩:=hr k hk
   rw [hp,show W.heap[p]? = _ from hb] at ho
   cases ho
   cases hc)
  hassign (fun l pre x a' W _ _ hi hax hlen=>hbody l pre x a' W hi hax hlen) hdone (fun D c pre W _ _ h _=>h.elim)
structure ApI (w:World) (pre:List (Int × Int)) (v:Value) (W:World):Prop where
 bk:BK w.heap.size #[v] 24 W
 ow:W.ownsRow (w.heap.size + 1) 41 2 v pre.length (dcells pre)
 be:Below w.heap.size w W
theorem appSeqD_any (Bs:Nat) (pa:Option Addr) (c:Nat) (L:List (Int × Int)) (hL:(L.length:Int)<=900000) (w:World) (hb:BK Bs #[.slice pa L.length c] 24 w) (hd:Digs w.heap.size w pa L) :
  Calls Tryz.prog 222 #[.slice none 0 0,.func (.func 198) #[] #[.pointer (some ⟨Bs,0,none⟩)]] w (GotDs w L):=by
 have HB:=hid hb
 have HD:=hid hd
 obtain ⟨pk,hpk,hpa⟩:∃ pk,(0 < L.length->pk=pa)/\∀ ad,pk=some ad->ad.block < w.heap.size:=by
  by_cases h:0 < L.length
  ·refine ⟨pa,fun _=>rfl,fun ad e=>?_⟩
   obtain ⟨b,off,e2,hlt,_⟩:=hd 0 h
   rw [e2] at e; cases e; exact hlt
  ·exact ⟨none,fun h2=>absurd h2 h,fun ad e=>by cases e⟩
 have HPA:=hid hpa
 obtain ⟨n,hnn⟩:∃ n,n=L.length:=⟨_,rfl⟩
 have HN:=hid hnn
 have hbs:=hb.lt
 rw [<-hnn] at HB hL
 clear hb hd hnn hpa
 refine (callsIn_wide (n:=5)).1 ?_
 refine callsIn_of_wp_marks Tryz.func222 rfl trivial ?_ rfl
 simp only [Tryz.ntmps222,List.size_toArray,List.length_cons,List.length_nil,Nat.reduceAdd,Nat.reduceSub,Array.replicate_succ,Array.replicate_zero,List.push_toArray,List.append_toArray,List.nil_append,List.cons_append]
 obtain ⟨u,hu⟩:∃ u,u=w.alloc (.cells #[.slice none 0 0] 24):=⟨_,rfl⟩
 have hbu:Below w.heap.size w u:=by rw [hu]; exact (Below.refl _ _).alloc (Nat.le_refl _) _
 have hus:u.heap.size=w.heap.size + 1:=by rw [hu]; simp
 have HU:=hid hu
 have HBX:Hid (BK w.heap.size #[.slice none 0 0] 24 u):=hid (by rw [hu]; exact BK.new _ _ _)
 have HBU:=hid hbu
 clear hu hbu
 gi_wp2
 rw [<-HU.out]
 clear HU
 refine rf_boxC rfl (by omega) (gf:=198) (lb:=#[.pointer (some ⟨Bs,0,none⟩)]) rfl trivial (enters_of Tryz.func198 (by kernel_rfl) rfl)
  (vals_stops Fence.wide (5 - 1) trivial rfl (by omega) Bs pa pk c L hpk (by rw [<-HN.out]; omega) u (by rw [<-HN.out]; exact HB.out.below HBU.out) (HD.out.ahead HBU.out)) (fun h k=>h.trans k)
  (fun W l o o' hl ho hc hw=>⟨by simp,World.putObj_heap_other (by omega),fun ad e=>World.putObj_heap_other (by have:=HPA.out ad e; omega)⟩)
  (fun pre W=>∃ v,ApI w pre v W) ?hI ?h0 ?assign ?body ?done
 case hI=>
  rintro s W W' row ⟨v,h⟩ hg hr
  refine ⟨v,h.bk.grow hg (fun k e hk=>by have:=(hr k e).1; omega),h.ow.kept hg ?_,h.be.grown hg h.be.size (fun k e=>by have:=(hr k e).1; omega)⟩
  cases hv:v.ownBlock with
  | none=>exact .inl rfl
  | some k=>
   refine .inr (fun e=>?_)
   obtain ⟨_,o,ho,hc⟩:=hr k e.symm
   have:=own_cells h.ow hv ho
   rw [hc] at this; cases this
 case h0=>exact ⟨_,HBX.out,World.ownsRow_nil _ _ _ _,HBU.out⟩
 case assign=>
  rintro l pre ⟨z1,z2⟩ W K ⟨v,h⟩ hK
  gi_wp2
  refine hK _ _ ((KeepsOthers.alloc _ _).from _) (Kp.alloc _ (by have:=h.be.size; omega) (fun ad e=>by have:=HPA.out ad e; have:=h.be.size; omega)) ⟨v,h.bk.alloc _,h.ow.alloc _,h.be.alloc h.be.size _⟩ ⟨W.heap.size,BK.new _ _ _,rfl⟩
 case body=>
  rintro l pre ⟨z1,z2⟩ a' W ⟨v,h⟩ ⟨p,hbp,rfl⟩ hlen
  obtain ⟨va,vc,rfl,hvc⟩:=ownsRow_sliceN h.ow
  have hbl:=h.bk.lt
  obtain ⟨v',W2,hrun,hown',hg',hat'⟩:=append_one h.ow z1 z2 (by have:=HN.out; omega) (by omega)
  have hnb:=Boxed.not_row h.bk (by decide) h.ow
  have hbk2:BK w.heap.size #[.slice va pre.length vc] 24 W2:=(h.bk.alloc _).grow hg' (fun k e hk=>hnb (by rw [<-hk,e]))
  have hbk3:BK w.heap.size #[v'] 24 (W2.setCell ⟨w.heap.size,0,none⟩ v'):=hbk2.set 0 v'
  have hown2:=hown'
  obtain ⟨a2,c2,rfl,_⟩:=ownsRow_sliceN hown2
  have hsz:W.heap.size + 1<=W2.heap.size:=by have:=hg'.size; simpa using this
  have hset:∀ v,(W2.setCell ⟨w.heap.size,0,none⟩ v).heap.size=W2.heap.size:=fun v=>by simp [World.setCell]
  have hstep:∀ k,k < W.heap.size->k ≠ w.heap.size->(Value.slice va pre.length vc).ownBlock ≠ some k->∀ v,(W2.setCell ⟨w.heap.size,0,none⟩ v).heap[k]? = W.heap[k]?:=fun k hk h3 h4 v=>
   (Below.heap_setCell _ _ _ _ h3).trans ((hg'.block k (by simp; omega) (fun e=>h4 e.symm)).trans (Below.heap_alloc _ _ _ hk))
  have how3:(W2.setCell ⟨w.heap.size,0,none⟩ (.slice a2 (pre ++ [(z1,z2)]).length c2)).ownsRow (w.heap.size + 1) 41 2 (.slice a2 (pre ++ [(z1,z2)]).length c2) (pre ++ [(z1,z2)]).length (dcells (pre ++ [(z1,z2)])):=own_kept hown' (grownBy_setCell0_q _ _ _) (by omega)
  have hbe3:Below w.heap.size w (W2.setCell ⟨w.heap.size,0,none⟩ (.slice a2 (pre ++ [(z1,z2)]).length c2)):=((h.be.alloc h.be.size _).grown hg' (by have:=h.be.size; simp; omega) (fun k e=>by have:=(h.ow.lt k e).1; omega)).setCell (Nat.le_refl _) _
  have HFN:Hid (ownPostG u.heap.size (Kp Bs pk) (fun pre W=>∃ v,ApI w pre v W) (fun _ _ _=>False) (pre ++ [(z1,z2)]) W .normal { tmps:=#[],defers:=[] } (W2.setCell ⟨w.heap.size,0,none⟩ (.slice a2 (pre ++ [(z1,z2)]).length c2))):=hid (by
   refine ⟨⟨by rw [hset]; omega,fun k o _ hk ho=>?_⟩,⟨by rw [hset]; omega,?_,fun ad e=>?_⟩,_,hbk3,how3,hbe3⟩
   ·rw [hstep k (Array.getElem?_eq_some_iff.1 hk).1 (fun e=>?_) (fun e=>?_),hk]
    ·rw [e,show W.heap[w.heap.size]? = _ from h.bk] at hk
     cases hk
     cases ho
    ·have:=own_cells h.ow e hk
     rw [ho] at this
     cases this
   ·exact hstep Bs (by have:=h.be.size; omega) (by omega) (fun e=>by have:=(h.ow.lt Bs e).1; omega) _
   ·have h5:=HPA.out ad e
    exact hstep ad.block (by have:=h.be.size; omega) (by omega) (fun e=>by have:=(h.ow.lt _ e).1; omega) _)
  have e0:W.cell? ⟨w.heap.size,0,none⟩=some (.slice va pre.length vc):=by rw [h.bk.cell]; rfl
  have e1:W.cell? ⟨p,0,none⟩=some (.int .u64 z1):=by rw [hbp.cell]; rfl
  have e2:W.cell? ⟨p,1,none⟩=some (.int .u64 z2):=by rw [hbp.cell]; rfl
  have e3:W2.cell? ⟨w.heap.size,0,none⟩=some (.slice va pre.length vc):=by rw [hbk2.cell]; rfl
  have e4:W2.frozen? ⟨w.heap.size,0,none⟩=false:=hbk2.frozen 0
  have HRUN:=hid hrun
  clear hrun hown' hg' hat' hown2 hnb hbk2 hbk3 how3 hbe3 h hbp hstep hset
  simp only [List.setIfInBounds_toArray,List.set_cons_succ,List.set_cons_zero]
  generalize (pre ++ [(z1,z2)]).length=L2 at HRUN HFN
  generalize pre.length=L1 at HRUN e0 e3 hvc
  gi_wp2_with (gi_at_builtin; refine wpListIn_append_run _ rfl _ _ _ _ rfl _ _ rfl rfl _ _ HRUN.out ?_)
  exact HFN.out
 case done=>
  rintro D xs' W hD rfl ⟨v,h⟩ hdef
  obtain ⟨va,vc,rfl,hvc⟩:=ownsRow_sliceN h.ow
  have e0:W.cell? ⟨w.heap.size,0,none⟩=some (.slice va xs'.length vc):=by rw [h.bk.cell]; rfl
  have HF:Hid (GotDs w xs' (.returned (.slice va xs'.length vc)) (W.putObj D (.deferred none))):=hid (by
   have hg:W.grownBy (W.putObj D (.deferred none)) (some D):=⟨rfl,rfl,rfl,by simp,fun k _ hk=>World.putObj_heap_other (fun e=>hk (by rw [e]))⟩
   refine ⟨va,vc,rfl,own_le (h.ow.kept hg ?_) (by omega),h.be.grown hg h.be.size (fun k e=>by cases e; omega)⟩
   cases hv:(Value.slice va xs'.length vc).ownBlock with
   | none=>exact .inl rfl
   | some k=>
    refine .inr (fun e=>?_)
    cases e
    have:=own_cells h.ow hv hdef
    cases this)
  clear h
  generalize xs'.length=L1 at HF e0
  gi_wp2
  refine ⟨by simp,.inl ⟨_,_,rfl,run_takeDeferred hdef,?_⟩⟩
  exact ⟨.slice va L1 vc,by simp [results,Tryz.results222,go_sem],HF.out⟩
end Go.Proofs.YtfdahmicigpnoaaGreat
