/- Joined texts: PkJk, PkQl, PkJh, PkQm. -/
import Derived.Test.YtkedhdcnakhbgaaGreatP0
import Derived.Test.YtkedhdcnakhbgaaGreatP8
import Derived.Test.YtkedhdcnakhbgaaGreatP10
import Derived.Test.YtkedhdcnakhbgaaGreatK6
import Derived.Laws.MakeOwn
import Derived.Laws.EntriesVeiled
import Derived.Test.YtkedhdcnakhbgaaGreatK4
/- Packs: choose,what it holds. -/
set_option linter.unusedSimpArgs false
set_option maxRecDepth 100000
set_option maxHeartbeats 16000000
namespace Go.Proofs.YtkedhdcnakhbgaaGreat
open Go.RowKit Go.Shelf
set_option linter.unusedVariables false
variable {a:Act}{Q:Exit->Act->World->Prop}{xs:List Itm}{b i k:Nat}{o o':Obj}{ba la:Qa}{base l:Qd}{w:World}
theorem O4:(Tryz.prog.info? 195).map (fun i=>(i.zero,i.size,i.bytes))=some (some (.agg #[.bool false,.int .u64 0,.int .u64 0,.string ⟨#[]⟩,.int .i64 0]),5,48):=by kernel_rfl
theorem Ns(n:Nat):madeCells #[.bool false,.int .u64 0,.int .u64 0,.string ⟨#[]⟩,.int .i64 0] (n*5)=(gcs vJ (List.replicate n ⟨false,(0,0),[],0⟩)).toArray:=by
 apply Array.ext
 ·rw[size_madeCells]; simp[xq IB]
 ·intro k B F
  rw[size_madeCells] at B;have E:k/5<n:=by omega
  have A:=uF IB (List.replicate n (⟨false,(0,0),[],0⟩:Chc)) (k/5) (by simpa using E) (k%5) (by omega);rw[show k/5*5+k%5=k by omega] at A;rw[List.getElem_replicate] at A;have C:(madeCells #[.bool false,.int .u64 0,.int .u64 0,.string ⟨#[]⟩,.int .i64 0] (n*5))[k]=(#[.bool false,.int .u64 0,.int .u64 0,.string ⟨#[]⟩,.int .i64 0]:Array Value)[k%5]!:=by
   unfold madeCells;simp
  rw[C];simp only[List.getElem_toArray];have D:=(List.getElem?_eq_some_iff.1 (A.trans (List.getElem?_eq_getElem (by simp[vJ]; omega)))).2;rw[D];rcases(by omega:k%5=0\/k%5=1\/k%5=2\/k%5=3\/k%5=4) with h | h | h | h | h <;> simp[h,vJ]
theorem sZ{F:Fence}{n:Nat}{P:Program}{c:Code}(h:c.wpIn F n P (Exit.then (fun a w=>Q .normal a w) (fun _ _ _=>False)) a w):c.wpIn F n P Q a w:=
 wpIn_mono h (fun e a w A=>by
  cases e with
  | normal=>exact A
  | ret=>exact A.elim
  | exit i=>exact A.elim
  | goto t=>exact A.elim
  | panic ch=>exact A.elim
  | outgrown=>exact A.elim)
theorem tC(h:Q .normal a w):Exit.then (fun a w=>Q .normal a w) (fun _ _ _=>False) .normal a w:=h
structure ChI (w:World) (la:Qa) (lc n mb:Nat) (L:List Chc) (W:World):Prop where
 row:BK (w.heap.size+2) (gcs vJ L).toArray 195 W
 bb:BK (w.heap.size+3) #[.slice (some ⟨w.heap.size+2,0,none⟩) n n] 140 W
 lx:BK w.heap.size #[.slice la n lc] 24 W
 dx:BK (w.heap.size+1) #[.map (some mb)] 138 W
 bel:PM w W
section
variable {w W W':World} {la:Qa} {lc n mb:Nat} {L:List Chc}
theorem ChI.below(h:ChI w la lc n mb L W)(A:PM W W'):ChI w la lc n mb L W':=⟨h.row.below A,h.bb.below A,h.lx.below A,h.dx.below A,h.bel.trans (A.mono h.bel.size)⟩
theorem EQ{cs:Array Value}{t:TypeId}{l:Nat}(h:BK b cs t W)(A:W.heap[l]? = some o)(B:o.isCells=false):BK b cs t (W.putObj l o'):=
 (World.putObj_heap_other (fun e=>by rw[<-e,show W.heap[b]? = _ from h] at A; cases A; cases B)).trans h
theorem ChI.putObj(h:ChI w la lc n mb L W){l:Nat}(C:w.heap.size<=l)(A:W.heap[l]? = some o)(B:o.isCells=false):ChI w la lc n mb L (W.putObj l o'):=
 ⟨EQ h.row A B,EQ h.bb A B,EQ h.lx A B,EQ h.dx A B,vD h.bel C⟩
theorem ChI.set(h:ChI w la lc n mb L W){i:Nat}(C:i<L.length)(c:Chc){X:World}
  (B:X=((((W.setCell ⟨w.heap.size+2,i*5,none⟩ (.bool c.sm)).setCell ⟨w.heap.size+2,i*5+1,none⟩ (.int .u64 c.b.1)).setCell ⟨w.heap.size+2,i*5+2,none⟩ (.int .u64 c.b.2)).setCell ⟨w.heap.size+2,i*5+3,none⟩ (.string ⟨c.tx.toArray⟩)).setCell ⟨w.heap.size+2,i*5+4,none⟩ (.int .i64 (c.sz:Int))) :
  ChI w la lc n mb (L.set i c) X/\W.grownBy X (some (w.heap.size+2)):=by
 have A:W.grownBy X (some (w.heap.size+2)):=by rw[B]; exact fM (fM (fM (fM (dN _ _ _ _) _ _) _ _) _ _) _ _
 refine⟨⟨by rw[B]; exact Pm h.row C c,h.bb.grow1 A (by omega),h.lx.grow1 A (by omega),h.dx.grow1 A (by omega),?_⟩,A⟩;exact h.bel.grown A h.bel.size (fun k e=>by cases e; omega)
theorem ChI.set0(h:ChI w la lc n mb L W)(C:i<L.length):ChI w la lc n mb (L.set i { L[i] with sm:=false }) (W.setCell ⟨w.heap.size+2,i*5,none⟩ (.bool false))/\W.grownBy (W.setCell ⟨w.heap.size+2,i*5,none⟩ (.bool false)) (some (w.heap.size+2)):=by
 have A:=dN W (w.heap.size+2) (i*5) (.bool false);refine⟨⟨?_,h.bb.grow1 A (by omega),h.lx.grow1 A (by omega),h.dx.grow1 A (by omega),?_⟩,A⟩
 ·have B:=h.row.set (i*5+0) (.bool false)
  rw[dR,yA IB L i C 0 (.bool false) { L[i] with sm:=false } (by decide) rfl] at B;exact B
 ·exact h.bel.grown A h.bel.size (fun k e=>by cases e; omega)
theorem ChI.cells(h:ChI w la lc n mb L W)(B:i<L.length):∀j v,(vJ L[i])[j]? = some v->W.cell? ⟨w.heap.size+2,i*5+j,none⟩=some v:=by
 intro j v A;have C:j<5:=by have:=(List.getElem?_eq_some_iff.1 A).1; simpa[vJ] using this
 rw[h.row.cell];simp only[List.getElem?_toArray];rw[uF IB L i B j C,A]
theorem ChI.end_{K:Nat->Prop}(h:W.grownBy W' (some (w.heap.size+2)))(E:BK (w.heap.size+2) (gcs vJ L).toArray 195 W)(B:∀k,K k->k<W.heap.size/\k≠w.heap.size+2){m m':Nat}(H:w.heap.size+2<m)(C:m'<=W.heap.size):
  KeepsOthers W W'/\cO K W W'/\∀k o,m<=k->k<m'->W.heap[k]? = some o->ku o->W'.heap[k]? = some o:=by
 refine⟨⟨h.size,fun k o A D=>(h.block k (Array.getElem?_eq_some_iff.1 A).1 (fun e=>?_)).trans A⟩,⟨h.os,h.tape,h.output,h.size,fun k A=>h.block k (B k A).1 (fun e=>(B k A).2 (Option.some.inj e))⟩,fun k o F G A _=>(h.block k (by omega) (fun e=>by cases e; omega)).trans A⟩;cases e;rw[show W.heap[w.heap.size+2]? = _ from E] at A;cases A; cases D
end
section
attribute [local go_sem] Oper.semAt_some
theorem Fp(n:Nat)(F:n<=1000)(W:World):(Instr.makeSlice 140 (.int .i64 (n:Int)) (.int .i64 (n:Int))).run Tryz.prog W=.ok (.slice (some ⟨W.heap.size,0,none⟩) n n) (W.alloc (.cells (gcs vJ (List.replicate n ⟨false,(0,0),[],0⟩)).toArray 195)):=by
 obtain⟨i0,E,C,B,D⟩:=info_parts O4;have h:=run_makeSlice (P:=Tryz.prog) W 140 195 i0 _ Tryz.underlying140 E C .i64 .i64 (n:Int) (n:Int) (by omega) (rP _) (by rw[B]; simp; omega) (by rw[D]; omega) (by omega);rw[B,aj] at h;rw[h,<-Ns n];rfl
structure Py (xs:List Itm) (l base:Qd) (la ba:Qa) (mb nm:Nat) (w:World):Prop where
 ld:dE w.heap.size w la l
 bd:dE w.heap.size w ba base
 mp:fT vH mb nm (GN xs) w
 okl:∀d∈l,OkD d
 okb:∀d∈base,OkD d
 nl:l.length<=1000
 nb:(base.length:Int)<=1000000
 dl:∀d∈l,(gL xs d).length<=1000
 db:∀d∈base,(gL xs d).length<=1000
 src:∀x∈vB l base,x.2≠l.length->gL xs x.1=[2,0]
theorem vS(la ba:Qa)(nl lc nb bc mb:Nat)(w:World):Qh 148 #[.slice la nl lc,.slice ba nb bc,.map (some mb)] w fun e w'=>e=.returned (.func (.func 185) #[] #[.pointer (some ⟨w.heap.size+1,0,none⟩),.pointer (some ⟨w.heap.size+2,0,none⟩),.pointer (some ⟨w.heap.size,0,none⟩)])/\
  w'=((w.alloc (.cells #[.slice la nl lc] 24)).alloc (.cells #[.slice ba nb bc] 24)).alloc (.cells #[.map (some mb)] 138):=by
 go_enter Tryz.func148,Tryz.ntmps148;go_wp2_with fail;go_ret;exact⟨rfl,rfl⟩
def LC(xs:List Itm)(l base:Qd):List Chc:=(List.range l.length).map fun i=>vT xs (l.getD i (0,0)) (pkO xs (l.getD i (0,0)) (base++l.take i))
theorem Jp{pre:List Cd}(h:∀i,i<l.length->visC pre i=base++l.take i):EK xs l pre=LC xs l base:=by
 unfold EK LC;refine rO (fun i A=>?_);unfold BN;rw[h i (List.mem_range.1 A)]
theorem Jq(xs:List Itm)(l base:Qd):EK xs l (vB l base)=LC xs l base:=Jp (fun i _=>zg base l i)
theorem Bj:∀(l:Qd) (k:Nat),∀x∈dU l k,x.1∈l/\x.2<=k+l.length
 | [],k,x,h=>by simp[dU] at h
 | d::l,k,x,h=>by
  rw[dU] at h;rcases List.mem_cons.1 h with rfl | h
  ·exact⟨by simp,by simp⟩
  ·obtain⟨A,B⟩:=Bj l (k+1) x h
   exact⟨by simp[A],by rw[az]; omega⟩
theorem JO{x:Cd}(h:x∈vB l base):(x.1∈base\/x.1∈l)/\x.2<=l.length:=by
 unfold vB at h;rcases aD.1 h with h | h
 ·obtain⟨d,B,rfl⟩:=bV.1 h
  exact⟨.inl B,Nat.zero_le _⟩
 ·obtain⟨A,C⟩:=Bj l 0 x h
  exact⟨.inr A,by omega⟩
theorem Pn{w':World}(A:PM w w'):w.grownBy w' (some b):=⟨A.os,A.tape,A.output,A.size,fun k B _=>A.block k B⟩
theorem O7{u x y:World}(h:u.grownBy x (some b))(g:PM x y):u.grownBy y (some b):=bu h ⟨g.os,g.tape,g.output,g.size,fun k A _=>g.block k A⟩
def sG(xs:List Itm)(l base:Qd)(k:Nat):List Chc:=(List.range l.length).map fun j=>if j<k then Km xs (l.getD j (0,0)) (vT xs (l.getD j (0,0)) (pkO xs (l.getD j (0,0)) (base++l.take j))) else vT xs (l.getD j (0,0)) (pkO xs (l.getD j (0,0)) (base++l.take j))
theorem Ls:(sG xs l base k).length=l.length:=by simp[sG]
theorem yD(xs:List Itm)(l base:Qd)(k:Nat){j:Nat}(h:j<(sG xs l base k).length):(sG xs l base k)[j]=if j<k then Km xs (l.getD j (0,0)) (vT xs (l.getD j (0,0)) (pkO xs (l.getD j (0,0)) (base++l.take j))) else vT xs (l.getD j (0,0)) (pkO xs (l.getD j (0,0)) (base++l.take j)):=by simp[sG]
theorem NE(xs:List Itm)(l base:Qd)(h:k<(sG xs l base k).length):(sG xs l base k)[k]=vT xs (l.getD k (0,0)) (pkO xs (l.getD k (0,0)) (base++l.take k)):=by rw[yD,if_neg (by omega)]
theorem Ji(xs:List Itm)(l base:Qd):sG xs l base 0=LC xs l base:=by
 unfold sG LC;exact rO (fun j _=>if_neg (by omega))
theorem Lt(h:l.length<=k):sG xs l base k=Gg xs l base:=by
 unfold sG Gg;exact rO (fun j A=>if_pos (by have:=List.mem_range.1 A; omega))
theorem Jj(xs:List Itm)(l base:Qd)(k:Nat):sG xs l base (k+1)=(sG xs l base k).set k (Km xs (l.getD k (0,0)) (vT xs (l.getD k (0,0)) (pkO xs (l.getD k (0,0)) (base++l.take k)))):=by
 refine List.ext_getElem (by simp[sG]) (fun j C A=>?_);have B:j<(sG xs l base k).length:=by simpa using A
 rw[List.getElem_set,yD,yD _ _ _ _ B];by_cases e:k=j
 ·subst e; rw[if_pos (by omega),if_pos rfl]
 ·rw[if_neg e]
  by_cases e2:j<k
  ·rw[if_pos (by omega),if_pos e2]
  ·rw[if_neg (by omega),if_neg e2]
theorem Gt{lc bc mb nm:Nat}(hp:Py xs l base la ba mb nm w):
  Qh 94 #[.slice la l.length lc,.slice ba base.length bc,.map (some mb)] w fun e w'=>e=.returned (.slice (some ⟨w.heap.size+2,0,none⟩) l.length l.length)/\Qg (GIn vJ 5 w'.heap.size w' (some ⟨w.heap.size+2,0,none⟩) (Gg xs l base))/\PM w w':=by
 refine(callsIn_wide (n:=5)).1 ?_;refine callsIn_of_wp_marks Tryz.func94 rfl trivial ?_ rfl;simp only[Tryz.ntmps94,nU,az,aK,Nat.reduceAdd,Nat.reduceSub,jg,je,nV,jT,aY,bz];have HP:=Qf hp;obtain⟨n,hn⟩:=Qe l.length;obtain⟨nb,E6⟩:=Qe base.length;have HN:Qg (n=l.length):=Qf hn;have P1:Qg (nb=base.length):=Qf E6;have M5:n<=1000:=by rw[hn]; exact hp.nl
 have P5:(n:Int)<=1000:=by omega
 rw[<-hn,<-E6];have I5:=Fp n M5;obtain⟨RZ,H7⟩:=Qe ((gcs vJ (List.replicate n (⟨false,(0,0),[],0⟩:Chc))).toArray);rw[<-H7] at I5;obtain⟨w1,U⟩:=Qe ((((w.alloc (.cells #[.slice la n lc] 24)).alloc (.cells #[.map (some mb)] 138)).alloc (.cells RZ 195)).alloc (.cells #[.slice (some ⟨w.heap.size+2,0,none⟩) n n] 140));have D2:w1.heap.size=w.heap.size+4:=by rw[U]; simp
 have T:PM w w1:=by rw[U]; exact((((bf _).alloc nr _).alloc (by simp) _).alloc (by simp; omega) _).alloc (by simp; omega) _
 have F1:ChI w la lc n mb (EK xs l []) w1:=by
  refine⟨?_,?_,?_,?_,T⟩
  ·rw[LV,<-hn,<-H7,U]; exact(BK.new3 _ _ _ _ _).alloc _
  ·rw[U]; exact BK.new4 _ _ _ _ _ _
  ·rw[U]; exact((BK.new _ _ _).alloc _).alloc _ |>.alloc _
  ·rw[U]; exact((BK.new2 _ _ _ _).alloc _).alloc _
 obtain⟨w2,A5⟩:=Qe (((w1.alloc (.cells #[.slice la n lc] 24)).alloc (.cells #[.slice ba nb bc] 24)).alloc (.cells #[.map (some mb)] 138));have A3:PM w1 w2:=by rw[A5]; exact(((bf _).alloc nr _).alloc (by simp) _).alloc (by simp; omega) _
 have O3:w2.heap.size=w1.heap.size+3:=by rw[A5]; simp
 have L:Qg (ChI w la lc n mb (EK xs l []) w2):=Qf (F1.below A3);have I:=T.trans (A3.mono T.size);have L6:Mj xs l base (fun k=>k<w2.heap.size/\k≠w.heap.size+2) w.heap.size (w.heap.size+5) (w.heap.size+6) (w.heap.size+4) mb nm ba la bc lc w2:=by
  refine⟨?_,?_,?_,hp.bd.below I nr,hp.ld.below I nr,hp.mp.below_lt I hp.mp.lt,hp.okb,hp.okl,⟨by omega,by omega,by omega,?_⟩,fun k hk=>⟨by omega,by omega⟩⟩
  ·rw[<-E6]
   have:BK (w1.heap.size+1) #[.slice ba nb bc] 24 w2:=by rw[A5]; exact(BK.new2 _ _ _ _).alloc _
   rw[D2] at this;exact this.c1
  ·have:BK (w1.heap.size+2) #[.map (some mb)] 138 w2:=by rw[A5]; exact BK.new3 _ _ _ _ _
   rw[D2] at this;exact this.c1
  ·rw[<-hn]
   have:BK w1.heap.size #[.slice la n lc] 24 w2:=by rw[A5]; exact((BK.new _ _ _).alloc _).alloc _
   rw[D2] at this;exact this.c1
  ·have:=hp.mp.lt; exact⟨by omega,by omega⟩
 have G3:=Qf (JN L6 (fun k hk=>hk.1) (by rw[<-hn]; omega) hp.nb 4 (by omega));have H2:Qg (w1.heap.size=w.heap.size+4/\w2.heap.size=w.heap.size+7):=Qf ⟨D2,by omega⟩;have D6:=Qf (vS la ba n lc nb bc mb w1);rw[<-A5] at D6;have M4:(Instr.makeSlice 140 (.int .i64 (n:Int)) (.int .i64 (n:Int))).run Tryz.prog ((w.alloc (.cells #[.slice la n lc] 24)).alloc (.cells #[.map (some mb)] 138))=.ok (.slice (some ⟨w.heap.size+2,0,none⟩) n n) (((w.alloc (.cells #[.slice la n lc] 24)).alloc (.cells #[.map (some mb)] 138)).alloc (.cells RZ 195)):=by
  have:=I5 ((w.alloc (.cells #[.slice la n lc] 24)).alloc (.cells #[.map (some mb)] 138));simpa using this
 rw[U] at D6;have P2:=Qf U;clear hp hn E6 I5 H7 D2 T F1 A5 A3 O3 I L6 U;gi_wp2;refine⟨trivial,?_⟩;refine(callsIn_wide.2 D6.o).mono ?_;rintro e u ⟨rfl,rfl⟩;clear D6 M4;gi_wp2;have P0:=Qf M5;refine nX (α:=Cd) (bs:=8) 200 (cdCs xs) rfl (by omega) rfl trivial (enters_of Tryz.func185 (by kernel_rfl) rfl) (K:=fun k=>k<u.heap.size/\k≠w.heap.size+2) (fun k hk=>hk.1) G3.o
  (fun pre W=>ChI w la lc n mb (EK xs l pre) W/\u.heap.size<=W.heap.size) (fun W=>ChI w la lc n mb (LC xs l base) W) 0 (fun s W W' h hb=>⟨h.1.below hb,aC h.2 hb.size⟩) (fun W W' h hb=>h.below hb) (fun s W l o o' hl I2 ho h=>⟨h.1.putObj (by have:=H2.o; omega) I2 ho,by simpa using h.2⟩) (fun W l o o' hl I2 ho h=>h.putObj (by have:=H2.o; omega) I2 ho) ⟨L.o,nr⟩ (fun W h=>by rw[<-Jq]; exact h.1) ?assign ?body ?tail
 case assign=>
  intro lp x W;simp only[dR,List.set_cons_zero,List.set_cons_succ];obtain⟨⟨x1,x2⟩,f⟩:=x;simp only[JM,cdCs];gi_wp2;refine⟨?_,?_⟩ <;> first | trivial | rfl
 case tail=>
  intro D W hD hJ hK;have K3:=Qf hK;have K2:Qg (ChI w la lc n mb (sG xs l base 0) W):=Qf (by rw[Ji]; exact hJ);have N3:Qg (w.heap.size<=D):=Qf (by have:=H2.o; omega);have lxc:=hJ.lx.c1;clear hJ hK G3 L;gi_wp2;gi_loopw [84] (fun i wr=>∃(k:Nat),k<=n/\i=.int .i64 (k:Int)/\Qg (ChI w la lc n mb (sG xs l base k) wr)/\Qg (wr.heap[D]? = some (.deferred (some [])))) (fun i _=>n-(intOf i).toNat)
  case atStart=>exact⟨0,by omega,rfl,K2,K3⟩
  clear K2 K3 lxc;obtain⟨k,hk,rfl,HJ,HK⟩:=hrel;by_cases I3:k<n
  ·have E4:(k:Int)<(n:Int):=by omega
   have N:k<l.length:=by rw[<-HN.o]; exact I3
   have F3:=HJ.out.bel;obtain⟨b0,o0,H8,B0,q0,q1⟩:=(HP.o.ld.below F3 nr) k N;have C9:=HP.o.okl _ (ak N);have I0:=HP.o.dl _ (ak N);have C8:l.getD k (0,0)=l[k]:=by simp[List.getD,N]
   have E3:k<(sG xs l base k).length:=by rw[Ls]; exact N
   have Y:=NE xs l base E3;have E:=Jj xs l base k;rw[C8] at Y E;have E2:=HJ.out.cells E3;rw[Y] at E2;generalize l[k]=d at *
   obtain⟨x,y⟩:=d;simp only at q0 q1;obtain⟨v,hv⟩:=Qe ((wr.alloc (.cells #[.int .u64 x,.int .u64 y] 54)).drew);have M:PM wr v:=by rw[hv]; exact((bf _).alloc nr _).drew
   have B:=HJ.out.below M;have N1:BK wr.heap.size #[.int .u64 x,.int .u64 y] 54 v:=by
    have:BK wr.heap.size #[.int .u64 x,.int .u64 y] 54 (wr.alloc (.cells #[.int .u64 x,.int .u64 y] 54)):=BK.new _ _ _;rw[hv]; exact this
   obtain⟨e,he⟩:=Qe (vT xs (x,y) (pkO xs (x,y) (base++l.take k)));rw[<-he] at Y E E2;have N9:(e.sz:Int)<=1000000:=by
    rw[he];cases O1:pkO xs (x,y) (base++l.take k) with
    | none=>simp[vT]
    | some p=>
     obtain⟨b,z⟩:=p;obtain⟨m1,m2⟩:=Ie O1;simp only[vT];rw[m2,GZ];have hb:(gL xs b).length<=1000:=by
      rcases aD.1 m1 with h | h
      ·exact HP.o.db _ h
      ·exact HP.o.dl _ (dK h)
     have:=(yJ (a:=gL xs b) (b:=gL xs (x,y)) (by omega) (by omega)).2.1;have h2:=aG (txD xs (x,y) b).length;unfold txD at h2 ⊢;unfold fF;rw[af];omega
   have L5:=(M.cell (p:=⟨w.heap.size+2,k*5+4,none⟩) HJ.out.row.lt).trans (E2 4 _ rfl);have Q:=Qf (qN (gL xs (x,y)).length (by omega) v);have M7:=bH (gL xs (x,y));obtain⟨tz,J1⟩:=Qe ((fF (gL xs (x,y))).length);rw[show(Cw.enc (gL xs (x,y)).length).length+(gL xs (x,y)).length=tz by rw[J1]; unfold fF; rw[af]] at Q;have N0:IntKind.i64.wrap ((e.sz:Int)+16)=((e.sz+16:Nat):Int):=by rw[wrap_i64 (by omega) (by omega)]; omega
   obtain⟨es,I1⟩:=Qe (e.sz+16);rw[<-I1] at N0;have L8:Km xs (x,y) e=if tz<=es then { e with sm:=false } else e:=by unfold Km; rw[J1,I1]
   rw[L8] at E;have F:Qg (∀Wx,PM v Wx->Wx.cell? ⟨w.heap.size+3,0,none⟩=some (.slice (some ⟨w.heap.size+2,0,none⟩) n n)/\Wx.cell? ⟨w.heap.size+2,k*5+4,none⟩=some (.int .i64 (e.sz:Int))/\Wx.cell? ⟨w.heap.size+1,0,none⟩=some (.map (some mb))/\Wx.cell? ⟨wr.heap.size,0,none⟩=some (.int .u64 x)/\Wx.cell? ⟨wr.heap.size,1,none⟩=some (.int .u64 y)/\(Instr.lookup 138 (.map (some mb)) (.agg #[.int .u64 x,.int .u64 y]) false).run Tryz.prog Wx=.ok (.string ⟨(gL xs (x,y)).toArray⟩) Wx):=Qf (fun Wx hb=>by
    have h1:=B.below hb;have h2:=N1.below hb;have h3:=(HP.o.mp.below_lt h1.bel HP.o.mp.lt).look Tryz.underlying138 (xI Wx) (a:=(x,y)) C9;rw[sM] at h3;exact⟨h1.bb.c1,(hb.cell (p:=⟨w.heap.size+2,k*5+4,none⟩) B.row.lt).trans L5,h1.dx.c1,(BK.c2 h2).1,(BK.c2 h2).2,h3⟩)
   have A4:=F.o v (bf _);have L:=Qf B;have J8:=Qf E;have G1:Qg (∀h,(sG xs l base k)[k]'h=e):=Qf (fun _=>Y);have E0:Qg (k<(sG xs l base k).length):=Qf E3;have K4:Qg (v.heap[D]? = some (.deferred (some []))):=Qf ((M.block D (Array.getElem?_eq_some_iff.1 HK.out).1).trans HK.out);have HV:=Qf hv;obtain⟨ez,F5⟩:=Qe e.sz;rw[<-F5] at N0 A4 F;generalize (gL xs (x,y)).length=dl at *
   subst H8;clear M N1 hv he E2 L5 J1 I1 L8 B Y E F3 C9 I0 C8 E3 HJ HK F5 N9;have P3:(k:Int)<(n:Int):=E4;rw[HV.o] at A4 Q;gi_wp2;refine sZ ?_;refine wpIn_wide.2 ?_;refine wp_region_held_drew (S:=(fun Wx=>Wx.cell? ⟨w.heap.size+3,0,none⟩=some (.slice (some ⟨w.heap.size+2,0,none⟩) n n)/\Wx.cell? ⟨w.heap.size+2,k*5+4,none⟩=some (.int .i64 (ez:Int))/\Wx.cell? ⟨w.heap.size+1,0,none⟩=some (.map (some mb))/\Wx.cell? ⟨wr.heap.size,0,none⟩=some (.int .u64 x)/\Wx.cell? ⟨wr.heap.size,1,none⟩=some (.int .u64 y)/\(Instr.lookup 138 (.map (some mb)) (.agg #[.int .u64 x,.int .u64 y]) false).run Tryz.prog Wx=.ok (.string ⟨(gL xs (x,y)).toArray⟩) Wx)) (by kernel_rfl) A4 (fun hHeld=>?_);refine th 0 ?_;refine th 1 ?_;refine th 2 ?_;refine th 3 ?_;refine th 4 ?_;refine th 5 ?_;refine th 6 ?_;refine th 7 ?_;refine th 8 ?_;refine th 9 ?_;refine wpAnyH_ready (rs:=[10]) (by kernel_rfl) (by simp) ?_;refine AllReadyH.cons rfl (fun K hK=>?_) AllReadyH.nil;go_simp
   refine Q.o.mono ?_;rintro e2 uz ⟨rfl,X⟩
   rw[<-HV.o] at X;have B3:=F.o uz X;have A8:=Qf X;clear X hHeld A4 Q HV;refine hK.out _ _ (B3) (fun hHeld=>?_);clear hK K;refine th 11 ?_;refine wpAnyH_done (by kernel_rfl) ?_ _;refine tC ?_;have V:=L.o.below A8.o;have A2:uz.heap[D]? = some (.deferred (some [])):=(A8.o.block D (Array.getElem?_eq_some_iff.1 K4.o).1).trans K4.o;clear hHeld F;by_cases M1:tz<=es
   ·have B2:(tz:Int)<=(es:Int):=by omega
    obtain⟨r1,r2⟩:=V.set0 E0.o;simp only[G1.o] at r1;have E:=J8.o;rw[if_pos M1] at E;rw[<-E] at r1;have H0:=Qf r1;have G6:Qg ((uz.setCell ⟨w.heap.size+2,k*5,none⟩ (.bool false)).heap[D]? = some (.deferred (some []))):=Qf ((r2.block D (Array.getElem?_eq_some_iff.1 A2).1 (fun e=>by cases e; rw[show uz.heap[w.heap.size+2]? = _ from V.row] at A2; cases A2)).trans A2);have P6:=V.row.frozen (k*5);have O2:uz.cell? ⟨w.heap.size+2,k*5,none⟩=some (.bool ((sG xs l base k)[k]'E0.out).sm):=V.cells E0.o 0 _ rfl;have bxc:=V.bb.c1;rw[G1.o] at O2;clear V A2 r1 r2 E B3;gi_wp2;go_roundw
    case rel=>exact⟨k+1,by omega,by go_num,H0,G6⟩
    case measure=>simp[intOf] <;> omega
   ·have B2:¬(tz:Int)<=(es:Int):=by omega
    have E:=J8.o;rw[if_neg M1] at E;have H0:Qg (ChI w _ lc n mb (sG xs l base (k+1)) uz):=Qf (by
     have e1:(sG xs l base k).set k e=sG xs l base k:=by
      rw[<-G1.o E0.o];exact List.set_getElem_self _
     rw[E,e1];exact V)
    have G6:=Qf A2;clear V A2 E B3;gi_wp2;go_roundw
    case rel=>exact⟨k+1,by omega,by go_num,H0,G6⟩
    case measure=>simp[intOf] <;> omega
  ·obtain rfl:k=n:=by omega
   have E4:¬(k:Int)<(k:Int):=by omega
   have Y:=Lt (xs:=xs) (base:=base) (l:=l) (k:=k) (by rw[<-HN.o]; exact nr);rw[Y] at HJ;have bxc:=HJ.out.bb.c1;have E1:=HJ.out.putObj (o':=.deferred none) N3.o HK.out rfl;have HG:Qg (GIn vJ 5 (wr.putObj D (.deferred none)).heap.size (wr.putObj D (.deferred none)) (some ⟨w.heap.size+2,0,none⟩) (Gg xs l base)):=Qf (by
    intro i hi;refine⟨w.heap.size+2,0,rfl,E1.row.lt,fun j v hv=>?_⟩;rw[aZ];exact E1.cells hi j v hv)
   have N2:=Qf E1.bel;have N4:=Qf HK.out;clear Y E1 HJ HK;gi_wp2;refine⟨by simp,.inl ⟨_,_,rfl,run_takeDeferred N4.o,?_⟩⟩;exact⟨_,by simp[results,Tryz.results94,go_sem],rfl,HG,N2.o⟩
 case body=>
  intro lp pre x W0 Wy W hl E7 hJ B0 K8 K9 B1;simp only[dR,List.set_cons_zero,List.set_cons_succ];obtain⟨⟨x1,x2⟩,f⟩:=x;obtain⟨H6,O5⟩:=hJ;have H9:=JO (l:=l) (base:=base) (x:=((x1,x2),f)) (E7.subset (by simp));have E:f<=n:=by rw[HN.o]; exact H9.2
  have H5:(gL xs (x1,x2)).length<=1000:=by
   rcases H9.1 with h | h
   ·exact HP.o.db _ h
   ·exact HP.o.dl _ h
  have M0:=H6.row.lt;have C0:=Qf (H6.below B0);have O4:=B0.size;have P:Qg (u.heap.size<=W.heap.size/\w.heap.size+2<W0.heap.size/\W0.heap.size<=Wy.heap.size/\Wy.heap.size<=W.heap.size):=Qf ⟨by omega,M0,K8,K9⟩;have E9:=Qf E7;have lxc:=C0.o.lx.c1;simp only[JM,cdCs] at B1 ⊢;have C6:BK Wy.heap.size #[.int .u64 x1,.int .u64 x2,.string ⟨(gL xs (x1,x2)).toArray⟩,.int .i64 (f:Int)] 200 W:=B1;have Z:=Qf C6;have G0:=Qf H5;have H1:=Qf (fun(h:¬f=n)=>HP.o.src ((x1,x2),f) (E7.subset (by simp)) (by rw[<-HN.o]; exact h));have C1:=Qf (fun hs=>yf (gL xs (x1,x2)) W H5 hs);obtain⟨c0,c1,c2,c3⟩:=BK.c4 C6;clear B1 C6 H6 O5 B0 K8 K9 H9 H5 M0 O4 E7 L G3;by_cases L9:f=n
  ·subst L9
   have hR:wD (fun k=>k<u.heap.size/\k≠w.heap.size+2) 0 (fun pre W=>ChI w la lc f mb (EK xs l pre) W/\u.heap.size<=W.heap.size) (fun W=>ChI w la lc f mb (LC xs l base) W) (pre++[((x1,x2),f)]) W0 Wy W (.exit 0) { tmps:=#[],defers:=[] } W:=by
    refine⟨rfl,KeepsOthers.refl W,cO.refl _ _,fun k o _ _ h _=>h,?_⟩
    show ChI w la lc f mb (LC xs l base) W;rw[<-Jp (E5 (by have:=E9.o; rw[HN.o] at this; exact this))];exact C0.o
   have HR:=Qf hR;have N8:((f:Int)==(f:Int))=true:=by simp
   clear hR C1 H1 C0 Z E9;gi_wp2;exact HR.o
  have N8:((f:Int)==(n:Int))=false:=by simp; omega
  have K5:=Qf (C1.o (H1.o L9));clear C1 H1;generalize N7:gL xs (x1,x2)=D0 at *
  gi_wp2;refine⟨trivial,?_⟩;refine(CallsIn.inRound lp (callsIn_wide.2 K5.o)).mono ?_;rintro e u1 ⟨ib,rfl,HI,T⟩;obtain⟨u2,D5⟩:=Qe (u1.alloc (.cells #[.pointer (some ⟨ib,0,none⟩)] 203));have A3:PM u1 u2:=by rw[D5]; exact(bf _).alloc nr _
  have I:=T.trans (A3.mono T.size);have A1:Qg (BK u1.heap.size #[.pointer (some ⟨ib,0,none⟩)] 203 u2):=Qf (by rw[D5]; exact BK.new _ _ _);have K1:=Qf (HI.out.below A3);have B5:Qg (ChI w la lc n mb (rD xs l pre ((x1,x2),f) f) u2):=Qf (by
   have:=C0.o.below I;rw[<-FV xs l pre ((x1,x2),f)] at this;exact this)
  have J9:Qg (W.grownBy u2 (some (w.heap.size+2))):=Qf (Pn I);have B4:=Qf (Z.o.below I);have lxc2:=B5.o.lx.c1;have H3:Qg (W.heap.size<=u1.heap.size):=Qf T.size;obtain⟨sb,I8⟩:=Qe u1.heap.size;rw[<-I8] at A1 H3;have F6:=B4.o;obtain⟨e0,e1,e2,e3⟩:=BK.c4 F6;rw[D5] at e0 e1 e2 e3;have K7:=Qf D5;clear T A3 I D5 F6 K5 HI c0 c1 c2 c3 lxc Z;gi_wp2;rw[<-I8,<-K7.o];clear I8 K7 e0 e1 e2 e3;gi_loopw [10] (fun i wr=>∃(k:Nat),f<=k/\k<=n/\i=.int .i64 (k:Int)/\Qg (ChI w la lc n mb (rD xs l pre ((x1,x2),f) k) wr)/\Qg (W.grownBy wr (some (w.heap.size+2)))/\Qg (pJ D0 (W.heap.size+1) ib wr)/\Qg (BK sb #[.pointer (some ⟨ib,0,none⟩)] 203 wr)/\Qg (BK Wy.heap.size #[.int .u64 x1,.int .u64 x2,.string ⟨D0.toArray⟩,.int .i64 (f:Int)] 200 wr)) (fun i _=>n-(intOf i).toNat)
  case atStart=>exact⟨f,nr,E,rfl,B5,J9,K1,A1,B4⟩
  clear B5 J9 K1 A1 B4 lxc2;obtain⟨k,O0,hk,rfl,L,HG,G4,A1,Z⟩:=hrel;have lxc:=L.o.lx.c1;by_cases I3:k<n
  case neg=>
   obtain rfl:k=n:=by omega
   have E4:¬(k:Int)<(k:Int):=by omega
   have hR:wD (fun k=>k<u.heap.size/\k≠w.heap.size+2) 0 (fun pre W=>ChI w la lc k mb (EK xs l pre) W/\u.heap.size<=W.heap.size) (fun W=>ChI w la lc k mb (LC xs l base) W) (pre++[((x1,x2),f)]) W0 Wy W .normal { tmps:=#[],defers:=[] } wr:=by
    obtain⟨r1,r2,r3⟩:=ChI.end_ (w:=w) HG.o C0.o.row (K:=fun k=>k<u.heap.size/\k≠w.heap.size+2) (fun j hj=>⟨aO hj.1 P.o.1,hj.2⟩) P.o.2.1 P.o.2.2.2;refine⟨r1,r2,r3,?_,aC P.o.1 HG.o.size⟩;rw[<-KV xs l pre ((x1,x2),f) (i:=k) (by rw[<-HN.o]; exact nr)];exact L.o
   have HR:=Qf hR;clear hR L HG G4 A1 Z;gi_wp2;exact HR.o
  case pos=>
  have E4:(k:Int)<(n:Int):=by omega
  have N:k<l.length:=by rw[<-HN.o]; exact I3
  obtain⟨b0,o0,H8,B0,q0,q1⟩:=(HP.o.ld.below L.o.bel nr) k N;have C9:=HP.o.okl _ (ak N);have I0:=HP.o.dl _ (ak N);have C8:l.getD k (0,0)=l[k]:=by simp[List.getD,N]
  have I6:k<(rD xs l pre ((x1,x2),f) k).length:=by rw[KU]; exact N
  have I4:=Np xs l pre ((x1,x2),f) I6;have C:=Iq xs l pre ((x1,x2),f) (i:=k);rw[JQ O0,C8] at C;generalize l[k]=d at *
  obtain⟨y1,y2⟩:=d;simp only at q0 q1;have J0:txD xs (y1,y2) (x1,x2)=(AV (iM D0 (gL xs (y1,y2)))).1:=by unfold txD; rw[N7]
  have I9:(txS xs (y1,y2) (x1,x2)).length=(Cw.enc (txD xs (y1,y2) (x1,x2)).length).length+(txD xs (y1,y2) (x1,x2)).length:=by rw[GZ]; unfold fF; rw[af]
  obtain⟨g1,g2,g3,g4⟩:=yJ (a:=D0) (b:=gL xs (y1,y2)) (by have:=G0.o; omega) (by omega);have L7:=xA (a:=D0) (b:=gL xs (y1,y2)) (n:=65536) (by have:=G0.o; omega) (by omega) (by omega);have F2:=(Jr L7).2.2.1;have M:PM wr wr.drew:=(bf _).drew;have D7:=Qf (L.o.below M);have G5:=Qf (G4.out.below M);have F9:=Qf (Hg (G5.o.of) G0.o (b:=gL xs (y1,y2)) (by omega));have D8:Qg (∀ad c uz,GIn jm 3 uz.heap.size uz ad (iM D0 (gL xs (y1,y2)))->Qh 150 #[.slice ad (iM D0 (gL xs (y1,y2))).length c] uz fun e w'=>e=.returned (.tuple #[.string ⟨(txD xs (y1,y2) (x1,x2)).toArray⟩,.int .i64 0])/\PM uz w'):=Qf (fun ad c uz B2=>by
   have:=Da (c:=c) B2 (by omega) (fun o ho=>by obtain⟨_,_,m1,m2,m3⟩:=F2 o ho; exact⟨by omega,by omega,by omega⟩);rw[g1,<-J0] at this;exact this)
  have D3:=A1.o.below M;have F4:=Z.o.below M;have F:Qg (∀Wx,Below wr.drew.heap.size wr.drew Wx->Wx.cell? ⟨sb,0,none⟩=some (.pointer (some ⟨ib,0,none⟩))/\Wx.cell? ⟨w.heap.size+1,0,none⟩=some (.map (some mb))/\Wx.cell? ⟨w.heap.size,0,none⟩=some (.slice la n lc)/\Wx.cell? ⟨b0,o0+k*2,none⟩=some (.int .u64 y1)/\Wx.cell? ⟨b0,o0+k*2+1,none⟩=some (.int .u64 y2)/\(Instr.lookup 138 (.map (some mb)) (.agg #[.int .u64 y1,.int .u64 y2]) false).run Tryz.prog Wx=.ok (.string ⟨(gL xs (y1,y2)).toArray⟩) Wx):=Qf (fun Wx hb=>by
   have h1:=D7.o.below hb;have h2:=D3.below hb;have h3:=(HP.o.mp.below_lt h1.bel HP.o.mp.lt).look Tryz.underlying138 (xI Wx) (a:=(y1,y2)) C9;rw[sM] at h3;have L3:b0<wr.drew.heap.size:=aO B0 D7.o.bel.size;exact⟨h2.c1,h1.dx.c1,h1.lx.c1,(hb.cell L3).trans q0,(hb.cell (p:=⟨b0,o0+k*2+1,none⟩) L3).trans q1,h3⟩)
  have A4:=F.o _ (bf _);obtain⟨e,he⟩:=Qe (BN xs l pre k);rw[<-he] at I4 C;obtain⟨tx,D4⟩:=Qe (txD xs (y1,y2) (x1,x2));rw[<-D4] at D8 I9 C;have M9:tx.length<=65536:=by rw[D4,J0]; exact g2
  have Q:=Qf (fun W=>qN tx.length (by omega) W);rw[<-I9] at Q;have M7:=bH tx;generalize (txS xs (y1,y2) (x1,x2)).length=tz at Q C;generalize tx.length=txl at Q M7;have G7:Qg (∀h,(rD xs l pre ((x1,x2),f) k)[k]'h=e):=Qf (fun _=>I4);have G8:=Qf C;have O:Qg (k<(rD xs l pre ((x1,x2),f) k).length):=Qf I6;have K0:Qg (W.grownBy wr.drew (some (w.heap.size+2))):=Qf (O7 HG.o M);have F0:=Qf D3;have E8:=Qf F4;generalize iM D0 (gL xs (y1,y2))=DF at F9 D8;subst H8;clear J0 I9 g1 g2 g3 g4 L7 F2 M D3 F4 I4 C I6 C9 I0 C8 he D4 M9 HG G4 A1 Z L;gi_wp2;refine sZ ?_;refine eZ (S:=(fun Wx=>Wx.cell? ⟨sb,0,none⟩=some (.pointer (some ⟨ib,0,none⟩))/\Wx.cell? ⟨w.heap.size+1,0,none⟩=some (.map (some mb))/\Wx.cell? ⟨w.heap.size,0,none⟩=some (.slice (some ⟨b0,o0,none⟩) n lc)/\Wx.cell? ⟨b0,o0+k*2,none⟩=some (.int .u64 y1)/\Wx.cell? ⟨b0,o0+k*2+1,none⟩=some (.int .u64 y2)/\(Instr.lookup 138 (.map (some mb)) (.agg #[.int .u64 y1,.int .u64 y2]) false).run Tryz.prog Wx=.ok (.string ⟨(gL xs (y1,y2)).toArray⟩) Wx)) [] lp (by kernel_rfl) (fun⟨_,_,h⟩=>h) (by kernel_rfl) A4 (fun hHeld=>?_);refine tl 0 ?_;refine tl 1 ?_;refine tl 2 ?_;refine tl 3 ?_;refine tl 4 ?_;refine tl 5 ?_;refine tl 6 ?_;refine cu (i:=7) (by kernel_rfl) rfl (fun K hK=>?_);go_simp
  refine F9.o.mono ?_;rintro e1 uz ⟨⟨ad,c,rfl,B2,_⟩,X⟩
  have B3:=F.o uz X;have J7:=Qf (D8.o ad c uz B2);have A8:=Qf X;clear X B2 hHeld F9;refine hK.out _ _ ((fun _=>B3)) (fun hHeld=>?_);clear hK K;refine cu (i:=8) (by kernel_rfl) rfl (fun K hK=>?_);go_simp
  refine J7.o.mono ?_;rintro e1 uy ⟨rfl,L4⟩
  have C7:=A8.o.trans (L4.mono A8.o.size);have M8:=F.o uy C7;have F8:=Qf C7;clear L4 C7 hHeld J7 A8 B3;refine hK.out _ _ ((fun _=>M8)) (fun hHeld=>?_);clear hK K;refine tl 9 ?_;refine tl 10 ?_;refine tl 11 ?_;refine tl 12 ?_;refine tl 13 ?_;refine eQ (by kernel_rfl) ?_ _;refine tC ?_;have K6:=Qf (Q.o uy);clear hHeld A4 M8 F D8 Q;gi_wp2;refine⟨trivial,?_⟩;refine(CallsIn.inRound lp (callsIn_wide.2 K6.o)).mono ?_;rintro e1 ux ⟨rfl,B1⟩;have R:=F8.o.trans (B1.mono F8.o.size);have G:=Qf (D7.o.below R);have B8:=Qf (G5.o.below R);have C2:=Qf (F0.o.below R);have A9:=Qf (E8.o.below R);have B6:=Qf (O7 K0.o R);have bxc:=G.o.bb.c1;have s0:ux.cell? ⟨w.heap.size+2,k*5,none⟩=some (.bool e.sm):=by
   have:ux.cell? ⟨w.heap.size+2,k*5,none⟩=some (.bool ((rD xs l pre ((x1,x2),f) k)[k]'O.out).sm):=G.o.cells O.o 0 _ rfl
   rwa[G7.o] at this
  have s4:ux.cell? ⟨w.heap.size+2,k*5+4,none⟩=some (.int .i64 (e.sz:Int)):=by
   have:ux.cell? ⟨w.heap.size+2,k*5+4,none⟩=some (.int .i64 (((rD xs l pre ((x1,x2),f) k)[k]'O.out).sz:Int)):=G.o.cells O.o 4 _ rfl
   rwa[G7.o] at this
  have s1:∃v,ux.cell? ⟨w.heap.size+2,k*5+1,none⟩=some v:=⟨_,G.o.cells O.o 1 _ rfl⟩;have s2:∃v,ux.cell? ⟨w.heap.size+2,k*5+2,none⟩=some v:=⟨_,G.o.cells O.o 2 _ rfl⟩;have s3:∃v,ux.cell? ⟨w.heap.size+2,k*5+3,none⟩=some v:=⟨_,G.o.cells O.o 3 _ rfl⟩;obtain⟨v1,s1⟩:=s1;obtain⟨v2,s2⟩:=s2;obtain⟨v3,s3⟩:=s3;have F7:=A9.o;obtain⟨c0,c1,c2,c3⟩:=BK.c4 F7;clear F7 B1 R K6 F8 D7 G5 F0 E8 K0;cases A7:e.sm with
  | false=>
   rw[A7] at s0;have B:=G.o.set O.o ⟨true,(x1,x2),tx,tz⟩ rfl;have C:=G8.o;rw[if_pos (.inl A7)] at C;have H:=Qf B.1;rw[<-C] at H;have B7:=Qf (bu B6.o B.2);have B9:=Qf (B8.o.grown B.2 (by have:=P.o; omega));have C3:=Qf (C2.o.grow1 B.2 (by have:=P.o; have:=H3.o; omega));have C4:=Qf (A9.o.grow1 B.2 (by have:=P.o; omega));have J:=G.o.row;have z0:=J.frozen (k*5);have z1:=J.frozen (k*5+1);have z2:=J.frozen (k*5+2);have z3:=J.frozen (k*5+3);have z4:=J.frozen (k*5+4);simp only at H B7 B9 C3 C4;clear B C J G B6 B8 C2 A9;gi_wp2;go_roundw
   case rel=>exact⟨k+1,by omega,by omega,by go_num,H,B7,B9,C3,C4⟩
   case measure=>simp[intOf] <;> omega
  | true=>
   rw[A7] at s0;by_cases M2:tz<e.sz
   ·have M3:(tz:Int)<(e.sz:Int):=by omega
    have B:=G.o.set O.o ⟨true,(x1,x2),tx,tz⟩ rfl;have C:=G8.o;rw[if_pos (.inr M2)] at C;have H:=Qf B.1;rw[<-C] at H;have B7:=Qf (bu B6.o B.2);have B9:=Qf (B8.o.grown B.2 (by have:=P.o; omega));have C3:=Qf (C2.o.grow1 B.2 (by have:=P.o; have:=H3.o; omega));have C4:=Qf (A9.o.grow1 B.2 (by have:=P.o; omega));have J:=G.o.row;have z0:=J.frozen (k*5);have z1:=J.frozen (k*5+1);have z2:=J.frozen (k*5+2);have z3:=J.frozen (k*5+3);have z4:=J.frozen (k*5+4);simp only at H B7 B9 C3 C4;clear B C J G B6 B8 C2 A9;gi_wp2;go_roundw
    case rel=>exact⟨k+1,by omega,by omega,by go_num,H,B7,B9,C3,C4⟩
    case measure=>simp[intOf] <;> omega
   ·have M3:¬(tz:Int)<(e.sz:Int):=by omega
    have C:=G8.o;rw[if_neg (by rw[A7]; simp[M2])] at C;have H:Qg (ChI w _ lc n mb (rD xs l pre ((x1,x2),f) (k+1)) ux):=Qf (by
     have e1:(rD xs l pre ((x1,x2),f) k).set k e=rD xs l pre ((x1,x2),f) k:=by
      rw[<-G7.o O.o];exact List.set_getElem_self _
     rw[C,e1];exact G.o)
    clear C G s1 s2 s3 c0 c1 c2 c3;gi_wp2;go_roundw
    case rel=>exact⟨k+1,by omega,by omega,by go_num,H,B6,B8,C2,A9⟩
    case measure=>simp[intOf] <;> omega
end
theorem Bu{xs:List Itm}{l:Qd}{ch:List Chc}{la ca:Qa}{lc cc mb nm:Nat}{w:World}(hl:dE w.heap.size w la l)(E5:GIn vJ 5 w.heap.size w ca ch)(C5:ch.length=l.length)(hm:fT vH mb nm (GN xs) w)
  (I5:l.length<=1000) (F1:∀d∈l,OkD d) (K:∀c∈ch,ChOk c) (Q:∀d∈l,(gL xs d).length<=1000000) :
  Qh 93 #[.slice la l.length lc,.slice ca ch.length cc,.map (some mb)] w fun e w'=>e=.returned (.string ⟨(BX (bodyC xs l ch)).toArray⟩)/\PM w w':=by
 have HL:=Qf hl;have G2:=Qf E5;have HM:=Qf hm;have G4:=Qf hm.lt;have G5:=Qf F1;have D3:=Qf K;have C9:=Qf Q;obtain⟨n,hn⟩:=Qe l.length;have HN:Qg (n=l.length):=Qf hn;have D1:Qg (ch.length=n):=Qf (by rw[C5,hn]);have I6:(n:Int)<=1000:=by omega
 rw[C5,<-hn];obtain⟨R,hR⟩:=Qe (bodyC xs l ch);have HR:Qg (R=Cw.enc n++(l.zip ch).flatMap fun p=>yG xs p.1 p.2):=Qf (by rw[hR]; unfold bodyC; rw[hn]);rw[<-hR];obtain⟨bb,A3⟩:=Qe w.heap.size;obtain⟨u1,S⟩:=Qe ((w.alloc (.cells #[.pointer none,.slice none 0 0] 118)).alloc (.cells #[.func (.func 145) #[] #[.pointer (some ⟨bb,0,none⟩)]] 188));have E3:PM w u1:=by rw[S]; exact((bf _).alloc nr _).alloc (by simp) _
 have E2:u1.heap[bb]? = some (.cells #[.pointer none,.slice none 0 0] 118 (0,0)):=by
  have:BK w.heap.size #[.pointer none,.slice none 0 0] 118 u1:=by rw[S]; exact(BK.new _ _ _).alloc _
  rw[A3]; exact this
 have C6:BK (bb+1) #[.func (.func 145) #[] #[.pointer (some ⟨bb,0,none⟩)]] 188 u1:=by rw[S,A3]; exact BK.new2 _ _ _ _
 have C8:Qg (BW w u1 bb [] u1):=Qf (BW.start E3 (by omega) E2);have B6:=Qf (mr n (by omega) C8.o (by simp));rw[aY] at B6;have H3:=C6.c1;have M:=Qf C6;have HU:=Qf S;have G0:Qg (bb=w.heap.size):=Qf A3;clear hl E5 C5 hm F1 K Q hn hR E3 E2 C6 S A3 C8;go_enter Tryz.func93,Tryz.ntmps93;go_wp2_with fail;rw[<-G0.o,<-HU.o]
 refine B6.o.mono ?_;rintro e u2 ⟨rfl,X⟩
 have A7:Qg (BK (bb+1) #[.func (.func 145) #[] #[.pointer (some ⟨bb,0,none⟩)]] 188 u2):=Qf (X.out.block M.o (by omega) (by decide));have D0:=Qf (aG n);have D2:=Qf (xu n);generalize Cw.enc n=E at X HR D0 D2;clear B6 HU H3 M;go_wp2_with fail;go_loopw [21] (fun i wr=>∃(k:Nat) (w0:World),k<=n/\i=.int .i64 (k:Int)/\Qg (BW w w0 bb (E++((l.zip ch).take k).flatMap fun p=>yG xs p.1 p.2) wr)/\Qg (BK (bb+1) #[.func (.func 145) #[] #[.pointer (some ⟨bb,0,none⟩)]] 188 wr)) (fun i _=>n-(intOf i).toNat)
 case atStart=>exact⟨0,u1,by omega,rfl,Qf (by simpa using X.out),A7⟩
 clear X A7;obtain⟨k,w0,hk,rfl,U,M⟩:=hrel;have F7:∀p∈(l.zip ch).take k,(yG xs p.1 p.2).length<=1000100:=fun p hp=>by
  have h1:=dK hp;have V:=List.of_mem_zip h1;exact LB (D3.o _ V.2).t (C9.o _ V.1)
 have hT:((E++((l.zip ch).take k).flatMap fun p=>yG xs p.1 p.2).length:Int)<=1000100010:=by
  have h1:=Er _ F7;have V:((l.zip ch).take k).length<=1000:=by rw[aA]; omega
  have h3:=D0.o;have h4:((l.zip ch).take k).length*1000100<=1000*1000100:=pK _ V;rw[af];omega
 clear F7;by_cases E8:k<n
 ·have H4:(k:Int)<(n:Int):=by omega
  have A4:k<l.length:=by rw[<-HN.o]; exact E8
  have C7:k<ch.length:=by rw[D1.o]; exact E8
  have B1:=U.out.bel;obtain⟨b0,o0,H0,I4,q0,q1⟩:=(HL.o.below B1 nr) k A4;obtain⟨b1,o1,H1,A2,r0,r1,r2,r3,r4⟩:=LU (G2.o) C7;have F0:(((l.zip ch).take (k+1)).flatMap fun p=>yG xs p.1 p.2)=(((l.zip ch).take k).flatMap fun p=>yG xs p.1 p.2)++yG xs l[k] ch[k]:=by rw[xH A4 C7,bg]; simp
  have A6:=G5.o _ (ak A4);have K:=D3.o _ (ak C7);have Q:=C9.o _ (ak A4);generalize l[k]=d at *
  generalize ch[k]=c at *
  obtain⟨x,y⟩:=d;obtain⟨sm,⟨p,q⟩,tx,sz⟩:=c;simp only at q0 q1 r0 r1 r2 r3 r4;have A0:=Qf F0;generalize (((l.zip ch).take k).flatMap fun p=>yG xs p.1 p.2)=F at U A0 hT;obtain⟨F2,B9⟩:∃F2,F2=(((l.zip ch).take (k+1)).flatMap fun p=>yG xs p.1 p.2):=⟨_,rfl⟩;rw[<-B9] at A0;have A8:Qg ((((l.zip ch).take (k+1)).flatMap fun p=>yG xs p.1 p.2)=F2):=Qf B9.symm;obtain⟨T,C2⟩:=Qe (E++F);rw[<-C2] at U hT;have D4:=Qf C2;obtain⟨v,hv⟩:=Qe (wr.alloc (.cells #[.int .u64 x,.int .u64 y] 54));have C4:PM wr v:=by rw[hv]; exact(bf _).alloc nr _
  have F6:BK wr.heap.size #[.int .u64 x,.int .u64 y] 54 v:=by rw[hv]; exact BK.new _ _ _
  have B3:=Qf (U.out.below C4).anew;have A5:wr.heap.size≠bb:=by
   have:=yQ U.out.bld;omega
  have E7:=M.o.below C4
  -- what stays through the builder's writes
  have J:Qg (∀T' W',BW w v bb T' W'->W'.cell? ⟨wr.heap.size,0,none⟩=some (.int .u64 x)/\W'.cell? ⟨wr.heap.size,1,none⟩=some (.int .u64 y)/\W'.cell? ⟨bb+1,0,none⟩=some (.func (.func 145) #[] #[.pointer (some ⟨bb,0,none⟩)])/\BK (bb+1) #[.func (.func 145) #[] #[.pointer (some ⟨bb,0,none⟩)]] 188 W'/\
    W'.cell? ⟨b1,o1+k*5,none⟩=some (.bool sm)/\W'.cell? ⟨b1,o1+k*5+1,none⟩=some (.int .u64 p)/\W'.cell? ⟨b1,o1+k*5+2,none⟩=some (.int .u64 q)/\W'.cell? ⟨b1,o1+k*5+3,none⟩=some (.string ⟨tx.toArray⟩)/\
    (Instr.lookup 138 (.map (some mb)) (.agg #[.int .u64 x,.int .u64 y]) false).run Tryz.prog W'=.ok (.string ⟨(gL xs (x,y)).toArray⟩) W'):=Qf (fun T' W' h=>by
   have h1:=h.block F6 A5 (by decide);have V:=h.block E7 (by omega) (by decide);have hc:=h.bel;have h3:=(HM.o.below_lt hc G4.o).look Tryz.underlying138 (xI W') (a:=(x,y)) A6;rw[sM] at h3;exact⟨(BK.c2 h1).1,(BK.c2 h1).2,BK.c1 V,V,(hc.cell A2).trans r0,(hc.cell (p:=⟨b1,o1+k*5+1,none⟩) A2).trans r1,(hc.cell (p:=⟨b1,o1+k*5+2,none⟩) A2).trans r2,(hc.cell (p:=⟨b1,o1+k*5+3,none⟩) A2).trans r3,h3⟩)
  have G:=Qf (fun W=>nP x y (by have:=A6.1; unfold Ku at this; simp only at this; omega) (by have:=A6.2; unfold Ku at this; simp only at this; omega) W);have G1:=Qf (fun W=>nP p q (by have:=K.b.1; unfold Ku at this; simp only at this; omega) (by have:=K.b.2; unfold Ku at this; simp only at this; omega) W);have E0:∀z,(beD z).length=16:=bX;have L:Qg (∀z,(beD z).length=16):=Qf E0;have G7:=Qf K.t;have G3:=Qf Q;have N:=Qf hT;have E6:yG xs (x,y) ⟨sm,(p,q),tx,sz⟩=beD (x,y)++(if sm=true then Cw.enc 1++(beD (p,q)++(Cw.enc tx.length++tx)) else Cw.enc 0++(Cw.enc (gL xs (x,y)).length++gL xs (x,y))):=rfl;have Z:Qg (F2=F++(beD (x,y)++(if sm=true then Cw.enc 1++(beD (p,q)++(Cw.enc tx.length++tx)) else Cw.enc 0++(Cw.enc (gL xs (x,y)).length++gL xs (x,y))))):=Qf (by rw[A0.o,E6]);obtain⟨c0,c1,_,_,_⟩:=J.o _ _ B3.o;rw[hv] at c0 c1;have HV:=Qf hv;subst H0;subst H1;clear F0 B9 A0 C2 C4 F6 hv U E7 A6 K Q E0 E6 r0 r1 r2 r3 r4 hT M B1;go_wp2_with fail
  refine(G.o _).mono ?_;rintro e u3 ⟨rfl,C3⟩
  rw[<-HV.o] at C3;have O:=Qf (B3.o.below C3);have D5:=Qf (cz O.o (beD (x,y)) (by have:=N.o; rw[L.o]; omega));clear C3 c0 c1 HV B3;go_wp2_with fail
  refine D5.o.mono ?_;rintro e u4 ⟨rfl,C⟩
  obtain⟨d0,d1,df,dk,s0,s1,s2,s3,dl⟩:=J.o _ _ C.o;clear D5 O dk;cases sm with
  | true=>
   have B4:Qg (F2=F++(beD (x,y)++(Cw.enc 1++(beD (p,q)++(Cw.enc tx.length++tx))))):=Qf (by rw[Z.o,if_pos rfl]);have I:=Qf (mr 1 (by omega) C.o (by rw[af,L.o]; have:=N.o; omega));rw[show((1:Nat):Int)=1 from rfl] at I;have H2:=aG 1;clear Z dl d0 d1;generalize B8:Cw.enc 1=E1 at *
   clear B8;go_wp2_with fail
   refine I.o.mono ?_;rintro e u5 ⟨rfl,B⟩
   obtain⟨_,_,_,_,_,s1,s2,s3,_⟩:=J.o _ _ B.o;clear I C df s0;go_wp2_with fail
   refine(G1.o _).mono ?_;rintro e u6 ⟨rfl,D9⟩
   have Y:=Qf (B.o.below D9);have D6:=Qf (cz Y.o (beD (p,q)) (by simp only[af,L.o]; have:=N.o; omega));clear D9 B;go_wp2_with fail
   refine D6.o.mono ?_;rintro e u7 ⟨rfl,B2⟩
   obtain⟨_,_,df,dk,_,_,_,s3,_⟩:=J.o _ _ B2.out;have P:=Qf (vE tx (by have:=G7.o; omega) B2.out (by simp only[af,L.o]; have:=N.o; omega) df);clear D6 Y dk s1 s2;go_wp2_with fail
   refine P.o.mono ?_;rintro e u8 ⟨rfl,H⟩
   obtain⟨_,_,_,dk,_⟩:=J.o _ _ H.out;have B7:Qg (BW w v bb (E++F2) u8):=Qf (by
    have:=H.out;rw[D4.o] at this;rw[B4.o];simpa only[ay] using this)
   have B5:=Qf dk;clear H B2 P df dk s3;go_wp2_with fail;go_roundw
   case rel=>exact⟨k+1,v,by omega,by go_num,by rw[A8.o]; exact B7,B5⟩
   case measure=>simp[intOf] <;> omega
  | false=>
   have B4:Qg (F2=F++(beD (x,y)++(Cw.enc 0++(Cw.enc (gL xs (x,y)).length++gL xs (x,y))))):=Qf (by rw[Z.o,if_neg (by simp)]);have I:=Qf (mr 0 (by omega) C.o (by rw[af,L.o]; have:=N.o; omega));rw[show((0:Nat):Int)=0 from rfl] at I;have H2:=aG 0;clear Z d0 d1 dl;generalize B8:Cw.enc 0=E1 at *
   clear B8;go_wp2_with fail
   refine I.o.mono ?_;rintro e u5 ⟨rfl,B⟩
   obtain⟨d0,d1,df,_,_,_,_,_,dl⟩:=J.o _ _ B.o;have P:=Qf (vE (gL xs (x,y)) (by have:=G3.o; omega) B.o (by simp only[af,L.o]; have:=N.o; omega) df);generalize gL xs (x,y)=D at *
   clear I C s0 s1 s2 s3;go_wp2_with fail
   refine P.o.mono ?_;rintro e u8 ⟨rfl,H⟩
   obtain⟨_,_,_,dk,_⟩:=J.o _ _ H.out;have B7:Qg (BW w v bb (E++F2) u8):=Qf (by
    have:=H.out;rw[D4.o] at this;rw[B4.o];simpa only[ay] using this)
   have B5:=Qf dk;clear H B P df dk d0 d1 dl;go_wp2_with fail;go_roundw
   case rel=>exact⟨k+1,v,by omega,by go_num,by rw[A8.o]; exact B7,B5⟩
   case measure=>simp[intOf] <;> omega
 ·obtain rfl:k=n:=by omega
  have H4:¬(k:Int)<(k:Int):=by omega
  have F4:(l.zip ch).take k=l.zip ch:=ag (by rw[List.length_zip]; have:=HN.o; have:=D1.o; omega);rw[F4] at U hT;rw[<-HR.o] at U hT;have A5:R≠[]:=by rw[HR.o]; have:=D2.o; simp[this]
  have A9:=Qf (vC U.out A5);have A1:=Qf (fun W=>qV R W (by omega));obtain⟨h1,V⟩:=okD_dig R;have G:=Qf (fun W=>nP (iY R).1 (iY R).2 h1 V W);rw[show((iY R).1,(iY R).2)=iY R from rfl] at G;have HS:Qg ((⟨R.toArray⟩:ByteArray)++⟨(beD (iY R)).toArray⟩=⟨(BX R).toArray⟩):=Qf (by rw[Bt]; simp[BX]);have H7:=bH R;have F3:=bH (beD (iY R));rw[bX] at F3;obtain⟨rl,H6⟩:=Qe R.length;rw[<-H6] at H7 hT;generalize (iY R).1=x at A1 G;generalize (iY R).2=y at A1 G;generalize beD (iY R)=T at G HS F3;obtain⟨RR,C0⟩:=Qe (BX R);rw[<-C0] at HS;have G6:=Qf C0;clear C0;clear U F4 A5 h1 V HR M;go_wp2_with fail
  refine A9.o.mono ?_;rintro e u3 ⟨rfl,O⟩
  have C:=Qf O.o.bel;clear A9 O;go_wp2_with fail
  refine(A1.o _).mono ?_;rintro e u4 ⟨rfl,D7⟩
  have B:=Qf (C.o.trans (D7.mono C.o.size));clear D7 C A1;go_wp2_with fail
  refine(G.o _).mono ?_;rintro e u5 ⟨rfl,D8⟩
  have Y:=Qf (B.o.trans (D8.mono B.o.size));have hs:=HS.o;clear D8 B G HS;go_wp2_with fail;go_ret;exact⟨by rw[<-G6.o]; first | done | rfl,Y.o⟩
theorem Oy(W:World):(zeroValue 4).run Tryz.prog W=.ok (.bool false) W:=by kernel_rfl
def NL(xs:List Itm)(k:Nat)(d:Int×Int):Option Value:=GN (xs.take k) d
theorem JC(B:Asc xs)(A:k<xs.length)(d:Int×Int):NL xs (k+1) d=if d=xs[k].d then some (.string ⟨(xs[k]).data.toArray⟩) else NL xs k d:=by
 unfold NL GN;rw[ai A,List.find?_append];by_cases e:d=xs[k].d
 ·rw[if_pos e]
  have:(xs.take k).find? (fun x=>decide (x.d=d))=none:=by
   rw[List.find?_eq_none];intro x D;obtain⟨j,C,rfl⟩:=aV D;rw[aA] at C;simp only[List.getElem_take,decide_eq_true_eq];intro h;have:=B j k (by omega) A (by omega);rw[h,e,fO] at this;omega
  rw[this];simp[e]
 ·rw[if_neg e]
  cases(xs.take k).find? (fun x=>decide (x.d=d)) with
  | some x=>rfl
  | none=>simp[Ne.symm e]
def Nq(seen:Qd)(d:Int×Int):Option Value:=if d∈seen then some (.bool true) else none
theorem KW(seen:Qd)(d:Int×Int):(Nq seen d).getD (.bool false)=.bool (decide (d∈seen)):=by
 unfold Nq;by_cases e:d∈seen <;> simp[e]
theorem OM(A:k<l.length):pkE xs (l.drop k) (l.take k)=if I7 xs l[k]=false then 8 else if l[k]∈l.take k then 7 else pkE xs (l.drop (k+1)) (l.take (k+1)):=by
 rw[aN A,pkE,ai A]
structure Pt (xs:List Itm) (pc:Nat):Prop where
 asc:Asc xs
 okd:∀x∈xs,OkD x.d
 dat:∀x∈xs,x.data.length<=1000
 len:(xs.length:Int)<=1000000
 cap:xs.length<=pc
theorem NQ(h:∀x∈xs,x.data.length<=1000)(d:Int×Int):(gL xs d).length<=1000:=by
 unfold gL De;cases A:xs.find? (fun x=>decide (x.d=d)) with
 | none=>simp
 | some x=>exact h x (List.mem_of_find?_eq_some A)
theorem KP:OkD (0,0):=⟨⟨by decide,by decide⟩,⟨by decide,by decide⟩⟩
theorem ND(C:∀d,(gL xs d).length<=1000)(E:∀d∈l,OkD d)(D:∀d∈base,OkD d):∀c∈Gg xs l base,ChOk c:=by
 intro c B;unfold Gg at B;obtain⟨i,_,rfl⟩:=bV.1 B;have key:ChOk (vT xs (l.getD i (0,0)) (pkO xs (l.getD i (0,0)) (base++l.take i))):=by
  cases A:pkO xs (l.getD i (0,0)) (base++l.take i) with
  | none=>exact⟨KP,by simp[vT]⟩
  | some p=>
   obtain⟨b,z⟩:=p;obtain⟨m1,m2⟩:=Ie A;have F:=C b;have G:=C (l.getD i (0,0));have H:=(yJ (a:=gL xs b) (b:=gL xs (l.getD i (0,0))) (by omega) (by omega)).2.1;refine⟨?_,?_⟩
   ·rcases aD.1 m1 with h | h
    ·exact D _ h
    ·exact E _ (dK h)
   ·simp only[vT]; unfold txD; omega
 unfold Km;split
 ·exact⟨key.b,key.t⟩
 ·exact key
theorem Eu(xs:List Itm)(l base:Qd):(Gg xs l base).length=l.length:=by simp[Gg]
theorem PG{pa:Qa}{pc lc bc:Nat}(hp:Pt xs pc)(hi:Its w.heap.size w pa xs)(hl:dE w.heap.size w la l)(hb:dE w.heap.size w ba base)(F6:∀d∈l,OkD d)(F5:∀d∈base,OkD d)(H0:(l.length:Int)<=1000000)(G6:(base.length:Int)<=1000000)(H5:∀x∈vB l base,x.2≠l.length->gL xs x.1=[2,0]):
  Qh 49 #[.slice pa xs.length pc,.slice la l.length lc,.slice ba base.length bc] w fun e w'=>e=.returned (.tuple #[.string ⟨(zP xs l base).1.toArray⟩,.int .i64 (zP xs l base).2])/\PM w w':=by
 have G2:=Qf H5;have HP:=Qf hp;have HI:=Qf hi;have HL:=Qf hl;have D5:=Qf hb;have B1:=Qf F6;have E1:=Qf F5;have E3:Qg (∀W,PM w W->jQ W pa xs pc):=Qf (fun W hb=>⟨(hi.below hb nr).mono hb.size,hp.cap,by have:=hp.len; omega,fun x hx=>by have:=hp.dat x hx; omega⟩);obtain⟨nx,N⟩:=Qe xs.length;obtain⟨n,hn⟩:=Qe l.length;obtain⟨nb,B5⟩:=Qe base.length;have B0:Qg (nx=xs.length):=Qf N;have HN:Qg (n=l.length):=Qf hn;have A9:Qg (nb=base.length):=Qf B5;have H6:=hp.len;rw[<-N] at H6;rw[<-hn] at H0;rw[<-B5] at G6;obtain⟨R,hR⟩:=Qe (zP xs l base);have HR:=Qf hR;rw[<-hR,<-N,<-hn,<-B5];have I3:=@run_makeMap Tryz.prog;clear hp hi hl hb F6 F5 N hn B5 hR;by_cases C1:1000<n
 ·have G5:(1000:Int)<(n:Int):=by omega
  have J:Qg (R=([],4)):=Qf (by
   rw[HR.o];have:Cs xs l base=4:=by unfold Cs; rw[<-HN.o,if_pos C1]
   unfold zP;rw[this]
   rfl)
  have A6:=Qf (Below.refl w.heap.size w);clear HR;go_enter Tryz.func49,Tryz.ntmps49;go_wp2_with fail;go_ret2;exact⟨by rw[J.o]; first | done | rfl,A6.o⟩
 have G5:¬(1000:Int)<(n:Int):=by omega
 have V:Qg (Cs xs l base=if pkE xs l []≠0 then pkE xs l [] else bsE xs base):=Qf (by unfold Cs; rw[<-HN.o,if_neg C1]);obtain⟨q,hq⟩:=Qe w.heap.size;have HQ:Qg (q=w.heap.size):=Qf hq;have D7:Qg (fT vH q 0 (NL xs 0) (w.alloc (.map #[] 0))):=Qf (by rw[hq]; exact(fT.made vH w).eq (fun d=>rfl));have A6:Qg (PM w (w.alloc (.map #[] 0))):=Qf ((bf _).alloc nr _);clear hq;go_enter Tryz.func49,Tryz.ntmps49;go_wp2_with fail;rw[<-HQ.o];go_loopw [22] (fun i wr=>∃k:Nat,k<=nx/\i=.int .i64 (k:Int)/\Qg (fT vH q k (NL xs k) wr)/\Qg (PM w wr)) (fun i _=>nx-(intOf i).toNat)
 case atStart=>exact⟨0,by omega,rfl,D7,A6⟩
 clear D7 A6;obtain⟨k,hk,rfl,HM,D⟩:=hrel;by_cases H1:k<nx
 case pos=>
  have G9:(k:Int)<(nx:Int):=by omega
  have C7:k<xs.length:=by rw[<-B0.o]; exact H1
  obtain⟨b0,o0,Z,E9,q0,q1,q2⟩:=(HI.o.below D.out nr) k C7;have Y:=HP.o.okd _ (ak C7);have N:=JC HP.o.asc C7;generalize xs[k]=x at *
  obtain⟨⟨x1,x2⟩,data⟩:=x;simp only at q0 q1 q2 Y N;obtain⟨v,P⟩:=Qe (wr.alloc (.cells #[.int .u64 x1,.int .u64 x2,.string ⟨data.toArray⟩] 56));have F:PM wr v:=by rw[P]; exact(bf _).alloc nr _
  have K:BK wr.heap.size #[.int .u64 x1,.int .u64 x2,.string ⟨data.toArray⟩] 56 v:=by rw[P]; exact BK.new _ _ _
  have hm:=HM.out.below F;obtain⟨v2,O,A1,X,C9⟩:=hm.put Tryz.underlying138 (a:=(x1,x2)) Y (by omega) (.string ⟨data.toArray⟩);have B9:(Instr.mapUpdate 138 (.map (some q)) (.agg #[.int .u64 x1,.int .u64 x2]) (.string ⟨data.toArray⟩)).run Tryz.prog v=.ok () v2:=O;have C5:Qg (fT vH q (k+1) (NL xs (k+1)) v2):=Qf (A1.eq (fun d=>by rw[N d]));have Q:Qg (PM w v2):=Qf ((D.out.trans (F.mono D.out.size)).grown X (aC D.out.size F.size) (fun j e=>by cases e; rw[HQ.o]; exact nr));obtain⟨c0,c1,c2⟩:=BK.c3 K;rw[P] at B9 c0 c1 c2;subst Z;clear P F K hm O A1 X C9 N Y HM D;go_wp2_with fail;go_roundw
  case rel=>exact⟨k+1,by omega,by go_num,C5,Q⟩
  case measure=>simp[intOf] <;> omega
 case neg=>
 obtain rfl:k=nx:=by omega
 have G9:¬(k:Int)<(k:Int):=by omega
 have E:Qg (fT vH q k (GN xs) wr):=Qf (HM.out.eq (fun d=>by unfold NL; rw[B0.o,rC]));obtain⟨q2,A2⟩:=Qe wr.heap.size;have E5:Qg (q2=wr.heap.size):=Qf A2;have D8:Qg (fT vH q2 0 (Nq (l.take 0)) (wr.alloc (.map #[] 0))):=Qf (by rw[A2]; exact(fT.made vH wr).eq (fun d=>by simp[Nq]));have B7:Qg (fT vH q k (GN xs) (wr.alloc (.map #[] 0))):=Qf (E.o.alloc _);have D4:Qg (PM w (wr.alloc (.map #[] 0))):=Qf (D.out.alloc D.out.size _);have E6:Qg (q<q2/\w.heap.size<=q2):=Qf ⟨by rw[A2]; exact E.o.lt,by rw[A2]; exact D.out.size⟩;clear A2 HM D E;go_wp2_with fail;rw[<-E5.o];clear E5;go_loopw [35] (fun i wr=>∃j:Nat,j<=n/\i=.int .i64 (j:Int)/\Qg (fT vH q k (GN xs) wr)/\Qg (fT vH q2 j (Nq (l.take j)) wr)/\Qg (PM w wr)/\Qg (pkE xs l []=pkE xs (l.drop j) (l.take j))) (fun i _=>n-(intOf i).toNat)
 case atStart=>exact⟨0,by omega,rfl,B7,D8,D4,Qf (by simp)⟩
 clear D8 B7 D4;obtain⟨j,hj,rfl,E,HM,D,B2⟩:=hrel;by_cases F2:j<n
 case pos=>
  have G8:(j:Int)<(n:Int):=by omega
  have B3:j<l.length:=by rw[<-HN.o]; exact F2
  obtain⟨b0,o0,Z,E9,r0,r1⟩:=(HL.o.below D.out nr) j B3;have Y:=B1.o _ (ak B3);have F7:=OM (xs:=xs) B3;have A3:l.take (j+1)=l.take j++[l[j]]:=ai B3;generalize l[j]=d at *
  obtain⟨x1,x2⟩:=d;simp only at r0 r1;obtain⟨v,P⟩:=Qe (wr.alloc (.cells #[.int .u64 x1,.int .u64 x2] 54));have F:PM wr v:=by rw[P]; exact(bf _).alloc nr _
  have K:BK wr.heap.size #[.int .u64 x1,.int .u64 x2] 54 v:=by rw[P]; exact BK.new _ _ _
  have G:=D.out.trans (F.mono D.out.size);have I:=Qf (I6 pa xs pc x1 x2 v (E3.o v G) HP.o.asc);rw[<-B0.o] at I;have M:=Qf (E.o.below F);have E0:=Qf (HM.out.below F);obtain⟨c0,c1⟩:=BK.c2 K;have E8:=Qf K;have S:=Qf G;rw[P] at I c0 c1;have HV:=Qf P;have B:Qg (pkE xs l []=if I7 xs (x1,x2)=false then 8 else if(x1,x2)∈l.take j then 7 else pkE xs (l.drop (j+1)) (l.take (j+1))):=Qf (B2.out.trans F7);have C6:Qg (l.take (j+1)=l.take j++[(x1,x2)]):=Qf A3;subst Z;clear P F K G F7 A3 D E HM B2;go_wp2_with fail
  refine I.o.mono ?_;rintro e u ⟨rfl,C⟩
  rw[<-HV.o] at C;have L:=Qf (S.o.trans (C.mono S.o.size));have T:=Qf (M.o.below C);have A8:=E0.o.below C;have D0:=E8.o.below C;clear I c0 c1 HV C S M E0 E8;cases hh:I7 xs (x1,x2) with
  | false=>
   have J:Qg (R=([],8)):=Qf (by
    have h1:=B.o;rw[if_pos hh] at h1;have U:=V.o;rw[h1,if_pos (by decide)] at U;rw[HR.o]; unfold zP; rw[U]; rfl)
   clear HR V B;go_wp2_with fail;go_ret2;exact⟨by rw[J.o]; first | done | rfl,L.o⟩
  | true=>
   have B4:=A8.look Tryz.underlying105 (Oy u) (a:=(x1,x2)) Y;rw[KW] at B4;have C3:(Instr.lookup 105 (.map (some q2)) (.agg #[.int .u64 x1,.int .u64 x2]) false).run Tryz.prog u=.ok (.bool (decide ((x1,x2)∈l.take j))) u:=B4;obtain⟨c0,c1⟩:=BK.c2 D0;by_cases H:(x1,x2)∈l.take j
   ·have J:Qg (R=([],7)):=Qf (by
     have h1:=B.o;rw[if_neg (by rw[hh]; simp),if_pos H] at h1;have U:=V.o;rw[h1,if_pos (by decide)] at U;rw[HR.o]; unfold zP; rw[U]; rfl)
    rw[decide_eq_true H] at C3;clear HR V B B4 H D0 A8;go_wp2_with fail;go_ret2;exact⟨by rw[J.o]; first | done | rfl,L.o⟩
   ·rw[decide_eq_false H] at C3
    obtain⟨v2,O,A1,X,C9⟩:=A8.put Tryz.underlying105 (a:=(x1,x2)) Y (by omega) (.bool true);have B9:(Instr.mapUpdate 105 (.map (some q2)) (.agg #[.int .u64 x1,.int .u64 x2]) (.bool true)).run Tryz.prog u=.ok () v2:=O;have C5:Qg (fT vH q2 (j+1) (Nq (l.take (j+1))) v2):=Qf (A1.eq (fun d=>by
     rw[C6.o];unfold Nq;by_cases e:d=(x1,x2)
     ·subst e; simp
     ·simp[e]))
    have D9:Qg (fT vH q k (GN xs) v2):=Qf (T.o.kept X (by have:=E6.o.1; intro e; injection e with e; omega));have Q:Qg (PM w v2):=Qf (L.o.grown X L.o.size (fun j e=>by cases e; exact E6.o.2));have E4:Qg (pkE xs l []=pkE xs (l.drop (j+1)) (l.take (j+1))):=Qf (by
     have h1:=B.o
     rwa[if_neg (by rw[hh]; simp),if_neg H] at h1)
    clear B4 H D0 A8 O A1 X C9 B T L;go_wp2_with fail;go_roundw
    case rel=>exact⟨j+1,by omega,by go_num,D9,C5,Q,E4⟩
    case measure=>simp[intOf] <;> omega
 case neg=>
 obtain rfl:j=n:=by omega
 have G8:¬(j:Int)<(j:Int):=by omega
 have B:Qg (Cs xs l base=bsE xs base):=Qf (by
  have h1:=B2.out;have e1:l.drop j=[]:=dV (by have:=HN.o; omega);rw[e1] at h1;have U:=V.o;rw[h1] at U;rw[U,if_neg (by simp[pkE])])
 clear V B2 HM;go_wp2_with fail;go_loopw [51] (fun i wr=>∃m:Nat,m<=nb/\i=.int .i64 (m:Int)/\Qg (fT vH q k (GN xs) wr)/\Qg (PM w wr)/\Qg (∀d∈base.take m,I7 xs d=true)) (fun i _=>nb-(intOf i).toNat)
 case atStart=>exact⟨0,by omega,rfl,E,D,Qf (by simp)⟩
 clear E D;obtain⟨m,hm,rfl,E,D,A7⟩:=hrel;by_cases F3:m<nb
 case pos=>
  have H3:(m:Int)<(nb:Int):=by omega
  have C8:m<base.length:=by rw[<-A9.o]; exact F3
  obtain⟨b0,o0,Z,E9,r0,r1⟩:=(D5.o.below D.out nr) m C8;have A3:base.take (m+1)=base.take m++[base[m]]:=ai C8;have F4:=ak C8;generalize base[m]=d at *
  obtain⟨x1,x2⟩:=d;simp only at r0 r1;obtain⟨v,P⟩:=Qe (wr.alloc (.cells #[.int .u64 x1,.int .u64 x2] 54));have F:PM wr v:=by rw[P]; exact(bf _).alloc nr _
  have K:BK wr.heap.size #[.int .u64 x1,.int .u64 x2] 54 v:=by rw[P]; exact BK.new _ _ _
  have G:=D.out.trans (F.mono D.out.size);have I:=Qf (I6 pa xs pc x1 x2 v (E3.o v G) HP.o.asc);rw[<-B0.o] at I;have M:=Qf (E.o.below F);obtain⟨c0,c1⟩:=BK.c2 K;have S:=Qf G;rw[P] at I c0 c1;have HV:=Qf P;have C6:Qg (base.take (m+1)=base.take m++[(x1,x2)]):=Qf A3;have G1:Qg ((x1,x2)∈base):=Qf F4;subst Z;clear P F K G A3 D E F4;go_wp2_with fail
  refine I.o.mono ?_;rintro e u ⟨rfl,C⟩
  rw[<-HV.o] at C;have L:=Qf (S.o.trans (C.mono S.o.size));have T:=Qf (M.o.below C);clear I c0 c1 HV C S M;cases hh:I7 xs (x1,x2) with
  | false=>
   have J:Qg (R=([],8)):=Qf (by
    have U:=B.o;have h3:bsE xs base=8:=by
     unfold bsE;rw[if_neg (fun h=>by rw[List.all_eq_true.1 h _ G1.o] at hh; cases hh)]
    rw[h3] at U;rw[HR.o]; unfold zP; rw[U]; rfl)
   clear HR B;go_wp2_with fail;go_ret2;exact⟨by rw[J.o]; first | done | rfl,L.o⟩
  | true=>
   have D6:Qg (∀d∈base.take (m+1),I7 xs d=true):=Qf (fun d hd=>by
    rw[C6.o] at hd;rcases aD.1 hd with h | h
    ·exact A7.out d h
    ·rw[aH.1 h]; exact hh)
   clear A7 hh;go_wp2_with fail;go_roundw
   case rel=>exact⟨m+1,by omega,by go_num,T,L,D6⟩
   case measure=>simp[intOf] <;> omega
 case neg=>
 obtain rfl:m=nb:=by omega
 have H3:¬(m:Int)<(m:Int):=by omega
 have J:Qg (R=(BX (Ih xs l base),0)):=Qf (by
  have U:=B.o;have h3:bsE xs base=0:=by
   unfold bsE;have:=A7.out;rw[show base.take m=base from ag (by have:=A9.o; omega)] at this;rw[if_pos (List.all_eq_true.2 this)]
  rw[h3] at U;rw[HR.o]; unfold zP; rw[U]; rfl)
 have A0:=NQ HP.o.dat;have C4:=Qf (Gt (lc:=lc) (bc:=bc) (⟨(HL.o.below D.out nr).mono D.out.size,(D5.o.below D.out nr).mono D.out.size,E.o,B1.o,E1.o,by rw[<-HN.o]; omega,by rw[<-A9.o]; omega,fun d _=>A0 d,fun d _=>A0 d,G2.o⟩:Py xs l base la ba q k wr));rw[<-HN.o,<-A9.o] at C4;have D3:Qg (∀uu,PM wr uu->GIn vJ 5 uu.heap.size uu (some ⟨wr.heap.size+2,0,none⟩) (Gg xs l base)->Qh 93 #[.slice la j lc,.slice (some ⟨wr.heap.size+2,0,none⟩) j j,.map (some q)] uu fun e w'=>e=.returned (.string ⟨(BX (Ih xs l base)).toArray⟩)/\PM uu w'):=Qf (fun uu hb hg=>by
  have F1:=D.out.trans (hb.mono D.out.size);have:=Bu (lc:=lc) (cc:=j) (ca:=some ⟨wr.heap.size+2,0,none⟩) ((HL.o.below F1 nr).mono F1.size) hg (Eu xs l base) (E.o.below hb) (by rw[<-HN.o]; omega) B1.o (ND A0 B1.o E1.o) (fun d _=>by have:=A0 d; omega);rw[LX,Eu,<-HN.o] at this;exact this)
 clear HR B A7 A0;go_wp2_with fail
 refine C4.o.mono ?_;rintro e uu ⟨rfl,HG,C⟩
 have D2:=Qf (D3.o uu C HG.out);have Q:=Qf (D.out.trans (C.mono D.out.size));clear C4 D3 C HG D E;go_wp2_with fail
 refine D2.o.mono ?_;rintro e u3 ⟨rfl,F0⟩
 have F9:=Qf (Q.o.trans (F0.mono Q.o.size));clear F0 Q D2;go_wp2_with fail;go_ret2;exact⟨by rw[J.o]; first | done | rfl,F9.o⟩
