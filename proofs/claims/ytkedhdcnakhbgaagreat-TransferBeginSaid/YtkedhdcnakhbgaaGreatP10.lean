/- Joined texts: PkN, PkJa, PkJb, PkJc, PkQd, PkJe. -/
import Derived.Test.YtkedhdcnakhbgaaGreatP3
import Derived.Test.YtkedhdcnakhbgaaGreatK5
import Derived.Test.YtkedhdcnakhbgaaGreatP9
import Derived.Test.YtkedhdcnakhbgaaGreatP1
import Derived.Test.YtkedhdcnakhbgaaGreatP0
import Derived.Test.YtkedhdcnakhbgaaGreatK6
import Derived.Laws.EntriesVeiled
import Derived.Test.YtkedhdcnakhbgaaGreatP8
import Derived.Test.YtkedhdcnakhbgaaGreatK2
/- The reference's packs: Seal,and the cursor's number and digest. -/
set_option linter.unusedSimpArgs false
set_option maxRecDepth 100000
set_option maxHeartbeats 16000000
namespace Go.Proofs.YtkedhdcnakhbgaaGreat
open Go.RowKit Go.Shelf
set_option linter.unusedVariables false
variable {gf:FuncId}{st:List Dop×Qb}{bs:List Value}{B M N b l lb n tb vc:Nat}{o o':Obj}{va:Qa}{a:Qb}{W W' w:World}
theorem okD_dig(b:Qb):(0<=(iY b).1/\(iY b).1<=18446744073709551615)/\(0<=(iY b).2/\(iY b).2<=18446744073709551615):=by
 have:=digS_ok b;unfold OkD Ku at this;omega
theorem BK.new3(W:World)(o o2:Obj)(cs:Array Value)(t:TypeId):BK (W.heap.size+1+1) cs t (((W.alloc o).alloc o2).alloc (.cells cs t)):=by
 have:=BK.new ((W.alloc o).alloc o2) cs t
 rwa[show((W.alloc o).alloc o2).heap.size=W.heap.size+1+1 by simp] at this
theorem BK.new4(W:World)(o o2 o3:Obj)(cs:Array Value)(t:TypeId):BK (W.heap.size+1+1+1) cs t ((((W.alloc o).alloc o2).alloc o3).alloc (.cells cs t)):=by
 have:=BK.new (((W.alloc o).alloc o2).alloc o3) cs t
 rwa[show(((W.alloc o).alloc o2).alloc o3).heap.size=W.heap.size+1+1+1 by simp] at this
theorem Gx(h:Lib.IsBuilderF 118 5 B b bs W):Qh 225 #[.pointer (some ⟨b,0,none⟩)] W fun e w'=>e=.returned (.int .i64 (bs.length:Int))/\w'=W:=by
 have key:∃a c,W.cell? ⟨b,1,none⟩=some (.slice a bs.length c):=by
  rcases h with⟨_,v,E,C,_⟩ | ⟨_,v,E,C,_⟩
  all_goals
   have D:W.cell? ⟨b,1,none⟩=some v:=by rw[Lib.cell_of_heap E]; rfl
   rcases C.2 with⟨rfl,F⟩ | ⟨g,cap,cur,fz,rfl,_⟩
   ·exact⟨none,0,by rw[D,F]⟩
   ·exact⟨_,_,D⟩
 obtain⟨a,c,D⟩:=key;generalize bs.length=n at *
 clear h;go_enter Tryz.func225,Tryz.ntmps225;go_wp2_with fail;go_ret;exact⟨rfl,rfl⟩
theorem Bp(h:Lib.IsBuilderF 118 5 B b bs W):Qh 226 #[.pointer (some ⟨b,0,none⟩)] W fun e w'=>e=.returned (.tuple #[])/\w'=(W.setCell ⟨b,0,none⟩ (.pointer none)).setCell ⟨b,1,none⟩ (.slice none 0 0):=by
 have key:∃p v,BK b #[p,v] 118 W:=by
  rcases h with⟨_,v,C,_,_⟩ | ⟨_,v,C,_,_⟩
  ·exact⟨_,_,C⟩
  ·exact⟨_,_,C⟩
 obtain⟨p,v,C⟩:=key;have D:BK b #[.pointer none,v] 118 (W.setCell ⟨b,0,none⟩ (.pointer none)):=C.set 0 (.pointer none);obtain⟨c0,c1⟩:=BK.c2 C;obtain⟨fc0,fc1⟩:=BK.f2 (C);obtain⟨d0,d1⟩:=BK.c2 D;obtain⟨fd0,fd1⟩:=BK.f2 (D);clear h C D;go_enter Tryz.func226,Tryz.ntmps226;go_wp2_with fail;go_end0;exact⟨rfl,rfl⟩
theorem Ce(h:Lib.IsBuilderF 118 5 B b bs W):BK b #[.pointer none,.slice none 0 0] 118 ((W.setCell ⟨b,0,none⟩ (.pointer none)).setCell ⟨b,1,none⟩ (.slice none 0 0)):=by
 have key:∃p v,BK b #[p,v] 118 W:=by
  rcases h with⟨_,v,A,_,_⟩ | ⟨_,v,A,_,_⟩
  ·exact⟨_,_,A⟩
  ·exact⟨_,_,A⟩
 obtain⟨p,v,A⟩:=key;have C:BK b #[.pointer none,v] 118 (W.setCell ⟨b,0,none⟩ (.pointer none)):=A.set 0 (.pointer none);exact C.set 1 (.slice none 0 0)
structure FrK (M N:Nat) (W W':World):Prop where
 fr:∀k o,M<=k->k<N->W.heap[k]? = some o->ku o->W'.heap[k]? = some o
 ot:KeepsOthers W W'
 fn:∀(k:Nat) (cs:Array Value) (f:Nat×Nat),W.heap[k]? = some (Obj.cells cs 1 f)->W'.heap[k]? = some (Obj.cells cs 1 f)
theorem FrK.refl(M N:Nat)(W:World):FrK M N W W:=⟨fun _ _ _ _ h _=>h,KeepsOthers.refl W,fun _ _ _ h=>h⟩
theorem FrK.trans{A B C:World}(h:FrK M N A B)(g:FrK M N B C):FrK M N A C:=⟨fun k o D E G F=>g.fr k o D E (h.fr k o D E G F) F,h.ot.trans g.ot,fun k cs f D=>g.fn k cs f (h.fn k cs f D)⟩
theorem FrK.below(A:PM W W'):FrK M N W W':=
 ⟨fun k o _ _ h _=>(A.block k (Array.getElem?_eq_some_iff.1 h).1).trans h,⟨A.size,fun k o h _=>(A.block k (Array.getElem?_eq_some_iff.1 h).1).trans h⟩,fun k cs f h=>(A.block k (Array.getElem?_eq_some_iff.1 h).1).trans h⟩
theorem FrK.grown{k0:Nat}(B:W.grownBy W' (some k0))(H:k0<M\/N<=k0)(D:∃cs e f,W.heap[k0]? = some (.cells cs e f)/\e≠1):FrK M N W W':=by
 refine⟨fun k o G C h _=>(B.block k (Array.getElem?_eq_some_iff.1 h).1 (fun e=>by cases e; omega)).trans h,⟨B.size,fun k o h E=>(B.block k (Array.getElem?_eq_some_iff.1 h).1 (fun e=>?_)).trans h⟩,fun k c1 f1 h=>(B.block k (Array.getElem?_eq_some_iff.1 h).1 (fun e=>?_)).trans h⟩
 ·obtain⟨cs,t,f,A,_⟩:=D
  cases e
  rw[A] at h;cases h;cases E
 ·obtain⟨cs,t,f,A,F⟩:=D
  cases e
  rw[A] at h;injection h with h
  injection h with _ C _
  exact F C
theorem FrK.own{e:TypeId}{z:Nat}{v:Value}{xs:List Value}(G:W.ownsRow B e z v n xs)(A:W.grownBy W' v.ownBlock)(F:∀k,v.ownBlock=some k->k<M\/N<=k)(E:e≠1):FrK M N W W':=by
 cases C:v.ownBlock with
 | none=>
  rw[C] at A;exact⟨fun k o _ _ h _=>(A.block k (Array.getElem?_eq_some_iff.1 h).1 (by simp)).trans h,⟨A.size,fun k o h _=>(A.block k (Array.getElem?_eq_some_iff.1 h).1 (by simp)).trans h⟩,fun k cs f h=>(A.block k (Array.getElem?_eq_some_iff.1 h).1 (by simp)).trans h⟩
 | some k=>
  rw[C] at A;obtain⟨c,D⟩:=kg G k C;exact FrK.grown A (F k C) ⟨c,e,_,D,E⟩
theorem FrK.bld(C:Kept b W W')(hs:W.heap.size<=W'.heap.size)(I:b<M)(D:∃cs e f,W.heap[b]? = some (.cells cs e f)/\e≠1):FrK M N W W':=by
 refine⟨fun k o H B h F=>C k o h (fun e=>by cases e; omega) F,⟨hs,fun k o h E=>C k o h (fun e=>?_) (fun c f e=>by subst e; cases E)⟩,fun k c1 f1 h=>C k _ h (fun e=>?_) (fun c f e=>by injection e with _ B _; exact absurd B (by decide))⟩
 ·obtain⟨cs,t,f,A,_⟩:=D
  cases e
  rw[A] at h;cases h;cases E
 ·obtain⟨cs,t,f,A,G⟩:=D
  cases e
  rw[A] at h;injection h with h
  injection h with _ B _
  exact G B
structure JSt (B M N lb tb:Nat) (va:Qa) (vc:Nat) (st:List Dop×Qb) (W:World):Prop where
 bld:Lib.IsBuilderF 118 5 B tb (Lib.byteCells st.2) W
 box:BK lb #[.slice va st.1.length vc] 206 W
 row:W.ownsRow B 246 3 (.slice va st.1.length vc) st.1.length (gcs jm st.1)
 own:∀k,(Value.slice va st.1.length vc).ownBlock=some k->k<M\/N<=k
 lo:B<=lb/\B<=tb/\lb<M/\tb<M
 nn:N<=W.heap.size
section
variable {B M N lb tb vc:Nat} {va:Qa} {st:List Dop×Qb} {W W':World}
theorem jP(h:Lib.IsBuilderF 118 5 B b bs W):∃p v,BK b #[p,v] 118 W:=by
 rcases h with⟨_,v,A,_,_⟩ | ⟨_,v,A,_,_⟩
 ·exact⟨_,_,A⟩
 ·exact⟨_,_,A⟩
theorem JSt.ne(h:JSt B M N lb tb va vc st W):lb≠tb:=fun e=>by
 obtain⟨p,v,C⟩:=jP h.bld;have A:W.heap[lb]? = _:=h.box;rw[e,show W.heap[tb]? = _ from C] at A;cases A
theorem JSt.below(h:JSt B M N lb tb va vc st W)(A:PM W W'):JSt B M N lb tb va vc st W':=⟨xC h.bld A,h.box.below A,own_below h.row A,h.own,h.lo,aC h.nn A.size⟩
theorem JSt.wrote(h:JSt B M N lb tb va vc st W){t:Qb}(H:Lib.IsBuilderF 118 5 B tb (Lib.byteCells t) W')(F:Kept tb W W')(I:Below B W W'):JSt B M N lb tb va vc (st.1,t) W'/\FrK M N W W':=by
 obtain⟨p,v,D⟩:=jP h.bld;have hs:=I.size;refine⟨⟨H,(F lb _ h.box (fun e=>h.ne (Option.some.inj e)) (fun c f e=>by injection e with _ A _; exact absurd A (by decide))),?_,h.own,h.lo,aC h.nn hs⟩,FrK.bld F hs h.lo.2.2.2 ⟨_,_,_,D,by decide⟩⟩;rcases h.row.2 with⟨E,A⟩ | ⟨g,c,cur,E,A,C,G⟩
 ·exact⟨h.row.1,.inl ⟨E,A⟩⟩
 ·refine⟨h.row.1,.inr ⟨g,c,cur,E,A,F g _ C (fun e=>?_) (fun c f e=>by injection e with _ A _; exact absurd A (by decide)),G⟩⟩
  cases e
  rw[show W.heap[tb]? = _ from D] at C;injection C with C
  injection C with _ h5 _
  exact absurd h5 (by decide)
theorem JSt.push(h:JSt B M N lb tb va vc st W)(x:Dop)(hl:(st.1.length:Int)<=1000000):∃va' vc' W1,Qg ((Builtin.append_ #[206,206] 206 #[.slice va st.1.length vc,.slice (some ⟨W.heap.size,0,none⟩) 1 1]).run Tryz.prog (W.alloc (.cells (jm x).toArray 246))=.ok (.slice va' (st.1.length+1) vc') W1)/\BK lb #[.slice va st.1.length vc] 206 W1/\
  JSt B M N lb tb va' vc' (st.1++[x],st.2) (W1.setCell ⟨lb,0,none⟩ (.slice va' (st.1.length+1) vc'))/\FrK M N W (W1.setCell ⟨lb,0,none⟩ (.slice va' (st.1.length+1) vc'))/\Below B W (W1.setCell ⟨lb,0,none⟩ (.slice va' (st.1.length+1) vc')):=by
 have A1:=h.box.lt;have I:=h.lo;have A2:=h.nn;obtain⟨v',W1,P,D,L,R⟩:=BA rfl h.row x hl (by omega);obtain⟨va',vc',rfl,_⟩:=aB D;have G:PM W (W.alloc (.cells (jm x).toArray 246)):=ba _ _;have J:=h.below G;have C:BK lb #[.slice va st.1.length vc] 206 W1:=J.box.grow L (fun k e T=>gV J.row J.box (by decide) (by rw[e,T]));have O:=dN W1 lb 0 (.slice va' (st.1.length+1) vc');have S:=FrK.own (M:=M) (N:=N) J.row L h.own (by decide);have H:(st.1++[x]).length=st.1.length+1:=by simp
 have X:∀k,(Value.slice va st.1.length vc).ownBlock=some k->k≠tb:=fun k e T=>by
  subst T;obtain⟨c,K⟩:=kg h.row k e;obtain⟨p,v,E⟩:=jP h.bld;rw[show W.heap[k]? = _ from E] at K;injection K with K
  injection K with _ h5 _
  exact absurd h5 (by decide)
 have U:Lib.IsBuilderF 118 5 B tb (Lib.byteCells st.2) W1:=by
  have key:∀p,Lib.BuilderAtF 118 5 B tb p (Lib.byteCells st.2) (W.alloc (.cells (jm x).toArray 246))->Lib.BuilderAtF 118 5 B tb p (Lib.byteCells st.2) W1:=by
   rintro p ⟨Z,v,E,Y,V⟩;refine⟨Z,v,(L.block tb (Array.getElem?_eq_some_iff.1 E).1 (fun e=>X tb e.symm rfl)).trans E,Y.kept L ?_,V⟩;cases hv:v.ownBlock with
   | none=>exact .inl rfl
   | some k=>
    refine .inr (fun e=>?_);obtain⟨c,f,K⟩:=Lib.ownsRowF_kind Y k hv;obtain⟨c',F⟩:=kg J.row k e.symm;rw[K] at F;injection F with F
    injection F with _ h5 _
    exact absurd h5 (by decide)
  exact J.bld.elim (fun x=>.inl (key _ x)) (fun x=>.inr (key _ x))
 have A4:=L.size;have A3:(W.alloc (.cells (jm x).toArray 246)).heap.size=W.heap.size+1:=by simp
 refine⟨va',vc',W1,P,C,⟨EM U (show W1.heap[lb]? = _ from C) h.ne (by decide) _,?_,?_,?_,I,?_⟩,((FrK.below G).trans S).trans (FrK.grown O (.inl I.2.2.1) ⟨_,_,_,C,by decide⟩),?_⟩
 ·rw[H]; exact C.set 0 _
 ·rw[H]; exact D.kept O (.inr (gV D C (by decide)))
 ·rw[H]
  intro k e;rcases R with Q | Q
  ·rw[Q] at e; exact h.own k e
  ·rw[Q] at e; cases e; omega
 ·have:(W1.setCell ⟨lb,0,none⟩ (.slice va' (st.1.length+1) vc')).heap.size=W1.heap.size:=by simp[World.setCell]
  omega
 ·exact((G.mono (by omega)).grown L (by omega) (fun k e=>(h.row.lt k e).1)).setCell I.1 _
end
theorem JSt.reset(h:JSt B M N lb tb va vc st W):JSt B M N lb tb va vc (st.1,[]) ((W.setCell ⟨tb,0,none⟩ (.pointer none)).setCell ⟨tb,1,none⟩ (.slice none 0 0))/\FrK M N W ((W.setCell ⟨tb,0,none⟩ (.pointer none)).setCell ⟨tb,1,none⟩ (.slice none 0 0))/\Below B W ((W.setCell ⟨tb,0,none⟩ (.pointer none)).setCell ⟨tb,1,none⟩ (.slice none 0 0)):=by
 obtain⟨p,v,D⟩:=jP h.bld;have A:=fM (dN W tb 0 (.pointer none)) 1 (.slice none 0 0);have E:=Ce h.bld;have C:(Value.slice va st.1.length vc).ownBlock≠some tb:=gV h.row D (by decide);refine⟨⟨oZ h.lo.2.1 E,(h.box.other h.ne.symm _ _).other h.ne.symm _ _,h.row.kept A (.inr C),h.own,h.lo,?_⟩,FrK.grown A (.inl h.lo.2.2.2) ⟨_,_,_,D,by decide⟩,((Below.refl B W).setCell h.lo.2.1 _).setCell h.lo.2.1 _⟩;have:=A.size;exact aC h.nn this
theorem AC(h:JSt B M N lb tb va vc st W)(hl:(st.1.length:Int)<=1000000)(ht:(st.2.length:Int)<=1000000):
  Qh 224 #[.pointer (some ⟨tb,0,none⟩),.pointer (some ⟨lb,0,none⟩)] W fun e w'=>e=.returned (.tuple #[])/\Qg (∃va' vc',JSt B M N lb tb va' vc' (jnF st,[]) w'/\FrK M N W w'/\Below B W w'):=by
 obtain⟨L,t⟩:=st;have G:=Qf (Gx h.bld);rw[show(Lib.byteCells t).length=t.length from Lib.byteCells_length t] at G;by_cases h0:t=[]
 ·subst h0
  have HR:Qg (∃va' vc',JSt B M N lb tb va' vc' (jnF (L,[]),[]) W/\FrK M N W W/\Below B W W):=Qf ⟨va,vc,h,FrK.refl _ _ _,bf _⟩;clear h;go_enter Tryz.func224,Tryz.ntmps224;go_wp2_with fail
  refine G.o.mono ?_;rintro e u ⟨rfl,rfl⟩
  go_wp2_with fail;go_end0;exact⟨rfl,HR⟩
 ·have hd:JSt B M N lb tb va vc (L,t) W.drew:=h.below ((bf _).drew)
  have B2:0<t.length:=bJ.2 h0;have A2:=Qf (ic B tb t W.drew hd.bld h0);have Y:=Qf hd;have B1:jnF (L,t)=L++[⟨0,0,t⟩]:=by unfold jnF; simp only; rw[if_neg h0]
  rw[B1];obtain⟨tl,B3⟩:=Qe t.length;rw[<-B3] at G B2;have C4:(0:Int)<(tl:Int):=by omega
  have F:=hd.box.c1;simp only at hl F;have A4:Below B W W.drew:=(bf _).drew;have Z:Qg (FrK M N W W.drew):=Qf (FrK.below ((bf _).drew));obtain⟨n,hn⟩:=Qe L.length;have HN:Qg (n=L.length):=Qf hn;rw[<-hn] at F hl;clear h hd B1 B3 hn;go_enter Tryz.func224,Tryz.ntmps224;go_wp2_with fail
  refine G.o.mono ?_;rintro e u ⟨rfl,rfl⟩
  go_wp2_with fail;refine iQ (S:=(fun Wx=>Wx.cell? ⟨lb,0,none⟩=some (.slice va n vc))) [5] (by kernel_rfl) F (fun hHeld=>?_);refine Go.Proofs.YtkedhdcnakhbgaaGreat.tl 0 ?_;refine cu (i:=1) (by kernel_rfl) rfl (fun K I=>?_);go_simp
  refine A2.o.mono ?_;rintro e u ⟨rfl,A5,V,A6⟩
  have R:Lib.IsBuilderF 118 5 B tb (Lib.byteCells t) u:=A5;obtain⟨O,A7⟩:=Y.o.wrote R A6 V;obtain⟨va',vc',W1,J,E,P,X,U⟩:=O.push ⟨0,0,t⟩ (by rw[<-HN.o]; exact hl);simp only[<-HN.o] at J E P X U;obtain⟨B0,A8,A3⟩:=P.reset;have A1:=Qf (Bp P.bld);have HF:=Qf (((Z.o.trans A7).trans X).trans A8);have B6:=Qf (((A4.trans V).trans U).trans A3);have HJ:=Qf B0;have C:u.cell? ⟨lb,0,none⟩=some (.slice va n vc):=by have:=O.box.c1; simp only[<-HN.o] at this; exact this
  have D:(u.alloc (.cells (jm ⟨0,0,t⟩).toArray 246)).cell? ⟨lb,0,none⟩=some (.slice va n vc):=by
   have B8:PM u (u.alloc (.cells (jm ⟨0,0,t⟩).toArray 246)):=ba _ _;exact(B8.cell O.box.lt).trans C
  have Q:W1.cell? ⟨lb,0,none⟩=some (.slice va n vc):=E.c1;have A9:W1.frozen? ⟨lb,0,none⟩=false:=E.frozen 0;have H:=J;have A0:=Qf C;have T:=Qf D;simp only[jm,show((0:Nat):Int)=0 from rfl] at H T;clear J E P X U B0 A8 A3 O A7 R A5 V A6 A2 Y A4 Z C D G hHeld F;have C:=A0.o;refine I.out _ _ ((fun _=>C)) (fun hHeld=>?_);clear I K;refine Go.Proofs.YtkedhdcnakhbgaaGreat.tl 2 ?_;refine cu (i:=3) (by kernel_rfl) rfl (fun K I=>?_);go_simp;have D:=T.o;clear hHeld C;refine I.out _ _ ((fun _=>D)) (fun hHeld=>?_);clear I K;refine cu (i:=4) (by kernel_rfl) rfl (fun K I=>?_);refine bN (by rfl) (.tmp 4) (.tmp 7) _ _ (by rfl) _ _ (by rfl) (by rfl) _ _ H.out ?_;clear hHeld D;refine I.out _ _ ((fun _=>Q)) (fun hHeld=>?_);clear I K;refine cu (i:=5) (by kernel_rfl) rfl (fun K I=>?_);go_simp;refine I.out _ _ ((fun h=>absurd h (by decide))) (fun hHeld=>?_);clear I K;refine eQ (by kernel_rfl) ?_ _;clear hHeld Q A9 H A0 T;go_wp2_with fail
  refine A1.o.mono ?_;rintro e x ⟨rfl,rfl⟩
  clear A1;go_wp2_with fail;go_end0;exact⟨rfl,Qf ⟨va',vc',HJ.o,HF.o,B6.o⟩⟩
section
attribute [local go_sem] Oper.semAt_some
theorem yX.later{α:Type}{F:Fence}{m:Nat}{P:Program}{lb:Array Value}{K:Nat->Prop}{enc:α->Value}{ok:List α->α->Prop}{xs:List α}{w':World}(h:yX F m P gf lb K enc ok xs w)(B:PM w w'):yX F m P gf lb K enc ok xs w':=
 fun l J Y D G A W E C=>h l J Y D G A W (B.trans (E.mono B.size)) C
theorem JSt.renew(h:JSt B M N lb tb va vc st W){M' N':Nat}(A:W.heap.size<=M')(C:N'<=W.heap.size):JSt B M' N' lb tb va vc st W:=by
 obtain⟨p,v,D⟩:=jP h.bld;exact⟨h.bld,h.box,h.row,fun k e=>.inl (aO (h.row.lt k e).2 A),⟨h.lo.1,h.lo.2.1,aO h.box.lt A,aO D.lt A⟩,C⟩
structure JI (w:World) (st:List Dop×Qb) (W:World):Prop where
 st:∃va vc,JSt w.heap.size W.heap.size W.heap.size w.heap.size (w.heap.size+1) va vc st W
 fn:BK (w.heap.size+2) #[.func (.func 224) #[] #[.pointer (some ⟨w.heap.size+1,0,none⟩),.pointer (some ⟨w.heap.size,0,none⟩)]] 1 W
 bel:PM w W
theorem JI.below(h:JI w st W)(A:PM W W'):JI w st W':=by
 obtain⟨⟨va,vc,C⟩,D,B⟩:=h;exact⟨⟨va,vc,(C.below A).renew nr nr⟩,D.below A,B.trans (A.mono B.size)⟩
theorem JSt.putObj(h:JSt B M N lb tb va vc st W)(A:W.heap[l]? = some o)(C:o.isCells=false):JSt B M N lb tb va vc st (W.putObj l o'):=by
 have D:=grownBy_putObj' W l o';refine⟨EP h.bld A C,h.box.grow D (fun k e F=>?_),h.row.kept D ?_,h.own,h.lo,by simpa using h.nn⟩
 ·cases e
  rw[F,show W.heap[lb]? = _ from h.box] at A;cases A; cases C
 ·cases G:(Value.slice va st.1.length vc).ownBlock with
  | none=>exact .inl rfl
  | some k=>
   refine .inr (fun e=>?_);cases e;obtain⟨c,E⟩:=kg h.row l G;rw[E] at A;cases A; cases C
theorem JI.putObj(h:JI w st W)(B:w.heap.size<=l)(A:W.heap[l]? = some o)(D:o.isCells=false):JI w st (W.putObj l o'):=by
 obtain⟨⟨va,vc,E⟩,C,F⟩:=h;refine⟨⟨va,vc,(E.putObj A D).renew (by simp) (by simp)⟩,(World.putObj_heap_other (fun e=>?_)).trans C,vD F B⟩;rw[<-e,show W.heap[w.heap.size+2]? = _ from C] at A;cases A; cases D
def okP(xs:List Dop)(pre:List Dop)(x:Dop):Prop:=(pre++[x]) <+: xs
theorem JSt.write(h:JSt B M N lb tb va vc st W)(s:Qb)(H:(st.2.length:Int)+s.length<=140737488355328)(F:B<=W.heap.size):
  Qh 73 #[.pointer (some ⟨tb,0,none⟩),.string ⟨s.toArray⟩] W fun e w'=>e=.returned (.tuple #[.int .i64 s.length,.nilIface])/\Qg (JSt B M N lb tb va vc (st.1,st.2++s) w'/\FrK M N W w'/\Below B W w'):=by
 refine(jW B tb (Lib.byteCells st.2) ⟨s.toArray⟩ W h.bld (by rw[Lib.byteCells_length,bH]; omega) F).mono ?_;rintro e x ⟨rfl,D,C,E⟩;refine⟨by rw[bH],Qf ?_⟩;have G:Lib.IsBuilderF 118 5 B tb (Lib.byteCells (st.2++s)) x:=by
  refine .inr ?_;rw[byteCells_append];have:=D
  rwa[strCells_eq] at this
 obtain⟨g1,g2⟩:=h.wrote G E C;exact⟨g1,g2,C⟩
theorem JSt.setAt(h:JSt B M N lb tb va vc st W){i:Nat}(L:i<st.1.length):∃g,va=some ⟨g,0,none⟩/\(∀j,W.frozen? ⟨g,j,none⟩=false)/\(∀j,j<3->W.cell? ⟨g,i*3+j,none⟩=(jm st.1[i])[j]?)/\
  ∀(o:Dop) (j:Nat) (u:Value),j<3->jm o=(jm st.1[i]).set j u->JSt B M N lb tb va vc (st.1.set i o,st.2) (W.setCell ⟨g,i*3+j,none⟩ u)/\FrK M N W (W.setCell ⟨g,i*3+j,none⟩ u)/\Below B W (W.setCell ⟨g,i*3+j,none⟩ u):=by
 obtain⟨g,c,cur,hs,E,G,P,D⟩:=Il h.row (by omega);cases hs;refine⟨g,rfl,fun j=>D.frozen j,fun j H=>?_,fun o j u H F=>?_⟩
 ·rw[h.row.cellAt (i*3+j) (by omega),uF F3 st.1 i L j H]
 ·have A:=dN W g (i*3+j) u
  have I:g≠lb:=fun e=>gV h.row h.box (by decide) (by rw[<-e]; rfl)
  obtain⟨p,v,O⟩:=jP h.bld;have K:g≠tb:=fun e=>gV h.row O (by decide) (by rw[<-e]; rfl)
  have key:∀p,Lib.BuilderAtF 118 5 B tb p (Lib.byteCells st.2) W->Lib.BuilderAtF 118 5 B tb p (Lib.byteCells st.2) (W.setCell ⟨g,i*3+j,none⟩ u):=by
   rintro p ⟨G,v,C,F,J⟩;refine⟨G,v,(A.block tb (Array.getElem?_eq_some_iff.1 C).1 (fun e=>K (Option.some.inj e).symm)).trans C,F.kept A ?_,J⟩;cases Q:v.ownBlock with
   | none=>exact .inl rfl
   | some k=>
    refine .inr (fun e=>?_);cases e;obtain⟨c,f,E⟩:=Lib.ownsRowF_kind F _ Q;rw[show W.heap[g]? = _ from D] at E;injection E with E
    injection E with _ h5 _
    exact absurd h5 (by decide)
  refine⟨⟨h.bld.elim (fun x=>.inl (key _ x)) (fun x=>.inr (key _ x)),?_,?_,?_,h.lo,aC h.nn A.size⟩,FrK.grown A (h.own g rfl) ⟨_,_,_,D,by decide⟩,(Below.refl B W).setCell G _⟩
  ·rw[aL]; exact h.box.other I _ _
  ·rw[aL]; exact xW F3 h.row rfl L H u o F
  ·rw[aL]; exact h.own
theorem Gd(st:List Dop×Qb)(pre:List Dop)(x:Dop):(pre++[x]).foldl jnS st=jnS (pre.foldl jnS st) x:=by rw[List.foldl_append]; rfl
structure JBd (xs:List Dop):Prop where
 at_:∀pre x,okP xs pre x->mR x/\x.off+x.len<=1000000/\(pre.foldl jnS ([],[])).1.length<=900000/\(pre.foldl jnS ([],[])).2.length+x.data.length<=900000/\∀y∈(pre.foldl jnS ([],[])).1,y.off+y.len<=1000000
 fin:(xs.foldl jnS ([],[])).1.length<=900000/\(xs.foldl jnS ([],[])).2.length<=900000
abbrev IK(xs:List Dop):List Dop:=jnF (xs.foldl jnS ([],[]))
theorem Mq(st:List Dop×Qb):(jnF st).length<=st.1.length+1:=by unfold jnF; split <;> simp
theorem IL{y:Dop}(h:y∈jnF st):y∈st.1\/(y.off=0/\y.len=0):=by
 unfold jnF at h;split at h
 ·exact .inl h
 ·rcases aD.1 h with h | h
  ·exact .inl h
  ·rw[aH.1 h]; exact .inr ⟨rfl,rfl⟩
theorem Lb{lb:Array Value}{xs:List Dop}(hit:yX Fence.wide 4 Tryz.prog gf lb (fun k=>k<B) Dop.val (okP xs) xs w)(hB:B<=w.heap.size)(M3:∀args w,(callFunc gf args).run Tryz.prog w=.ok (.enter gf args) w)(I7:JBd xs):
  Qh 192 #[.func (.func gf) #[] lb] w fun e w'=>(∃a c,e=.returned (.slice a (IK xs).length c)/\GIn jm 3 w'.heap.size w' a (IK xs)/\(IK xs).length<=c)/\PM w w':=by
 refine(callsIn_wide (n:=5)).1 ?_;refine callsIn_of_wp_marks Tryz.func192 rfl trivial ?_ rfl;simp only[Tryz.ntmps192,nU,az,aK,Nat.reduceAdd,Nat.reduceSub,jg,je,nV,jT,aY,bz];have L2:=Qf hit;have F4:=Qf I7;have HB:=Qf hB;obtain⟨w1,A8⟩:=Qe (((w.alloc (.cells #[.slice none 0 0] 206)).alloc (.cells #[.pointer none,.slice none 0 0] 118)).alloc (.cells #[.func (.func 224) #[] #[.pointer (some ⟨w.heap.size+1,0,none⟩),.pointer (some ⟨w.heap.size,0,none⟩)]] 1));have H:PM w w1:=by rw[A8]; exact((ba _ _).alloc (by simp) _).alloc (by simp; omega) _
 have h0:BK w.heap.size #[.slice none 0 0] 206 w1:=by rw[A8]; exact((BK.new _ _ _).alloc _).alloc _
 have h1:BK (w.heap.size+1) #[.pointer none,.slice none 0 0] 118 w1:=by rw[A8]; exact(BK.new2 _ _ _ _).alloc _
 have h2:BK (w.heap.size+2) #[.func (.func 224) #[] #[.pointer (some ⟨w.heap.size+1,0,none⟩),.pointer (some ⟨w.heap.size,0,none⟩)]] 1 w1:=by rw[A8]; exact BK.new3 _ _ _ _ _
 have L3:Qg (JI w ([],[]) w1):=Qf ⟨⟨none,0,oZ (Nat.le_succ _) h1,h0,World.ownsRow_nil _ _ _ _,by simp[Value.ownBlock],⟨nr,by omega,h0.lt,h1.lt⟩,nr⟩,h2,H⟩;have H6:=Qf (L2.o.later H);have V:w1.heap.size=w.heap.size+3:=by rw[A8]; simp
 have D8:=Qf V;have C3:=Qf A8;clear hit I7 hB H h0 h1 h2 V A8;gi_wp2;rw[show w.heap.size+1+1=w.heap.size+2 from rfl,<-C3.o];clear C3;refine ji (α:=Dop) (bs:=6) 246 (fun x=>(jm x).toArray) rfl (by omega) rfl trivial M3 (K:=fun k=>k<B) (fun k hk=>by have:=D8.o; have:=HB.o; omega) H6.o
  (fun pre W=>JI w (pre.foldl jnS ([],[])) W) (fun _=>False) 99 (fun s W W' h hb=>h.below hb) (fun W W' h hb=>h) (fun s W l o o' hl M5 ho h=>h.putObj (by have:=D8.o; omega) M5 ho) (fun W l o o' _ _ _ h=>h) L3.o ?assign ?body ?done (fun D W _ h _=>h.elim)
 case assign=>
  intro l x W;simp only[dR,List.set_cons_zero,List.set_cons_succ];obtain⟨off,len,data⟩:=x;simp only[Dop.val,jm];gi_wp2;refine⟨?_,?_⟩ <;> first | trivial | rfl
 case done=>
  intro D W hD hJ hK;have M0:=hJ.putObj (o':=.deferred none) (by have:=D8.o; omega) hK rfl;obtain⟨⟨va,vc,I⟩,J3,E7⟩:=hJ;have J1:=J3.c1;have B2:=Qf (AC I (by have:=F4.o.fin.1; omega) (by have:=F4.o.fin.2; omega));have K8:=Qf E7;have N3:D<W.heap.size:=(Array.getElem?_eq_some_iff.1 hK).1;have L9:w.heap.size<=D:=by have:=D8.o; omega
  clear M0 I J3 E7;gi_wp2;refine⟨trivial,?_⟩;refine(callsIn_wide.2 B2.o).mono ?_;rintro e u ⟨rfl,HU⟩;obtain⟨va',vc',I,J4,I8⟩:=HU.out;have G1:u.heap[D]? = some (.deferred (some [])):=J4.ot.same _ _ hK rfl;obtain⟨a,c,M1,Y⟩:=aB I.row;cases M1;have A1:=I.box.c1;have HG:=Qf (jw F3 rfl (I.putObj (o':=.deferred none) G1 rfl).row);have B0:=Qf (vD (o:=.deferred none) (K8.o.trans I8) L9);have K9:=Qf Y;have L4:=Qf G1;simp only at A1;clear B2 HU I J4 I8 Y hK G1;gi_wp2;refine⟨by simp,.inl ⟨_,_,rfl,run_takeDeferred L4.o,?_⟩⟩;exact⟨_,by simp[results,Tryz.results192,go_sem],⟨_,_,rfl,HG.o,K9.o⟩,B0.o⟩
 case body=>
  intro l pre x W0 Wy W hl M6 hJ C4 F7 I2 E0;simp only[dR,List.set_cons_zero,List.set_cons_succ];obtain⟨⟨va,vc,A0⟩,C8,C5⟩:=hJ;have F9:=(JI.below ⟨⟨va,vc,A0⟩,C8,C5⟩ C4);have hM:w.heap.size+3<=W0.heap.size:=by have:=C8.lt; omega
  have I:JSt w.heap.size W0.heap.size W.heap.size w.heap.size (w.heap.size+1) va vc (pre.foldl jnS ([],[])) W:=
   ⟨(A0.below C4).bld,(A0.below C4).box,(A0.below C4).row,fun k e=>.inl (A0.row.lt k e).2,⟨nr,by omega,by omega,by omega⟩,nr⟩
  obtain⟨J2,M9,K2,B7,G7⟩:=F4.o.at_ pre x M6;have C9:=F9.fn;have C6:=F9.bel
  -- what a round leaves
  have F:Qg (∀W' va' vc',JSt w.heap.size W0.heap.size W.heap.size w.heap.size (w.heap.size+1) va' vc' (jnS (pre.foldl jnS ([],[])) x) W'->FrK W0.heap.size W.heap.size W W'->Below w.heap.size W W'->
    wD (fun k=>k<B) 99 (fun pre W=>JI w (pre.foldl jnS ([],[])) W) (fun _=>False) (pre++[x]) W0 Wy W .normal { tmps:=#[],defers:=[] } W'):=Qf (fun W' va' vc' g1 g2 g3=>by
   refine⟨g2.ot,cO.of_below g3 (fun k hk=>by have:=HB.o; omega),fun k o k1 k2 k3 k4=>g2.fr k o k1 (by omega) k3 k4,?_⟩
   show JI w ((pre++[x]).foldl jnS ([],[])) W';rw[Gd];exact⟨⟨va',vc',g1.renew nr nr⟩,g2.fn _ _ _ C9,C6.trans g3⟩)
  have F6:=Qf I;have B4:Qg (W0.heap.size<=Wy.heap.size/\Wy.heap.size<=W.heap.size/\w.heap.size<=W.heap.size):=Qf ⟨F7,I2,by omega⟩;obtain⟨L,t,I5⟩:∃L t,pre.foldl jnS ([],[])=(L,t):=⟨_,_,rfl⟩;rw[I5] at F6 F K2 B7 G7;simp only at K2;have A4:=Ae x W;have B5:jnS (L,t) x=if wZ x=true then(L,t++x.data) else(jnC (jnF (L,t)) x,[]):=rfl
  have B8:Qg (BK Wy.heap.size (jm x).toArray 246 W):=Qf E0;have L1:Qg (∀W',FrK W0.heap.size W.heap.size W W'->W'.cell? ⟨w.heap.size+2,0,none⟩=some (.func (.func 224) #[] #[.pointer (some ⟨w.heap.size+1,0,none⟩),.pointer (some ⟨w.heap.size,0,none⟩)])):=Qf (fun W' g=>(BK.c1 (g.fn _ _ _ C9)));have B1:Qg (∀W',FrK W0.heap.size W.heap.size W W'->BK Wy.heap.size (jm x).toArray 246 W'):=Qf (fun W' g=>g.fr _ _ F7 (Array.getElem?_eq_some_iff.1 E0).1 E0 (fun c f e=>by injection e with _ h2 _; exact absurd h2 (by decide)));clear I F9 C9 C6 A0 C8 C5 E0 C4 F7 I2;cases Z:wZ x with
  | true=>
   rw[if_pos Z] at B5;rw[Z] at A4;have I1:=Qf (fun(W':World) (hJ:JSt w.heap.size W0.heap.size W.heap.size w.heap.size (w.heap.size+1) va vc (L,t) W') (hB:w.heap.size<=W'.heap.size)=>hJ.write x.data (by simp only at B7 ⊢; omega) hB);rw[B5] at F;obtain⟨off,len,data⟩:=x;simp only[Dop.val,jm] at A4 B8 I1 F B1 ⊢;have B9:=Qf A4;obtain⟨c0,c1,c2⟩:=BK.c3 B8.o;clear A4 B5 Z;gi_wp2;refine⟨trivial,?_⟩;refine(CallsIn.inRound l (callsIn_wide.2 B9.o)).mono ?_;rintro e u1 ⟨rfl,H⟩;have J8:=B8.o.below H;have J6:=F6.o.below H;have C3:=Qf (I1.o u1 J6 (aC B4.o.2.2 H.size));have D6:Qg (FrK W0.heap.size W.heap.size W u1):=Qf (FrK.below H);have F2:=Qf H;obtain⟨d0,d1,d2⟩:=BK.c3 J8;clear J8 J6 H B9 c0 c1 c2;gi_wp2;refine⟨trivial,?_⟩;refine(CallsIn.inRound l (callsIn_wide.2 C3.o)).mono ?_;rintro e u2 ⟨rfl,HU⟩;obtain⟨g1,g2,g3⟩:=HU.out;have HR:=Qf (F.o u2 va vc g1 (D6.o.trans g2) ((F2.o.mono B4.o.2.2).trans g3));clear HU g1 g2 g3 C3 d0 d1 d2;gi_wp2;exact HR.o
  | false=>
   rw[if_neg (by simp[Z])] at B5;rw[Z] at A4;have B2:=Qf (fun(W':World) (hJ:JSt w.heap.size W0.heap.size W.heap.size w.heap.size (w.heap.size+1) va vc (L,t) W')=>AC hJ (by simp only at B7 ⊢; omega) (by simp only at B7 ⊢; omega));have G3:=Mq (L,t);have E1:∀y∈jnF (L,t),y.off+y.len<=1000000:=fun y hy=>by
    rcases IL hy with h | ⟨h1,h2⟩
    ·exact G7 y h
    ·omega
   simp only at G3 B7;rw[B5] at F;generalize jnF (L,t)=L' at B2 G3 E1 F;have N8:(L'.length:Int)<=1000000:=by omega
   have H5:=Qf (fun(y:Dop) (W':World)=>lW y W');obtain⟨off,len,data⟩:=x;simp only at M9;simp only[Dop.val,jm] at A4 B8 F B1 ⊢;have B9:=Qf A4;obtain⟨c0,c1,c2⟩:=BK.c3 B8.o;clear A4 B5 Z B7 G7 G3 I5 J2;gi_wp2;refine⟨trivial,?_⟩;refine(CallsIn.inRound l (callsIn_wide.2 B9.o)).mono ?_;rintro e u1 ⟨rfl,H⟩;have D6:Qg (FrK W0.heap.size W.heap.size W u1):=Qf (FrK.below H);have F2:=Qf H;have J1:=L1.o u1 D6.o;have E3:=Qf (B2.o u1 (F6.o.below H));clear H B9 c0 c1 c2 B2;gi_wp2;refine⟨trivial,?_⟩;refine(CallsIn.inRound l (callsIn_wide.2 E3.o)).mono ?_;rintro e u2 ⟨rfl,HU⟩;obtain⟨va',vc',D5,J0,I6⟩:=HU.out;have I4:=D6.o.trans J0;have H4:=Qf I4;have B0:=Qf ((F2.o.mono B4.o.2.2).trans I6);have H8:=Qf D5;obtain⟨n,hn⟩:=Qe L'.length;have HN:Qg (n=L'.length):=Qf hn;have A1:=D5.box.c1;simp only at A1;rw[<-hn] at A1;clear HU D5 J0 I6 J1 E3 I4;have C0:Qg (L'=[]->jnC L' ⟨off,len,data⟩=L'++[⟨off,len,data⟩]):=Qf (fun h=>by subst h; rfl);have C1:Qg (∀L0 y,L'=L0++[y]->jnC L' ⟨off,len,data⟩=if cZ y=true/\y.off+y.len=off then L0++[⟨y.off,y.len+len,y.data⟩] else L'++[⟨off,len,data⟩]):=Qf (fun L0 y h=>by subst h; unfold jnC; simp);have N9:(n:Int)<=1000000:=by omega
   rcases iI L' with D2 | ⟨L0,y,Y⟩
   ·have D3:n=0:=by rw[hn,D2]; rfl
    subst D3;have A7:=Qf (C0.o D2);have O1:IntKind.i64.wrap (0-1)=-1:=by decide
    clear C0 C1 D2 hn E1;gi_wp2;refine eZ (S:=(fun _=>True)) [] l (by kernel_rfl) (fun⟨_,_,h⟩=>h) (by kernel_rfl) trivial (fun hHeld=>?_);refine Go.Proofs.YtkedhdcnakhbgaaGreat.tl 0 ?_;refine Go.Proofs.YtkedhdcnakhbgaaGreat.tl 1 ?_;refine Go.Proofs.YtkedhdcnakhbgaaGreat.tl 2 ?_;refine sl 3 ?_;refine sl 4 ?_;refine sl 5 ?_;refine sl 6 ?_;refine sl 7 ?_;refine Go.Proofs.YtkedhdcnakhbgaaGreat.tl 8 ?_;refine Go.Proofs.YtkedhdcnakhbgaaGreat.tl 9 ?_;refine sl 10 ?_;refine sl 11 ?_;refine sl 12 ?_;refine sl 13 ?_;refine sl 14 ?_;refine sl 15 ?_;refine sl 16 ?_;refine sl 17 ?_;refine sl 18 ?_;refine sl 19 ?_;refine sl 20 ?_;refine sl 21 ?_;refine sl 22 ?_;refine sl 23 ?_;refine Go.Proofs.YtkedhdcnakhbgaaGreat.tl 24 ?_;refine eQ (by kernel_rfl) ?_ _;clear hHeld A1;have Q:JSt w.heap.size W0.heap.size W.heap.size w.heap.size (w.heap.size+1) va' vc' (L',[]) u2.drew:=H8.o.below ((bf _).drew);have P:=H4.o.trans (FrK.below ((bf _).drew));have A3:=B0.o.drew;obtain⟨va3,vc3,W3,G,C,U,T,R⟩:=Q.push ⟨off,len,data⟩ (by simp only; have:=HN.o; omega);simp only[<-HN.o] at G C U T R;have HR:=Qf (F.o _ va3 vc3 (by rw[A7.o]; exact U) (P.trans T) (A3.trans R));have E:=B1.o u2.drew P;obtain⟨x0,x1,x2⟩:=BK.c3 E;have D1:=Q.box.c1;simp only[<-HN.o] at D1;have J9:=C.c1;have F0:=C.frozen 0;have M:=G;simp only[jm] at M;clear G C U T R E Q P A3;gi_wp2_with (gi_at_builtin; refine kS _ rfl _ _ _ _ rfl _ _ rfl rfl _ _ M.out ?_);exact HR.o
   ·rw[iJ] at Y
    have D3:n=L0.length+1:=by rw[hn,Y]; simp
    obtain⟨k,hk⟩:=Qe L0.length;rw[<-hk] at D3;have H7:Qg (n=k+1):=Qf D3;have O:=C1.o L0 y Y;have K5:=E1 y (by rw[Y]; simp);have G4:k<(L',([]:Qb)).1.length:=by simp only; omega
    have G0:JSt w.heap.size W0.heap.size W.heap.size w.heap.size (w.heap.size+1) va' vc' (L',[]) u2.drew:=H8.o.below ((bf _).drew);obtain⟨g,M7,J5,C7,I⟩:=G0.setAt G4;subst M7;have H1:L'[k]'(by simpa using G4)=y:=by
     have:L'[k]? = some y:=by rw[Y,hk]; simp
     exact(List.getElem?_eq_some_iff.1 this).2
    simp only[H1] at C7 I;have E2:=C7 0 (by decide);have G8:=C7 1 (by decide);have G9:=C7 2 (by decide);obtain⟨yo,yl,yd⟩:=y;rw[show(jm ⟨yo,yl,yd⟩)[0]? = some (.int .i64 (yo:Int)) from rfl,Nat.add_zero] at E2;rw[show(jm ⟨yo,yl,yd⟩)[1]? = some (.int .i64 (yl:Int)) from rfl] at G8;rw[show(jm ⟨yo,yl,yd⟩)[2]? = some (.string ⟨yd.toArray⟩) from rfl] at G9;simp only at K5 O;have F8:FrK W0.heap.size W.heap.size W u2.drew:=H4.o.trans (FrK.below ((bf _).drew));have K3:=B1.o u2.drew F8;obtain⟨x0,x1,x2⟩:=BK.c3 K3;have D0:u2.drew.cell? ⟨w.heap.size,0,none⟩=some (.slice (some ⟨g,0,none⟩) n vc'):=A1;have J:Qg (∀Wx,Below u2.drew.heap.size u2.drew Wx->Wx.cell? ⟨w.heap.size,0,none⟩=some (.slice (some ⟨g,0,none⟩) n vc')/\Wx.cell? ⟨g,k*3,none⟩=some (.int .i64 (yo:Int))/\Wx.cell? ⟨g,k*3+1,none⟩=some (.int .i64 (yl:Int))/\Wx.cell? ⟨g,k*3+2,none⟩=some (.string ⟨yd.toArray⟩)/\Wx.cell? ⟨Wy.heap.size,0,none⟩=some (.int .i64 (off:Int))/\Wx.cell? ⟨Wy.heap.size,1,none⟩=some (.int .i64 (len:Int))):=Qf (fun Wx hb=>by
     have G2:=World.block_lt_of_cell? _ _ E2;have G6:=World.block_lt_of_cell? _ _ D0;have K4:=World.block_lt_of_cell? _ _ x0;exact⟨(hb.cell G6).trans D0,(hb.cell G2).trans E2,(hb.cell (p:=⟨g,k*3+1,none⟩) G2).trans G8,(hb.cell (p:=⟨g,k*3+2,none⟩) G2).trans G9,(hb.cell K4).trans x0,(hb.cell (p:=⟨Wy.heap.size,1,none⟩) K4).trans x1⟩)
    have B6:=J.o u2.drew (bf _);have N1:(n:Int)-1=(k:Int):=by omega
    have O2:IntKind.i64.wrap ((n:Int)-1)=(k:Int):=by rw[wrap_i64 (by omega) (by omega)]; omega
    have N5:(0:Int)<=(k:Int):=by omega
    have N6:(k:Int)<(n:Int):=by omega
    have M8:IntKind.i64.wrap ((yo:Int)+(yl:Int))=((yo+yl:Nat):Int):=by rw[wrap_i64 (by omega) (by omega)]; omega
    obtain⟨ye,H0⟩:=Qe (yo+yl);rw[<-H0] at M8 O K5;have A2:=Qf (H5.o ⟨yo,yl,yd⟩ u2.drew);simp only[Dop.val] at A2;have I0:=Qf (I ⟨yo,yl+len,yd⟩ 1 (.int .i64 ((yl+len:Nat):Int)) (by decide) (by simp[jm]));have H9:Qg (L'.set k ⟨yo,yl+len,yd⟩=L0++[⟨yo,yl+len,yd⟩]):=Qf (by rw[Y,hk]; simp);have N4:=J5 (k*3+1);have L5:Qg (ye=yo+yl):=Qf H0;have L6:Qg (∀hk,L'[k]'hk=⟨yo,yl,yd⟩):=Qf (fun _=>H1);have F5:=Qf G0;have B3:=Qf F8;clear C0 C1 Y hn E1 G0 F8 C7 I J5 E2 G8 G9 K3 x0 x1 x2 D0 H1 hk G4 H0 D3;generalize cZ ⟨yo,yl,yd⟩=cb at A2 O;cases cb with
    | false=>
     rw[if_neg (by simp)] at O;have A7:=Qf O;clear O;gi_wp2;refine eZ (S:=(fun Wx=>Wx.cell? ⟨w.heap.size,0,none⟩=some (.slice (some ⟨g,0,none⟩) n vc')/\Wx.cell? ⟨g,k*3,none⟩=some (.int .i64 (yo:Int))/\Wx.cell? ⟨g,k*3+1,none⟩=some (.int .i64 (yl:Int))/\Wx.cell? ⟨g,k*3+2,none⟩=some (.string ⟨yd.toArray⟩)/\Wx.cell? ⟨Wy.heap.size,0,none⟩=some (.int .i64 (off:Int))/\Wx.cell? ⟨Wy.heap.size,1,none⟩=some (.int .i64 (len:Int)))) [] l (by kernel_rfl) (fun⟨_,_,h⟩=>h) (by kernel_rfl) B6 (fun hHeld=>?_);refine Go.Proofs.YtkedhdcnakhbgaaGreat.tl 0 ?_;refine Go.Proofs.YtkedhdcnakhbgaaGreat.tl 1 ?_;refine Go.Proofs.YtkedhdcnakhbgaaGreat.tl 2 ?_;refine Go.Proofs.YtkedhdcnakhbgaaGreat.tl 3 ?_;refine Go.Proofs.YtkedhdcnakhbgaaGreat.tl 4 ?_;refine Go.Proofs.YtkedhdcnakhbgaaGreat.tl 5 ?_;refine Go.Proofs.YtkedhdcnakhbgaaGreat.tl 6 ?_;refine cu (i:=7) (by kernel_rfl) rfl (fun K hK=>?_);go_simp
     refine A2.o.mono ?_;rintro e uz ⟨rfl,E⟩
     have V:=J.o uz E;have X:=Qf E;clear E hHeld;refine hK.out _ _ ((fun _=>V)) (fun hHeld=>?_);clear hK K;refine Go.Proofs.YtkedhdcnakhbgaaGreat.tl 8 ?_;refine Go.Proofs.YtkedhdcnakhbgaaGreat.tl 9 ?_;refine sl 10 ?_;refine sl 11 ?_;refine sl 12 ?_;refine sl 13 ?_;refine sl 14 ?_;refine sl 15 ?_;refine sl 16 ?_;refine sl 17 ?_;refine sl 18 ?_;refine sl 19 ?_;refine sl 20 ?_;refine sl 21 ?_;refine sl 22 ?_;refine sl 23 ?_;refine Go.Proofs.YtkedhdcnakhbgaaGreat.tl 24 ?_;refine eQ (by kernel_rfl) ?_ _;clear hHeld A1 B6 V J A2;have Q:JSt w.heap.size W0.heap.size W.heap.size w.heap.size (w.heap.size+1) (some ⟨g,0,none⟩) vc' (L',[]) uz:=F5.o.below X.o;have P:=B3.o.trans (FrK.below X.o);have A3:=B0.o.drew.trans (X.o.mono (aC B4.o.2.2 B3.o.ot.size));obtain⟨va3,vc3,W3,G,C,U,T,R⟩:=Q.push ⟨off,len,data⟩ (by simp only; have:=HN.o; omega);simp only[<-HN.o] at G C U T R;have HR:=Qf (F.o _ va3 vc3 (by rw[A7.o]; exact U) (P.trans T) (A3.trans R));have E:=B1.o uz P;obtain⟨x0,x1,x2⟩:=BK.c3 E;have D1:=Q.box.c1;simp only[<-HN.o] at D1;have J9:=C.c1;have F0:=C.frozen 0;have M:=G;simp only[jm] at M;clear G C U T R E Q P A3;gi_wp2_with (gi_at_builtin; refine kS _ rfl _ _ _ _ rfl _ _ rfl rfl _ _ M.out ?_);exact HR.o
    | true=>
     by_cases A9:ye=off
     ·rw[if_pos ⟨rfl,A9⟩] at O
      have M2:((ye:Int)==(off:Int))=true:=by simp[A9]
      have A7:=Qf O;have K0:(yl:Int)+len<=3000000:=by have:=L5.o; omega
      have G6:IntKind.i64.wrap ((yl:Int)+(len:Int))=((yl+len:Nat):Int):=by rw[wrap_i64 (by omega) (by omega)]; omega
      obtain⟨zl,H2⟩:=Qe (yl+len);rw[<-H2] at G6 I0 H9;have L7:Qg (zl=yl+len):=Qf H2;clear O H2 K0;gi_wp2;refine eZ (S:=(fun Wx=>Wx.cell? ⟨w.heap.size,0,none⟩=some (.slice (some ⟨g,0,none⟩) n vc')/\Wx.cell? ⟨g,k*3,none⟩=some (.int .i64 (yo:Int))/\Wx.cell? ⟨g,k*3+1,none⟩=some (.int .i64 (yl:Int))/\Wx.cell? ⟨g,k*3+2,none⟩=some (.string ⟨yd.toArray⟩)/\Wx.cell? ⟨Wy.heap.size,0,none⟩=some (.int .i64 (off:Int))/\Wx.cell? ⟨Wy.heap.size,1,none⟩=some (.int .i64 (len:Int)))) [] l (by kernel_rfl) (fun⟨_,_,h⟩=>h) (by kernel_rfl) B6 (fun hHeld=>?_);refine Go.Proofs.YtkedhdcnakhbgaaGreat.tl 0 ?_;refine Go.Proofs.YtkedhdcnakhbgaaGreat.tl 1 ?_;refine Go.Proofs.YtkedhdcnakhbgaaGreat.tl 2 ?_;refine Go.Proofs.YtkedhdcnakhbgaaGreat.tl 3 ?_;refine Go.Proofs.YtkedhdcnakhbgaaGreat.tl 4 ?_;refine Go.Proofs.YtkedhdcnakhbgaaGreat.tl 5 ?_;refine Go.Proofs.YtkedhdcnakhbgaaGreat.tl 6 ?_;refine cu (i:=7) (by kernel_rfl) rfl (fun K hK=>?_);go_simp
      refine A2.o.mono ?_;rintro e uz ⟨rfl,E⟩
      have V:=J.o uz E;have X:=Qf E;clear E hHeld;refine hK.out _ _ ((fun _=>V)) (fun hHeld=>?_);clear hK K;refine Go.Proofs.YtkedhdcnakhbgaaGreat.tl 8 ?_;refine Go.Proofs.YtkedhdcnakhbgaaGreat.tl 9 ?_;refine Go.Proofs.YtkedhdcnakhbgaaGreat.tl 10 ?_;refine Go.Proofs.YtkedhdcnakhbgaaGreat.tl 11 ?_;refine Go.Proofs.YtkedhdcnakhbgaaGreat.tl 12 ?_;refine Go.Proofs.YtkedhdcnakhbgaaGreat.tl 13 ?_;refine Go.Proofs.YtkedhdcnakhbgaaGreat.tl 14 ?_;refine Go.Proofs.YtkedhdcnakhbgaaGreat.tl 15 ?_;refine Go.Proofs.YtkedhdcnakhbgaaGreat.tl 16 ?_;refine Go.Proofs.YtkedhdcnakhbgaaGreat.tl 17 ?_;refine Go.Proofs.YtkedhdcnakhbgaaGreat.tl 18 ?_;refine Go.Proofs.YtkedhdcnakhbgaaGreat.tl 19 ?_;refine Go.Proofs.YtkedhdcnakhbgaaGreat.tl 20 ?_;refine Go.Proofs.YtkedhdcnakhbgaaGreat.tl 21 ?_;refine Go.Proofs.YtkedhdcnakhbgaaGreat.tl 22 ?_;refine Go.Proofs.YtkedhdcnakhbgaaGreat.tl 23 ?_;refine Go.Proofs.YtkedhdcnakhbgaaGreat.tl 24 ?_;refine eQ (by kernel_rfl) ?_ _;clear hHeld;have A5:Below u2.drew.heap.size u2.drew uz.drew:=X.o.trans ((bf _).drew.mono X.o.size);have G5:=J.o uz.drew A5;have E6:JSt w.heap.size W0.heap.size W.heap.size w.heap.size (w.heap.size+1) (some ⟨g,0,none⟩) vc' (L',[]) uz.drew:=F5.o.below A5;obtain⟨g',M4,E8,_,D4⟩:=E6.setAt (i:=k) (by simp only; have:=H7.o; have:=HN.o; omega);cases M4;have F1:L'[k]'(by have:=H7.o; have:=HN.o; omega)=⟨yo,yl,yd⟩:=L6.o _;simp only[F1] at D4;obtain⟨r1,r2,r3⟩:=D4 ⟨yo,zl,yd⟩ 1 (.int .i64 (zl:Int)) (by decide) (by simp[jm]);simp only[H9.o] at r1;have J7:jnC L' ⟨off,len,data⟩=L0++[⟨yo,zl,yd⟩]:=by rw[A7.o,L7.o]
      have HR:=Qf (F.o (uz.drew.setCell ⟨g,k*3+1,none⟩ (.int .i64 (zl:Int))) _ _ (by rw[J7]; exact r1) ((B3.o.trans (FrK.below A5)).trans r2) ((B0.o.drew.trans (A5.mono (aC B4.o.2.2 B3.o.ot.size))).trans r3));have I9:=E8 (k*3+1);clear A1 B6 V J A2 E6 D4 r1 r2 r3 A5 E8 F1 J7;gi_wp2;refine eZ (S:=(fun Wx=>Wx.cell? ⟨w.heap.size,0,none⟩=some (.slice (some ⟨g,0,none⟩) n vc')/\Wx.cell? ⟨g,k*3,none⟩=some (.int .i64 (yo:Int))/\Wx.cell? ⟨g,k*3+1,none⟩=some (.int .i64 (yl:Int))/\Wx.cell? ⟨g,k*3+2,none⟩=some (.string ⟨yd.toArray⟩)/\Wx.cell? ⟨Wy.heap.size,0,none⟩=some (.int .i64 (off:Int))/\Wx.cell? ⟨Wy.heap.size,1,none⟩=some (.int .i64 (len:Int)))) [10] l (by kernel_rfl) (fun⟨_,_,h⟩=>h) (by kernel_rfl) G5 (fun hHeld=>?_);refine Go.Proofs.YtkedhdcnakhbgaaGreat.tl 0 ?_;refine Go.Proofs.YtkedhdcnakhbgaaGreat.tl 1 ?_;refine Go.Proofs.YtkedhdcnakhbgaaGreat.tl 2 ?_;refine Go.Proofs.YtkedhdcnakhbgaaGreat.tl 3 ?_;refine Go.Proofs.YtkedhdcnakhbgaaGreat.tl 4 ?_;refine Go.Proofs.YtkedhdcnakhbgaaGreat.tl 5 ?_;refine Go.Proofs.YtkedhdcnakhbgaaGreat.tl 6 ?_;refine Go.Proofs.YtkedhdcnakhbgaaGreat.tl 7 ?_;refine Go.Proofs.YtkedhdcnakhbgaaGreat.tl 8 ?_;refine Go.Proofs.YtkedhdcnakhbgaaGreat.tl 9 ?_;refine cu (i:=10) (by kernel_rfl) rfl (fun K hK=>?_);have K1:=G5.2.2.1;go_simp;refine hK.out _ _ ((fun h=>absurd h (by decide))) (fun hHeld=>?_);clear hK K;refine eQ (by kernel_rfl) ?_ _;clear hHeld G5 K1 I9;gi_wp2;exact HR.o
     ·rw[if_neg (fun h=>A9 h.2)] at O
      have M2:((ye:Int)==(off:Int))=false:=by simp; omega
      have A7:=Qf O;clear O A9;gi_wp2;refine eZ (S:=(fun Wx=>Wx.cell? ⟨w.heap.size,0,none⟩=some (.slice (some ⟨g,0,none⟩) n vc')/\Wx.cell? ⟨g,k*3,none⟩=some (.int .i64 (yo:Int))/\Wx.cell? ⟨g,k*3+1,none⟩=some (.int .i64 (yl:Int))/\Wx.cell? ⟨g,k*3+2,none⟩=some (.string ⟨yd.toArray⟩)/\Wx.cell? ⟨Wy.heap.size,0,none⟩=some (.int .i64 (off:Int))/\Wx.cell? ⟨Wy.heap.size,1,none⟩=some (.int .i64 (len:Int)))) [] l (by kernel_rfl) (fun⟨_,_,h⟩=>h) (by kernel_rfl) B6 (fun hHeld=>?_);refine Go.Proofs.YtkedhdcnakhbgaaGreat.tl 0 ?_;refine Go.Proofs.YtkedhdcnakhbgaaGreat.tl 1 ?_;refine Go.Proofs.YtkedhdcnakhbgaaGreat.tl 2 ?_;refine Go.Proofs.YtkedhdcnakhbgaaGreat.tl 3 ?_;refine Go.Proofs.YtkedhdcnakhbgaaGreat.tl 4 ?_;refine Go.Proofs.YtkedhdcnakhbgaaGreat.tl 5 ?_;refine Go.Proofs.YtkedhdcnakhbgaaGreat.tl 6 ?_;refine cu (i:=7) (by kernel_rfl) rfl (fun K hK=>?_);go_simp
      refine A2.o.mono ?_;rintro e uz ⟨rfl,E⟩
      have V:=J.o uz E;have X:=Qf E;clear E hHeld;refine hK.out _ _ ((fun _=>V)) (fun hHeld=>?_);clear hK K;refine Go.Proofs.YtkedhdcnakhbgaaGreat.tl 8 ?_;refine Go.Proofs.YtkedhdcnakhbgaaGreat.tl 9 ?_;refine Go.Proofs.YtkedhdcnakhbgaaGreat.tl 10 ?_;refine Go.Proofs.YtkedhdcnakhbgaaGreat.tl 11 ?_;refine Go.Proofs.YtkedhdcnakhbgaaGreat.tl 12 ?_;refine Go.Proofs.YtkedhdcnakhbgaaGreat.tl 13 ?_;refine Go.Proofs.YtkedhdcnakhbgaaGreat.tl 14 ?_;refine Go.Proofs.YtkedhdcnakhbgaaGreat.tl 15 ?_;refine Go.Proofs.YtkedhdcnakhbgaaGreat.tl 16 ?_;refine Go.Proofs.YtkedhdcnakhbgaaGreat.tl 17 ?_;refine Go.Proofs.YtkedhdcnakhbgaaGreat.tl 18 ?_;refine Go.Proofs.YtkedhdcnakhbgaaGreat.tl 19 ?_;refine Go.Proofs.YtkedhdcnakhbgaaGreat.tl 20 ?_;refine Go.Proofs.YtkedhdcnakhbgaaGreat.tl 21 ?_;refine Go.Proofs.YtkedhdcnakhbgaaGreat.tl 22 ?_;refine Go.Proofs.YtkedhdcnakhbgaaGreat.tl 23 ?_;refine Go.Proofs.YtkedhdcnakhbgaaGreat.tl 24 ?_;refine eQ (by kernel_rfl) ?_ _;clear hHeld A1 B6 V J A2;have Q:JSt w.heap.size W0.heap.size W.heap.size w.heap.size (w.heap.size+1) (some ⟨g,0,none⟩) vc' (L',[]) uz:=F5.o.below X.o;have P:=B3.o.trans (FrK.below X.o);have A3:=B0.o.drew.trans (X.o.mono (aC B4.o.2.2 B3.o.ot.size));obtain⟨va3,vc3,W3,G,C,U,T,R⟩:=Q.push ⟨off,len,data⟩ (by simp only; have:=HN.o; omega);simp only[<-HN.o] at G C U T R;have HR:=Qf (F.o _ va3 vc3 (by rw[A7.o]; exact U) (P.trans T) (A3.trans R));have E:=B1.o uz P;obtain⟨x0,x1,x2⟩:=BK.c3 E;have D1:=Q.box.c1;simp only[<-HN.o] at D1;have J9:=C.c1;have F0:=C.frozen 0;have M:=G;simp only[jm] at M;clear G C U T R E Q P A3;gi_wp2_with (gi_at_builtin; refine kS _ rfl _ _ _ _ rfl _ _ rfl rfl _ _ M.out ?_);exact HR.o
end
theorem AA:∀(xs:List Dop) (st:List Dop×Qb),K6 st.1->(∀x∈xs,mR x)->jnF (xs.foldl jnS st)=xs.foldl Ko (jnF st)
 | [],st,_,_=>rfl
 | x::xs,st,D,A=>by
  obtain⟨B,C⟩:=OV (o:=x) D (A x (by simp));rw[fE,fE,AA xs _ C (fun y E=>A y (by simp[E])),B]
structure JnB (A n:Nat) (st:List Dop×Qb):Prop where
 l:st.1.length<=2*n
 t:st.2.length<=n
 e:∀y∈st.1,y.off+y.len<=A
theorem JnB.next{A:Nat}(h:JnB A n st){x:Dop}(D:x.off+x.len<=A)(M:x.data.length<=1):JnB A (n+1) (jnS st x):=by
 obtain⟨L,t⟩:=st;have I:=h.l;have J:=h.t;have H:=Mq (L,t);have C:∀y∈jnF (L,t),y.off+y.len<=A:=fun y K=>by
  rcases IL K with E | ⟨E,N⟩
  ·exact h.e y E
  ·omega
 simp only at I J H;by_cases G:wZ x=true
 ·have:jnS (L,t) x=(L,t++x.data):=by unfold jnS; rw[if_pos G]
  rw[this];exact⟨by simp only; omega,by simp only[af]; omega,h.e⟩
 ·have:jnS (L,t) x=(jnC (jnF (L,t)) x,[]):=by unfold jnS; rw[if_neg G]
  rw[this];generalize jnF (L,t)=L' at H C;have key:(jnC L' x).length<=L'.length+1/\∀y∈jnC L' x,y.off+y.len<=A:=by
   rcases iI L' with rfl | ⟨L0,y,rfl⟩
   ·exact⟨by simp[jnC],fun z B=>by simp[jnC] at B; rw[B]; exact D⟩
   ·rw[iJ] at C ⊢
    unfold jnC;simp only[List.getLast?_append,List.getLast?_singleton,Option.some_or,List.dropLast_concat];by_cases F:cZ y=true/\y.off+y.len=x.off
    ·rw[if_pos F]
     refine⟨by simp,fun z B=>?_⟩;rcases aD.1 B with B | B
     ·exact C z (by simp[B])
     ·rw[aH.1 B]; simp only; omega
    ·rw[if_neg F]
     refine⟨by simp,fun z B=>?_⟩;rcases aD.1 B with B | B
     ·exact C z B
     ·rw[aH.1 B]; exact D
  exact⟨by simp only; omega,by simp,key.2⟩
theorem Eh{A:Nat}:∀(pre:List Dop) {n:Nat} {st:List Dop×Qb},JnB A n st->(∀x∈pre,x.off+x.len<=A/\x.data.length<=1)->JnB A (n+pre.length) (pre.foldl jnS st)
 | [],n,st,h,_=>h
 | x::pre,n,st,h,B=>by
  have C:=h.next (B x (by simp)).1 (B x (by simp)).2;have D:=Eh pre C (fun y E=>B y (by simp[E]));rw[fE,az]
  rwa[show n+1+pre.length=n+(pre.length+1) by omega] at D
theorem tF{a b:Qb}:∀(f k:Nat),∀x∈dF a b f k,∃j,j<b.length/\x=eH a b j
 | 0,k,x,h=>by simp[dF] at h
 | f+1,k,x,h=>by
  rw[dF] at h;by_cases e:k<b.length
  ·rw[if_pos e] at h
   rcases List.mem_cons.1 h with h | h
   ·exact⟨k,e,h⟩
   ·exact tF f _ x h
  ·rw[if_neg e] at h; simp at h
theorem tH{a b:Qb}:∀(f k:Nat),(dF a b f k).length<=f
 | 0,k=>by simp[dF]
 | f+1,k=>by
  rw[dF];by_cases e:k<b.length
  ·rw[if_pos e,az]
   have:=tH (a:=a) (b:=b) f (k+bS (eH a b k));omega
  ·rw[if_neg e]; simp
theorem FT{b:Qb}{k:Nat}(C:k<b.length):mR (eH a b k)/\(eH a b k).off+(eH a b k).len<=a.length/\(eH a b k).data.length<=1:=by
 obtain⟨A,B,_⟩:=zV (a:=a) C;refine⟨A,?_,?_⟩
 ·by_cases e:0<(eH a b k).len
  ·exact B e
  ·rcases A with A | ⟨g1,g2,_⟩
   ·exact absurd A.1 e
   ·omega
 ·unfold eH
  split
  ·simp
  ·simp only[aA]; omega
theorem nA{b:Qb}:∀x∈jH a b,mR x/\x.off+x.len<=a.length/\x.data.length<=1:=fun x B=>by
 obtain⟨j,A,rfl⟩:=tF _ _ x B;exact FT A
theorem Kv{b:Qb}(I:a.length<=1000)(J:b.length<=100000):JBd (jH a b):=by
 have F:(jH a b).length<=b.length:=tH _ _;have key:∀pre,pre <+: jH a b->JnB a.length pre.length (pre.foldl jnS ([],[])):=fun pre D=>by
  have:=Eh pre (A:=a.length) (n:=0) (st:=([],[])) ⟨by simp,by simp,fun y E=>by simp at E⟩ (fun x G=>(nA x (D.subset G)).2)
  rwa[aZ] at this
 refine⟨fun pre x C=>?_,?_⟩
 ·have D:pre <+: jH a b:=(List.prefix_append pre [x]).trans C
  have B:=key pre D;have H:=D.length_le;obtain⟨g1,g2,g3⟩:=nA x (C.subset (by simp));have:=B.l;have:=B.t;exact⟨g1,by omega,by omega,by omega,fun y E=>by have:=B.e y E; omega⟩
 ·have B:=key _ (List.prefix_refl _)
  have:=B.l;have:=B.t;omega
theorem Fe(a b:Qb):IK (jH a b)=iM a b:=by
 unfold IK;rw[AA _ _ IC (fun x A=>(nA x A).1),CZ];rfl
theorem yf(a:Qb)(w:World)(U:a.length<=1000)(hs:a=[2,0]):Qh 149 #[.string ⟨a.toArray⟩] w fun e w'=>∃ib,e=.returned (.agg #[.pointer (some ⟨ib,0,none⟩)])/\Qg (pJ a (w.heap.size+1) ib w')/\PM w w':=by
 obtain⟨w1,B⟩:=Qe (w.alloc (.cells #[.pointer none] 203));have C:PM w w1:=by rw[B]; exact ba _ _
 have O:=Qf (show BK w.heap.size #[.pointer none] 203 w1 by rw[B]; exact BK.new _ _ _);have M:=Qf (zW a w1 hs);have T:=bH a;have R:(⟨a.toArray⟩:ByteArray).extract 0 a.length=⟨a.toArray⟩:=by rw[dw]; simp
 have V:(a.length:Int)<=65536:=by omega
 have S:min (a.length:Int) 65536=(a.length:Int):=by omega
 have J:=Qf C;have F:w1.heap.size=w.heap.size+1:=by rw[B]; simp
 have N:=Qf F;clear hs;clear F;generalize a.length=n at *
 rw[B] at M;have P:=Qf B;clear C B;go_enter Tryz.func149,Tryz.ntmps149;go_wp2_with fail
 refine M.o.mono ?_;rintro e u ⟨ib,rfl,G,H,E⟩
 rw[<-P.o] at H E G;rw[N.o] at G;have I:=O.o.below H;have Q:=dN u w.heap.size 0 (.pointer (some ⟨ib,0,none⟩));have D:BK w.heap.size #[.pointer (some ⟨ib,0,none⟩)] 203 (u.setCell ⟨w.heap.size,0,none⟩ (.pointer (some ⟨ib,0,none⟩))):=I.set 0 _;have L:Qg (pJ a (w.heap.size+1) ib (u.setCell ⟨w.heap.size,0,none⟩ (.pointer (some ⟨ib,0,none⟩)))):=Qf (G.out.grown Q (Nat.lt_succ_self _));have K:=Qf ((J.o.trans (H.mono J.o.size)).setCell (p:=⟨w.heap.size,0,none⟩) nr (.pointer (some ⟨ib,0,none⟩)));have r0:=BK.c1 I;have fr0:=BK.f1 (I);have r3:=D.c1;clear I D Q H E G M O J P;go_wp2_with fail;refine bodyPost_ret (v:=.agg #[.pointer (some ⟨ib,0,none⟩)]) (by simp[results,Tryz.results149,go_sem,r3]) rfl ?_;exact⟨ib,rfl,L,K.o⟩
theorem Hg{b:Qb}{ib:Nat}(h:J5 a w.heap.size ib w)(P:a.length<=1000)(L:b.length<=65536):
  Qh 151 #[.agg #[.pointer (some ⟨ib,0,none⟩)],.string ⟨b.toArray⟩] w fun e w'=>(∃ad c,e=.returned (.slice ad (iM a b).length c)/\GIn jm 3 w'.heap.size w' ad (iM a b)/\(iM a b).length<=c)/\PM w w':=by
 obtain⟨w1,C⟩:=Qe (((w.alloc (.cells #[.pointer (some ⟨ib,0,none⟩)] 203)).alloc (.cells #[.string ⟨b.toArray⟩] 9)).alloc (.cells #[.pointer (some ⟨ib,0,none⟩)] 201));obtain⟨w2,B⟩:=Qe (w1.alloc (.cells #[.func (.func 190) #[] #[.pointer (some ⟨w.heap.size+1,0,none⟩),.pointer (some ⟨w.heap.size+2,0,none⟩)]] 255));have O:w1.heap.size=w.heap.size+3:=by rw[C]; simp
 have G:PM w w1:=by rw[C]; exact((ba _ _).alloc (by simp) _).alloc (by simp; omega) _
 have J:PM w1 w2:=by rw[B]; exact ba _ _
 have E:=G.trans (J.mono G.size);have k1:BK (w.heap.size+1) #[.string ⟨b.toArray⟩] 9 w2:=by rw[B,C]; exact((BK.new2 _ _ _ _).alloc _).alloc _
 have k2:BK (w.heap.size+2) #[.pointer (some ⟨ib,0,none⟩)] 201 w2:=by rw[B,C]; exact(BK.new3 _ _ _ _ _).alloc _
 have k3:BK (w.heap.size+3) #[.func (.func 190) #[] #[.pointer (some ⟨w.heap.size+1,0,none⟩),.pointer (some ⟨w.heap.size+2,0,none⟩)]] 255 w2:=by rw[B,<-O]; exact BK.new _ _ _
 have U:w2.heap.size=w.heap.size+4:=by rw[B]; simp; omega
 have K:Oe a b w2.heap.size ib (w.heap.size+1) (w.heap.size+2) (w.heap.size+3) w2:=⟨(h.below E nr).mono E.size,k1.c1,k2.c1,k3.c1,by omega,by omega,by omega⟩;have F:=Qf (Lb (Ff K nr P (by omega) 4 (by omega)) nr (enters_of Tryz.func193 (by kernel_rfl) rfl) (Kv P (by omega)));rw[Fe] at F;have V:=bH b;have W:¬(65536:Int)<(b.length:Int):=by omega
 have M:=Qf E;generalize b.length=n at *
 rw[B,C] at F;have I:=Qf B;have H:=Qf C;clear h G J E k1 k2 k3 K C B;generalize iM a b=D at F ⊢;go_enter Tryz.func151,Tryz.ntmps151;go_wp2_with fail
 refine F.o.mono ?_;rintro e u ⟨⟨ad,c,rfl,R,Q⟩,L⟩
 rw[<-H.o,<-I.o] at L;have T:=Qf R;have S:=Qf Q;have N:=Qf (M.o.trans (L.mono M.o.size));clear R Q L F M H I;go_wp2_with fail;go_ret;exact⟨⟨ad,c,rfl,T.o,S.o⟩,N.o⟩
theorem nO{w0 u0:World}{T:Qb}(n:Nat)(M:(n:Int)<=1099511627776)(h:BW w0 u0 b T w)(L:(T.length:Int)<=70368744177664):Qh 188 #[.int .i64 (n:Int),.pointer (some ⟨b,0,none⟩)] w fun e w'=>e=.returned (.tuple #[])/\Qg (BW w0 u0 b (T++Cw.enc n) w'):=by
 have C:=Qf (oL (n:Int) (by omega) M w);simp only[aj] at C;have J:=aG n;have H:=Qf h;generalize Cw.enc n=E at C J ⊢;have F:=Qf L;have D:=Qf J;clear h;go_enter Tryz.func188,Tryz.ntmps188;go_wp2_with fail
 refine C.o.mono ?_;rintro e u ⟨rfl,I⟩
 have B:=Qf (H.o.below I);have K:=Qf (cz B.o E (by have:=F.o; have:=D.o; omega));clear I C H B;go_wp2_with fail
 refine K.o.mono ?_;rintro e u2 ⟨rfl,G⟩
 go_wp2_with fail;go_end0;exact⟨rfl,G⟩
theorem LD(n:Nat):Cw.enc n≠[]:=by
 unfold Cw.enc;rw[Cw.encF];split <;> simp
theorem NA(l:List Dop)(k:Nat):((l.take k).flatMap mU).length<=(l.flatMap mU).length:=by
 conv=>rhs; rw[<-aQ k l,bg,af]
 omega
theorem Jr{l:List Dop}(B:bW l 65536=0):AV l=(Cw.enc l.length++l.flatMap mU,0)/\l.length<=65536/\(∀o∈l,mR o/\bS o<=65536/\o.off<=65536/\o.len<=65536/\o.data.length<=65536)/\(l.flatMap mU).length<=90194313216:=by
 have D:=(ED B).1;have C:vQ 65536 l 0=0:=by unfold bW at B; rwa[if_neg (by omega)] at B
 obtain⟨g1,g2⟩:=yO l 0 C (by omega);have g3:∀o∈l,mR o/\bS o<=65536/\o.off<=65536/\o.len<=65536/\o.data.length<=65536:=fun o A=>by
  obtain⟨k1,k2,k3⟩:=g1 o A;have k4:=Et k1;refine⟨k1,k2,?_,?_,by omega⟩
  ·by_cases e:0<o.len
   ·have:=k3 e; omega
   ·rcases k1 with⟨k,_⟩ | ⟨_,k,_⟩ <;> omega
  ·by_cases e:0<o.len
   ·have:=k3 e; omega
   ·omega
 refine⟨D,by omega,g3,?_⟩;have key:∀l:List Dop,(∀o∈l,mR o/\bS o<=65536/\o.data.length<=65536)->(l.flatMap mU).length<=l.length*1376256:=by
  intro l;induction l with
  | nil=>intro _; simp
  | cons o l ih=>
   intro h;have e1:=EA (h o (by simp)).1 (h o (by simp)).2.2;have e2:=(h o (by simp)).2.1;have e3:=ih (fun x G=>h x (by simp[G]));rw[bR,af,az,rM];omega
 have E:=key l (fun o A=>⟨(g3 o A).1,(g3 o A).2.1,(g3 o A).2.2.2.2⟩);have F:l.length<=65536:=by omega
 exact aC E (aC (pK 1376256 F) (by decide))
theorem Da{a:Qa}{l:List Dop}{c:Nat}(hl:GIn jm 3 w.heap.size w a l)(F0:(l.length:Int)<=1000000)(hs:∀o∈l,o.data.length<=1099511627776/\o.len<=1099511627776/\o.off<=1099511627776):
  Qh 150 #[.slice a l.length c] w fun e w'=>e=.returned (.tuple #[.string ⟨(AV l).1.toArray⟩,.int .i64 (AV l).2])/\PM w w':=by
 have HC:=Qf (qz a l c 65536 w hl (by decide) (by omega) hs);rw[show((65536:Nat):Int)=65536 from rfl] at HC;obtain⟨R,hR⟩:=Qe (AV l);rw[<-hR];by_cases G:bW l 65536=0
 case neg=>
  have HR:Qg (R=([],bW l 65536)):=Qf (by rw[hR]; unfold AV; rw[if_pos G]);generalize bW l 65536=ce at *
  have N:(ce !=0)=true:=by simpa using G
  generalize l.length=n at *
  clear hR hl hs G;go_enter Tryz.func150,Tryz.ntmps150;go_wp2_with fail
  refine HC.o.mono ?_;rintro e u ⟨rfl,hb⟩
  have H:=Qf hb;clear hb HC;go_wp2_with fail;go_ret2;exact⟨by rw[HR.o]; first | done | rfl,H.o⟩
 case pos=>
 obtain⟨he,E3,A1,L⟩:=Jr G;have HR:Qg (R=(Cw.enc l.length++l.flatMap mU,0)):=Qf (by rw[hR,he]);have B1:=Qf A1;have D7:=Qf L;have HL:=Qf hl;rw[G] at HC;obtain⟨n,hn⟩:=Qe l.length;have HN:Qg (n=l.length):=Qf hn;rw[<-hn] at HC HR E3 ⊢;clear hR hl hs G he A1 L hn;have F1:(n:Int)<=65536:=by omega
 go_enter Tryz.func150,Tryz.ntmps150;go_wp2_with fail
 refine HC.o.mono ?_;rintro e u ⟨rfl,hb⟩
 obtain⟨u1,O⟩:=Qe (u.alloc (.cells #[.pointer none,.slice none 0 0] 118));obtain⟨bb,X⟩:=Qe u.heap.size;have C7:PM w u1:=by rw[O]; exact hb.alloc hb.size _
 have B3:Qg (BW w u1 bb [] u1):=Qf (BW.start C7 (by rw[X]; exact hb.size) (by rw[O,X]; exact World.alloc_heap_new _ _));have B:=Qf (nO n (by omega) B3.o (by simp));rw[aY,O] at B;have HU:=Qf O;clear hb C7 HC O B3;go_wp2_with fail;rw[<-X];clear X
 refine B.o.mono ?_;rintro e u2 ⟨rfl,Q⟩
 rw[<-HU.o] at Q;have B5:=Qf (aG n);have B6:=Qf (LD n);generalize Cw.enc n=E at Q HR B5 B6;clear B HU;go_wp2_with fail;go_loopw [23] (fun i wr=>∃(k:Nat) (w0:World),k<=n/\i=.int .i64 (k:Int)/\Qg (BW w w0 bb (E++(l.take k).flatMap mU) wr)) (fun i _=>n-(intOf i).toNat)
 case atStart=>exact⟨0,u1,by omega,rfl,Qf (by simpa using Q.out)⟩
 clear Q;obtain⟨k,w0,hk,rfl,H⟩:=hrel;have hT:((E++(l.take k).flatMap mU).length:Int)<=90194313226:=by
  have h1:=NA l k;have h2:=D7.o;have h3:=B5.o;rw[af];omega
 by_cases E1:k<n
 ·have E0:(k:Int)<(n:Int):=by omega
  have A7:k<l.length:=by rw[<-HN.o]; exact E1
  obtain⟨b0,o0,D9,E9,q0,q1,q2⟩:=xX (HL.o.below H.o.bel nr) A7;obtain⟨g1,g2,g3,g4,g5⟩:=B1.o _ (ak A7);have D0:(l.take (k+1)).flatMap mU=(l.take k).flatMap mU++mU l[k]:=by rw[ai A7,bg]; simp
  have M:=aG l[k].len;have C9:=aG l[k].off;generalize l[k]=x at *
  obtain⟨off,len,data⟩:=x;simp only at q0 q1 q2 g3 g4 g5 M C9;have V:=Qf D0;generalize (l.take k).flatMap mU=F at H V hT;obtain⟨F2,A4⟩:=Qe ((l.take (k+1)).flatMap mU);rw[<-A4] at V;have Z:Qg ((l.take (k+1)).flatMap mU=F2):=Qf A4.symm;clear A4;obtain⟨T,A5⟩:=Qe (E++F);rw[<-A5] at H hT;have B9:=Qf A5;obtain⟨v,hv⟩:=Qe (wr.alloc (.cells #[.int .i64 (off:Int),.int .i64 (len:Int),.string ⟨data.toArray⟩] 246));have C6:PM wr v:=by rw[hv]; exact ba _ _
  have A9:BK wr.heap.size #[.int .i64 (off:Int),.int .i64 (len:Int),.string ⟨data.toArray⟩] 246 v:=by rw[hv]; exact BK.new _ _ _
  have B4:=Qf (H.o.below C6).anew;have N:wr.heap.size≠bb:=by
   have:=yQ H.o.bld;omega
  have C1:Qg (∀T' W',BW w v bb T' W'->BK wr.heap.size #[.int .i64 (off:Int),.int .i64 (len:Int),.string ⟨data.toArray⟩] 246 W'):=Qf (fun T' W' h=>h.block A9 N (by decide));have B:=Qf (nO len (by omega) B4.o (by omega));have U:=Qf (fun W=>lW ⟨off,len,data⟩ W);simp only[Dop.val] at U;have C8:mU ⟨off,len,data⟩=Cw.enc len++(if cZ ⟨off,len,data⟩=true then Cw.enc off else(putT data).1):=rfl;have K:Qg (F2=F++(Cw.enc len++(if cZ ⟨off,len,data⟩=true then Cw.enc off else(putT data).1))):=Qf (by rw[V.o,C8]);generalize cZ ⟨off,len,data⟩=cb at U K;obtain⟨c0,c1,c2⟩:=BK.c3 A9;rw[hv] at B c0 c1 c2;have HV:=Qf hv;have Y:=Qf M;have B8:=Qf hT;subst D9;clear C6 A9 hv D0 C8 V g1 g2 H B4 A5 M hT;go_wp2_with fail
  refine B.o.mono ?_;rintro e u3 ⟨rfl,C⟩
  rw[<-HV.o] at C;have D4:=C1.o _ _ C.out;obtain⟨d0,d1,d2⟩:=BK.c3 D4;clear D4 B c0 c1 c2 HV;go_wp2_with fail
  refine(U.o _).mono ?_;rintro e u4 ⟨rfl,C4⟩
  have I:=Qf (C.out.below C4);have D5:=C1.o _ _ I.o;obtain⟨c0,c1,c2⟩:=BK.c3 D5;clear D5 C4 C U d0 d1 d2;cases cb with
  | true=>
   have S:Qg (F2=F++(Cw.enc len++Cw.enc off)):=Qf (by rw[K.o,if_pos rfl]);have B7:=Qf (nO off (by omega) I.o (by rw[af]; have:=B8.o; have:=Y.o; omega));clear K;go_wp2_with fail
   refine B7.o.mono ?_;rintro e u5 ⟨rfl,J⟩
   have D:Qg (BW w v bb (E++F2) u5):=Qf (by rw[S.o,<-ay,<-ay,<-B9.o]; exact J.o);clear J B7 c0 c1 c2 I;go_wp2_with fail;go_roundw
   case rel=>exact⟨k+1,v,by omega,by go_num,by rw[Z.o]; exact D⟩
   case measure=>simp[intOf] <;> omega
  | false=>
   have D1:(putT data).1=fF data:=by unfold putT fF; rw[if_pos g5]
   have S:Qg (F2=F++(Cw.enc len++fF data)):=Qf (by rw[K.o,if_neg (by simp),D1]);have A3:=Qf (wM data g5 u4);have A8:(fF data).length<=65546:=by unfold fF; rw[af]; have:=aG data.length; omega
   generalize fF data=P at S A3 A8;have D8:=Qf A8;clear K D1 A8;go_wp2_with fail
   refine A3.o.mono ?_;rintro e u5 ⟨rfl,C5⟩
   have J:=Qf (I.o.below C5);have C0:=Qf (cz J.o P (by rw[af]; have:=B8.o; have:=Y.o; have:=D8.o; omega));clear C5 A3 c0 c1 c2 I;go_wp2_with fail
   refine C0.o.mono ?_;rintro e u6 ⟨rfl,B2⟩
   have D:Qg (BW w v bb (E++F2) u6):=Qf (by rw[S.o,<-ay,<-ay,<-B9.o]; exact B2.out);clear B2 J C0;go_wp2_with fail;go_roundw
   case rel=>exact⟨k+1,v,by omega,by go_num,by rw[Z.o]; exact D⟩
   case measure=>simp[intOf] <;> omega
 ·obtain rfl:k=n:=by omega
  have E0:¬(k:Int)<(k:Int):=by omega
  have D2:l.take k=l:=ag (by have:=HN.o; omega);rw[D2] at H;have D:Qg (R=(E++l.flatMap mU,0)):=HR;have N:E++l.flatMap mU≠[]:=by have:=B6.o; simp[this]
  have A0:=Qf (vC H.o N);generalize E++l.flatMap mU=T at A0 D;clear H D2 hT N HR;go_wp2_with fail
  refine A0.o.mono ?_;rintro e u3 ⟨rfl,C⟩
  go_wp2_with fail;go_ret2;exact⟨by rw[D.o]; first | done | rfl,C.out.bel⟩
