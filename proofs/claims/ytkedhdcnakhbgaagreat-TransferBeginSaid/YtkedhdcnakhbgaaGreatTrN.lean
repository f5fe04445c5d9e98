/- What a row's reading tells of a fetch that came in. -/
import Derived.Test.YtkedhdcnakhbgaaGreatK9
set_option linter.unusedSimpArgs false
set_option maxRecDepth 100000
set_option maxHeartbeats 16000000
namespace Go.Proofs.YtkedhdcnakhbgaaGreat
open Go.ChangeShapes Go.WideShapes Go.ChangeAt Go.RowKit Go.Deep
set_option linter.unusedVariables false
variable {cs:List Value}{fuel:Nat}{v:Value}
theorem list_of{α:Type}(Q:Nat->α->Prop):∀(n:Nat),(∀i,i<n->∃x,Q i x)->∃l:List α,l.length=n/\∀i (h:i<l.length),Q i l[i]
 | 0,_=>⟨[],rfl,fun i h=>by simp at h⟩
 | n+1,h=>by
  obtain⟨l,C,D⟩:=list_of Q n (fun i B=>h i (by omega));obtain⟨x,E⟩:=h n (by omega);refine⟨l++[x],by simp[C],fun i B=>?_⟩;by_cases A:i<l.length
  ·rw[sU A]; exact D i A
  ·obtain rfl:i=l.length:=by simp at B; omega
   simpa[C] using E
theorem okD_wf{d:Int×Int}(A:(Lit.int .u64 d.1).wf=true)(B:(Lit.int .u64 d.2).wf=true):OkD d:=by
 simp[Lit.wf,IntKind.min,IntKind.max,IntKind.signed,IntKind.bits] at A B;exact⟨⟨by omega,by omega⟩,by omega,by omega⟩
structure PoolCame (W:World) (a:Qa) (xs:List Itm) (c:Nat):Prop where
 its:Its W.heap.size W a xs
 cap:xs.length<=c/\c<=maxLen
 dat:∀x∈xs,OkD x.d/\x.data.length<=maxLen
structure DsCame (W:World) (a:Qa) (ds:Qd) (c:Nat):Prop where
 dig:dE W.heap.size W a ds
 cap:ds.length<=c/\c<=maxLen
 ok:∀d∈ds,OkD d
def Txs(B:Nat)(W:World)(a:Qa)(ts:List (Qb)):Prop:=∀i (h:i<ts.length),∃b off,a=some ⟨b,off,none⟩/\b<B/\W.cell? ⟨b,off+i,none⟩=some (.string ⟨ts[i].toArray⟩)
structure Fet where
 xs:List Itm
 ys:List Itm
 want:Qd
 com:Qd
 ts:List (Qb)
 sz:Int
structure FetA where
 ha:Qa
 hc:Nat
 ya:Qa
 yc:Nat
 wa:Qa
 wc:Nat
 ca:Qa
 cc:Nat
 ta:Qa
 tc:Nat
def Fet.arr(x:Fet)(A:FetA):Array Value:=#[.slice A.ha x.xs.length A.hc,.slice A.ya x.ys.length A.yc,.slice A.wa x.want.length A.wc,.slice A.ca x.com.length A.cc,.slice A.ta x.ts.length A.tc,.int .i64 x.sz]
structure FetCame (W:World) (x:Fet) (A:FetA):Prop where
 h:PoolCame W A.ha x.xs A.hc
 y:PoolCame W A.ya x.ys A.yc
 w:DsCame W A.wa x.want A.wc
 c:DsCame W A.ca x.com A.cc
 t:Txs W.heap.size W A.ta x.ts
 tl:x.ts.length<=A.tc/\A.tc<=maxLen
def DigsOk(ds:Qd):Prop:=∀d∈ds,(Lit.int .u64 d.1).wf=true/\(Lit.int .u64 d.2).wf=true
section
variable {H:Type} {enc:TypeId×Value->H} {W:World}
theorem open_rows{t e:TypeId}{C:Nat}{a:Qa}{len cap fuel:Nat}{x:DataW H×List MemPlace}(Z:Tryz.prog.underlying t=some (.slice e))(Q:Tryz.prog.cellsOf e=C)(T:0<C)
  (h:DataW.trod enc Tryz.prog W 0 (fun _=>true) true fuel t [.slice a len cap]=some x) :
  (len<=cap/\cap<=maxLen)/\∀i,i<len->∃b off cs n y,a=some ⟨b,off,none⟩/\b<W.heap.size/\cs.length=C/\(∀(j:Nat) (v:Value),cs[j]? = some v->W.cell? ⟨b,off+i*C+j,none⟩=some v)/\DataW.trod enc Tryz.prog W 0 (fun _=>true) true n e cs=some y:=by
 rcases open_slice Z h with⟨B,_⟩ | ⟨ad,l,c,m,n,D,Pl,B,_,V,Y,O,_,M⟩
 ·simp at B
  obtain⟨rfl,rfl,rfl⟩:=B;exact⟨⟨nr,Nat.zero_le _⟩,fun i M=>by omega⟩
 ·simp at B
  obtain⟨rfl,rfl,rfl⟩:=B;refine⟨⟨V,Y⟩,fun i X=>?_⟩;simp only[if_true] at O;obtain⟨cs0,L,_⟩:=M 0 (by omega);obtain⟨_,J,E⟩:=World.cells?_some L;rw[Q] at J E;obtain⟨b,off,spot⟩:=ad;have e0:W.cell? ((⟨b,off,spot⟩:Addr).add 0)=some (cs0[0]'(by omega)):=by
   have:=E 0 T;rw[List.getElem?_eq_getElem (by omega)] at this;simpa[Addr.add] using this
  have G:spot=none:=by simpa[Addr.add] using World.cell?_spot e0
  subst G;obtain⟨cs',U,P⟩:=M i (by omega);obtain⟨_,F,I⟩:=World.cells?_some U;rw[Q] at F I;have K:b<W.heap.size:=by
   unfold World.cell? at e0;simp only[Addr.add,if_true] at e0;cases S:W.heap[b]? with
   | none=>simp[S] at e0
   | some o=>exact(Array.getElem?_eq_some_iff.1 S).1
  refine⟨b,off,cs',n,_,rfl,K,F,fun j v R=>?_,P⟩;have N:j<C:=by rw[<-F]; exact(List.getElem?_eq_some_iff.1 R).1
  have:=I j N;rw[R,Go.WideShapes.add_plain,Go.WideShapes.add_plain] at this;exact this
theorem trod_slice_val{t e:TypeId}{c:Value}{x:DataW H×List MemPlace}(C:Tryz.prog.underlying t=some (.slice e))(h:DataW.trod enc Tryz.prog W 0 (fun _=>true) true fuel t [c]=some x):∃a len cap,c=.slice a len cap:=by
 rcases open_slice C h with⟨B,_⟩ | ⟨ad,l,c,m,n,D,Pl,B,_⟩
 ·simp at B; exact⟨_,_,_,B⟩
 ·simp at B; exact⟨_,_,_,B⟩
theorem trod_digest{x:DataW H×List MemPlace}(h:DataW.trod enc Tryz.prog W 0 (fun _=>true) true fuel 54 cs=some x):∃p:Int×Int,cs=[.int .u64 p.1,.int .u64 p.2]/\(Lit.int .u64 p.1).wf=true/\(Lit.int .u64 p.2).wf=true:=by
 obtain⟨xs,n,_,_,D,B,C⟩:=DataW.trod_array Tryz.underlying54 h;rw[show Tryz.prog.cellsOf 54=2 by kernel_rfl] at D
 match cs,D with
 | [c0,c1],_=>
  match xs,B with
  | [x0,x1],_=>
   obtain⟨o,e0,_,w0⟩:=DataW.trod_int Tryz.underlying52 (show DataW.trod enc Tryz.prog W 0 (fun _=>true) true n 52 [c0]=some x0 from C 0 (by decide));obtain⟨s,e1,_,w1⟩:=DataW.trod_int Tryz.underlying52 (show DataW.trod enc Tryz.prog W 0 (fun _=>true) true n 52 [c1]=some x1 from C 1 (by decide));cases e0;cases e1;exact⟨(o,s),rfl,w0,w1⟩
theorem open_digs{a:Qa}{len cap:Nat}{x:DataW H×List MemPlace}(h:DataW.trod enc Tryz.prog W 0 (fun _=>true) true fuel 24 [.slice a len cap]=some x):(len<=cap/\cap<=maxLen)/\∃ds:Qd,len=ds.length/\dE W.heap.size W a ds/\DigsOk ds:=by
 obtain⟨K,L⟩:=open_rows Tryz.underlying24 (C:=2) (by kernel_rfl) (by decide) h;obtain⟨ds,E,F⟩:=list_of (fun i (p:Int×Int)=>(∃b off,a=some ⟨b,off,none⟩/\b<W.heap.size/\W.cell? ⟨b,off+i*2,none⟩=some (.int .u64 p.1)/\W.cell? ⟨b,off+i*2+1,none⟩=some (.int .u64 p.2))/\(Lit.int .u64 p.1).wf=true/\(Lit.int .u64 p.2).wf=true) len (fun i D=>by
  obtain⟨b,off,cs,n,y,G,I,_,B,M⟩:=L i D;obtain⟨p,rfl,w0,w1⟩:=trod_digest M;exact⟨p,⟨b,off,G,I,B 0 _ rfl,B 1 _ rfl⟩,w0,w1⟩)
 refine⟨K,ds,E.symm,fun i D=>(F i D).1,fun d J=>?_⟩;obtain⟨i,D,rfl⟩:=aV J;exact(F i D).2
theorem trod_itm{x:DataW H×List MemPlace}(h:DataW.trod enc Tryz.prog W 0 (fun _=>true) true fuel 56 cs=some x):∃e:Itm,cs=[.int .u64 e.d.1,.int .u64 e.d.2,.string ⟨e.data.toArray⟩]/\OkD e.d/\e.data.length<=maxLen:=by
 obtain⟨xs,n,_,_,D,B,C⟩:=DataW.trod_struct Tryz.underlying56 h;rw[show Tryz.prog.cellsOf 56=3 by kernel_rfl] at D
 match cs,D with
 | [c0,c1,c2],_=>
  match xs,B with
  | [x0,x1],_=>
   obtain⟨d,e2,w0,w1⟩:=trod_digest (show DataW.trod enc Tryz.prog W 0 (fun _=>true) true n 54 [c0,c1]=some x0 from C 0 _ rfl);obtain⟨s,e0,_,ws⟩:=DataW.trod_string Tryz.underlying9 (show DataW.trod enc Tryz.prog W 0 (fun _=>true) true n 9 [c2]=some x1 from C 1 _ rfl);cases e0;cases e2;exact⟨⟨d,s.data.toList⟩,by rw[<-ba_eq (t:=s) rfl],okD_wf w0 w1,ws⟩
theorem trod_dlist{x:DataW H×List MemPlace}(h:DataW.trod enc Tryz.prog W 0 (fun _=>true) true fuel 24 [v]=some x):∃a ds c,v=.slice a (List.length ds) c/\DsCame W a ds c:=by
 obtain⟨a,l,c,rfl⟩:=trod_slice_val Tryz.underlying24 h;obtain⟨D,ds,rfl,C,B⟩:=open_digs h;exact⟨a,ds,c,rfl,C,D,fun d C=>okD_wf (B d C).1 (B d C).2⟩
theorem trod_pool{x:DataW H×List MemPlace}(h:DataW.trod enc Tryz.prog W 0 (fun _=>true) true fuel 23 [v]=some x):∃a xs c,v=.slice a (List.length xs) c/\PoolCame W a xs c:=by
 obtain⟨a,len,cap,rfl⟩:=trod_slice_val Tryz.underlying23 h;obtain⟨M,K⟩:=open_rows Tryz.underlying23 (C:=3) (by kernel_rfl) (by decide) h;obtain⟨xs,E,F⟩:=list_of (fun i (e:Itm)=>(∃b off,a=some ⟨b,off,none⟩/\b<W.heap.size/\W.cell? ⟨b,off+i*3,none⟩=some (.int .u64 e.d.1)/\W.cell? ⟨b,off+i*3+1,none⟩=some (.int .u64 e.d.2)/\W.cell? ⟨b,off+i*3+2,none⟩=some (.string ⟨e.data.toArray⟩))/\OkD e.d/\e.data.length<=maxLen) len (fun i D=>by
  obtain⟨b,off,cs,n,y,G,I,_,B,L⟩:=K i D;obtain⟨e,rfl,w0,w1⟩:=trod_itm L;exact⟨e,⟨b,off,G,I,B 0 _ rfl,B 1 _ rfl,B 2 _ rfl⟩,w0,w1⟩)
 refine⟨a,xs,cap,by rw[E],fun i D=>(F i D).1,by omega,fun e J=>?_⟩;obtain⟨i,D,rfl⟩:=aV J;exact(F i D).2
theorem trod_texts{x:DataW H×List MemPlace}(h:DataW.trod enc Tryz.prog W 0 (fun _=>true) true fuel 25 [v]=some x):∃a ts c,v=.slice a (List.length ts) c/\Txs W.heap.size W a ts/\ts.length<=c/\c<=maxLen:=by
 obtain⟨a,len,cap,rfl⟩:=trod_slice_val Tryz.underlying25 h;obtain⟨K,M⟩:=open_rows Tryz.underlying25 (C:=1) (by kernel_rfl) (by decide) h;obtain⟨ts,E,L⟩:=list_of (fun i (e:Qb)=>∃b off,a=some ⟨b,off,none⟩/\b<W.heap.size/\W.cell? ⟨b,off+i,none⟩=some (.string ⟨e.toArray⟩)) len (fun i J=>by
  obtain⟨b,off,cs,n,y,G,I,D,B,N⟩:=M i J
  match cs,D with
  | [c0],_=>
   obtain⟨s,e0,_⟩:=DataW.trod_string Tryz.underlying9 N;cases e0;have F:=B 0 _ rfl;rw[Nat.mul_one,Nat.add_zero] at F;exact⟨s.data.toList,b,off,G,I,by simpa using F⟩)
 exact⟨a,ts,cap,by rw[E],L,by omega,K.2⟩
theorem trod_fetch{x:DataW H×List MemPlace}(h:DataW.trod enc Tryz.prog W 0 (fun _=>true) true fuel 27 cs=some x):
  ∃(t:Fet) (A:FetA),cs=(t.arr A).toList/\FetCame W t A:=by
 obtain⟨xs,n,_,_,F,E,B⟩:=DataW.trod_struct Tryz.underlying27 h;rw[show Tryz.prog.cellsOf 27=6 by kernel_rfl] at F
 match cs,F with
 | [c0,c1,c2,c3,c4,c5],_=>
  match xs,E with
  | [x0,x1,x2,x3,x4,x5],_=>
   obtain⟨wa,want,wc,rfl,L⟩:=trod_pool (show DataW.trod enc Tryz.prog W 0 (fun _=>true) true n 23 [c0]=some x0 from B 0 _ rfl);obtain⟨qa,queue,qc,rfl,J⟩:=trod_pool (show DataW.trod enc Tryz.prog W 0 (fun _=>true) true n 23 [c1]=some x1 from B 1 _ rfl);obtain⟨aa,asked,ac,rfl,G⟩:=trod_dlist (show DataW.trod enc Tryz.prog W 0 (fun _=>true) true n 24 [c2]=some x2 from B 2 _ rfl);obtain⟨ca,common,cc,rfl,I⟩:=trod_dlist (show DataW.trod enc Tryz.prog W 0 (fun _=>true) true n 24 [c3]=some x3 from B 3 _ rfl);obtain⟨ta,ts,tc,rfl,K,C,D⟩:=trod_texts (show DataW.trod enc Tryz.prog W 0 (fun _=>true) true n 25 [c4]=some x4 from B 4 _ rfl);obtain⟨b,e5,_,_⟩:=DataW.trod_int Tryz.underlying3 (show DataW.trod enc Tryz.prog W 0 (fun _=>true) true n 3 [c5]=some x5 from B 5 _ rfl);cases e5;exact⟨⟨want,queue,asked,common,ts,b⟩,⟨wa,wc,qa,qc,aa,ac,ca,cc,ta,tc⟩,rfl,L,J,G,I,K,C,D⟩
theorem open_fetch{r:Reach}{b0:Nat}{d:DataW H}{p:List MemPlace}(F:Value.okWide Tryz.prog W r b0 27 v)(h:DataW.Trod enc Tryz.prog W 0 (fun _=>true) true 27 v d p):
  ∃(t:Fet) (A:FetA),v=.agg (t.arr A)/\FetCame W t A:=by
 obtain⟨cs,rfl,E⟩:=okWide_struct Tryz.underlying27 F;obtain⟨fuel,D⟩:=h;obtain⟨t,A,B,C⟩:=trod_fetch D;refine⟨t,A,?_,C⟩;have B:cs.toList=(t.arr A).toList:=B;rw[Array.toList_inj.1 B]
end
