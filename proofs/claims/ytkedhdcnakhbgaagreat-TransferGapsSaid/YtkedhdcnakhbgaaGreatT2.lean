/- Lemmas. -/
import Derived.Test.YtkedhdcnakhbgaaGreatG5
import Derived.Test.YtkedhdcnakhbgaaGreatG6
import Derived.Test.YtkedhdcnakhbgaaGreatT3
import Derived.Test.YtkedhdcnakhbgaaGreatT1
set_option linter.unusedSimpArgs false
set_option maxRecDepth 100000
set_option maxHeartbeats 16000000
namespace Go.Proofs.YtkedhdcnakhbgaaGreat
open Go.ChangeShapes Go.WideShapes Go.ChangeAt Go.RowKit Go.Deep
set_option linter.unusedVariables false
variable {ts:List (Qb)}{xs:List Itm}{cs:List Value}{B b cc fuel wc:Nat}{a ca wa:Qa}{com want:Qd}{v:Value}{W W':World}
theorem Qw{α:Type}(Q:Nat->α->Prop):∀(n:Nat),(∀i,i<n->∃x,Q i x)->∃l:List α,l.length=n/\∀i (h:i<l.length),Q i l[i]
 | 0,_=>⟨[],rfl,fun i h=>by simp at h⟩
 | n+1,h=>by
  obtain⟨l,C,D⟩:=Qw Q n (fun i B=>h i Zo);obtain⟨x,E⟩:=h n Zo;refine⟨l++[x],Zj C,fun i B=>?_⟩;by_cases A:i<l.length
  ·rw[sU A]; exact D i A
  ·obtain rfl:i=l.length:=by simp at B; omega
   simpa[C] using E
theorem TQ{d:Int×Int}(A:(Lit.int .u64 d.1).wf=true)(B:(Lit.int .u64 d.2).wf=true):OkD d:=by
 simp[Lit.wf,IntKind.min,IntKind.max,IntKind.signed,IntKind.bits] at A B;exact⟨⟨Zo,Zo⟩,Zo,Zo⟩
structure PZ (W:World) (a:Qa) (xs:List Itm) (c:Nat):Prop where
 its:Its W.heap.size W a xs
 cap:xs.length<=c/\c<=maxLen
 dat:∀x∈xs,OkD x.d/\x.data.length<=maxLen
structure Va (W:World) (a:Qa) (ds:Qd) (c:Nat):Prop where
 dig:dE W.heap.size W a ds
 cap:ds.length<=c/\c<=maxLen
 ok:∀d∈ds,OkD d
def Txs(B:Nat)(W:World)(a:Qa)(ts:List (Qb)):Prop:=∀i (h:i<ts.length),∃b off,a=some ⟨b,off,none⟩/\b<B/\W.cell? ⟨b,off+i,none⟩=some (.string ⟨ts[i].toArray⟩)
structure Fet where
 xs:List Itm
 ys:List Itm
 want:Qd
 com:Qd
 ts:List (Qb)
 sz:Int
structure Sz where
 ha:Qa
 hc:Nat
 ya:Qa
 yc:Nat
 wa:Qa
 wc:Nat
 ca:Qa
 cc:Nat
 ta:Qa
 tc:Nat
def Fet.arr(x:Fet)(A:Sz):Array Value:=#[.slice A.ha x.xs.length A.hc,.slice A.ya x.ys.length A.yc,.slice A.wa x.want.length A.wc,.slice A.ca x.com.length A.cc,.slice A.ta x.ts.length A.tc,Yi x.sz]
structure PW (W:World) (x:Fet) (A:Sz):Prop where
 h:PZ W A.ha x.xs A.hc
 y:PZ W A.ya x.ys A.yc
 w:Va W A.wa x.want A.wc
 c:Va W A.ca x.com A.cc
 t:Txs W.heap.size W A.ta x.ts
 tl:x.ts.length<=A.tc/\A.tc<=maxLen
def Vb(ds:Qd):Prop:=∀d∈ds,(Lit.int .u64 d.1).wf=true/\(Lit.int .u64 d.2).wf=true
section
variable {H:Type} {enc:TypeId×Value->H} {W:World}
theorem Qn{t e:TypeId}{C:Nat}{a:Qa}{len cap fuel:Nat}{x:DataW H×List MemPlace}(Z:Tryz.prog.underlying t=some (.slice e))(Q:Tryz.prog.cellsOf e=C)(T:0<C)
  (h:DataW.trod enc Tryz.prog W 0 (fun _=>true) true fuel t [.slice a len cap]=some x) :
  (len<=cap/\cap<=maxLen)/\∀i,i<len->∃b A0 cs n y,a=some ⟨b,A0,none⟩/\b<W.heap.size/\cs.length=C/\(∀(j:Nat) (v:Value),cs[j]? = some v->W.cell? ⟨b,A0+i*C+j,none⟩=some v)/\DataW.trod enc Tryz.prog W 0 (fun _=>true) true n e cs=some y:=by
 rcases open_slice Z h with⟨B,_⟩ | ⟨ad,l,c,m,n,D,Pl,B,_,V,Y,O,_,M⟩
 ·simp at B;obtain⟨rfl,rfl,rfl⟩:=B;exact⟨⟨nr,Q6 _⟩,fun i M=>Zo⟩
 ·simp at B;obtain⟨rfl,rfl,rfl⟩:=B;refine⟨⟨V,Y⟩,fun i X=>?_⟩;simp only[if_true] at O;obtain⟨A3,L,_⟩:=M 0 Zo;obtain⟨_,J,E⟩:=World.cells?_some L;rw[Q] at J E;obtain⟨b,A0,A1⟩:=ad;have e0:W.cell? ((⟨b,A0,A1⟩:Addr).add 0)=some (A3[0]'Zo):=by
   have:=E 0 T;rw[List.getElem?_eq_getElem Zo] at this;simpa[Addr.add] using this
  have G:A1=none:=by simpa[Addr.add] using World.cell?_spot e0
  subst G;obtain⟨A2,U,P⟩:=M i Zo;obtain⟨_,F,I⟩:=World.cells?_some U;rw[Q] at F I;have K:b<W.heap.size:=by
   unfold World.cell? at e0;simp only[Addr.add,if_true] at e0;cases S:W.heap[b]? with
   | none=>simp[S] at e0
   | some o=>exact(Array.getElem?_eq_some_iff.1 S).1
  refine⟨b,A0,A2,n,_,rfl,K,F,fun j v R=>?_,P⟩;have N:j<C:=F▸(List.getElem?_eq_some_iff.1 R).1;have:=I j N;rw[R,Go.WideShapes.add_plain,Go.WideShapes.add_plain] at this;exact this
theorem P8{t e:TypeId}{c:Value}{x:DataW H×List MemPlace}(C:Tryz.prog.underlying t=some (.slice e))(h:DataW.trod enc Tryz.prog W 0 (fun _=>true) true fuel t [c]=some x):∃a F E,c=.slice a F E:=by
 rcases open_slice C h with⟨B,_⟩ | ⟨ad,l,c,m,n,D,Pl,B,_⟩
 ·simp at B; exact⟨_,_,_,B⟩
 ·simp at B; exact⟨_,_,_,B⟩
theorem Qj{x:DataW H×List MemPlace}(h:DataW.trod enc Tryz.prog W 0 (fun _=>true) true fuel 54 cs=some x):∃p:Int×Int,cs=[Yu p.1,Yu p.2]/\(Lit.int .u64 p.1).wf=true/\(Lit.int .u64 p.2).wf=true:=by
 obtain⟨xs,n,_,_,D,B,C⟩:=DataW.trod_array Tryz.underlying54 h;rw[show Tryz.prog.cellsOf 54=2 by kernel_rfl] at D
 match cs,D with
 | [c0,c1],_=>
  match xs,B with
  | [x0,x1],_=>
   obtain⟨o,e0,_,w0⟩:=DataW.trod_int Tryz.underlying52 (show DataW.trod enc Tryz.prog W 0 (fun _=>true) true n 52 [c0]=some x0 from C 0 Zd);obtain⟨s,e1,_,w1⟩:=DataW.trod_int Tryz.underlying52 (show DataW.trod enc Tryz.prog W 0 (fun _=>true) true n 52 [c1]=some x1 from C 1 Zd);cases e0;cases e1;exact⟨(o,s),rfl,w0,w1⟩
theorem Td{len cap:Nat}{x:DataW H×List MemPlace}(h:DataW.trod enc Tryz.prog W 0 (fun _=>true) true fuel 24 [.slice a len cap]=some x):(len<=cap/\cap<=maxLen)/\∃ds:Qd,len=ds.length/\dE W.heap.size W a ds/\Vb ds:=by
 obtain⟨K,L⟩:=Qn Tryz.underlying24 (C:=2) Zk Zd h;obtain⟨ds,E,F⟩:=Qw (fun i (p:Int×Int)=>(∃b N,a=some ⟨b,N,none⟩/\b<W.heap.size/\W.cell? ⟨b,N+i*2,none⟩=some (Yu p.1)/\W.cell? ⟨b,N+i*2+1,none⟩=some (Yu p.2))/\(Lit.int .u64 p.1).wf=true/\(Lit.int .u64 p.2).wf=true) len (fun i D=>by
  obtain⟨b,N,cs,n,y,G,I,_,B,M⟩:=L i D;obtain⟨p,rfl,w0,w1⟩:=Qj M;exact⟨p,⟨b,N,G,I,B 0 _ rfl,B 1 _ rfl⟩,w0,w1⟩)
 refine⟨K,ds,E.symm,fun i D=>(F i D).1,fun d J=>?_⟩;obtain⟨i,D,rfl⟩:=aV J;exact(F i D).2
theorem Sm{x:DataW H×List MemPlace}(h:DataW.trod enc Tryz.prog W 0 (fun _=>true) true fuel 56 cs=some x):∃e:Itm,cs=[Yu e.d.1,Yu e.d.2,.string ⟨e.data.toArray⟩]/\OkD e.d/\e.data.length<=maxLen:=by
 obtain⟨xs,n,_,_,D,B,C⟩:=DataW.trod_struct Tryz.underlying56 h;rw[show Tryz.prog.cellsOf 56=3 by kernel_rfl] at D
 match cs,D with
 | [c0,c1,c2],_=>
  match xs,B with
  | [x0,x1],_=>
   obtain⟨d,e2,w0,w1⟩:=Qj (show DataW.trod enc Tryz.prog W 0 (fun _=>true) true n 54 [c0,c1]=some x0 from C 0 _ rfl);obtain⟨s,e0,_,ws⟩:=DataW.trod_string Tryz.underlying9 (show DataW.trod enc Tryz.prog W 0 (fun _=>true) true n 9 [c2]=some x1 from C 1 _ rfl);cases e0;cases e2;exact⟨⟨d,s.data.toList⟩,by rw[<-QG (t:=s) rfl],TQ w0 w1,ws⟩
theorem RI{x:DataW H×List MemPlace}(h:DataW.trod enc Tryz.prog W 0 (fun _=>true) true fuel 24 [v]=some x):∃a ds c,v=.slice a (List.length ds) c/\Va W a ds c:=by
 obtain⟨a,l,c,rfl⟩:=P8 Tryz.underlying24 h;obtain⟨D,ds,rfl,C,B⟩:=Td h;exact⟨a,ds,c,rfl,C,D,fun d C=>TQ (B d C).1 (B d C).2⟩
theorem Ri{x:DataW H×List MemPlace}(h:DataW.trod enc Tryz.prog W 0 (fun _=>true) true fuel 23 [v]=some x):∃a xs c,v=.slice a (List.length xs) c/\PZ W a xs c:=by
 obtain⟨a,P,O,rfl⟩:=P8 Tryz.underlying23 h;obtain⟨M,K⟩:=Qn Tryz.underlying23 (C:=3) Zk Zd h;obtain⟨xs,E,F⟩:=Qw (fun i (e:Itm)=>(∃b N,a=some ⟨b,N,none⟩/\b<W.heap.size/\W.cell? ⟨b,N+i*3,none⟩=some (Yu e.d.1)/\W.cell? ⟨b,N+i*3+1,none⟩=some (Yu e.d.2)/\W.cell? ⟨b,N+i*3+2,none⟩=some (.string ⟨e.data.toArray⟩))/\OkD e.d/\e.data.length<=maxLen) P (fun i D=>by
  obtain⟨b,N,cs,n,y,G,I,_,B,L⟩:=K i D;obtain⟨e,rfl,w0,w1⟩:=Sm L;exact⟨e,⟨b,N,G,I,B 0 _ rfl,B 1 _ rfl,B 2 _ rfl⟩,w0,w1⟩)
 refine⟨a,xs,O,Zx E,fun i D=>(F i D).1,Zo,fun e J=>?_⟩;obtain⟨i,D,rfl⟩:=aV J;exact(F i D).2
theorem Ud{x:DataW H×List MemPlace}(h:DataW.trod enc Tryz.prog W 0 (fun _=>true) true fuel 25 [v]=some x):∃a ts c,v=.slice a (List.length ts) c/\Txs W.heap.size W a ts/\ts.length<=c/\c<=maxLen:=by
 obtain⟨a,Q,P,rfl⟩:=P8 Tryz.underlying25 h;obtain⟨K,M⟩:=Qn Tryz.underlying25 (C:=1) Zk Zd h;obtain⟨ts,E,L⟩:=Qw (fun i (e:Qb)=>∃b O,a=some ⟨b,O,none⟩/\b<W.heap.size/\W.cell? ⟨b,O+i,none⟩=some (.string ⟨e.toArray⟩)) Q (fun i J=>by
  obtain⟨b,O,cs,n,y,G,I,D,B,N⟩:=M i J
  match cs,D with
  | [c0],_=>
   obtain⟨s,e0,_⟩:=DataW.trod_string Tryz.underlying9 N;cases e0;have F:=B 0 _ rfl;rw[Nat.mul_one,QI] at F;exact⟨s.data.toList,b,O,G,I,Zu F⟩)
 exact⟨a,ts,P,Zx E,L,Zo,K.2⟩
theorem Ue{x:DataW H×List MemPlace}(h:DataW.trod enc Tryz.prog W 0 (fun _=>true) true fuel 27 cs=some x):
  ∃(t:Fet) (A:Sz),cs=(t.arr A).toList/\PW W t A:=by
 obtain⟨xs,n,_,_,F,E,B⟩:=DataW.trod_struct Tryz.underlying27 h;rw[show Tryz.prog.cellsOf 27=6 by kernel_rfl] at F
 match cs,F with
 | [c0,c1,c2,c3,c4,c5],_=>
  match xs,E with
  | [x0,x1,x2,x3,x4,x5],_=>
   obtain⟨wa,P,wc,rfl,L⟩:=Ri (show DataW.trod enc Tryz.prog W 0 (fun _=>true) true n 23 [c0]=some x0 from B 0 _ rfl);obtain⟨qa,O,qc,rfl,J⟩:=Ri (show DataW.trod enc Tryz.prog W 0 (fun _=>true) true n 23 [c1]=some x1 from B 1 _ rfl);obtain⟨aa,N,ac,rfl,G⟩:=RI (show DataW.trod enc Tryz.prog W 0 (fun _=>true) true n 24 [c2]=some x2 from B 2 _ rfl);obtain⟨ca,M,cc,rfl,I⟩:=RI (show DataW.trod enc Tryz.prog W 0 (fun _=>true) true n 24 [c3]=some x3 from B 3 _ rfl);obtain⟨ta,ts,tc,rfl,K,C,D⟩:=Ud (show DataW.trod enc Tryz.prog W 0 (fun _=>true) true n 25 [c4]=some x4 from B 4 _ rfl);obtain⟨b,e5,_,_⟩:=DataW.trod_int Tryz.underlying3 (show DataW.trod enc Tryz.prog W 0 (fun _=>true) true n 3 [c5]=some x5 from B 5 _ rfl);cases e5;exact⟨⟨P,O,N,M,ts,b⟩,⟨wa,wc,qa,qc,aa,ac,ca,cc,ta,tc⟩,rfl,L,J,G,I,K,C,D⟩
theorem Um{r:Reach}{b0:Nat}{d:DataW H}{p:List MemPlace}(F:Value.okWide Tryz.prog W r b0 27 v)(h:DataW.Trod enc Tryz.prog W 0 (fun _=>true) true 27 v d p):
  ∃(t:Fet) (A:Sz),v=.agg (t.arr A)/\PW W t A:=by
 obtain⟨cs,rfl,E⟩:=okWide_struct Tryz.underlying27 F;obtain⟨G,D⟩:=h;obtain⟨t,A,B,C⟩:=Ue D;refine⟨t,A,?_,C⟩;have B:cs.toList=(t.arr A).toList:=B;rw[Array.toList_inj.1 B]
end
open Go.RowKit Go.Shelf
structure QM (x:Fet):Prop where
 pg:Cr x.xs=false
 ck:mV x.xs=0
 lw:x.want.length<=6
 lc:x.com.length<=6
 lt:x.ts.length<=4
 tl:∀t∈x.ts,t.length<=6000
 gy:Cr x.ys=false
 ky:mV x.ys=0
theorem RG(h:Cr xs=false):xs.length<=40/\∀x∈xs,x.data.length<=500:=by
 simp only[Cr,Bool.or_eq_false_iff,decide_eq_false_iff_not,List.any_eq_false] at h;exact⟨Zo,fun x A=>by have:=h.2 x A; simp at this; omega⟩
theorem Sa(x:Fet)(A:Sz)(w:World)(h:PW w x A):
  Qh 10 #[.agg (x.arr A)] w fun e w'=>(∃r,e=.returned (.bool r)/\(r=true->QM x))/\PM w w':=by
 obtain⟨xs,ys,A6,B6,ts,sz⟩:=x;obtain⟨X,K,ya,yc,wa,wc,ca,cc,ta,tc⟩:=A;obtain⟨U,V,h3,h4,h5,h6⟩:=h;simp only at U V h3 h4 h5 h6;have B7:=U.cap;have B8:=V.cap;have B9:=h3.cap;have C0:=h4.cap;unfold maxLen at B7 B8 B9 C0 h6;have B3:∀x∈xs,(x.data.length:Int)<=9223372036854775807:=fun x T=>by have:=(U.dat x T).2; unfold maxLen at this; omega
 have B4:∀x∈ys,(x.data.length:Int)<=9223372036854775807:=fun x T=>by have:=(V.dat x T).2; unfold maxLen at this; omega
 obtain⟨Y,Z,O,P,I,J⟩:=Yn (fun W (Q:PM w W)=>Ol X xs K W (U.its.ahead Q) Zo B3) (fun W (Q:PM w W)=>Ol ya ys yc W (V.its.ahead Q) Zo B4) (fun(R:Cr xs=false) W (Q:PM w W)=>M7 X xs K W (U.its.ahead Q) (Zh ((RG R).1)) (fun x T=>Zh ((RG R).2 x T))) (fun(R:Cr ys=false) W (Q:PM w W)=>M7 ya ys yc W (V.its.ahead Q) (Zh ((RG R).1)) (fun x T=>Zh ((RG R).2 x T))) (fun(R:Cr xs=false) (hk:mV xs=0) W (Q:PM w W)=>Oi X xs K W (U.its.ahead Q) (PP hk).2 (Zh ((RG R).1)) (fun x T=>Zh ((RG R).2 x T))) (fun(R:Cr ys=false) (hk:mV ys=0) W (Q:PM w W)=>Oi ya ys yc W (V.its.ahead Q) (PP hk).2 (Zh ((RG R).1)) (fun x T=>Zh ((RG R).2 x T)));obtain⟨B0,B⟩:=Yj h5 (fun a b c d e (f:∀t∈ts,t.length<=6000) g h=>QM.mk (x:=⟨xs,ys,A6,B6,ts,sz⟩) a b c d e f g h);generalize QM ⟨xs,ys,A6,B6,ts,sz⟩=FX at B ⊢;obtain⟨G,hG⟩:∃G:Ending->World->Prop,G=fun e w'=>(∃r,e=.returned (.bool r)/\(r=true->FX))/\PM w w':=⟨_,rfl⟩
 rw[<-hG];have C:Qg (∀u,PM w u->G (.returned (.bool false)) u):=Qf (fun u hu=>by rw[hG]; exact⟨⟨false,rfl,fun h=>(by cases h)⟩,hu⟩);have C2:Qg (FX->∀u,PM w u->G (.returned (.bool true)) u):=Qf (fun hf u hu=>by rw[hG]; exact⟨⟨true,rfl,fun _=>hf⟩,hu⟩);clear hG;simp only[Fet.arr];obtain⟨nt,A5⟩:=Qe ts.length;have A9:=Qf A5;rw[<-A5] at B h6 ⊢;simp only at B;clear A5 U V h3 h4 h5 B3 B4;generalize Cr xs=g1 at Y O I B;generalize Cr ys=g2 at Z P J B;generalize mV xs=e1 at O I B;generalize mV ys=e2 at P J B;generalize PK xs=y1 at I;generalize PK ys=y2 at J;generalize xs.length=nx at B7 Y O I ⊢;generalize ys.length=ny at B8 Z P J ⊢;generalize A6.length=nw at B9 B ⊢;generalize B6.length=nc at C0 B ⊢;obtain⟨w0,S⟩:=Qe (w.alloc (.cells #[.slice X nx K,.slice ya ny yc,.slice wa nw wc,.slice ca nc cc,.slice ta nt tc,Yi sz] 27));have F:Qg (PM w w0):=Qf (S▸ba _ _);have A1:Qg (BK w.heap.size #[.slice X nx K,.slice ya ny yc,.slice wa nw wc,.slice ca nc cc,.slice ta nt tc,Yi sz] 27 w0):=Qf (S▸BK.new _ _ _);have D:=Qf (Y.o w0 F.o);rw[S] at D;have B2:=Qf S;clear S Y;go_enter Tryz.func10,Tryz.ntmps10;go_wp2_with fail;refine D.o.mono ?_;rintro e u0 ⟨rfl,he⟩;rw[<-B2.o] at he;subst he;clear D B2;cases g1 with
 | true=>
  go_wp2_with fail;exact C.o _ F.o
 | false=>
  obtain⟨k0,k1,k2,k3,k4,k5⟩:=BK.c6 A1.o;have D:=Qf (Z.o w0 F.o);clear Z;go_wp2_with fail;refine D.o.mono ?_;rintro e u0 ⟨rfl,rfl⟩;clear D;cases g2 with
  | true=>
   go_wp2_with fail;exact C.o _ F.o
  | false=>
   have D:=Qf (O.o Zv w0 F.o);clear O;go_wp2_with fail;refine D.o.mono ?_;rintro e w1 ⟨rfl,E⟩;obtain⟨L,A2⟩:=Yj (F.o.trans (E.mono F.o.size)) (A1.o.below E);clear E D F A1 k0 k1 k2 k3 k4 k5;obtain⟨k0,k1,k2,k3,k4,k5⟩:=BK.c6 A2.o;by_cases hz:e1=0
   case neg=>
    have C7:(e1==0)=false:=Zu hz;go_wp2_with fail;exact C.o _ L.o
   subst hz;have D:=Qf (P.o Zv w1 L.o);clear P;go_wp2_with fail;refine D.o.mono ?_;rintro e w2 ⟨rfl,E⟩;obtain⟨M,A3⟩:=Yj (L.o.trans (E.mono L.o.size)) (A2.o.below E);clear E D L A2 k0 k1 k2 k3 k4 k5;obtain⟨k0,k1,k2,k3,k4,k5⟩:=BK.c6 A3.o;by_cases hz:e2=0
   case neg=>
    have C7:(e2==0)=false:=Zu hz;go_wp2_with fail;exact C.o _ M.o
   subst hz;have D:=Qf (I.o Zv Zv w2 M.o);clear I;go_wp2_with fail;refine D.o.mono ?_;rintro e w3 ⟨rfl,E⟩;obtain⟨N,A4⟩:=Yj (M.o.trans (E.mono M.o.size)) (A3.o.below E);clear E D M A3 k0 k1 k2 k3 k4 k5;obtain⟨k0,k1,k2,k3,k4,k5⟩:=BK.c6 A4.o;cases y1 with
   | true=>
    go_wp2_with fail;exact C.o _ N.o
   | false=>
    have D:=Qf (J.o Zv Zv w3 N.o);clear J;go_wp2_with fail;refine D.o.mono ?_;rintro e w4 ⟨rfl,E⟩;obtain⟨H,A8⟩:=Yj (N.o.trans (E.mono N.o.size)) (A4.o.below E);clear E D N A4 k0 k1 k2 k3 k4 k5;obtain⟨k0,k1,k2,k3,k4,k5⟩:=BK.c6 A8.o;cases y2 with
    | true=>
     go_wp2_with fail;exact C.o _ H.o
    | false=>
     by_cases D3:(6:Int)<(nw:Int)
     case pos=>
      go_wp2_with fail;exact C.o _ H.o
     by_cases D4:(6:Int)<(nc:Int)
     case pos=>
      go_wp2_with fail;exact C.o _ H.o
     by_cases D5:(4:Int)<(nt:Int)
     case pos=>
      go_wp2_with fail;exact C.o _ H.o
     have B1:Qg (Txs w4.heap.size w4 ta ts):=Qf (fun i hi=>by
        obtain⟨b,C3,e,E,K⟩:=B0.o i hi;exact⟨b,C3,e,aO E H.o.size,(H.o.cell (p:=⟨b,C3+i,none⟩) E).trans K⟩)
     have A7:=Qf (fun f=>B.o Zv Zv Zo Zo Zo f Zv Zv);clear B0 B A8;go_wp2_with fail;go_loop [56] (fun i=>∃k:Nat,k<=nt/\i=Yi k/\Qg (∀j (h:j<ts.length),j<k->ts[j].length<=6000)) (fun i=>nt-(intOf i).toNat)
     case atStart=>exact⟨0,Zo,rfl,Qf (fun j U V=>Zo)⟩
     case round=>
      obtain⟨k,hk,rfl,HA⟩:=hrel;by_cases D6:k<nt
      ·have U:k<ts.length:=Zh A9.o;obtain⟨b0,o0,rfl,C9,q0⟩:=B1.o k U;have A0:Qg (ts[k].length<=6000->∀j (h:j<ts.length),j<k+1->ts[j].length<=6000):=Qf (fun V j h h3=>by
        by_cases he:j=k
        ·subst he; exact V
        ·exact HA.out j h Zo)
       generalize ts[k]=t at q0 A0;have B5:(k:Int)<(nt:Int):=Zo;by_cases D7:(6000:Int)<(t.length:Int)
       ·clear A0 HA;go_wp2_with fail;exact C.o _ H.o
       ·have C1:=Qf (A0.o Zo);clear A0 HA;go_wp2_with fail;go_round
        case rel=>exact⟨k+1,Zo,Zg,C1⟩
        case measure=>simp[intOf]; omega
      ·have B5:¬(k:Int)<(nt:Int):=Zo;have HF:=Qf (A7.o (fun t ht=>by
        obtain⟨j,hj,rfl⟩:=aV ht;exact HA.out j hj (Zh A9.o)))
       clear HA A7;go_wp2_with fail;exact C2.o HF.o _ H.o
def Ses.arr(s:Ses)(A:QF):Array Value:=#[.slice A.ha s.xs.length A.hc,.slice A.wa s.want.length A.wc,.slice A.ca s.com.length A.cc,Yi s.id,Yi s.tot,.slice A.pa s.ps.length A.pc,.bool s.asked,.bool s.done]
def Xn(x:Fet)(w:World)(e:Ending)(w':World):Prop:=∃ok s A,e=.returned (.tuple #[.agg (Ses.arr s A),.bool ok])/\(ok=true->Ve x.xs x.want x.com s/\PQ w' s A w'.heap.size)/\PM w w'
theorem Txs.below(h:Txs B W a ts)(C:B<=W.heap.size)(D:PM W W'):Txs B W' a ts:=fun i F=>by
 obtain⟨b,G,e,A,E⟩:=h i F;exact⟨b,G,e,A,(D.cell (p:=⟨b,G+i,none⟩) (aO A C)).trans E⟩
theorem Txs.grown(h:Txs B W a ts)(F:B<=W.heap.size)(G:B<=b)(D:W.grownBy W' (some b)):Txs B W' a ts:=fun i E=>by
 obtain⟨k,H,e,A,C⟩:=h i E;exact⟨k,H,e,A,(World.cell?_of_block (a:=⟨k,H+i,none⟩) (D.block k Zo (fun e=>by cases e; omega))).trans C⟩
structure Ua (x:Fet) (ta:Qa) (w:World) (b2 b4:Nat) (s:Ses) (A:QF) (W:World):Prop where
 k4:BK b4 (Ses.arr s A) 34 W
 k2:BK b2 #[(),(),(),Yi 0,Yi 0,(),.bool false,.bool false] 34 W
 si:PQ W s A b4
 iv:Ve x.xs x.want x.com s
 be:PM w W
 tx:Txs w.heap.size W ta x.ts
theorem sesM{D:Nat}{F:Qa}(E:B<=W.heap.size)(N:B<=b)(G:Its B W F xs)(k1:xs.length<=D)(g1:xs.length<=90)(g2:∀x∈xs,x.data.length<=1000)(z1:∀x∈xs,vg x=0)(z2:Asc xs)(H:dE B W wa want)(I:dE B W ca com)(kw:want.length<=wc)(kc:com.length<=cc)(o3:∀d∈want,OkD d)(o4:∀d∈com,OkD d)(l3:want.length<=6)(l4:com.length<=6)(dn:Bool):PQ W ⟨xs,want,com,0,0,[],false,dn⟩ ⟨F,D,wa,wc,ca,cc,none,0⟩ b:=by
 have L:jQ W F xs D:=⟨G.mono E,k1,Zo,fun x A=>Zh (g2 x A)⟩;have M:Ps xs D:=⟨z2,fun x A=>(Qp (z1 x A)).1,fun x A=>by rw[<-(Qp (z1 x A)).2]; exact TE _,Zo,fun x A=>Zh (g2 x A),k1⟩;exact⟨L,M,H.mono E,I.mono E,fun i K=>(by simp at K),nr,kw,kc,fun ad e C=>by
  obtain⟨k,o,e2,J,_⟩:=G 0 C;cases e.symm.trans e2;intro e3; injection e3 with e3; have e4:b=k:=e3; omega,fun C ad e=>by
  obtain⟨k,o,e2,J,_⟩:=H 0 C;cases e.symm.trans e2;intro e3; injection e3 with e3; have e4:b=k:=e3; omega,fun C ad e=>by
  obtain⟨k,o,e2,J,_⟩:=I 0 C;cases e.symm.trans e2;intro e3; injection e3 with e3; have e4:b=k:=e3; omega,fun ad e=>(by cases e),o3,o4,z1,by show xs.length<=2000; omega,fun _=>by show xs.length<=1000; omega,by show want.length<=1000; omega,by show com.length<=1000; omega,rfl⟩
theorem sesN{C:Nat}{A:Qa}(G:B<=W.heap.size)(H:B<=b)(D:Its B W A xs)(k1:xs.length<=C)(I:Cr xs=false)(J:mV xs=0)(E:dE B W wa want)(F:dE B W ca com)(kw:want.length<=wc)(kc:com.length<=cc)(o3:∀d∈want,OkD d)(o4:∀d∈com,OkD d)(l3:want.length<=6)(l4:com.length<=6)(dn:Bool):PQ W ⟨xs,want,com,0,0,[],false,dn⟩ ⟨A,C,wa,wc,ca,cc,none,0⟩ b:=by
 obtain⟨g1,g2⟩:=RG I;obtain⟨z1,z2⟩:=PP J;exact sesM G H D k1 Zo (fun x K=>Zh (g2 x K)) z1 z2 E F kw kc o3 o4 l3 l4 dn
theorem Tu(x:Fet)(A:Sz)(w:World)(h:PW w x A)(hf:QM x):
  Qh 15 #[.agg (x.arr A)] w (Xn x w):=by
 obtain⟨G,hG⟩:=Qe (Xn x w);rw[<-hG];obtain⟨Q,hQ⟩:∃Q:Ses->Prop,Q=Ve x.xs x.want x.com:=⟨_,rfl⟩;have C3:Qg (∀s A u,PM w u->G (.returned (.tuple #[.agg (Ses.arr s A),.bool false])) u):=Qf (fun s A u hu=>by rw[hG]; exact⟨false,s,A,rfl,fun h=>(by cases h),hu⟩);have Y:Qg (∀s A u,Q s->PQ u s A u.heap.size->PM w u->G (.returned (.tuple #[.agg (Ses.arr s A),.bool true])) u):=Qf (fun s A u hi hs hu=>by rw[hG]; exact⟨true,s,A,rfl,fun _=>⟨hQ▸hi,hs⟩,hu⟩);have Z:Qg (∀ms s,Q s->Q (Ql s ms).1):=Qf (by rw[hQ]; exact fun ms s h=>UQ ms h);have K:Qg (∀{b2 b4 s E W},BK b4 (Ses.arr s E) 34 W->BK b2 #[(),(),(),Yi 0,Yi 0,(),.bool false,.bool false] 34 W->PQ W s E b4->Q s->PM w W->Txs w.heap.size W A.ta x.ts->Ua x A.ta w b2 b4 s E W):=Qf (fun a b c d e f=>⟨a,b,c,by rw[hQ] at d; exact d,e,f⟩);obtain⟨xs,ys,A2,A3,ts,sz⟩:=x;obtain⟨ha,X,ya,yc,wa,wc,ca,cc,ta,tc⟩:=A;obtain⟨h1,h2,h3,h4,h5,h6⟩:=h;obtain⟨f1,f2,f3,f4,f5,f6,f7,f8⟩:=hf;simp only at h1 h2 h3 h4 h5 h6 f1 f2 f3 f4 f5 f6 hQ;obtain⟨F6,D5⟩:=RG f1;obtain⟨F9,V⟩:=PP f2;have E2:jQ w ha xs X:=⟨h1.its,h1.cap.1,Zo,fun x hx=>Zh (D5 x hx)⟩;have F:=Qf (fun W (hW:PM w W)=>Qx ha xs X wa A2 wc ca A3 cc W (E2.below hW) V (h3.dig.ahead hW) (h4.dig.ahead hW) h3.ok h4.ok Zo Zo Zo);have J:Qg ((Qm xs A2 A3).2=0->∀W b,PM w W->w.heap.size<=b->Q (Qm xs A2 A3).1/\PQ W (Qm xs A2 A3).1 (Uy (Qm xs A2 A3) ⟨ha,X,wa,wc,ca,cc,none,0⟩) b):=Qf (fun h0 W b hW hb=>by
  have hk:QR xs [] A3=0:=Classical.byContradiction fun hk=>by
   unfold Qm at h0;rw[if_neg Zo,if_pos hk] at h0;exact hk h0
  have e:Qm xs A2 A3=(⟨xs,A2,A3,0,0,[],false,PV xs A2⟩,0):=by
   unfold Qm;rw[if_neg Zo,if_neg (Zn hk)]
  rw[e];refine⟨by rw[hQ]; exact⟨rfl,rfl,rfl,f2,fun _=>rfl,fun h=>⟨h,fun x h=>h⟩,hk,rfl⟩,?_⟩;exact sesN hW.size hb (h1.its.below hW nr) h1.cap.1 f1 f2 (h3.dig.below hW nr) (h4.dig.below hW nr) h3.cap.1 h4.cap.1 h3.ok h4.ok f3 f4 _)
 obtain⟨B4,HQ,D1⟩:=Yk h5 hQ f6;simp only[Fet.arr];obtain⟨nt,C1⟩:=Qe ts.length;have C7:=Qf C1;rw[<-C1] at f5 ⊢;clear hG hQ h1 h2 h3 h4 h5 h6 f1 f2 f3 f4 f6 F6 D5 F9 V E2 C1;generalize Uy (Qm xs A2 A3) ⟨ha,X,wa,wc,ca,cc,none,0⟩=EA at F J;generalize Qm xs A2 A3=R at F J;obtain⟨⟨sx,sw,sc,si,st,sp,sa,sd⟩,e0⟩:=R;obtain⟨F3,F4,G0,G1,F0,F2,F7,F8⟩:=EA;simp only at F J K;generalize xs.length=nx at F ⊢;generalize ys.length=ny;generalize A2.length=nw at F ⊢;generalize A3.length=nc at F ⊢;obtain⟨u2,L⟩:=Qe ((w.alloc (.cells #[.slice ha nx X,.slice ya ny yc,.slice wa nw wc,.slice ca nc cc,.slice ta nt tc,Yi sz] 27)).alloc (.cells #[(),(),(),Yi 0,Yi 0,(),.bool false,.bool false] 34));have B9:PM w u2:=L▸(ba _ _).alloc (by simp) _;have V:BK (w.heap.size+1) #[(),(),(),Yi 0,Yi 0,(),.bool false,.bool false] 34 u2:=L▸BK.new2 _ _ _ _;have HD:=Qf (F.o u2 B9);rw[L] at HD;obtain⟨D2,B3,A1⟩:=Yk L B9 V;have B6:Qg (BK w.heap.size #[.slice ha nx X,.slice ya ny yc,.slice wa nw wc,.slice ca nc cc,.slice ta nt tc,Yi sz] 27 u2):=Qf (L▸(BK.new _ _ _).alloc _);clear L B9 V F;go_enter Tryz.func15,Tryz.ntmps15;go_wp2_with fail;refine HD.o.mono ?_;rintro e u3 ⟨rfl,hb⟩;rw[<-D2.o] at hb;obtain⟨pb,E1⟩:=Qe (w.heap.size+1);rw[<-E1] at A1 ⊢;obtain⟨v4,T⟩:=Qe (u3.alloc (.cells #[.slice F3 sx.length F4,.slice G0 sw.length G1,.slice F0 sc.length F2,Yi si,Yi st,.slice F7 sp.length F8,.bool sa,.bool sd] 34));have D4:PM u3 v4:=T▸ba _ _;have H:=hb.trans (D4.mono hb.size);have C:Qg (BK u3.heap.size #[.slice F3 sx.length F4,.slice G0 sw.length G1,.slice F0 sc.length F2,Yi si,Yi st,.slice F7 sp.length F8,.bool sa,.bool sd] 34 v4):=Qf (T▸BK.new _ _ _);obtain⟨M,D3,I⟩:=Yk (A1.o.below H) (B6.o.below H) (B3.o.trans (H.mono B3.o.size));have E7:w.heap.size<u3.heap.size:=aO B6.o.lt hb.size;have E4:w.heap.size<=pb:=Zo;have E3:pb<u3.heap.size:=aO A1.o.lt hb.size;obtain⟨r0,r1,r2,r3,r4,r5,r6,r7⟩:=BK.c8 M.o;obtain⟨H1,H2,H3,H4,H5,H6,H7,H8⟩:=BK.f8 (M.o);obtain⟨c0,c1,c2,c3,c4,c5,c6,c7⟩:=BK.c8 C.o;obtain⟨x0,x1,x2,x3,x4,x5⟩:=BK.c6 D3.o;rw[T] at r0 r1 r2 r3 r4 r5 r6 r7 H1 H2 H3 H4 H5 H6 H7 H8 c0 c1 c2 c3 c4 c5 c6 c7 x4;obtain⟨B5,C9,C8,A0⟩:=Yl T E4 E3 E7;clear E1 hb T D4 H HD D2 B3 A1 B6 E7 E4 E3 x0 x1 x2 x3 x5;by_cases hz:e0=0
 case neg=>
  have G9:(e0==0)=false:=Zu hz;obtain⟨v,hv⟩:=Qe ((((((((v4.setCell pb (.slice F3 sx.length F4)).setCell ⟨pb,1,none⟩ (.slice G0 sw.length G1)).setCell ⟨pb,2,none⟩ (.slice F0 sc.length F2)).setCell ⟨pb,3,none⟩ (Yi si)).setCell ⟨pb,4,none⟩ (Yi st)).setCell ⟨pb,5,none⟩ (.slice F7 sp.length F8)).setCell ⟨pb,6,none⟩ (.bool sa)).setCell ⟨pb,7,none⟩ (.bool sd));have O:BK pb #[.slice F3 sx.length F4,.slice G0 sw.length G1,.slice F0 sc.length F2,Yi si,Yi st,.slice F7 sp.length F8,.bool sa,.bool sd] 34 v:=hv▸((((((((M.o.set 0 _).set 1 _).set 2 _).set 3 _).set 4 _).set 5 _).set 6 _).set 7 _);have F1:Qg (PM w v):=Qf (by rw[hv]; exact I.o.grown (fM (fM (fM (fM (fM (fM (fM (dN _ _ _ _) _ _) _ _) _ _) _ _) _ _) _ _) _ _) I.o.size (fun k e=>by cases e; exact C9.o));have HV:=Qf hv;obtain⟨q0,q1,q2,q3,q4,q5,q6,q7⟩:=BK.c8 O;clear O hv J Y K B4 D1 Z;go_wp2_with fail;rw[<-B5.o,<-HV.o];refine bodyPost_ret (v:=.tuple #[.agg #[.slice F3 sx.length F4,.slice G0 sw.length G1,.slice F0 sc.length F2,Yi si,Yi st,.slice F7 sp.length F8,.bool sa,.bool sd],.bool false]) (by simp[results,Tryz.results15,go_sem,q0,q1,q2,q3,q4,q5,q6,q7]) rfl (C3.o ⟨sx,sw,sc,si,st,sp,sa,sd⟩ ⟨F3,F4,G0,G1,F0,F2,F7,F8⟩ v F1.o)
 subst hz;obtain⟨qb,P⟩:=Qe u3.heap.size;have C5:Qg (∃s A,Ua ⟨xs,ys,A2,A3,ts,sz⟩ ta w pb qb s A v4):=Qf (by
  rw[P];have h:=J.o Zv v4 u3.heap.size I.o (Nat.le_of_lt A0.o);exact⟨⟨sx,sw,sc,si,st,sp,sa,sd⟩,⟨F3,F4,G0,G1,F0,F2,F7,F8⟩,K.o C.o M.o h.2 h.1 I.o (Txs.below B4.o nr I.o)⟩)
 rw[<-P] at C8 A0;rw[<-P] at c0 c1 c2 c3 c4 c5 c6 c7;clear r0 r1 r2 r3 r4 r5 r6 r7 H1 H2 H3 H4 H5 H6 H7 H8 J C M D3 I B4 C3;go_wp2_with fail;rw[<-B5.o,<-P];clear c0 c1 c2 c3 c4 c5 c6 c7 x4 P B5;go_loopw [27] (fun i wr=>∃k:Nat,k<=nt/\i=Yi k/\Qg (∃s A,Ua ⟨xs,ys,A2,A3,ts,sz⟩ ta w pb qb s A wr)) (fun i _=>nt-(intOf i).toNat)
 case atStart=>exact⟨0,Zo,rfl,C5⟩
 case round=>
  obtain⟨k,hk,rfl,HJ⟩:=hrel;obtain⟨⟨fx,fw,fc,fi,ft,fp,fa,fd⟩,⟨B1,B2,C2,E9,A4,A9,B7,B8⟩,hl⟩:=HJ.out;have D:=Qf hl;have A7:=hl.k4;unfold Ses.arr at A7;simp only at A7;have C:=Qf A7;clear HJ C5 hl A7;obtain⟨c0,c1,c2,c3,c4,c5,c6,c7⟩:=BK.c8 C.o;obtain⟨H9,I0,I1,I2,I3,I4,I5,I6⟩:=BK.f8 (C.o);by_cases X:k<nt/\fd=false
  ·obtain⟨D9,rfl⟩:=X;have D8:(k:Int)<(nt:Int):=Zo;have h1:k<ts.length:=Zh C7.o;obtain⟨b0,o0,S,F5,q0⟩:=D.o.tx k h1;have E8:=D1.o _ (ak h1);simp only at S q0 E8;subst S;generalize ts[k]=t at q0 E8;have D0:Qg (Qh 23 #[.agg #[.slice B1 fx.length B2,.slice C2 fw.length E9,.slice A4 fc.length A9,Yi fi,Yi ft,.slice B7 fp.length B8,.bool fa,.bool false],t] wr fun e w'=>∃(s':Ses) (E:QF) (n:Int),e=.returned (.tuple #[.agg (Ses.arr s' E),Yi n,Yi 0])/\PQ w' s' E w'.heap.size/\Q s'/\PM wr w'):=Qf ((QL ⟨fx,fw,fc,fi,ft,fp,fa,false⟩ ⟨B1,B2,C2,E9,A4,A9,B7,B8⟩ qb t wr D.o.si Zo).mono (by
    rintro e w' (⟨h,_⟩ | ⟨_,ms,n,E,_,rfl,h3,h4⟩)
    ·cases h
    exact⟨_,E,_,rfl,h3,Z.o _ _ (HQ.o▸D.o.iv),h4⟩))
   go_wp2_with fail;refine D0.o.mono ?_;rintro e u5 ⟨⟨mx,mw,mc,mi,mt,mp,ma,md⟩,⟨G4,G5,G8,H0,G2,G3,G6,G7⟩,I7,rfl,E6,E5,A5⟩;unfold Ses.arr;simp only;obtain⟨v6,U⟩:=Qe (u5.alloc (.cells #[.slice G4 mx.length G5,.slice G8 mw.length H0,.slice G2 mc.length G3,Yi mi,Yi mt,.slice G6 mp.length G7,.bool ma,.bool md] 34));have C0:PM u5 v6:=U▸ba _ _;have B:=A5.trans (C0.mono A5.size);have A8:=C.o.below B;have E0:BK u5.heap.size #[.slice G4 mx.length G5,.slice G8 mw.length H0,.slice G2 mc.length G3,Yi mi,Yi mt,.slice G6 mp.length G7,.bool ma,.bool md] 34 v6:=U▸BK.new _ _ _;obtain⟨v7,B0⟩:=Qe ((((((((v6.setCell qb (.slice G4 mx.length G5)).setCell ⟨qb,1,none⟩ (.slice G8 mw.length H0)).setCell ⟨qb,2,none⟩ (.slice G2 mc.length G3)).setCell ⟨qb,3,none⟩ (Yi mi)).setCell ⟨qb,4,none⟩ (Yi mt)).setCell ⟨qb,5,none⟩ (.slice G6 mp.length G7)).setCell ⟨qb,6,none⟩ (.bool ma)).setCell ⟨qb,7,none⟩ (.bool md));have D7:BK qb #[.slice G4 mx.length G5,.slice G8 mw.length H0,.slice G2 mc.length G3,Yi mi,Yi mt,.slice G6 mp.length G7,.bool ma,.bool md] 34 v7:=B0▸((((((((A8.set 0 _).set 1 _).set 2 _).set 3 _).set 4 _).set 5 _).set 6 _).set 7 _);have N:v6.grownBy v7 (some qb):=B0▸fM (fM (fM (fM (fM (fM (fM (dN _ _ _ _) _ _) _ _) _ _) _ _) _ _) _ _) _ _;have C6:Qg (∃s A,Ua ⟨xs,ys,A2,A3,ts,sz⟩ (some ⟨b0,o0,none⟩) w pb qb s A v7):=Qf ⟨⟨mx,mw,mc,mi,mt,mp,ma,md⟩,⟨G4,G5,G8,H0,G2,G3,G6,G7⟩,K.o D7 ((D.o.k2.below B).grow1 N (Zh C8.o)) (((E6.kind (Tw (C.o.below A5))).below C0).grown N) E5 ((D.o.be.trans (B.mono D.o.be.size)).grown N (aC D.o.be.size B.size) (fun k e=>by cases e; exact Nat.le_of_lt A0.o)) ((D.o.tx.below D.o.be.size B).grown (aC D.o.be.size B.size) (Nat.le_of_lt A0.o) N)⟩;obtain⟨r0,r1,r2,r3,r4,r5,r6,r7⟩:=BK.c8 A8;obtain⟨H1,H2,H3,H4,H5,H6,H7,H8⟩:=BK.f8 (A8);obtain⟨x0,x1,x2,x3,x4,x5,x6,x7⟩:=BK.c8 E0;rw[U] at r0 r1 r2 r3 r4 r5 r6 r7 H1 H2 H3 H4 H5 H6 H7 H8 x0 x1 x2 x3 x4 x5 x6 x7;rw[B0,U] at C6;clear c0 c1 c2 c3 c4 c5 c6 c7 H9 I0 I1 I2 I3 I4 I5 I6 U C0 B A8 E0 B0 D7 N E6 E5 A5 D0 C D K Z Y;go_wp2_with fail;go_roundw
   case rel=>exact⟨k+1,Zo,Zg,C6⟩
   case measure=>simp[intOf] <;> omega
  ·have C4:Qg (∀v,wr.grownBy v (some pb)->G (.returned (.tuple #[.agg #[.slice B1 fx.length B2,.slice C2 fw.length E9,.slice A4 fc.length A9,Yi fi,Yi ft,.slice B7 fp.length B8,.bool fa,.bool fd],.bool true])) v):=Qf (fun v D6=>Y.o ⟨fx,fw,fc,fi,ft,fp,fa,fd⟩ ⟨B1,B2,C2,E9,A4,A9,B7,B8⟩ v (HQ.o▸D.o.iv) (((D.o.si.kind (Tw D.o.k2)).grown D6).far nr) (D.o.be.grown D6 D.o.be.size (fun k e=>by cases e; exact C9.o)));have A6:=D.o.k2;obtain⟨v,hv⟩:=Qe ((((((((wr.setCell pb (.slice B1 fx.length B2)).setCell ⟨pb,1,none⟩ (.slice C2 fw.length E9)).setCell ⟨pb,2,none⟩ (.slice A4 fc.length A9)).setCell ⟨pb,3,none⟩ (Yi fi)).setCell ⟨pb,4,none⟩ (Yi ft)).setCell ⟨pb,5,none⟩ (.slice B7 fp.length B8)).setCell ⟨pb,6,none⟩ (.bool fa)).setCell ⟨pb,7,none⟩ (.bool fd));have O:BK pb #[.slice B1 fx.length B2,.slice C2 fw.length E9,.slice A4 fc.length A9,Yi fi,Yi ft,.slice B7 fp.length B8,.bool fa,.bool fd] 34 v:=hv▸((((((((A6.set 0 _).set 1 _).set 2 _).set 3 _).set 4 _).set 5 _).set 6 _).set 7 _);obtain⟨HF,HV⟩:=Yj (C4.o v (hv▸fM (fM (fM (fM (fM (fM (fM (dN _ _ _ _) _ _) _ _) _ _) _ _) _ _) _ _) _ _)) hv;obtain⟨q0,q1,q2,q3,q4,q5,q6,q7⟩:=BK.c8 O;obtain⟨r0,r1,r2,r3,r4,r5,r6,r7⟩:=BK.c8 A6;obtain⟨H1,H2,H3,H4,H5,H6,H7,H8⟩:=BK.f8 (A6);clear hv O A6 C4 Z Y K C;by_cases D9:k<nt
   ·obtain rfl:fd=true:=by cases fd with | true=>rfl | false=>exact absurd ⟨D9,rfl⟩ X
    have D8:(k:Int)<(nt:Int):=Zo;obtain⟨b0,o0,S,F5,p0⟩:=D.o.tx k (by have:=C7.o; simp only; omega);simp only at S p0;subst S;clear D;go_wp2_with fail;rw[<-HV.o];refine bodyPost_ret (v:=.tuple #[.agg #[.slice B1 fx.length B2,.slice C2 fw.length E9,.slice A4 fc.length A9,Yi fi,Yi ft,.slice B7 fp.length B8,.bool fa,.bool true],.bool true]) (by simp[results,Tryz.results15,go_sem,q0,q1,q2,q3,q4,q5,q6,q7]) rfl HF.o
   ·have D8:¬(k:Int)<(nt:Int):=Zo;clear D;go_wp2_with fail;rw[<-HV.o];refine bodyPost_ret (v:=.tuple #[.agg #[.slice B1 fx.length B2,.slice C2 fw.length E9,.slice A4 fc.length A9,Yi fi,Yi ft,.slice B7 fp.length B8,.bool fa,.bool fd],.bool true]) (by simp[results,Tryz.results15,go_sem,q0,q1,q2,q3,q4,q5,q6,q7]) rfl HF.o
theorem Qz(a:Qa)(xs:List Itm)(c:Nat)(la:Qa)(l:Qd)(lc:Nat)(w:World)(hp:Its w.heap.size w a xs)(ha:Asc xs)(hl:dE w.heap.size w la l)(U:(xs.length:Int)<=80)(S:(l.length:Int)<=10000)(Q:∀x∈xs,(x.data.length:Int)<=1000000):
  Qh 31 #[.slice a xs.length c,.slice la l.length lc] w (Xz (.bool (PV xs l)) w):=by
 obtain⟨E,HL,B⟩:=Yk (fun x y W (Y:PM w W)=>Vm a xs c x y W (hp.ahead Y) ha Zo) hl (fun W (hW:PM w W)=>Ui a xs c la l lc W (hp.ahead hW) ha (hl.ahead hW) U S Q);obtain⟨R,X⟩:=Qe (PV xs l);rw[<-X];unfold PV at X;have F:=Qf X;generalize dh xs l=rr at B F;obtain⟨ra,rb⟩:=rr;simp only at F;obtain⟨n,hn⟩:=Qe l.length;have HN:=Qf hn;obtain⟨m,hm⟩:=Qe rb.length;have HM:=Qf hm;rw[<-hn] at B S ⊢;generalize xs.length=nx at E B ⊢;have I:=Qf (Below.refl w.heap.size w);clear hp ha hl U X hn hm Q;go_enter Tryz.func31,Tryz.ntmps31;go_wp2_with fail;go_loopw [5] (fun i wr=>∃k:Nat,k<=n/\i=Yi k/\Qg (PM w wr)/\Qg (∀d∈l.take k,I7 xs d=true)) (fun i _=>n-(intOf i).toNat)
 case atStart=>exact⟨0,Zo,rfl,I,Qf Zs⟩
 case round=>
  clear I;obtain⟨k,hk,rfl,C,V⟩:=hrel;by_cases B8:k<n
  ·have A3:(k:Int)<(n:Int):=Zo;have G:k<l.length:=Zh HN.o;obtain⟨b0,A1,A2,B7,q0,q1⟩:=(HL.o.ahead C.out) k G;subst A2;have O:Qg (l.take (k+1)=l.take k++[l[k]]):=Qf (ai G);have M:Qg (l[k]∈l):=Qf (ak G);generalize l[k]=d at q0 q1 O M;obtain⟨d1,d2⟩:=d;simp only at q0 q1;have HC:=Qf (E.o d1 d2 wr C.out);go_wp2_with fail;refine HC.o.mono ?_;rintro e u ⟨rfl,P⟩;have K:=Qf (C.out.trans (P.mono C.out.size));clear HC P C q0 q1;cases Z:I7 xs (d1,d2) with
   | false=>
    have D:Qg (R=false):=Qf (by
     rw[F.o];have:l.all (I7 xs)=false:=by
      rw[Bool.eq_false_iff];intro h;rw[P5.1 h _ M.o] at Z;cases Z
     rw[this]; rfl)
    clear F;go_wp2_with fail;go_ret;exact⟨Zw D.o,K.o⟩
   | true=>
    have A0:Qg (∀d∈l.take (k+1),I7 xs d=true):=Qf (fun d hd=>by
     rw[O.o] at hd;rcases aD.1 hd with h | h
     ·exact V.out d h
     ·rw[aH.1 h]; exact Z)
    clear V Z;go_wp2_with fail;go_roundw
    case rel=>exact⟨k+1,Zo,Zg,K,A0⟩
    case measure=>simp[intOf] <;> omega
  ·have A3:¬(k:Int)<(n:Int):=Zo;have D:Qg (R=decide (rb=[])):=Qf (by
    have G:=V.out;rw[show l.take k=l from ag (Zh HN.o)] at G;rw[F.o,P5.2 G,Bool.true_and])
   obtain⟨x0,T⟩:=Qe wr;rw[<-T] at C ⊢;have L:=Qf (B.o x0 C.out);clear T F B HL E V;go_wp2_with fail;refine L.o.mono ?_;rintro e u1 ⟨pa,pc,sa,sc,rfl,A7,A8,Y⟩;have J:=Qf (C.out.trans (Y.mono C.out.size));simp only;rw[<-HM.o];have N:Qg (R=(m==0)):=Qf (by
    rw[D.o];have:=HM.o;cases rb with
    | nil=>simp at this; simp[this]
    | cons x y=>simp at this; simp[this])
   clear A7 A8 Y L C D;cases H:(m==0) with
   | true=>
    have A5:((m:Int)==0)=true:=by simp at H; simp[H]
    go_wp2_with fail;go_ret;exact⟨by rw[N.o,H]; rfl,J.o⟩
   | false=>
    have A5:((m:Int)==0)=false:=by simp at H; simp[H]
    go_wp2_with fail;go_ret;exact⟨by rw[N.o,H]; rfl,J.o⟩
structure WK (x:Fet):Prop where
 z0:1<=x.sz
 z1:x.sz<=1000
 yw:PV x.ys x.want=true
 yc:PV x.ys x.com=true
 xc:PV x.xs x.com=true
 wc:∀d∈x.want,(aF x.ys d).2=0
 un:(QU x.xs x.ys).2=0
theorem Uo(x:Fet)(A:Sz)(w:World)(h:PW w x A)(hf:QM x):
  Qh 30 #[.agg (x.arr A)] w fun e w'=>(∃r,e=.returned (.bool r)/\(r=true->WK x))/\PM w w':=by
 obtain⟨xs,ys,A1,A2,ts,sz⟩:=x;obtain⟨ha,hc,ya,yc,wa,wc,ca,cc,ta,tc⟩:=A;obtain⟨X,h2,h3,h4,h5,h6⟩:=h;obtain⟨f1,f2,f3,f4,f5,f6,f7,f8⟩:=hf;simp only at X h2 h3 h4 f1 f2 f3 f4 f7 f8;obtain⟨E6,D0⟩:=RG f1;obtain⟨E7,A7⟩:=RG f7;have C6:=(PP f2).2;have A3:=(PP f8).2;obtain⟨N,O,P,B7,V,C0⟩:=Yn (fun W (J:PM w W)=>Qz ya ys yc wa A1 wc W (h2.its.ahead J) A3 (h3.dig.ahead J) Zo Zo (fun x hx=>Zh (A7 x hx))) (fun W (J:PM w W)=>Qz ya ys yc ca A2 cc W (h2.its.ahead J) A3 (h4.dig.ahead J) Zo Zo (fun x hx=>Zh (A7 x hx))) (fun W (J:PM w W)=>Qz ha xs hc ca A2 cc W (X.its.ahead J) C6 (h4.dig.ahead J) Zo Zo (fun x hx=>Zh (D0 x hx))) (fun p q W (J:PM w W)=>KG ya ys yc p q W (h2.its.ahead J) A3 Zo (fun x hx=>Zh (A7 x hx))) (fun W (J:PM w W)=>Rh ha ya xs ys hc yc W (X.its.ahead J) (h2.its.ahead J) Zo Zo) h3.dig;have I:=Qf (fun a b c d e f g=>WK.mk (x:=⟨xs,ys,A1,A2,ts,sz⟩) a b c d e f g);generalize WK ⟨xs,ys,A1,A2,ts,sz⟩=HX at I ⊢;obtain⟨G,hG⟩:∃G:Ending->World->Prop,G=fun e w'=>(∃r,e=.returned (.bool r)/\(r=true->HX))/\PM w w':=⟨_,rfl⟩
 rw[<-hG];have L:Qg (∀u,PM w u->G (.returned (.bool false)) u):=Qf (fun u hu=>by rw[hG]; exact⟨⟨false,rfl,fun h=>(by cases h)⟩,hu⟩);have D6:Qg (∀r u,(r=true->HX)->PM w u->G (.returned (.bool r)) u):=Qf (fun r u hf hu=>by rw[hG]; exact⟨⟨r,rfl,hf⟩,hu⟩);clear hG;simp only[Fet.arr];obtain⟨nw,B2⟩:=Qe A1.length;have C2:=Qf B2;rw[<-B2] at N f3 ⊢;simp only at I;clear B2 X h2 h3 h4 h5 f1 f2 f5 f6 f7 f8 E6 D0 E7 A7 C6 A3;generalize PV ys A1=b1 at N I;generalize PV ys A2=b2 at O I;generalize PV xs A2=b3 at P I;obtain⟨R,hR⟩:=Qe (QU xs ys);rw[<-hR] at V I;clear hR;obtain⟨Q,hQ⟩:∃Q:Int×Int->Prop,Q=fun d=>(aF ys d).2=0:=⟨_,rfl⟩
 have HQ:Qg (∀p q W,PM w W->Qh 42 #[.slice ya ys.length yc,.agg #[Yu p,Yu q]] W fun e w'=>(∃(o:Ob) (ea:Qa) (ec:Nat) (pa:Qa) (pc:Nat) (er:Int),e=.returned (.tuple #[o.val ea ec pa pc,Yi er])/\(er=0->Q (p,q)))/\PM W w'):=Qf (fun p q W J=>(B7.o p q W J).mono (by
  rintro e w' ⟨ea,ec,pa,pc,rfl,_,E⟩;exact⟨⟨_,ea,ec,pa,pc,_,rfl,fun h=>hQ▸h⟩,E⟩))
 have T:Qg (1<=sz->sz<=1000->b1=true->b2=true->b3=true->(∀d∈A1,Q d)->R.2=0->HX):=Qf (fun a b c d e f g=>I.o a b c d e (by rw[hQ] at f; exact f) g);clear hQ B7 I;generalize xs.length=nx at P V ⊢;generalize ys.length=ny at N O V HQ ⊢;generalize A2.length=nc at O P f4 ⊢;generalize ts.length=nt at h6 ⊢;obtain⟨w0,C⟩:=Qe (w.alloc (.cells #[.slice ha nx hc,.slice ya ny yc,.slice wa nw wc,.slice ca nc cc,.slice ta nt tc,Yi sz] 27));have F:Qg (PM w w0):=Qf (C▸ba _ _);have Y:Qg (BK w.heap.size #[.slice ha nx hc,.slice ya ny yc,.slice wa nw wc,.slice ca nc cc,.slice ta nt tc,Yi sz] 27 w0):=Qf (C▸BK.new _ _ _);have A0:=Qf C;by_cases F5:sz<1
 ·rw[C] at F;clear C A0 Y;go_enter Tryz.func30,Tryz.ntmps30;go_wp2_with fail;exact L.o _ F.o
 by_cases F6:1000<sz
 ·rw[C] at F;clear C A0 Y;go_enter Tryz.func30,Tryz.ntmps30;go_wp2_with fail;exact L.o _ F.o
 have C7:1<=sz:=Zo;have C8:sz<=1000:=Zo;obtain⟨D9,E0,M⟩:=Yk C7 C8 (N.o w0 F.o);rw[C] at M;clear C C7 C8;go_enter Tryz.func30,Tryz.ntmps30;go_wp2_with fail;refine M.o.mono ?_;rintro e w1 ⟨rfl,E⟩;rw[<-A0.o] at E;obtain⟨H,A8⟩:=Yj (F.o.trans (E.mono F.o.size)) (Y.o.below E);clear E M F Y A0 N;cases b1 with
 | false=>
  go_wp2_with fail;exact L.o _ H.o
 | true=>
 obtain⟨k0,k1,k2,k3,k4,k5⟩:=BK.c6 A8.o;have M:=Qf (O.o w1 H.o);go_wp2_with fail;refine M.o.mono ?_;rintro e w2 ⟨rfl,E⟩;obtain⟨S,A9⟩:=Yj (H.o.trans (E.mono H.o.size)) (A8.o.below E);clear E M H A8 O k0 k1 k2 k3 k4 k5;cases b2 with
 | false=>
  go_wp2_with fail;exact L.o _ S.o
 | true=>
 obtain⟨k0,k1,k2,k3,k4,k5⟩:=BK.c6 A9.o;have M:=Qf (P.o w2 S.o);go_wp2_with fail;refine M.o.mono ?_;rintro e w3 ⟨rfl,E⟩;obtain⟨K,B0⟩:=Yj (S.o.trans (E.mono S.o.size)) (A9.o.below E);clear E M S A9 P k0 k1 k2 k3 k4 k5;cases b3 with
 | false=>
  go_wp2_with fail;exact L.o _ K.o
 | true=>
 obtain⟨k0,k1,k2,k3,k4,k5⟩:=BK.c6 B0.o;go_wp2_with fail;clear k0 k1 k2 k3 k4 k5;go_loopw [44] (fun i wr=>∃k:Nat,k<=nw/\i=Yi k/\Qg (PM w3 wr)/\Qg (∀d∈A1.take k,Q d)) (fun i _=>nw-(intOf i).toNat)
 case atStart=>exact⟨0,Zo,rfl,Qf (bf _),Qf Zs⟩
 case round=>
  obtain⟨k,hk,rfl,HB,HJ⟩:=hrel;obtain⟨B,U⟩:=Yj (K.o.trans (HB.out.mono K.o.size)) (B0.o.below HB.out);by_cases F4:k<nw
  ·have E4:(k:Int)<(nw:Int):=Zo;have X:k<A1.length:=Zh C2.o;obtain⟨b0,o0,rfl,F2,q0,q1⟩:=(C0.o.ahead B.o) k X;have Z:Qg (A1.take (k+1)=A1.take k++[A1[k]]):=Qf (ai X);generalize A1[k]=d at q0 q1 Z;obtain⟨d1,d2⟩:=d;simp only at q0 q1;obtain⟨v1,A6⟩:=Qe (wr.alloc (.cells #[Yu d1,Yu d2] 54));have A4:PM wr v1:=A6▸ba _ _;have H:=Qf (B.o.trans (A4.mono B.o.size));have D:=Qf (HQ.o d1 d2 v1 H.o);obtain⟨k0,k1,k2,k3,k4,k5⟩:=BK.c6 (U.o.below A4);rw[A6] at D k0 k1 k2 k3 k4 k5;obtain⟨C4,B6⟩:=Yj A6 A4;clear A6 A4;go_wp2_with fail;refine D.o.mono ?_;rintro e u ⟨⟨⟨kd,od,oe,ot,op,oa,om,og⟩,ea,ec,pa,pc,er,rfl,hq⟩,E⟩;rw[<-C4.o] at E;have B8:Qg (PM w3 (u.alloc (.cells #[Yi kd,od,.slice ea oe.length ec,Yu ot.1,Yu ot.2,.slice pa op.length pc,oa,Yi om,og] 59))):=Qf (by
    have X:=HB.out.trans (B6.o.mono HB.out.size);have h2:=X.trans (E.mono X.size);exact h2.alloc h2.size _)
   have B1:=Qf hq;clear E D C4 B6 H k0 k1 k2 k3 k4 k5 hq q0 q1 U B HB;by_cases he:er=0
   ·subst he;have D7:Qg (∀d∈A1.take (k+1),Q d):=Qf (fun d hd=>by
     rw[Z.o] at hd;rcases aD.1 hd with hd | hd
     ·exact HJ.out d hd
     ·rw[aH.1 hd]; exact B1.o rfl)
    clear HJ Z B1;go_wp2_with fail;go_roundw
    case rel=>exact⟨k+1,Zo,Zg,B8,D7⟩
    case measure=>simp[intOf] <;> omega
   ·have F3:(er !=0)=true:=Zu he;have B9:=Qf (K.o.trans (B8.o.mono K.o.size));clear he HJ Z B1 B8;go_wp2_with fail;exact L.o _ B9.o
  ·have E4:¬(k:Int)<(nw:Int):=Zo;have C3:Qg (∀d∈A1,Q d):=Qf (by
    have h:=HJ.out
    rwa[ag (Zh C2.o)] at h)
   obtain⟨x0,C9⟩:=Qe wr;rw[<-C9] at B U ⊢;have M:=Qf (V.o x0 B.o);obtain⟨RL,re⟩:=R;simp only at T;have D5:Qg (re=0->HX):=Qf (fun h=>T.o D9.o E0.o Zv Zv Zv C3.o h);obtain⟨k0,k1,k2,k3,k4,k5⟩:=BK.c6 U.o;clear C9 HJ V T C3 C0 HQ HB U K B0;go_wp2_with fail;refine M.o.mono ?_;rintro e u ⟨a',c',rfl,C5⟩;have D4:=Qf (B.o.trans (C5.2.2.2.mono B.o.size));clear C5 M k0 k1 k2 k3 k4 k5 B;simp only;go_wp2_with fail;exact D6.o _ _ (fun h=>D5.o (Zu h)) D4.o
