/- Lemmas. -/
import Derived.Test.YtkedhdcnakhbgaaGreatG5
import Derived.Test.YtkedhdcnakhbgaaGreatG6
set_option linter.unusedSimpArgs false
set_option maxRecDepth 100000
set_option maxHeartbeats 16000000
namespace Go.Proofs.YtkedhdcnakhbgaaGreat
open Tryz
open Go.ChangeShapes Go.WideShapes Go.ChangeAt Go.RowKit Go.Deep
set_option linter.unusedVariables false
variable {cs:List Value}{fuel:Nat}{v:Value}
theorem Qw{α:Type}(Q:Nat->α->Prop):∀(n:Nat),(∀i,i<n->∃x,Q i x)->∃l:List α,l.length=n/\∀i (h:i<l.length),Q i l[i]
 | 0,_=>⟨[],rfl,fun i h=>by simp at h⟩
 | n+1,h=>by
  obtain⟨l,C,D⟩:=Qw Q n (fun i B=>h i Zo);obtain⟨x,E⟩:=h n Zo;refine⟨l++[x],Zj C,fun i B=>?_⟩;by_cases A:i<l.length
  ·rw[sU A]; exact D i A
  ·obtain rfl:i=l.length:=by simp at B; omega
   simpa[C] using E
theorem TQ{d:Int×Int}(A:(Lit.int .u64 d.1).wf=true)(B:(Lit.int .u64 d.2).wf=true):OkD d:=by
 simp[Lit.wf,IntKind.min,IntKind.max,IntKind.signed,IntKind.bits] at A B;exact⟨⟨Zo,Zo⟩,Zo,Zo⟩
structure PZ (W:World) (a:Qa) (xs:List Itm) (c:Nat):Prop where
 its:Its W W a xs
 cap:xs.length<=c/\c<=maxLen
 dat:∀x∈xs,OkD x.d/\x.data.length<=maxLen
structure Va (W:World) (a:Qa) (ds:Qd) (c:Nat):Prop where
 dig:dE W W a ds
 cap:ds.length<=c/\c<=maxLen
 ok:∀d∈ds,OkD d
def Txs(B:Nat)(W:World)(a:Qa)(ts:List (Qb)):Prop:=∀i (h:i<ts.length),∃b off,a=some ⟨b,off,none⟩/\b<B/\W.cell? ⟨b,off+i,none⟩=some (.string ⟨ts[i].toArray⟩)
structure Fet where
 xs:List Itm
 ys:List Itm
 want:Qd
 com:Qd
 ts:List (Qb)
 sz:Int
structure Sz where
 ha:Qa
 hc:Nat
 ya:Qa
 yc:Nat
 wa:Qa
 wc:Nat
 ca:Qa
 cc:Nat
 ta:Qa
 tc:Nat
def Fet.arr(x:Fet)(A:Sz):Array Value:=#[.slice A.ha x.xs.length A.hc,.slice A.ya x.ys.length A.yc,.slice A.wa x.want.length A.wc,.slice A.ca x.com.length A.cc,.slice A.ta x.ts.length A.tc,Yi x.sz]
structure PW (W:World) (x:Fet) (A:Sz):Prop where
 h:PZ W A.ha x.xs A.hc
 y:PZ W A.ya x.ys A.yc
 w:Va W A.wa x.want A.wc
 c:Va W A.ca x.com A.cc
 t:Txs W W A.ta x.ts
 tl:x.ts.length<=A.tc/\A.tc<=maxLen
def Vb(ds:Qd):Prop:=∀d∈ds,(Lit.int .u64 d.1).wf=true/\(Lit.int .u64 d.2).wf=true
section
variable {H:Type} {enc:TypeId×Value->H} {W:World}
theorem Qn{t e:TypeId}{C:Nat}{a:Qa}{len cap fuel:Nat}{x:DataW H×List MemPlace}(Z:prog.underlying t=some (.slice e))(Q:prog.cellsOf e=C)(T:0<C)
  (h:DataW.trod enc prog W 0 (fun _=>true) true fuel t [.slice a len cap]=some x) :
  (len<=cap/\cap<=maxLen)/\∀i,i<len->∃b A0 cs n y,a=some ⟨b,A0,none⟩/\b<(W:Nat)/\cs.length=C/\(∀(j:Nat) (v:Value),cs[j]? = some v->W.cell? ⟨b,A0+i*C+j,none⟩=some v)/\DataW.trod enc prog W 0 (fun _=>true) true n e cs=some y:=by
 rcases open_slice Z h with⟨B,_⟩ | ⟨ad,l,c,m,n,D,Pl,B,_,V,Y,O,_,M⟩
 ·simp at B;obtain⟨rfl,rfl,rfl⟩:=B;exact⟨⟨nr,Q6 _⟩,fun i M=>Zo⟩
 ·simp at B;obtain⟨rfl,rfl,rfl⟩:=B;refine⟨⟨V,Y⟩,fun i X=>?_⟩;simp only[if_true] at O;obtain⟨A3,L,_⟩:=M 0 Zo;obtain⟨_,J,E⟩:=World.cells?_some L;rw[Q] at J E;obtain⟨b,A0,A1⟩:=ad;have e0:W.cell? ((⟨b,A0,A1⟩:Addr).add 0)=some (A3[0]'Zo):=by
   have:=E 0 T;rw[XH Zo] at this;simpa[Addr.add] using this
  have G:A1=none:=by simpa[Addr.add] using World.cell?_spot e0
  subst G;obtain⟨A2,U,P⟩:=M i Zo;obtain⟨_,F,I⟩:=World.cells?_some U;rw[Q] at F I;have K:b<(W:Nat):=by
   unfold World.cell? at e0;simp only[Addr.add,if_true] at e0;cases S:W.heap[b]? with
   | none=>simp[S] at e0
   | some o=>exact(XA.1 S).1
  refine⟨b,A0,A2,n,_,rfl,K,F,fun j v R=>?_,P⟩;have N:j<C:=F▸(XO.1 R).1;have:=I j N;rw[R,XD,XD] at this;exact this
theorem P8{t e:TypeId}{c:Value}{x:DataW H×List MemPlace}(C:prog.underlying t=some (.slice e))(h:DataW.trod enc prog W 0 (fun _=>true) true fuel t [c]=some x):∃a F E,c=.slice a F E:=by
 rcases open_slice C h with⟨B,_⟩ | ⟨ad,l,c,m,n,D,Pl,B,_⟩
 ·simp at B; exact⟨_,_,_,B⟩
 ·simp at B; exact⟨_,_,_,B⟩
theorem Qj{x:DataW H×List MemPlace}(h:DataW.trod enc prog W 0 (fun _=>true) true fuel 54 cs=some x):∃p:Int×Int,cs=[Yu p.1,Yu p.2]/\(Lit.int .u64 p.1).wf=true/\(Lit.int .u64 p.2).wf=true:=by
 obtain⟨xs,n,_,_,D,B,C⟩:=DataW.trod_array underlying54 h;rw[show prog.cellsOf 54=2 by kernel_rfl] at D
 match cs,D with
 | [c0,c1],_=>
  match xs,B with
  | [x0,x1],_=>
   obtain⟨o,e0,_,w0⟩:=DataW.trod_int underlying52 (show DataW.trod enc prog W 0 (fun _=>true) true n 52 [c0]=some x0 from C 0 Zd);obtain⟨s,e1,_,w1⟩:=DataW.trod_int underlying52 (show DataW.trod enc prog W 0 (fun _=>true) true n 52 [c1]=some x1 from C 1 Zd);cases e0;cases e1;exact⟨(o,s),rfl,w0,w1⟩
theorem Td{a:Qa}{len cap:Nat}{x:DataW H×List MemPlace}(h:DataW.trod enc prog W 0 (fun _=>true) true fuel 24 [.slice a len cap]=some x):(len<=cap/\cap<=maxLen)/\∃ds:Qd,len=ds.length/\dE W W a ds/\Vb ds:=by
 obtain⟨K,L⟩:=Qn underlying24 (C:=2) Zk Zd h;obtain⟨ds,E,F⟩:=Qw (fun i (p:Int×Int)=>(∃b N,a=some ⟨b,N,none⟩/\b<(W:Nat)/\W.cell? ⟨b,N+i*2,none⟩=some (Yu p.1)/\W.cell? ⟨b,N+i*2+1,none⟩=some (Yu p.2))/\(Lit.int .u64 p.1).wf=true/\(Lit.int .u64 p.2).wf=true) len (fun i D=>by
  obtain⟨b,N,cs,n,y,G,I,_,B,M⟩:=L i D;obtain⟨p,rfl,w0,w1⟩:=Qj M;exact⟨p,⟨b,N,G,I,B 0 _ rfl,B 1 _ rfl⟩,w0,w1⟩)
 refine⟨K,ds,E.symm,fun i D=>(F i D).1,fun d J=>?_⟩;obtain⟨i,D,rfl⟩:=aV J;exact(F i D).2
theorem Sm{x:DataW H×List MemPlace}(h:DataW.trod enc prog W 0 (fun _=>true) true fuel 56 cs=some x):∃e:Itm,cs=[Yu e.d.1,Yu e.d.2,.string ⟨e.data.toArray⟩]/\OkD e.d/\e.data.length<=maxLen:=by
 obtain⟨xs,n,_,_,D,B,C⟩:=DataW.trod_struct underlying56 h;rw[show prog.cellsOf 56=3 by kernel_rfl] at D
 match cs,D with
 | [c0,c1,c2],_=>
  match xs,B with
  | [x0,x1],_=>
   obtain⟨d,e2,w0,w1⟩:=Qj (show DataW.trod enc prog W 0 (fun _=>true) true n 54 [c0,c1]=some x0 from C 0 _ rfl);obtain⟨s,e0,_,ws⟩:=DataW.trod_string underlying9 (show DataW.trod enc prog W 0 (fun _=>true) true n 9 [c2]=some x1 from C 1 _ rfl);cases e0;cases e2;exact⟨⟨d,s.data.toList⟩,by rw[<-QG (t:=s) rfl],TQ w0 w1,ws⟩
theorem RI{x:DataW H×List MemPlace}(h:DataW.trod enc prog W 0 (fun _=>true) true fuel 24 [v]=some x):∃a ds c,v=.slice a (List.length ds) c/\Va W a ds c:=by
 obtain⟨a,l,c,rfl⟩:=P8 underlying24 h;obtain⟨D,ds,rfl,C,B⟩:=Td h;exact⟨a,ds,c,rfl,C,D,fun d C=>TQ (B d C).1 (B d C).2⟩
theorem Ri{x:DataW H×List MemPlace}(h:DataW.trod enc prog W 0 (fun _=>true) true fuel 23 [v]=some x):∃a xs c,v=.slice a (List.length xs) c/\PZ W a xs c:=by
 obtain⟨a,P,O,rfl⟩:=P8 underlying23 h;obtain⟨M,K⟩:=Qn underlying23 (C:=3) Zk Zd h;obtain⟨xs,E,F⟩:=Qw (fun i (e:Itm)=>(∃b N,a=some ⟨b,N,none⟩/\b<(W:Nat)/\W.cell? ⟨b,N+i*3,none⟩=some (Yu e.d.1)/\W.cell? ⟨b,N+i*3+1,none⟩=some (Yu e.d.2)/\W.cell? ⟨b,N+i*3+2,none⟩=some (.string ⟨e.data.toArray⟩))/\OkD e.d/\e.data.length<=maxLen) P (fun i D=>by
  obtain⟨b,N,cs,n,y,G,I,_,B,L⟩:=K i D;obtain⟨e,rfl,w0,w1⟩:=Sm L;exact⟨e,⟨b,N,G,I,B 0 _ rfl,B 1 _ rfl,B 2 _ rfl⟩,w0,w1⟩)
 refine⟨a,xs,O,Zx E,fun i D=>(F i D).1,Zo,fun e J=>?_⟩;obtain⟨i,D,rfl⟩:=aV J;exact(F i D).2
theorem Ud{x:DataW H×List MemPlace}(h:DataW.trod enc prog W 0 (fun _=>true) true fuel 25 [v]=some x):∃a ts c,v=.slice a (List.length ts) c/\Txs W W a ts/\ts.length<=c/\c<=maxLen:=by
 obtain⟨a,Q,P,rfl⟩:=P8 underlying25 h;obtain⟨K,M⟩:=Qn underlying25 (C:=1) Zk Zd h;obtain⟨ts,E,L⟩:=Qw (fun i (e:Qb)=>∃b O,a=some ⟨b,O,none⟩/\b<(W:Nat)/\W.cell? ⟨b,O+i,none⟩=some (.string ⟨e.toArray⟩)) Q (fun i J=>by
  obtain⟨b,O,cs,n,y,G,I,D,B,N⟩:=M i J
  match cs,D with
  | [c0],_=>
   obtain⟨s,e0,_⟩:=DataW.trod_string underlying9 N;cases e0;have F:=B 0 _ rfl;rw[Nat.mul_one,QI] at F;exact⟨s.data.toList,b,O,G,I,Zu F⟩)
 exact⟨a,ts,P,Zx E,L,Zo,K.2⟩
theorem Ue{x:DataW H×List MemPlace}(h:DataW.trod enc prog W 0 (fun _=>true) true fuel 27 cs=some x):
  ∃(t:Fet) (A:Sz),cs=(t.arr A).toList/\PW W t A:=by
 obtain⟨xs,n,_,_,F,E,B⟩:=DataW.trod_struct underlying27 h;rw[show prog.cellsOf 27=6 by kernel_rfl] at F
 match cs,F with
 | [c0,c1,c2,c3,c4,c5],_=>
  match xs,E with
  | [x0,x1,x2,x3,x4,x5],_=>
   obtain⟨wa,P,wc,rfl,L⟩:=Ri (show DataW.trod enc prog W 0 (fun _=>true) true n 23 [c0]=some x0 from B 0 _ rfl);obtain⟨qa,O,qc,rfl,J⟩:=Ri (show DataW.trod enc prog W 0 (fun _=>true) true n 23 [c1]=some x1 from B 1 _ rfl);obtain⟨aa,N,ac,rfl,G⟩:=RI (show DataW.trod enc prog W 0 (fun _=>true) true n 24 [c2]=some x2 from B 2 _ rfl);obtain⟨ca,M,cc,rfl,I⟩:=RI (show DataW.trod enc prog W 0 (fun _=>true) true n 24 [c3]=some x3 from B 3 _ rfl);obtain⟨ta,ts,tc,rfl,K,C,D⟩:=Ud (show DataW.trod enc prog W 0 (fun _=>true) true n 25 [c4]=some x4 from B 4 _ rfl);obtain⟨b,e5,_,_⟩:=DataW.trod_int underlying3 (show DataW.trod enc prog W 0 (fun _=>true) true n 3 [c5]=some x5 from B 5 _ rfl);cases e5;exact⟨⟨P,O,N,M,ts,b⟩,⟨wa,wc,qa,qc,aa,ac,ca,cc,ta,tc⟩,rfl,L,J,G,I,K,C,D⟩
theorem Um{r:Reach}{b0:Nat}{d:DataW H}{p:List MemPlace}(F:Value.okWide prog W r b0 27 v)(h:DataW.Trod enc prog W 0 (fun _=>true) true 27 v d p):
  ∃(t:Fet) (A:Sz),v=.agg (t.arr A)/\PW W t A:=by
 obtain⟨cs,rfl,E⟩:=okWide_struct underlying27 F;obtain⟨G,D⟩:=h;obtain⟨t,A,B,C⟩:=Ue D;refine⟨t,A,?_,C⟩;have B:cs.toList=(t.arr A).toList:=B;rw[Array.toList_inj.1 B]
end
open Go.RowKit Go.Shelf
structure QM (x:Fet):Prop where
 pg:Cr x.xs=false
 ck:mV x.xs=0
 lw:x.want.length<=6
 lc:x.com.length<=6
 lt:x.ts.length<=4
 tl:∀t∈x.ts,t.length<=6000
 gy:Cr x.ys=false
 ky:mV x.ys=0
theorem RG{xs:List Itm}(h:Cr xs=false):xs.length<=40/\∀x∈xs,x.data.length<=500:=by
 simp only[Cr,Bool.or_eq_false_iff,XL,List.any_eq_false] at h;exact⟨Zo,fun x A=>by have:=h.2 x A; simp at this; omega⟩
theorem Sa(x:Fet)(A:Sz)(w:World)(h:PW w x A):
  Qh 10 #[.agg (x.arr A)] w fun e w'=>(∃r,e=.returned (.bool r)/\(r=true->QM x))/\PM w w':=by
 obtain⟨xs,ys,A6,B6,ts,sz⟩:=x;obtain⟨X,K,ya,yc,wa,wc,ca,cc,ta,tc⟩:=A;obtain⟨U,V,h3,h4,h5,h6⟩:=h;simp only at U V h3 h4 h5 h6;have B7:=U.cap;have B8:=V.cap;have B9:=h3.cap;have C0:=h4.cap;unfold maxLen at B7 B8 B9 C0 h6;have B3:∀x∈xs,(x.data.length:Int)<=9223372036854775807:=fun x T=>by have:=(U.dat x T).2; unfold maxLen at this; omega
 have B4:∀x∈ys,(x.data.length:Int)<=9223372036854775807:=fun x T=>by have:=(V.dat x T).2; unfold maxLen at this; omega
 obtain⟨Y,Z,O,P,I,J⟩:=Yn (fun W (Q:PM w W)=>Ol X xs K W (U.its.ahead Q) Zo B3) (fun W (Q:PM w W)=>Ol ya ys yc W (V.its.ahead Q) Zo B4) (fun(R:Cr xs=false) W (Q:PM w W)=>M7 X xs K W (U.its.ahead Q) (Zh ((RG R).1)) (fun x T=>Zh ((RG R).2 x T))) (fun(R:Cr ys=false) W (Q:PM w W)=>M7 ya ys yc W (V.its.ahead Q) (Zh ((RG R).1)) (fun x T=>Zh ((RG R).2 x T))) (fun(R:Cr xs=false) (hk:mV xs=0) W (Q:PM w W)=>Oi X xs K W (U.its.ahead Q) (PP hk).2 (Zh ((RG R).1)) (fun x T=>Zh ((RG R).2 x T))) (fun(R:Cr ys=false) (hk:mV ys=0) W (Q:PM w W)=>Oi ya ys yc W (V.its.ahead Q) (PP hk).2 (Zh ((RG R).1)) (fun x T=>Zh ((RG R).2 x T)));obtain⟨B0,B⟩:=Yj h5 (fun a b c d e (f:∀t∈ts,t.length<=6000) g h=>QM.mk (x:=⟨xs,ys,A6,B6,ts,sz⟩) a b c d e f g h);generalize QM ⟨xs,ys,A6,B6,ts,sz⟩=FX at B ⊢;obtain⟨G,hG⟩:∃G:Ending->World->Prop,G=fun e w'=>(∃r,e=.returned (.bool r)/\(r=true->FX))/\PM w w':=⟨_,rfl⟩
 rw[<-hG];have C:Qg (∀u,PM w u->G (.returned (.bool false)) u):=Qf (fun u hu=>by rw[hG]; exact⟨⟨false,rfl,fun h=>(by cases h)⟩,hu⟩);have C2:Qg (FX->∀u,PM w u->G (.returned (.bool true)) u):=Qf (fun hf u hu=>by rw[hG]; exact⟨⟨true,rfl,fun _=>hf⟩,hu⟩);clear hG;simp only[Fet.arr];obtain⟨nt,A5⟩:=Qe ts.length;have A9:=Qf A5;rw[<-A5] at B h6 ⊢;simp only at B;clear A5 U V h3 h4 h5 B3 B4;generalize Cr xs=g1 at Y O I B;generalize Cr ys=g2 at Z P J B;generalize mV xs=e1 at O I B;generalize mV ys=e2 at P J B;generalize PK xs=y1 at I;generalize PK ys=y2 at J;generalize xs.length=nx at B7 Y O I ⊢;generalize ys.length=ny at B8 Z P J ⊢;generalize A6.length=nw at B9 B ⊢;generalize B6.length=nc at C0 B ⊢;obtain⟨w0,S⟩:=Qe (w.alloc (.cells #[.slice X nx K,.slice ya ny yc,.slice wa nw wc,.slice ca nc cc,.slice ta nt tc,Yi sz] 27));have F:Qg (PM w w0):=Qf (S▸ba _ _);have A1:Qg (BK w #[.slice X nx K,.slice ya ny yc,.slice wa nw wc,.slice ca nc cc,.slice ta nt tc,Yi sz] 27 w0):=Qf (S▸BK.new _ _ _);have D:=Qf (Y.o w0 F.o);rw[S] at D;have B2:=Qf S;clear S Y;go_enter func10,ntmps10;go_wp2_with fail;refine D.o.mono ?_;rintro e u0 ⟨rfl,he⟩;rw[<-B2.o] at he;subst he;clear D B2;cases g1 with
 | true=>
  go_wp2_with fail;exact C.o _ F.o
 | false=>
  obtain⟨k0,k1,k2,k3,k4,k5⟩:=BK.c6 A1.o;have D:=Qf (Z.o w0 F.o);clear Z;go_wp2_with fail;refine D.o.mono ?_;rintro e u0 ⟨rfl,rfl⟩;clear D;cases g2 with
  | true=>
   go_wp2_with fail;exact C.o _ F.o
  | false=>
   have D:=Qf (O.o Zv w0 F.o);clear O;go_wp2_with fail;refine D.o.mono ?_;rintro e w1 ⟨rfl,E⟩;obtain⟨L,A2⟩:=Yj (XT F.o E) (A1.o.below E);clear E D F A1 k0 k1 k2 k3 k4 k5;obtain⟨k0,k1,k2,k3,k4,k5⟩:=BK.c6 A2.o;by_cases hz:e1=0
   case neg=>
    have C7:(e1==0)=false:=Zu hz;go_wp2_with fail;exact C.o _ L.o
   subst hz;have D:=Qf (P.o Zv w1 L.o);clear P;go_wp2_with fail;refine D.o.mono ?_;rintro e w2 ⟨rfl,E⟩;obtain⟨M,A3⟩:=Yj (XT L.o E) (A2.o.below E);clear E D L A2 k0 k1 k2 k3 k4 k5;obtain⟨k0,k1,k2,k3,k4,k5⟩:=BK.c6 A3.o;by_cases hz:e2=0
   case neg=>
    have C7:(e2==0)=false:=Zu hz;go_wp2_with fail;exact C.o _ M.o
   subst hz;have D:=Qf (I.o Zv Zv w2 M.o);clear I;go_wp2_with fail;refine D.o.mono ?_;rintro e w3 ⟨rfl,E⟩;obtain⟨N,A4⟩:=Yj (XT M.o E) (A3.o.below E);clear E D M A3 k0 k1 k2 k3 k4 k5;obtain⟨k0,k1,k2,k3,k4,k5⟩:=BK.c6 A4.o;cases y1 with
   | true=>
    go_wp2_with fail;exact C.o _ N.o
   | false=>
    have D:=Qf (J.o Zv Zv w3 N.o);clear J;go_wp2_with fail;refine D.o.mono ?_;rintro e w4 ⟨rfl,E⟩;obtain⟨H,A8⟩:=Yj (XT N.o E) (A4.o.below E);clear E D N A4 k0 k1 k2 k3 k4 k5;obtain⟨k0,k1,k2,k3,k4,k5⟩:=BK.c6 A8.o;cases y2 with
    | true=>
     go_wp2_with fail;exact C.o _ H.o
    | false=>
     by_cases D3:(6:Int)<(nw:Int)
     case pos=>
      go_wp2_with fail;exact C.o _ H.o
     by_cases D4:(6:Int)<(nc:Int)
     case pos=>
      go_wp2_with fail;exact C.o _ H.o
     by_cases D5:(4:Int)<(nt:Int)
     case pos=>
      go_wp2_with fail;exact C.o _ H.o
     have B1:Qg (Txs w4 w4 ta ts):=Qf (fun i hi=>by
        obtain⟨b,C3,e,E,K⟩:=B0.o i hi;exact⟨b,C3,e,aO E H.o.size,(H.o.cell (p:=⟨b,C3+i,none⟩) E).trans K⟩)
     have A7:=Qf (fun f=>B.o Zv Zv Zo Zo Zo f Zv Zv);clear B0 B A8;go_wp2;go_loop [56] (fun i=>∃k:Nat,k<=nt/\i=Yi k/\Qg (∀j (h:j<ts.length),j<k->ts[j].length<=6000)) (fun i=>nt-(intOf i).toNat)
     case atStart=>exact⟨0,Zo,rfl,Qf (fun j U V=>Zo)⟩
     case round=>
      obtain⟨k,hk,rfl,HA⟩:=hrel;by_cases D6:k<nt
      ·have U:k<ts.length:=Zh A9.o;obtain⟨b0,o0,rfl,C9,q0⟩:=B1.o k U;have A0:Qg (ts[k].length<=6000->∀j (h:j<ts.length),j<k+1->ts[j].length<=6000):=Qf (fun V j h h3=>by
        by_cases he:j=k
        ·subst he; exact V
        ·exact HA.out j h Zo)
       generalize ts[k]=t at q0 A0;have B5:(k:Int)<(nt:Int):=Zo;by_cases D7:(6000:Int)<(t.length:Int)
       ·clear A0 HA;go_wp2_with fail;exact C.o _ H.o
       ·have C1:=Qf (A0.o Zo);clear A0 HA;go_wp2;go_round
        case rel=>exact⟨k+1,Zo,Zg,C1⟩
        case measure=>exact Yq
      ·have B5:¬(k:Int)<(nt:Int):=Zo;have HF:=Qf (A7.o (fun t ht=>by
        obtain⟨j,hj,rfl⟩:=aV ht;exact HA.out j hj (Zh A9.o)))
       clear HA A7;go_wp2_with fail;exact C2.o HF.o _ H.o
