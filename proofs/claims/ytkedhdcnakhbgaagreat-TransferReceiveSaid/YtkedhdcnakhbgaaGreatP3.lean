/- Lemmas. -/
import Derived.Test.YtkedhdcnakhbgaaGreatP1
import Derived.Test.YtkedhdcnakhbgaaGreatG2
import Derived.Test.YtkedhdcnakhbgaaGreatG5
set_option linter.unusedSimpArgs false
set_option maxRecDepth 100000
set_option maxHeartbeats 16000000
namespace Go.Proofs.YtkedhdcnakhbgaaGreat
open Tryz
open Go.RowKit Go.Shelf
set_option linter.unusedVariables false
variable {er:Int}{K:Int->Option Value}{x:Itm}{P Q xs:List Itm}{B c k m n p u:Nat}{o:Option Value}{a pa:Qa}{b:Qb}{v x0 x1 x2 x3 x4 x5 x6 z:Value}{W W' w w':World}
def tX(e:Pe):List Value:=[Yu e.d.1,Yu e.d.2,Yi e.kind,Yu e.base.1,Yu e.base.2,Yi (e.off:Int),Yi (e.len:Int)]
def Pe.val(e:Pe):Value:=.agg #[Yu e.d.1,Yu e.d.2,Yi e.kind,Yu e.base.1,Yu e.base.2,Yi (e.off:Int),Yi (e.len:Int)]
theorem OT:Lay tX 7:=⟨Zd,fun o=>rfl,fun o v A=>by
 simp only[tX,XG,List.not_mem_nil,or_false] at A;rcases A with rfl | rfl | rfl | rfl | rfl | rfl | rfl <;> rfl⟩
def GotPe(b:Qb)(k:Nat)(w:World)(e:Ending)(w':World):Prop:=∃(x:Pe) (t:Bool),e=.returned (.tuple #[x.val,.bool t])/\(t=true->dY b k=some x)/\(t=false->dY b k=none)/\PM w w'
theorem AP(h:b.length<k+16):dY b k=none:=by unfold dY; rw[if_pos h]
theorem Gh{kd u:Int}(h:k+16<=b.length)(B:Cw.getI (b.drop (k+16))=(kd,u,er))(A:er≠0\/(kd≠0/\kd≠1)):dY b k=none:=by
 unfold dY; rw[if_neg Zo,B]; simp only; rw[if_pos A]
theorem yF(h:k+16<=b.length)(B:Cw.getI (b.drop (k+16))=(1,(u:Int),0))(A:b.length<k+16+u+16):dY b k=none:=by
 unfold dY; rw[if_neg Zo,B]; simp only[aj]; rw[if_neg Zs,if_pos (Zu A)]
theorem LA{v:Nat}{x:Qb}(h:k+16<=b.length)(A:Cw.getI (b.drop (k+16))=(0,(u:Int),0))(B:Cw.getT (b.drop (k+16+u))=(x,(v:Int),er)):dY b k=if er≠0 then none else some ⟨CS (b.drop k),0,(0,0),k+16+u+v-x.length,x.length⟩:=by
 unfold dY;rw[if_neg Zo,A];simp only[aj];rw[if_neg Zs,if_neg Zs,show k+16+u+(if(0:Int)=1 then 16 else 0)=k+16+u by simp,B];simp
theorem Lx{v:Nat}{x:Qb}(h:k+16<=b.length)(A:Cw.getI (b.drop (k+16))=(1,(u:Int),0))(C:k+16+u+16<=b.length)(B:Cw.getT (b.drop (k+16+u+16))=(x,(v:Int),er)):dY b k=if er≠0 then none else some ⟨CS (b.drop k),1,CS (b.drop (k+16+u)),k+16+u+16+v-x.length,x.length⟩:=by
 unfold dY;rw[if_neg Zo,A];simp only[aj,if_true];rw[if_neg Zs,if_neg Zt,B];simp
theorem Jc{l x:Qb}{v:Int}(h:Cw.getT l=(x,v,er)):(x.length:Int)<=v:=by
 by_cases e:er=0
 ·subst e;have:=En h;omega
 ·unfold Cw.getT at h;have A:=(gH (l:=l) rfl).2.2.1;split at h
  ·simp only[XC] at h; rw[<-h.1,<-h.2.1]; simp
  ·split at h
   ·simp only[XC] at h; rw[<-h.1,<-h.2.1]; simp
   ·split at h
    ·simp only[XC] at h; rw[<-h.1,<-h.2.1]; simp
    ·simp only[XC] at h; exact absurd h.2.2.symm e
def FM(W:World)(n:Nat)(d1 d2 kd b1 b2 f g:Int):World:=((((((W.setCell n (Yu d1)).setCell ⟨n,1,none⟩ (Yu d2)).setCell ⟨n,2,none⟩ (Yi kd)).setCell ⟨n,3,none⟩ (Yu b1)).setCell ⟨n,4,none⟩ (Yu b2)).setCell ⟨n,5,none⟩ (Yi f)).setCell ⟨n,6,none⟩ (Yi g)
theorem oM(h:BK n #[x0,x1,x2,x3,x4,x5,x6] 222 W)(d1 d2 kd b1 b2 f g:Int):BK n #[Yu d1,Yu d2,Yi kd,Yu b1,Yu b2,Yi f,Yi g] 222 (FM W n d1 d2 kd b1 b2 f g):=by
 unfold FM;have A:BK n #[Yu d1,x1,x2,x3,x4,x5,x6] _ _:=h.set 0 (Yu d1);have B:BK n #[Yu d1,Yu d2,x2,x3,x4,x5,x6] _ _:=A.set 1 (Yu d2);have C:BK n #[Yu d1,Yu d2,Yi kd,x3,x4,x5,x6] _ _:=B.set 2 (Yi kd);have D:BK n #[Yu d1,Yu d2,Yi kd,Yu b1,x4,x5,x6] _ _:=C.set 3 (Yu b1);have E:BK n #[Yu d1,Yu d2,Yi kd,Yu b1,Yu b2,x5,x6] _ _:=D.set 4 (Yu b2);have F:BK n #[Yu d1,Yu d2,Yi kd,Yu b1,Yu b2,Yi f,x6] _ _:=E.set 5 (Yi f);exact F.set 6 (Yi g)
theorem jK(h:Below B w W)(A:B<=n)(d1 d2 kd b1 b2 f g:Int):Below B w (FM W n d1 d2 kd b1 b2 f g):=((((((h.setCell A _).setCell A _).setCell A _).setCell A _).setCell A _).setCell A _).setCell A _
abbrev peZ:Array Value:=#[Yu 0,Yu 0,Yi 0,Yu 0,Yu 0,Yi 0,Yi 0]
theorem Jn(b:Qb)(k:Nat)(w:World)(hk:k<=b.length)(hl:(b.length:Int)<=70368744177664):Qh 245 #[b,Yi (k:Int)] w (GotPe b k w):=by
 have F2:=bH b;obtain⟨m,hm⟩:=Qe b.length;rw[<-hm] at F2 hk hl;have G5:IntKind.i64.wrap ((m:Int)-(k:Int))=(m:Int)-(k:Int):=ZV;by_cases E5:m<k+16
 ·have hi:(m:Int)-(k:Int)<16:=Zo;have L:=Qf (AP (b:=b) (k:=k) Zo);clear hm;go_enter func245,ntmps245;go_wp2;refine XB (v:=.tuple #[.agg peZ,.bool false]) (by simp[results,results245,go_sem]) rfl ?_;refine⟨⟨(0,0),0,(0,0),0,0⟩,false,rfl,(fun h=>by cases h),(fun _=>L.o),?_⟩
  repeat (first | exact bf _ | (refine Below.setCell ?_ Zs _) | (refine Below.alloc ?_ Zs _))
 have hi:¬(m:Int)-(k:Int)<16:=Zo;have N:k+16<=b.length:=Zo;have K:=fun W=>jY b k Zo W
 have J:(b:ByteArray).extract k m=⟨(b.drop k).toArray⟩:=by rw[dw,ag (Zj hm)]
 have U:=Qf (fun W=>lh (b.drop k) W (Zy ah) (Zy ah));obtain⟨⟨D1,D2⟩,hD⟩:=Qe (CS (b.drop k));rw[<-hD] at U;obtain⟨S1,B0⟩:=Qe (b.drop k);rw[<-B0] at U K J;obtain⟨q,hq⟩:=Qe (k+16);have G9:IntKind.i64.wrap ((k:Int)+16)=(q:Int):=by rw[ZV]; omega
 have A5:=fun W=>jY b q Zo W
 have A3:(b:ByteArray).extract q m=⟨(b.drop q).toArray⟩:=by rw[dw,ag (Zj hm)]
 obtain⟨kd,u,er,hg⟩:∃kd u er,Cw.getI (b.drop q)=(kd,u,er):=⟨_,_,_,rfl⟩;have HG:=Qf (fun X=>dQ (s:=⟨(b.drop q).toArray⟩) (n:=kd) (k:=u) (er:=er) (Zu hg) X);obtain⟨g1,g2,g3,g4⟩:=gH hg;rw[ah] at g4;obtain⟨u0,rfl⟩:∃u0:Nat,u=(u0:Int):=⟨u.toNat,Zo⟩;have B4:Cw.getI (b.drop (k+16))=(kd,(u0:Int),er):=hq▸hg;have P:=Qf (Gh N B4);obtain⟨S2,B3⟩:=Qe (b.drop q);rw[<-B3] at HG A5 A3;have C5:Qg (BK w peZ 222 ((w.alloc (.cells peZ 222)).alloc (.cells peZ 222))/\BK ((w:Nat)+1) peZ 222 ((w.alloc (.cells peZ 222)).alloc (.cells peZ 222))/\PM w ((w.alloc (.cells peZ 222)).alloc (.cells peZ 222))):=Qf ⟨(BK.new _ _ _).alloc _,BK.new2 _ _ _ _,(ba w _).alloc Zs _⟩;obtain⟨M,HD,F8,HQ,F9,A7⟩:=Yn hm hD B0 hq B3 B4;clear hm hD B0 hq B3 B4 hg E5;go_enter func245,ntmps245;go_wp2_with fail;refine(U.o _).mono ?_;rintro e u1 ⟨rfl,hb⟩;obtain⟨z1,z2,z3⟩:=C5.o;have HZ:=Qf (z1.below hb);have Y:=z2.below hb;have C3:=Qf (XT z3 hb);have G:Qg (BK ((w:Nat)+1) #[Yu D1,Yu D2,Yi 0,Yu 0,Yu 0,Yi 0,Yi 0] 222 ((u1.setCell ⟨(w:Nat)+1,0,none⟩ (Yu D1)).setCell ⟨(w:Nat)+1,1,none⟩ (Yu D2))):=Qf ((Y.set 0 _).set 1 _);have F:Qg (BK w peZ 222 ((u1.setCell ⟨(w:Nat)+1,0,none⟩ (Yu D1)).setCell ⟨(w:Nat)+1,1,none⟩ (Yu D2))):=Qf ((HZ.o.other Zo _ _).other Zo _ _);have Q:Qg (PM w ((u1.setCell ⟨(w:Nat)+1,0,none⟩ (Yu D1)).setCell ⟨(w:Nat)+1,1,none⟩ (Yu D2))):=Qf ((C3.o.setCell Zs _).setCell Zs _);obtain⟨x0,x1,x2,x3,x4,x5,x6⟩:=BK.c7 Y;obtain⟨A8,B7,C1,C2,D3,D4,D5⟩:=BK.f7 (Y);go_wp2_with fail;refine(HG.o _).mono ?_;rintro e u2 ⟨rfl,rfl⟩;clear HG U K J A5 A3;obtain⟨W1,C9⟩:=Qe ((u1.setCell ⟨(w:Nat)+1,0,none⟩ (Yu D1)).setCell ⟨(w:Nat)+1,1,none⟩ (Yu D2));rw[<-C9] at G F Q ⊢;clear C9 C5 HZ Y C3 x0 x1 x2 x3 x4 x5 x6 A8 B7 C1 C2 D3 D4 D5 z1 z2 z3 hb;obtain⟨x0,x1,x2,x3,x4,x5,x6⟩:=BK.c7 G.o;obtain⟨A8,B7,C1,C2,D3,D4,D5⟩:=BK.f7 (G.o);obtain⟨y0,y1,y2,y3,y4,y5,y6⟩:=BK.c7 F.o;obtain⟨D6,E0,E1,E6,F5,F6,G1⟩:=BK.f7 (F.o);obtain⟨x0,x1,x2,x3,x4,x5,x6⟩:=BK.c7 G.o;obtain⟨A8,B7,C1,C2,D3,D4,D5⟩:=BK.f7 (G.o);obtain⟨y0,y1,y2,y3,y4,y5,y6⟩:=BK.c7 F.o;obtain⟨D6,E0,E1,E6,F5,F6,G1⟩:=BK.f7 (F.o);obtain⟨x0,x1,x2,x3,x4,x5,x6⟩:=BK.c7 G.o;obtain⟨A8,B7,C1,C2,D3,D4,D5⟩:=BK.f7 (G.o);obtain⟨y0,y1,y2,y3,y4,y5,y6⟩:=BK.c7 F.o;obtain⟨D6,E0,E1,E6,F5,F6,G1⟩:=BK.f7 (F.o);by_cases I:er≠0\/(kd≠0/\kd≠1)
 case pos=>
  have L:=Qf (P.o I);clear G P;by_cases he:er=0
  ·subst he;have B5:kd≠0/\kd≠1:=I.elim (fun h=>absurd rfl h) id;have E7:(kd !=0)=true:=Zu B5.1;have G0:(kd !=1)=true:=Zu B5.2;clear B5 I;go_wp2_with fail;obtain⟨W9,B⟩:=Qe (FM W1 (w:Nat) D1 D2 0 0 0 0 0);have E:=oM F.o D1 D2 0 0 0 0 0;have C:=jK Q.o nr D1 D2 0 0 0 0 0;rw[<-B] at E C;unfold FM at B;rw[<-B];clear B x0 x1 x2 x3 x4 x5 x6 A8 B7 C1 C2 D3 D4 D5 y0 y1 y2 y3 y4 y5 y6 D6 E0 E1 E6 F5 F6 G1;obtain⟨r0,r1,r2,r3,r4,r5,r6⟩:=BK.c7 E;refine XB (v:=.tuple #[.agg #[Yu D1,Yu D2,Yi 0,Yu 0,Yu 0,Yi 0,Yi 0],.bool false]) (by simp[results,results245,go_sem,r0,r1,r2,r3,r4,r5,r6]) rfl ?_;exact⟨⟨(D1,D2),0,(0,0),0,0⟩,false,rfl,(fun h=>by cases h),(fun _=>L.o),C⟩
  ·have E7:(er !=0)=true:=Zu he;clear I he;go_wp2_with fail;obtain⟨W9,B⟩:=Qe (FM W1 (w:Nat) D1 D2 0 0 0 0 0);have E:=oM F.o D1 D2 0 0 0 0 0;have C:=jK Q.o nr D1 D2 0 0 0 0 0;rw[<-B] at E C;unfold FM at B;rw[<-B];clear B x0 x1 x2 x3 x4 x5 x6 A8 B7 C1 C2 D3 D4 D5 y0 y1 y2 y3 y4 y5 y6 D6 E0 E1 E6 F5 F6 G1;obtain⟨r0,r1,r2,r3,r4,r5,r6⟩:=BK.c7 E;refine XB (v:=.tuple #[.agg #[Yu D1,Yu D2,Yi 0,Yu 0,Yu 0,Yi 0,Yi 0],.bool false]) (by simp[results,results245,go_sem,r0,r1,r2,r3,r4,r5,r6]) rfl ?_;exact⟨⟨(D1,D2),0,(0,0),0,0⟩,false,rfl,(fun h=>by cases h),(fun _=>L.o),C⟩
 obtain⟨he,E9⟩:er=0/\(kd=0\/kd=1):=Zo;subst he;clear I P;have R:∀s:Qb,(s.length:Int)<=70368744177664->∃(x:Qb) (v:Nat) (A0:Int),Cw.getT s=(x,(v:Int),A0)/\x.length<=v/\v<=s.length/\Qg (∀X,Qh 126 #[s] X fun e w'=>e=.returned (.tuple #[x,Yi (v:Int),Yi A0])/\X=w'):=fun s hs=>by
  obtain⟨x,v,A0,H⟩:∃x v A0,Cw.getT s=(x,v,A0):=⟨_,_,_,rfl⟩;obtain⟨k3,k4,_⟩:=lZ H;have k5:=Jc H;obtain⟨v0,rfl⟩:∃v0:Nat,v=(v0:Int):=⟨v.toNat,Zo⟩;refine⟨x,v0,A0,H,Zo,Zo,Qf (fun X=>?_)⟩;have:=kD ⟨s.toArray⟩ X (Zy bH);rw[show(s:ByteArray).data.toList=s by simp,H] at this;exact this
 obtain⟨p,hp⟩:=Qe (q+u0);have G4:p<=m:=by have:=M.o; have:=HQ.o; omega
 have G6:IntKind.i64.wrap ((q:Int)+(u0:Int))=(p:Int):=by rw[ZV]; omega
 have HP:=Qf hp;clear hp;have Z:=Qf (F.o.other (c:=(w:Nat)+1) Zo 2 (Yi kd));have C6:Qg (BK ((w:Nat)+1) #[Yu D1,Yu D2,Yi kd,Yu 0,Yu 0,Yi 0,Yi 0] 222 (W1.setCell ⟨(w:Nat)+1,2,none⟩ (Yi kd))):=Qf (G.o.set 2 _);have O:=Qf (Q.o.setCell (p:=⟨(w:Nat)+1,2,none⟩) Zs (Yi kd));clear G F Q g1 g2;rcases E9 with rfl | rfl
 ·obtain⟨x,v,A0,H,C0,S,HT⟩:=R (b.drop (p)) (by rw[ah]; have:=M.o; omega);have L:Qg (dY b k=if A0≠0 then none else some ⟨(D1,D2),0,(0,0),p+v-x.length,x.length⟩):=Qf (by
   have hq:=HQ.o;have hp:=HP.o;subst hq;subst hp;rw[LA N A7.o H];rw[<-HD.o])
  have B8:=bH x;obtain⟨xl,T⟩:=Qe x.length;rw[<-T] at B8 L C0;rw[ah] at S;have F0:p+v<=m:=Zh M.o;have K:=fun W=>jY b (p) (Zh M.o) W
  have J:(b:ByteArray).extract (p) m=⟨(b.drop (p)).toArray⟩:=by rw[dw,ag (Zj M.o)]
  generalize b.drop (p)=S5 at HT K J;obtain⟨pv,B6⟩:=Qe (p+v);obtain⟨f,hf⟩:=Qe (p+v-xl);rw[<-hf] at L;have F3:IntKind.i64.wrap (((p:Nat):Int)+(v:Int))=(pv:Int):=by rw[ZV]; omega
  have F4:IntKind.i64.wrap ((pv:Int)-(xl:Int))=(f:Int):=by rw[ZV]; omega
  clear R H T S B6 hf;go_wp2_with fail;refine(HT.out _).mono ?_;rintro e u5 ⟨rfl,rfl⟩;have C7:=Z.o.other (c:=(w:Nat)+1) Zo 6 (Yi (xl:Int));obtain⟨E3,D7⟩:=Yj (C7.other (c:=(w:Nat)+1) Zo 5 (Yi (f:Int))) ((O.o.setCell (p:=⟨(w:Nat)+1,6,none⟩) Zs (Yi (xl:Int))).setCell (p:=⟨(w:Nat)+1,5,none⟩) Zs (Yi (f:Int)));clear C7 HT K J;go_wp2_with fail;obtain⟨W9,B⟩:=Qe (FM (((W1.setCell ⟨(w:Nat)+1,2,none⟩ (Yi 0)).setCell ⟨(w:Nat)+1,6,none⟩ (Yi (xl:Int))).setCell ⟨(w:Nat)+1,5,none⟩ (Yi (f:Int))) (w:Nat) D1 D2 0 0 0 (f:Int) (xl:Int));have E:=oM E3.o D1 D2 0 0 0 (f:Int) (xl:Int);have C:=jK D7.o nr D1 D2 0 0 0 (f:Int) (xl:Int);rw[<-B] at E C;unfold FM at B;rw[<-B];clear B x0 x1 x2 x3 x4 x5 x6 A8 B7 C1 C2 D3 D4 D5 y0 y1 y2 y3 y4 y5 y6 D6 E0 E1 E6 F5 F6 G1;obtain⟨r0,r1,r2,r3,r4,r5,r6⟩:=BK.c7 E;refine XB (v:=.tuple #[.agg #[Yu D1,Yu D2,Yi 0,Yu 0,Yu 0,Yi (f:Int),Yi (xl:Int)],.bool (A0==0)]) (by simp[results,results245,go_sem,r0,r1,r2,r3,r4,r5,r6]) rfl ?_;refine⟨⟨(D1,D2),0,(0,0),f,xl⟩,A0==0,rfl,fun h=>?_,fun h=>?_,C⟩
  ·have e:A0=0:=Zu h;rw[L.o,if_neg (by simp[e])]
  ·have e:A0≠0:=Zu h;rw[L.o,if_pos e]
 ·have G8:IntKind.i64.wrap ((m:Int)-(p:Int))=(m:Int)-(p:Int):=ZV;by_cases F1:m<p+16
  ·have E8:(m:Int)-(p:Int)<16:=Zo;have L:=Qf (yF N A7.o (by have:=M.o; have:=HQ.o; have:=HP.o; omega));clear R F1;go_wp2_with fail;obtain⟨W9,B⟩:=Qe (FM (W1.setCell ⟨(w:Nat)+1,2,none⟩ (Yi 1)) (w:Nat) D1 D2 1 0 0 0 0);have E:=oM Z.o D1 D2 1 0 0 0 0;have C:=jK O.o nr D1 D2 1 0 0 0 0;rw[<-B] at E C;unfold FM at B;rw[<-B];clear B x0 x1 x2 x3 x4 x5 x6 A8 B7 C1 C2 D3 D4 D5 y0 y1 y2 y3 y4 y5 y6 D6 E0 E1 E6 F5 F6 G1;obtain⟨r0,r1,r2,r3,r4,r5,r6⟩:=BK.c7 E;refine XB (v:=.tuple #[.agg #[Yu D1,Yu D2,Yi 1,Yu 0,Yu 0,Yi 0,Yi 0],.bool false]) (by simp[results,results245,go_sem,r0,r1,r2,r3,r4,r5,r6]) rfl ?_;exact⟨⟨(D1,D2),1,(0,0),0,0⟩,false,rfl,(fun h=>by cases h),(fun _=>L.o),C⟩
  ·have E8:¬(m:Int)-(p:Int)<16:=Zo;have A6:=fun W=>jY b p (Zh M.o) W
   have A4:(b:ByteArray).extract p m=⟨(b.drop p).toArray⟩:=by rw[dw,ag (Zj M.o)]
   have V:=Qf (fun W=>lh (b.drop p) W (by rw[ah]; have:=M.o; omega) (by rw[ah]; have:=M.o; omega));obtain⟨⟨B1,B2⟩,A9⟩:=Qe (CS (b.drop p));rw[<-A9] at V;have D9:=Qf A9;generalize b.drop p=S3 at V A6 A4;obtain⟨p2,A1⟩:=Qe (p+16);have G7:IntKind.i64.wrap ((p:Int)+16)=(p2:Int):=by rw[ZV]; omega
   have E2:=Qf A1;clear A9;go_wp2_with fail;refine(V.o _).mono ?_;rintro e u5 ⟨rfl,hb⟩;have A2:=Z.o.below hb;have B9:=C6.o.below hb;have D0:=(XT O.o hb);clear V A6 A4 x0 x1 x2 x3 x4 x5 x6 A8 B7 C1 C2 D3 D4 D5 y0 y1 y2 y3 y4 y5 y6 D6 E0 E1 E6 F5 F6 G1 hb;obtain⟨x0,x1,x2,x3,x4,x5,x6⟩:=BK.c7 B9;obtain⟨A8,B7,C1,C2,D3,D4,D5⟩:=BK.f7 (B9);obtain⟨y0,y1,y2,y3,y4,y5,y6⟩:=BK.c7 A2;obtain⟨D6,E0,E1,E6,F5,F6,G1⟩:=BK.f7 (A2);obtain⟨C8,C4⟩:=Yj ((A2.other (c:=(w:Nat)+1) Zo 3 (Yu B1)).other (c:=(w:Nat)+1) Zo 4 (Yu B2)) ((D0.setCell (p:=⟨(w:Nat)+1,3,none⟩) Zs (Yu B1)).setCell (p:=⟨(w:Nat)+1,4,none⟩) Zs (Yu B2));clear A2 B9 D0 Z C6 O;have F7:p2<=m:=Zo;clear A1;obtain⟨x,v,A0,H,C0,S,HT⟩:=R (b.drop (p2)) (by rw[ah]; have:=M.o; omega);have L:Qg (dY b k=if A0≠0 then none else some ⟨(D1,D2),1,(B1,B2),p2+v-x.length,x.length⟩):=Qf (by
    have hq:=HQ.o;have hp:=HP.o;subst hq;subst hp;have A1:=E2.o;subst A1;rw[Lx N A7.o (Zh M.o) H];rw[<-HD.o,<-D9.o])
   have B8:=bH x;obtain⟨xl,T⟩:=Qe x.length;rw[<-T] at B8 L C0;rw[ah] at S;have F0:p2+v<=m:=Zh M.o;have K:=fun W=>jY b (p2) (Zh M.o) W
   have J:(b:ByteArray).extract (p2) m=⟨(b.drop (p2)).toArray⟩:=by rw[dw,ag (Zj M.o)]
   generalize b.drop (p2)=S5 at HT K J;obtain⟨pv,B6⟩:=Qe (p2+v);obtain⟨f,hf⟩:=Qe (p2+v-xl);rw[<-hf] at L;have F3:IntKind.i64.wrap (((p2:Nat):Int)+(v:Int))=(pv:Int):=by rw[ZV]; omega
   have F4:IntKind.i64.wrap ((pv:Int)-(xl:Int))=(f:Int):=by rw[ZV]; omega
   clear R H T S B6 hf;go_wp2_with fail;refine(HT.out _).mono ?_;rintro e u6 ⟨rfl,rfl⟩;obtain⟨E4,D8⟩:=Yj ((C8.o.other (c:=(w:Nat)+1) Zo 6 (Yi (xl:Int))).other (c:=(w:Nat)+1) Zo 5 (Yi (f:Int))) ((C4.o.setCell (p:=⟨(w:Nat)+1,6,none⟩) Zs (Yi (xl:Int))).setCell (p:=⟨(w:Nat)+1,5,none⟩) Zs (Yi (f:Int)));clear HT K J C8 C4;go_wp2_with fail;obtain⟨W9,B⟩:=Qe (FM ((((u5.setCell ⟨(w:Nat)+1,3,none⟩ (Yu B1)).setCell ⟨(w:Nat)+1,4,none⟩ (Yu B2)).setCell ⟨(w:Nat)+1,6,none⟩ (Yi (xl:Int))).setCell ⟨(w:Nat)+1,5,none⟩ (Yi (f:Int))) (w:Nat) D1 D2 1 B1 B2 (f:Int) (xl:Int));have E:=oM E4.o D1 D2 1 B1 B2 (f:Int) (xl:Int);have C:=jK D8.o nr D1 D2 1 B1 B2 (f:Int) (xl:Int);rw[<-B] at E C;unfold FM at B;rw[<-B];clear B x0 x1 x2 x3 x4 x5 x6 A8 B7 C1 C2 D3 D4 D5 y0 y1 y2 y3 y4 y5 y6 D6 E0 E1 E6 F5 F6 G1;obtain⟨r0,r1,r2,r3,r4,r5,r6⟩:=BK.c7 E;refine XB (v:=.tuple #[.agg #[Yu D1,Yu D2,Yi 1,Yu B1,Yu B2,Yi (f:Int),Yi (xl:Int)],.bool (A0==0)]) (by simp[results,results245,go_sem,r0,r1,r2,r3,r4,r5,r6]) rfl ?_;refine⟨⟨(D1,D2),1,(B1,B2),f,xl⟩,A0==0,rfl,fun h=>?_,fun h=>?_,C⟩
   ·have e:A0=0:=Zu h;rw[L.o,if_neg (by simp[e])]
   ·have e:A0≠0:=Zu h;rw[L.o,if_pos e]
def J9(w:World)(r:List Pe×Int)(e:Ending)(w':World):Prop:=∃a c,e=.returned (.tuple #[.slice a r.1.length c,Yi r.2])/\GIn tX 7 (w':Nat) w' a r.1/\PM w w'
theorem J9.no(er:Int)(A:PM w w'):J9 w ([],er) (.returned (.tuple #[(),Yi er])) w':=⟨none,0,rfl,GIn.nil _ _ _,A⟩
theorem OY:(prog.info? 222).map (fun i=>(i.zero,i.size,i.bytes))=some (some (.agg #[Yu 0,Yu 0,Yi 0,Yu 0,Yu 0,Yi 0,Yi 0]),7,56):=Zk
theorem JW{base:Nat}{l:List Pe}(I:n=l.length)(D:W.ownsRow base 222 7 v n (gcs tX l))(x:Pe)(C:(n:Int)<=1000000)(B:base<=(W:Nat)):
  ∃v' W',Qg ((Builtin.append_ #[216,216] 216 #[v,.slice W 1 1]).run prog (W.alloc (.cells (tX x).toArray 222))=.ok v' W')/\W'.ownsRow base 222 7 v' (n+1) (gcs tX (l++[x]))/\(W.alloc (.cells (tX x).toArray 222)).grownBy W' v.ownBlock/\(v'.ownBlock=v.ownBlock\/v'.ownBlock=some ((W:Nat)+1)):=by
 obtain⟨i0,H,E,F,G⟩:=XR OY;exact jb OT underlying216 H E F G rfl I D x C Zd B
structure Kg (b:Qb) (R:List Pe×Int) (n k p:Nat) (l:List Pe):Prop where
 go:R=D8 b (n-k) p l
 len:l.length=k
 le:p<=b.length
theorem Kg.none{R:List Pe×Int}{l:List Pe}(h:Kg b R n k p l)(B:k<n)(A:dY b p=none):R=([],13):=by
 rw[h.go,show n-k=(n-(k+1))+1 by omega,D8,A]
theorem Kg.met{R:List Pe×Int}{l:List Pe}{x:Pe}(h:Kg b R n k p l)(C:k<n)(A:dY b p=some x)(B:x.d∈l.map (·.d)):R=([],13):=by
 rw[h.go,show n-k=(n-(k+1))+1 by omega,D8,A]; simp only; rw[if_pos B]
theorem Kg.next{R:List Pe×Int}{l:List Pe}{x:Pe}(h:Kg b R n k p l)(C:k<n)(A:dY b p=some x)(B:¬x.d∈l.map (·.d)):Kg b R n (k+1) (x.off+x.len) (l++[x]):=by
 refine⟨?_,by rw[af,h.len]; rfl,(iB A).1.hi⟩;rw[h.go,show n-k=(n-(k+1))+1 by omega,D8,A]; simp only; rw[if_neg B]
theorem Kg.fin{R:List Pe×Int}{l:List Pe}(h:Kg b R n n p l):R=if p=b.length then(l,0) else([],13):=by
 rw[h.go,Nat.sub_self,D8]
theorem Ir(l:List Pe)(x:Pe)(d:Int×Int):(decide (d∈l.map (·.d))||decide (d=x.d))=decide (d∈(l++[x]).map (·.d)):=by
 rw[<-Bool.decide_or];congr 1;simp
theorem CW(s:Qb)(w:World)(hl:(s.length:Int)<=70368744177664):Qh 230 #[s] w (J9 w (bi s)):=by
 have E6:=bH s;have F0:=Qf (Below.refl (w:Nat) w);by_cases Y:s.length<16
 ·have N:Qg (bi s=([],12)):=Qf (by unfold bi; rw[if_pos Y]);obtain⟨n,hn⟩:=Qe s.length;rw[<-hn] at E6 hl Y;have E7:IntKind.i64.wrap ((n:Int)-16)=(n:Int)-16:=by simp[IntKind.wrap,IntKind.bits,IntKind.signed]; omega
  have hi:(n:Int)-16<0:=Zo;rw[N.o];clear hn N;go_enter func230,ntmps230;go_wp2;go_ret2;exact J9.no 12 F0.o
 obtain⟨m,hm⟩:=Qe (s.length-16);have E7:IntKind.i64.wrap ((s.length:Int)-16)=(m:Int):=by rw[ZV]; omega
 have hi:¬(m:Int)<0:=Zo;have E5:=fun W=>OJ s m Zo W
 have D7:(s:ByteArray).extract 0 m=⟨(s.take m).toArray⟩:=Zw dw;have C1:=fun W=>jY s m Zo W
 have Z:(s:ByteArray).extract m s.length=⟨(s.drop m).toArray⟩:=by rw[dw,ag Zs]
 obtain⟨Q,R⟩:=Yj (fun W=>qV (s.take m) W (Zy aA)) (fun W=>lh (s.drop m) W (Zy ah) (Zy ah));have N:Qg (bi s=if iY (s.take m)≠CS (s.drop m) then([],14) else tY (s.take m)):=Qf (by unfold bi; rw[if_neg Y,<-hm]);have B3:(s.take m).length=m:=Zy aA;generalize s.take m=b at E5 D7 Q N B3;have D8:=Cx (s.drop m);generalize s.drop m=b2 at C1 Z R N D8;generalize F6:iY b=D1 at Q N;generalize F7:CS b2=D2 at R N D8;obtain⟨x1,y1⟩:=D1;obtain⟨x2,y2⟩:=D2;simp only at Q R;obtain⟨E,hE⟩:=Qe (bi s);rw[<-hE] at N ⊢;obtain⟨n,hn⟩:=Qe s.length;rw[<-hn] at E6 hl E7 Z Y hm;have G3:(m:Int)<=70368744177664:=Zo;have A4:=fun W=>nI x1 y1 x2 y2 W
 obtain⟨U,V⟩:=Yj (fun d os=>YJ (w:=w) (d:=d) (os:=os) (Q.o _)) (fun d os=>YJ (w:=w) (d:=d) (os:=os) (R.o _));have G6:=bH b;rw[B3] at G6;have P:=Qf B3;clear hE F6 F7 hn hm Y B3 Q R;by_cases F:(x1,y1)=(x2,y2)
 case neg=>
  have hb:(x1==x2&&y1==y2)=false:=by
   cases h:(x1==x2&&y1==y2) with
   | false=>rfl
   | true=>exact absurd (by simp only[XF,XS] at h; rw[h.1,h.2]) F
  have S:Qg (E=([],14)):=Qf (by rw[N.o,if_pos F]);rw[hb] at A4;simp only[Bool.not_false] at A4;clear F N hb;go_enter func230,ntmps230;go_wp2_with fail;refine YH Zk Zk ?_
  repeat (any_goals (first | go_big_quiet_step (first | (with_reducible exact U.o _ _) | (with_reducible exact V.o _ _)) | quiet_step (first | (with_reducible exact U.o _ _) | (with_reducible exact V.o _ _))))
  refine YI ?_;intro w2 A5;have D:=Qf (aX A5);clear A5;go_wp2;go_ret2;rw[S.o];exact J9.no 14 D.o
 case pos=>
 have S:Qg (E=tY b):=Qf (by rw[N.o,if_neg (Zj F)]);have hb:(x1==x2&&y1==y2)=true:=by
  simp only[XC] at F;simp[F.1,F.2]
 rw[hb] at A4;simp only[Bool.not_true] at A4;clear F N hb;obtain⟨kn,u,er,hg⟩:∃kn u er,Cw.getI b=(kn,u,er):=⟨_,_,_,rfl⟩;have HG:=Qf (fun X=>dQ (s:=⟨b.toArray⟩) (n:=kn) (k:=u) (er:=er) (Zu hg) X);obtain⟨g1,g2,g3,g4⟩:=gH hg;obtain⟨u0,rfl⟩:∃u0:Nat,u=(u0:Int):=⟨u.toNat,Zo⟩;obtain⟨n0,rfl⟩:∃n0:Nat,kn=(n0:Int):=⟨kn.toNat,Zo⟩;have J:Qg (er≠0\/1000<(n0:Int)->E=([],13)):=Qf (fun h=>by rw[S.o]; unfold tY; rw[hg]; simp only; rw[if_pos h]);have B1:Qg (¬(er≠0\/1000<(n0:Int))->Kg b E n0 0 u0 []):=Qf (fun h=>⟨by rw[S.o]; unfold tY; rw[hg]; simp only; rw[if_neg h]; simp,rfl,Zo⟩);clear hg S;have G2:=@run_makeMap prog;go_enter func230,ntmps230;go_wp2_with fail;refine YH Zk Zk ?_
 repeat (any_goals (first | go_big_quiet_step (first | (with_reducible exact U.o _ _) | (with_reducible exact V.o _ _)) | quiet_step (first | (with_reducible exact U.o _ _) | (with_reducible exact V.o _ _))))
 refine YI ?_;intro w2 A5;have D:=Qf (aX A5);clear A5 A4 U V E5 C1 D7 Z;go_wp2_with fail;refine(HG.o _).mono ?_;rintro e w3 ⟨rfl,rfl⟩;clear HG;by_cases B:er≠0\/1000<(n0:Int)
 case pos=>
  have C8:=Qf (J.o B);by_cases he:er=0
  ·subst he;have H9:1000<(n0:Int):=B.elim (fun h=>absurd rfl h) id;clear B J B1;go_wp2;go_ret2;rw[C8.o];exact J9.no 13 D.o
  ·have H7:(er !=0)=true:=Zu he;clear B J B1 he;go_wp2;go_ret2;rw[C8.o];exact J9.no 13 D.o
 case neg=>
 have D5:=Qf (B1.o B);have I0:¬1000<(n0:Int):=fun h=>B (.inr h)
 obtain rfl:er=0:=by
  by_cases e:er=0
  ·exact e
  ·exact absurd (.inl e) B
 clear B J B1 g1 g2;obtain⟨q,hq⟩:=Qe (w2:Nat);have D0:Qg (pO q 0 (fun d=>decide (d∈([]:List Pe).map (·.d))) (w2.alloc (.map #[] 0))):=Qf (hq▸(pO.made w2).eq (fun d=>by simp));have C7:=Qf (D.o.alloc D.o.size (.map #[] 0));have HQ:Qg ((w:Nat)<=q):=Qf (hq▸D.o.size);go_wp2_with fail;rw[<-hq];clear D hq;go_loopw [7,9,42] (fun a v i wr=>∃(k p:Nat) (ls:List Pe),k<=n0/\a=Yi (p:Int)/\i=Yi (k:Int)/\Qg (Kg b E n0 k p ls)/\Qg (pO q k (fun d=>decide (d∈ls.map (·.d))) wr)/\Qg (wr.ownsRow (q+1) 222 7 v k (gcs tX ls))/\Qg (PM w wr)) (fun _ _ i _=>n0-(intOf i).toNat)
 case atStart=>exact⟨0,u0,[],Zo,rfl,rfl,D5,D0,Qf (XE _ _ _ _),C7⟩
 case round=>
  clear D5 D0 C7 G2;obtain⟨k,p,ls,hk,rfl,rfl,O,HM,HO,HB⟩:=hrel;obtain⟨va,vc,rfl,I1⟩:=aB HO.out;have G5:p<=m:=P.o▸O.out.le;by_cases C4:k<n0
  ·have G0:(k:Int)<(n0:Int):=Zo;have HC:=Qf (Jn b p wr (P.o▸G5) (P.o▸G3));go_wp2_with fail;refine HC.o.mono ?_;rintro e u1 ⟨x,t,rfl,ht,hf,hb⟩;obtain⟨L,T,A9⟩:=Yk (XT HB.out hb) (PO HO.out hb) (HM.out.below hb);clear hb HB HO HM HC;cases t with
   | false=>
    obtain⟨I,H⟩:=Yj (O.out.none C4 (hf rfl)) (L.o.alloc L.o.size (.cells (tX x).toArray 222));obtain⟨⟨d1,d2⟩,kd,⟨b1,b2⟩,A7,A0⟩:=x;simp only[Pe.val,tX] at H ⊢;clear ht hf L T A9 O;go_wp2;go_ret2;rw[I.o];exact J9.no 13 H.o
   | true=>
    have M:=ht rfl;have B7:=(iB M).1.dok;have C5:=(iB M).1.hi;rw[P.o] at C5;have G8:IntKind.i64.wrap ((x.off:Int)+(x.len:Int))=((x.off+x.len:Nat):Int):=by rw[ZV]; omega
    obtain⟨u2,G⟩:=Qe (u1.alloc (.cells (tX x).toArray 222));have B4:PM u1 u2:=G▸ba _ _;obtain⟨A8,C3,B0⟩:=Yk (XT L.o B4) (PO T.o B4) (A9.o.below B4);have B2:Qg (BK u1 (tX x).toArray 222 u2):=Qf (G▸BK.new _ _ _);have D6:=Qf G;have H5:=A9.o.lt;clear B4 L A9 ht hf;have B6:=B0.o.look B7;obtain⟨⟨d1,d2⟩,kd,⟨b1,b2⟩,A7,A0⟩:=x;simp only[Pe.val,tX] at *
    obtain⟨x0,x1,x2,x3,x4,x5,x6⟩:=BK.c7 B2.o;by_cases C:(d1,d2)∈ls.map (·.d)
    ·have I:=Qf (O.out.met C4 M C);rw[XI C] at B6;have H:=Qf A8.o;rw[G] at B6 x0 x1 x2 x3 x4 x5 x6 H;clear G D6 B2 B0 C3 A8 C M B7 C5 G8 O;go_wp2;go_ret2;rw[I.o];exact J9.no 13 H.o
    ·rw[XN C] at B6;have F5:=Qf (O.out.next C4 M C);have D9:=O.out.len;have D3:=Qf (Ir ls ⟨(d1,d2),kd,(b1,b2),A7,A0⟩);obtain⟨u3,E2,B9,A1⟩:=B0.o.put B7 Zo;have E1:∀g,(Value.slice va k vc).ownBlock=some g->g<(u1:Nat):=fun g hg=>(T.o.lt g hg).2
     have A6:=B2.o.grow1 A1 Zo;have K:=bE A8.o A1 HQ.o;have A2:=bD C3.o A1 Zo;have C2:=Qf (B9.eq D3.o);have E4:=A1.size;have E3:(u2:Nat)=(u1:Nat)+1:=Zn G;obtain⟨v',W',C0,A3,B5,_⟩:=JW D9.symm A2 ⟨(d1,d2),kd,(b1,b2),A7,A0⟩ Zo (Zh C2.o.lt);obtain⟨B8,F4⟩:=Yj C0.out A3;have E8:=(A6.alloc (.cells (tX ⟨(d1,d2),kd,(b1,b2),A7,A0⟩).toArray 222)).grow B5 (fun g hg=>Zh (E1 g hg));have F3:=Qf ((C2.o.alloc (.cells (tX ⟨(d1,d2),kd,(b1,b2),A7,A0⟩).toArray 222)).kept B5 (lS A2 Zo));have H:Qg (PM w W'):=Qf ((K.alloc K.size _).grown B5 (by simp; have:=K.size; omega) (fun g hg=>by have:=(T.o.lt g hg).1; have:=HQ.o; omega));obtain⟨y0,y1,y2,y3,y4,y5,y6⟩:=BK.c7 A6;obtain⟨z0,z1,z2,z3,z4,z5,z6⟩:=BK.c7 E8;simp only[tX] at B8;rw[G] at B6 x0 x1 x2 x3 x4 x5 x6 E2;clear G D6 B2 B0 C3 A8 C M B7 C5 O E1 A6 K A2 B9 A1 B5 A3 C0 C2 D3 E8 E4 E3 T D9;go_wp2_with (at_builtin; refine Lib.wpList_append_run _ rfl _ _ _ _ rfl _ _ rfl rfl _ _ B8.o ?_);go_roundw
     case rel=>exact⟨k+1,A7+A0,_,Zo,rfl,Zg,F5,F3,F4,H⟩
     case measure=>exact Yr
  ·obtain rfl:k=n0:=Zo;have G0:¬(k:Int)<(k:Int):=Zo;have HF:=Qf O.out.fin;rw[P.o] at HF;obtain⟨HI,F1⟩:=Yj (jw OT O.out.len.symm HO.out) O.out.len;clear O HM HO;by_cases hp:p=m
   ·subst hp;have I:Qg (E=(ls,0)):=Qf (by rw[HF.o,if_pos rfl]);clear HF;go_wp2;go_ret2;rw[I.o];exact⟨va,vc,Zw F1.o,HI.o,HB.out⟩
   ·have H4:((p:Int) !=(m:Int))=true:=Zt;have I:Qg (E=([],13)):=Qf (by rw[HF.o,if_neg hp]);clear HF hp;go_wp2;go_ret2;rw[I.o];exact J9.no 13 HB.out
def KD(v:Value):Option (DataW Value×List MemPlace):=some (.held v,[])
def WZ:Option Value->DataW Value->DataW Value
 | some v,_=>.held v
 | none,z=>z
structure N8 (α:Type) where
 kt:TypeId
 val:α->Value
 lit:α->Lit
 ok:α->Prop
 law:Maps.Keyed prog kt
 get:∀a,ok a->keyOf prog kt (val a)=some (lit a)
 inj:∀a b,ok a->ok b->lit a=lit b->a=b
def fT{α:Type}(G:N8 α)(b n:Nat)(F:α->Option Value)(W:World):Prop:=
 ∃D:DataW Value,W.ownsMap prog G.kt KD b n D/\∀a,G.ok a->∀z,D.atKey (G.lit a) z=WZ (F a) z
section
variable {α:Type} {G:N8 α} {b n:Nat} {F:α->Option Value} {W:World}
theorem fT.made(G:N8 α)(W:World):fT G (W:Nat) 0 (fun _=>none) (W.alloc (.map #[] 0)):=⟨.map [],World.ownsMap_made _ _ _ _,fun d _ z=>WideAt.atKey_none _ (fun p A=>by simp at A)⟩
theorem fT.lt(h:fT G b n F W):b<(W:Nat):=by obtain⟨D,A,_⟩:=h; exact A.lt
theorem fT.kept{row:Option Nat}(h:fT G b n F W)(E:W.grownBy W' row)(A:some b≠row):fT G b n F W':=by obtain⟨D,B,C⟩:=h; exact⟨D,B.kept E A,C⟩
theorem fT.alloc(h:fT G b n F W)(o:Obj):fT G b n F (W.alloc o):=by obtain⟨D,A,B⟩:=h; exact⟨D,A.alloc o,B⟩
theorem fT.below(h:fT G b n F W)(A:PM W W'):fT G b n F W':=h.kept (row:=none) ⟨A.os,A.tape,A.output,A.size,fun k B _=>A.block k B⟩ Zs
theorem fT.eq{F':α->Option Value}(h:fT G b n F W)(e:∀d,F d=F' d):fT G b n F' W:=by
 have:F=F':=funext e;rw[<-this]; exact h
theorem fT.mono{n':Nat}(h:fT G b n F W)(C:n<=n'):fT G b n' F W:=by obtain⟨D,A,B⟩:=h; exact⟨D,A.mono C,B⟩
theorem Lf{D:DataW Value}{k:Lit}(h:∀z,D.atKey k z=WZ o z):Maps.has D k=o.isSome:=by
 cases o with
 | none=>exact Maps.has_false_of_atKey h
 | some v=>exact Maps.has_true_of_atKey h
theorem He{y:DataW Value×List MemPlace}(h:KD v=some y):y=(.held v,[]):=by unfold KD at h; injection h with h; exact h.symm
theorem zQ{ps:List MemPlace}(h:KD v=some (WZ o (.held z),ps)):v=o.getD z:=by
 have:=He h;cases o <;> simp[WZ] at this ⊢ <;> exact this.1.symm
theorem fT.look{t e:TypeId}(h:fT G b n F W)(J:prog.underlying t=some (.map G.kt e))(K:(zeroValue e).run prog W=.ok z W){a:α}(C:G.ok a):(Instr.lookup t (.map (some b)) (G.val a) false).run prog W=.ok ((F a).getD z) W:=by
 obtain⟨D,H,I⟩:=h;obtain⟨v,ps,B,E⟩:=H.lookup G.law J K (zd:=.held z) (zp:=[]) rfl (G.get a C);rw[I _ C] at E;rw[B,zQ E]
theorem fT.lookOk{t e:TypeId}(h:fT G b n F W)(J:prog.underlying t=some (.map G.kt e))(K:(zeroValue e).run prog W=.ok z W){a:α}(C:G.ok a):(Instr.lookup t (.map (some b)) (G.val a) true).run prog W=.ok (.tuple #[(F a).getD z,.bool (F a).isSome]) W:=by
 obtain⟨D,I,E⟩:=h;obtain⟨v,ps,B,H⟩:=I.look_ok G.law J K (zd:=.held z) (zp:=[]) rfl (G.get a C);rw[E _ C] at H;rw[B,zQ H,Lf (E _ C)]
theorem fT.put[DecidableEq α]{t e:TypeId}(h:fT G b n F W)(L:prog.underlying t=some (.map G.kt e)){a:α}(H:G.ok a)(N:(n:Int)<=1000000000)(v:Value):
  ∃W',(Instr.mapUpdate t (.map (some b)) (G.val a) v).run prog W=.ok () W'/\fT G b (n+1) (fun d=>if d=a then some v else F d) W'/\W.grownBy W' (some b)/\(W':Nat)=(W:Nat):=by
 obtain⟨D,I,J⟩:=h;obtain⟨W',C,K,E⟩:=I.store G.law L Zm (G.get a H) (d:=.held v) (ps:=[]) rfl;refine⟨W',C,⟨_,K,fun d B z=>?_⟩,E.grown,?_⟩
 ·by_cases e:d=a
  ·subst e;rw[Maps.atKey_put_same I.isMap (G.law.key (G.get d H))];simp[WZ]
  ·rw[Maps.atKey_put_other (fun h=>e (G.inj _ _ B H h)),J _ B];simp only[if_neg e]
 ·obtain⟨es,P,Q,O,M,rfl⟩:=E;simp[ChangeMaps.setBlock]
end
noncomputable def vH:N8 (Int×Int):=⟨54,PH,Ef,OkD,Ki,fun _ h=>fK h,fun _ _ h h'=>su h h'⟩
def okN(n:Int):Prop:=0<=n/\n<=1000000000
theorem IE{n:Int}(h:okN n):keyOf prog 3 (.int .i64 n)=some (.int .i64 n):=by
 unfold okN at h;exact Maps.keyOf_int_mk underlying3 (by
  simp[Lit.wf,IntKind.min,IntKind.max,IntKind.signed,IntKind.bits]
  omega)
def Oq:N8 Int:=⟨3,fun n=>.int .i64 n,fun n=>.int .i64 n,okN,Maps.int_keyed underlying3,fun _ h=>IE h,fun a b _ _ e=>by injection e⟩
structure Rdr where
 ib:Nat
 s:Qb
 l:List Pe
 ea:Qa
 ec:Nat
 xs:List Itm
 pa:Qa
 pc:Nat
def iX(r:Qb×Int):Value:=.agg #[.string ⟨r.1.toArray⟩,Yi r.2]
def Rdr.dat(R:Rdr)(i:Nat):Qb×Int:=NK R.s R.xs R.l i
def Oo(K:Int->Option Value)(m:Nat):Nat:=((List.range m).filter fun i:Nat=>(K (i:Int)).isSome).length
structure Rdr.Ok (R:Rdr):Prop where
 asc:Asc R.xs
 val:∀x∈R.xs,(bI x.data).2=0
 dig:∀x∈R.xs,OkD x.d
 xl:(R.xs.length:Int)<=100000000
 xd:∀x∈R.xs,(x.data.length:Int)<=140737488355328
 pc:R.xs.length<=R.pc
 sl:(R.s.length:Int)<=70368744177664
 ents:kN (R.s.take (R.s.length-16)) R.l
 ll:R.l.length<=1000
structure Rdr.In (R:Rdr) (K:Int->Option Value) (W:World):Prop where
 box:BK (R.ib+1+1) #[R.s,.slice R.ea R.l.length R.ec,.slice R.pa R.xs.length R.pc,.map (some R.ib),.map (some (R.ib+1))] 268 W
 ents:GIn tX 7 R.ib W R.ea R.l
 its:Its R.ib W R.pa R.xs
 idx:∃n,fT vH R.ib n (fun d=>(rE R.l d).map fun i=>Yi (i:Int)) W
 kn:fT Oq (R.ib+1) (Oo K R.l.length) K W
 right:∀i v,K i=some v->∃j:Nat,i=(j:Int)/\j<R.l.length/\v=iX (R.dat j)
theorem Nu(K:Int->Option Value)(m:Nat):Oo K m<=m:=by
 have:=List.length_filter_le (fun i:Nat=>(K (i:Int)).isSome) (List.range m);rw[List.length_range] at this;exact this
theorem K8{i:Nat}(B:i<m)(C:K (i:Int)=none)(v:Value):Oo (fun d=>if d=(i:Int) then some v else K d) m=Oo K m+1:=by
 unfold Oo;have E:∀n,n<=m->((List.range n).filter fun j:Nat=>((if((j:Nat):Int)=(i:Int) then some v else K (j:Int))).isSome).length=((List.range n).filter fun j:Nat=>(K (j:Int)).isSome).length+(if i<n then 1 else 0):=by
  intro n;induction n with
  | zero=>intro _; simp
  | succ n ih=>
   intro D;have A:=ih Zo;rw[List.range_succ,vX,vX,af,af,A];by_cases e:n=i
   ·subst e;simp[C]
   ·have e2:((n:Nat):Int)≠(i:Int):=Zo;by_cases e3:i<n
    ·rw[if_pos e3,if_pos Zo];simp only[kK,List.filter_nil,if_neg e2];split <;> simp <;> omega
    ·rw[if_neg e3,if_neg Zo];simp only[kK,List.filter_nil,if_neg e2];omega
 have:=E m nr;rw[if_pos B] at this;exact this
section
variable {R:Rdr} {K:Int->Option Value} {W:World}
theorem Rdr.In.lt(h:R.In K W):R.ib+1+1<(W:Nat):=h.box.lt
theorem Rdr.In.grown(h:R.In K W){c:Option Nat}(A:W.grownBy W' c)(C:∀b,c=some b->R.ib+1+1<b):R.In K W':=by
 obtain⟨n,D⟩:=h.idx;have B:Below R.ib W W':=⟨A.os,A.tape,A.output,A.size,fun k E=>A.block k (Zh h.lt) (fun e=>Zh (C k e.symm))⟩;exact⟨h.box.grow A (fun k e=>Zh (C k e)),h.ents.below B nr,h.its.below B nr,⟨n,D.kept A (fun e=>Zh (C _ e.symm))⟩,h.kn.kept A (fun e=>Zh (C _ e.symm)),h.right⟩
theorem Rdr.In.below(h:R.In K W)(A:PM W W'):R.In K W':=h.grown (c:=none) ⟨A.os,A.tape,A.output,A.size,fun k B _=>A.block k B⟩ (fun b e=>by cases e)
theorem Rdr.In.alloc(h:R.In K W)(o:Obj):R.In K (W.alloc o):=h.below (ba _ _)
theorem Rdr.In.set(h:R.In K W)(A:R.ib+1+1<c)(j:Nat)(v:Value):R.In K (W.setCell ⟨c,j,none⟩ v):=h.grown (dN _ _ _ _) (fun b e=>by cases e; exact A)
theorem Rdr.In.put(h:R.In K W){W':World}{i:Nat}(D:i<R.l.length)(A:W.grownBy W' (some (R.ib+1)))
  (F:fT Oq (R.ib+1) (Oo K R.l.length+1) (fun d=>if d=(i:Int) then some (iX (R.dat i)) else K d) W') (E:K (i:Int)=none):R.In (fun d=>if d=(i:Int) then some (iX (R.dat i)) else K d) W':=by
 obtain⟨n,G⟩:=h.idx;have B:Below R.ib W W':=⟨A.os,A.tape,A.output,A.size,fun k E=>A.block k (Zh h.lt) (fun e=>by cases e; omega)⟩;refine⟨h.box.grow1 A Zo,h.ents.below B nr,h.its.below B nr,⟨n,G.kept A (fun e=>by injection e with e; omega)⟩,by rw[K8 D E]; exact F,fun j v C=>?_⟩;by_cases e:j=(i:Int)
 ·subst e;rw[if_pos rfl] at C;cases C;exact⟨i,rfl,D,rfl⟩
 ·rw[if_neg e] at C;exact h.right j v C
end
def vF(R:Rdr)(K:Int->Option Value)(m:Nat)(w:World)(r:Qb×Int)(e:Ending)(w':World):Prop:=e=.returned (iX r)/\(∃K',R.In K' w'/\∀j:Int,(m:Int)<=j->K' j=K j)/\w.grownBy w' (some (R.ib+1))
def PL(R:Rdr)(i:Nat):Prop:=∀(K:Int->Option Value) (W:World),R.In K W->Qh 202 #[.pointer (some ⟨R.ib+1+1,0,none⟩),Yi (i:Int)] W (vF R K (i+1) W (R.dat i))
def Px(R:Rdr)(i:Nat):Prop:=∀(K:Int->Option Value) (W:World),R.In K W->Qh 231 #[.pointer (some ⟨R.ib+1+1,0,none⟩),Yi (i:Int)] W (vF R K i W (R.dat i))
theorem GV(W:World):(zeroValue 270).run prog W=.ok (.agg #[Ye,Yi 0]) W:=Zk
theorem aJ{b:Nat}(A:PM w w'):w.grownBy w' (some b):=⟨A.os,A.tape,A.output,A.size,fun k B _=>A.block k B⟩
def putF(W:World)(n:Nat)(T:Qb)(er:Int):World:=(W.setCell n (.string ⟨T.toArray⟩)).setCell ⟨n,1,none⟩ (Yi er)
theorem bZ(h:BK n #[x0,x1] 270 W)(T:Qb)(er:Int):BK n #[T,Yi er] 270 (putF W n T er):=by
 have A:BK n #[T,x1] _ _:=h.set 0 (.string ⟨T.toArray⟩);exact A.set 1 (Yi er)
theorem FJ{cs:Array Value}{t:TypeId}(h:BK m cs t W)(A:n≠m)(T:Qb)(er:Int):BK m cs t (putF W n T er):=(h.other A _ _).other A _ _
theorem bL{b:Nat}(h:w.grownBy W (some b))(C:(w:Nat)<=n)(T:Qb)(er:Int):w.grownBy (putF W n T er) (some b):=
 ⟨h.os,h.tape,h.output,by simpa[putF] using h.size,fun k A B=>(Below.heap_setCell _ _ _ _ Zt).trans ((Below.heap_setCell _ _ _ _ Zt).trans (h.block k A B))⟩
theorem Rdr.In.putF{R:Rdr}(h:R.In K W)(A:R.ib+1+1<n)(T:Qb)(er:Int):R.In K (putF W n T er):=(h.set A _ _).set A _ _
theorem O6(R:Rdr)(hR:R.Ok)(i:Nat)(hi:i<R.l.length)(hc:Px R i):PL R i:=by
 intro K w h;have D8:(i:Int)<=1000:=Zh hR.ll;have HC:=Qf hc;have D5:=h.lt
 -- two boxes are laid: the result's,and f
 obtain⟨wa,C⟩:=Qe (w.alloc (.cells #[Ye,Yi 0] 270));have H:PM w wa:=C▸ba _ _;have Y:(wa:Nat)=(w:Nat)+1:=Zn C;have HA:BK w #[Ye,Yi 0] 270 wa:=C▸BK.new _ _ _;have HI:=h.below H;have B:(Instr.lookup 266 (.map (some (R.ib+1))) (Yi (i:Int)) true).run prog wa=.ok (.tuple #[(K (i:Int)).getD (.agg #[Ye,Yi 0]),.bool (K (i:Int)).isSome]) wa:=HI.kn.lookOk underlying266 (GV _) (a:=(i:Int)) ⟨Zo,Zo⟩;have E:=HI.box;obtain⟨x0,x1,x2,x3,x4⟩:=BK.c5 E;cases hk:K (i:Int) with
 | some v=>
  obtain⟨j,C8,C9,rfl⟩:=h.right _ _ hk;obtain rfl:i=j:=Zo;rw[hk] at B;simp only[Option.getD_some,Option.isSome_some,iX] at B;unfold vF iX;obtain⟨T,er,F⟩:∃T er,R.dat i=(T,er):=⟨_,_,rfl⟩;rw[F] at B ⊢;simp only at B ⊢;have C3:=Qf h;rw[C] at B x0 x1 x2 x3 x4;clear C H Y HA HI E HC F C8 C9 h hk;go_enter func202,ntmps202;go_wp2;refine XB (v:=.agg #[T,Yi er]) (by simp[results,results202,go_sem]) rfl ?_;exact⟨rfl,⟨K,(C3.o.alloc _).alloc _,fun j _=>rfl⟩,aJ ((ba w _).alloc Zs _)⟩
 | none=>
  rw[hk] at B;simp only[Option.getD_none,Option.isSome_none] at B;obtain⟨wb,G⟩:=Qe (wa.alloc (.cells #[Ye,Yi 0] 270));have M:PM wa wb:=G▸ba _ _;have V:BK ((w:Nat)+1) #[Ye,Yi 0] 270 wb:=by rw[G,<-Y]; exact BK.new _ _ _
  have hr:=HA.below M;have B2:=HI.below M;have A6:=(XT H M);have D:=Qf (HC.o K wb B2);rw[G,C] at D;rw[C] at B x0 x1 x2 x3 x4;rw[C] at G;obtain⟨A5,HF,C6,A1,HK⟩:=Ym G V hr A6 hk;clear C G M H Y HA HI E HC h hk V hr A6 B2;unfold vF iX at D;unfold vF;obtain⟨T,er,F⟩:∃T er,R.dat i=(T,er):=⟨_,_,rfl⟩;have C5:=Qf F;rw[F] at D ⊢;unfold iX;simp only at D ⊢;clear F;go_enter func202,ntmps202;go_wp2_with fail;refine D.o.mono ?_;rintro e u ⟨rfl,⟨K',B3,W⟩,Z⟩;rw[<-A5.o] at Z;have E0:=Z.size;have E1:=A1.o.size;have V:=HF.o.grow1 Z Zo;have hr:=C6.o.grow1 Z Zo;clear D A5 x0 x1 x2 x3 x4 B;obtain⟨f0,f1⟩:=BK.c2 V;obtain⟨A0,A2⟩:=BK.f2 (V);obtain⟨v,hv⟩:=Qe (putF u ((w:Nat)+1) T er);have N:=bZ V T er;have X:=FJ hr (n:=(w:Nat)+1) Zo T er;have O:=B3.putF (n:=(w:Nat)+1) Zo T er;have B0:w.grownBy u (some (R.ib+1)):=bu (aJ A1.o) Z;have A9:w.grownBy v (some (R.ib+1)):=hv▸bL B0 (by omega) T er;rw[<-hv] at N X O;have J:=O.below ((bf _).drew);have S:=X.below ((bf _).drew);have P:=N.below ((bf _).drew);have B4:K' (i:Int)=none:=by rw[W _ (rP _)]; exact HK.o
  have D0:=Nu K' R.l.length;have D9:=hR.ll;obtain⟨v2,Q,B5,I,D1⟩:=J.kn.put underlying266 (a:=(i:Int)) ⟨Zo,Zo⟩ Zo (iX (T,er));have A4:(Instr.mapUpdate 266 (.map (some (R.ib+1))) (Yi (i:Int)) (.agg #[T,Yi er])).run prog v.drew=.ok () v2:=Q;obtain⟨A3,C1,U⟩:=Yk (J.put hi I (C5.o▸B5) B4) (P.grow1 I Zo) (S.grow1 I Zo);have A8:v.grownBy v.drew (some (R.ib+1)):=aJ ((bf _).drew);have C2:=Qf (bu A9 (bu A8 I));have C4:Qg (∀j:Int,((i+1:Nat):Int)<=j->(if j=(i:Int) then some (iX (R.dat i)) else K' j)=K j):=Qf (fun j hj=>by rw[if_neg Zo]; exact W j Zo);have E:=O.box;obtain⟨x0,x1,x2,x3,x4⟩:=BK.c5 E;obtain⟨k0,k1⟩:=BK.c2 N;have HV:=Qf hv;unfold putF at HV;clear V hr N X O J S P hv B0 A9 Q B5 I A8 W B3 Z B4 D0 D1 E;go_wp2_with fail;rw[<-HV.o];clear f0 f1 A0 A2 HV;go_region;clear x0 x1 x2 x3 x4 k0 k1 A4;obtain⟨k0,k1⟩:=BK.c2 C1.o;obtain⟨r0,r1⟩:=BK.c2 U.o;obtain⟨B6,B8⟩:=BK.f2 (U.o);go_wp2_with fail;obtain⟨W9,L⟩:=Qe (putF v2 (w:Nat) T er);have B7:=bZ U.o T er;have B1:=A3.o.putF (n:=(w:Nat)) Zo T er;have A7:=bL C2.o nr T er;rw[<-L] at B7 B1 A7;unfold putF at L;rw[<-L];clear L k0 k1 r0 r1 B6 B8;obtain⟨r0,r1⟩:=BK.c2 B7;refine XB (v:=.agg #[T,Yi er]) (by simp[results,results202,go_sem,r0,r1]) rfl ?_;exact⟨rfl,⟨_,B1,C4.o⟩,A7⟩
theorem Lh(B:Asc xs)(D:x∈xs):dW xs x.d=bI x.data:=by
 obtain⟨k,A,rfl⟩:=aV D;have C:qw xs xs[k].d k=true:=by unfold qw; rw[XH A]; simp
 obtain⟨_,_,h⟩:=yz (JV B A rfl) C;exact h
theorem D6{R:Rdr}(E:R.Ok)(d:Int×Int):((dW R.xs d).2≠0/\De R.xs d=([],8))\/((dW R.xs d).2=0/\aR (dW R.xs d).1=((De R.xs d).1,0)/\(De R.xs d).2=0):=by
 unfold De;cases D:R.xs.find? (fun x=>decide (x.d=d)) with
 | none=>
  left;refine⟨fun h=>?_,rfl⟩;obtain⟨x,B,C,_⟩:=oW h;have:=List.find?_eq_none.1 D x B;simp[C] at this
 | some x=>
  right;have B:=List.mem_of_find?_eq_some D;have C:x.d=d:=Zu (List.find?_some D);have F:dW R.xs d=bI x.data:=C▸Lh E.asc B;have A:=E.val x B;refine⟨F▸A,?_,rfl⟩;rw[F];obtain⟨o,er,G⟩:∃o er,bI x.data=(o,er):=⟨_,_,rfl⟩;rw[G] at A ⊢;simp only at A;subst A;exact(kI G).1
theorem rX{l:List Pe}(h:GIn tX 7 B W a l)(E:k<l.length):∃b F,a=some ⟨b,F,none⟩/\b<B/\W.cell? ⟨b,F+k*7,none⟩=some (Yu l[k].d.1)/\W.cell? ⟨b,F+k*7+1,none⟩=some (Yu l[k].d.2)/\W.cell? ⟨b,F+k*7+2,none⟩=some (Yi l[k].kind)/\W.cell? ⟨b,F+k*7+3,none⟩=some (Yu l[k].base.1)/\W.cell? ⟨b,F+k*7+4,none⟩=some (Yu l[k].base.2)/\W.cell? ⟨b,F+k*7+5,none⟩=some (Yi (l[k].off:Int))/\W.cell? ⟨b,F+k*7+6,none⟩=some (Yi (l[k].len:Int)):=by
 obtain⟨b,F,C,D,A⟩:=h k E;exact⟨b,F,C,D,A 0 _ rfl,A 1 _ rfl,A 2 _ rfl,A 3 _ rfl,A 4 _ rfl,A 5 _ rfl,A 6 _ rfl⟩
def Oj(W:World)(n:Nat)(v0 v1 v2 v3 v4 v5 v6 v7 v8:Value):World:=((((((((W.setCell n v0).setCell ⟨n,1,none⟩ v1).setCell ⟨n,2,none⟩ v2).setCell ⟨n,3,none⟩ v3).setCell ⟨n,4,none⟩ v4).setCell ⟨n,5,none⟩ v5).setCell ⟨n,6,none⟩ v6).setCell ⟨n,7,none⟩ v7).setCell ⟨n,8,none⟩ v8
theorem DZ{x7 x8:Value}{t:TypeId}(h:BK n #[x0,x1,x2,x3,x4,x5,x6,x7,x8] t W)(v0 v1 v2 v3 v4 v5 v6 v7 v8:Value):BK n #[v0,v1,v2,v3,v4,v5,v6,v7,v8] t (Oj W n v0 v1 v2 v3 v4 v5 v6 v7 v8):=by
 have A:BK n #[v0,x1,x2,x3,x4,x5,x6,x7,x8] _ _:=h.set 0 v0;have B:BK n #[v0,v1,x2,x3,x4,x5,x6,x7,x8] _ _:=A.set 1 v1;have C:BK n #[v0,v1,v2,x3,x4,x5,x6,x7,x8] _ _:=B.set 2 v2;have D:BK n #[v0,v1,v2,v3,x4,x5,x6,x7,x8] _ _:=C.set 3 v3;have E:BK n #[v0,v1,v2,v3,v4,x5,x6,x7,x8] _ _:=D.set 4 v4;have F:BK n #[v0,v1,v2,v3,v4,v5,x6,x7,x8] _ _:=E.set 5 v5;have G:BK n #[v0,v1,v2,v3,v4,v5,v6,x7,x8] _ _:=F.set 6 v6;have H:BK n #[v0,v1,v2,v3,v4,v5,v6,v7,x8] _ _:=G.set 7 v7;exact H.set 8 v8
theorem wN(W:World)(n:Nat)(v0 v1 v2 v3 v4 v5 v6 v7 v8:Value):W.grownBy (Oj W n v0 v1 v2 v3 v4 v5 v6 v7 v8) (some n):=fM (fM (fM (fM (fM (fM (fM (fM (dN _ _ _ _) _ _) _ _) _ _) _ _) _ _) _ _) _ _) _ _
theorem MO(W:World):(zeroValue 3).run prog W=.ok (Yi 0) W:=Zk
theorem Ha(R:Rdr)(hR:R.Ok)(i:Nat)(hi:i<R.l.length)(C5:∀j,j<i->PL R j)(K:Int->Option Value)(w:World)(h:R.In K w):Qh 246 #[.pointer (some ⟨R.ib+1+1,0,none⟩),Yi (i:Int)] w (vF R K i w (wu R.xs R.l R.dat i R.l[i].base)):=by
 have I1:(i:Int)<=1000:=Zh hR.ll;have I0:=h.lt;obtain⟨k0,G2⟩:=hR.ents.at_ _ (ak hi);have F4:=(iB G2).1.bok;obtain⟨bl,G0,H0,I3,q0,q1,q2,q3,q4,q5,q6⟩:=rX h.ents hi;generalize D2:R.l[i].base=bs at q3 q4 F4 ⊢;obtain⟨b1,b2⟩:=bs;simp only at q3 q4;obtain⟨T,er,F0⟩:∃T er,wu R.xs R.l R.dat i (b1,b2)=(T,er):=⟨_,_,rfl⟩;have E9:=Qf F0;rw[F0];unfold vF iX;simp only;clear F0
 -- the worlds
 obtain⟨wa,D8⟩:=Qe (w.alloc (.cells #[Ye,Yi 0] 270));have D1:PM w wa:=D8▸ba _ _;have G7:(wa:Nat)=(w:Nat)+1:=Zn D8;obtain⟨wb,D9⟩:=Qe (wa.alloc (.cells #[Yu b1,Yu b2] 54));have E1:PM wa wb:=D9▸ba _ _;have F8:=Qf ((show BK w #[Ye,Yi 0] 270 wa by rw[D8]; exact BK.new _ _ _).below E1);have E8:Qg (BK ((w:Nat)+1) #[Yu b1,Yu b2] 54 wb):=Qf (by rw[D9,<-G7]; exact BK.new _ _ _);obtain⟨E7,E0,F7⟩:=Yk (XT D1 E1) ((h.below D1).below E1) (h.below D1);have E5:=F7.o.box;obtain⟨x0,x1,x2,x3,x4⟩:=BK.c5 E5;have hp:∀j,wa.cell? ⟨bl,G0+j,none⟩=w.cell? ⟨bl,G0+j,none⟩:=fun j=>D1.cell (p:=⟨bl,G0+j,none⟩) Zt
 have r3:wa.cell? ⟨bl,G0+i*7+3,none⟩=some (Yu b1):=by rw[show G0+i*7+3=G0+(i*7+3) by omega,hp]; rw[show G0+(i*7+3)=G0+i*7+3 by omega]; exact q3
 have r4:wa.cell? ⟨bl,G0+i*7+4,none⟩=some (Yu b2):=by rw[show G0+i*7+4=G0+(i*7+4) by omega,hp]; rw[show G0+(i*7+4)=G0+i*7+4 by omega]; exact q4
 rw[H0] at x1;have H2:i<R.l.length:=hi;obtain⟨nl,F3⟩:=Qe R.l.length;rw[<-F3] at x1 H2;rw[D8] at x0 x1 x2 x3 x4 r3 r4 D9;obtain⟨F9,H9,H8⟩:=Yk D9 F3 D2;clear D8 D9 D1 E1 G7 E5 hp q0 q1 q2 q3 q4 q5 q6 F3 D2 h G2 F7;go_enter func246,ntmps246;go_wp2_with fail;rw[<-F9.o];clear F9 x0 x1 x2 x3 x4 r3 r4;have E6:=E0.o.below ((bf _).drew);obtain⟨mn,G5⟩:=E6.idx;have E2:(Instr.lookup 265 (.map (some R.ib)) (.agg #[Yu b1,Yu b2]) true).run prog wb.drew=.ok (.tuple #[((rE R.l (b1,b2)).map fun i=>Yi (i:Int)).getD (Yi 0),.bool ((rE R.l (b1,b2)).map fun i=>Yi (i:Int)).isSome]) wb.drew:=G5.lookOk underlying265 (MO _) (a:=(b1,b2)) F4;have G1:=E0.o.box;obtain⟨x0,x1,x2,x3,x4⟩:=BK.c5 G1;obtain⟨d0,d1⟩:=BK.c2 E8.o;obtain⟨wc,F5⟩:=Qe wb.drew;have D3:PM wb wc:=F5▸(bf _).drew;obtain⟨B5,C0,N,X,C7⟩:=Ym (F8.o.below D3) (E8.o.below D3) (XT E7.o D3) (E0.o.below D3) F5;clear D3 E6 G5 F8 E8 E7 E0 F5 G1;cases hx:rE R.l (b1,b2) with
 | some j=>
  have C6:(Instr.lookup 265 (.map (some R.ib)) (.agg #[Yu b1,Yu b2]) true).run prog wb.drew=.ok (.tuple #[Yi (j:Int),.bool true]) wb.drew:=by rw[E2,hx]; rfl
  clear E2;obtain⟨G4,H4⟩:=Ai hx;clear H4;have I2:(j:Int)<=1000:=Zh hR.ll;by_cases F1:j<i
  ·have G3:(j:Int)<(i:Int):=Zo;have B9:wu R.xs R.l R.dat i (b1,b2)=R.dat j:=by unfold wu; rw[hx]; simp only; rw[if_pos F1]
   have G6:R.dat j=(T,er):=B9.symm.trans E9.o;have HG:=Qf (C5 j F1 K wc X.o);unfold vF iX at HG;rw[G6] at HG;simp only at HG;clear C5 G6 B9 G4 hx F4;go_region;rw[<-C7.o];clear x0 x1 x2 x3 x4 d0 d1 C6 C7;go_wp2_with fail;refine HG.o.mono ?_;rintro e u ⟨rfl,⟨K',H3,H5⟩,hg⟩;have E3:=N.o.size;have hr:=B5.o.grow1 hg Zo;have A5:w.grownBy u (some (R.ib+1)):=bu (aJ N.o) hg;have G8:Qg (∀m:Int,(i:Int)<=m->K' m=K m):=Qf (fun m hm=>H5 m Zo);obtain⟨r0,r1⟩:=BK.c2 hr;obtain⟨E4,F6⟩:=BK.f2 (hr);clear HG B5 C0 N X;go_wp2_with fail;obtain⟨W9,B⟩:=Qe (putF u (w:Nat) T er);have G:=bZ hr T er;have F:=H3.putF (n:=(w:Nat)) Zo T er;have E:=bL A5 nr T er;rw[<-B] at G F E;unfold putF at B;rw[<-B];clear B r0 r1 E4 F6;obtain⟨r0,r1⟩:=BK.c2 G;refine XB (v:=.agg #[T,Yi er]) (by simp[results,results246,go_sem,r0,r1]) rfl ?_;exact⟨rfl,⟨_,F,G8.o⟩,E⟩
  ·have G3:¬(j:Int)<(i:Int):=Zo;have B9:wu R.xs R.l R.dat i (b1,b2)=De R.xs (b1,b2):=by unfold wu; rw[hx]; simp only; rw[if_neg F1]
   clear G4;have B8:De R.xs (b1,b2)=(T,er):=B9.symm.trans E9.o;have C4:=D6 hR (b1,b2);rw[B8] at C4;obtain⟨I,L⟩:=Yj C4 (fun W (hW:PM wc W)=>yw R.pa R.xs R.pc b1 b2 W ⟨(X.o.its.below hW (Zh X.o.lt)).mono (by have:=hW.size; have:=X.o.lt; omega),hR.pc,hR.xl,hR.xd⟩ hR.asc);have C:Qg (∀W,PM wc W->PM wc W/\W.cell? ⟨R.ib+1+1,2,none⟩=some (.slice R.pa R.xs.length R.pc)/\W.cell? ⟨(w:Nat)+1,0,none⟩=some (Yu b1)/\W.cell? ⟨(w:Nat)+1,1,none⟩=some (Yu b2)):=Qf (fun W hW=>by
    have h1:=(X.o.below hW).box;have h2:=C0.o.below hW;exact⟨hW,Zw h1.cell,Zw h2.cell,Zw h2.cell⟩)
   generalize dW R.xs (b1,b2)=OE at L I;obtain⟨o,oe⟩:=OE;simp only at L I;have B2:=C.o wc.drew ((bf _).drew);clear C5 B9 hx B8 C4;go_region;rw[<-C7.o];clear x0 x1 x2 x3 x4 d0 d1 C6 C7;go_wp2_with fail;refine wp_region_held_drew (S:=(fun W=>PM wc W/\W.cell? ⟨R.ib+1+1,2,none⟩=some (.slice R.pa R.xs.length R.pc)/\W.cell? ⟨(w:Nat)+1,0,none⟩=some (Yu b1)/\W.cell? ⟨(w:Nat)+1,1,none⟩=some (Yu b2))) Zk B2 (fun hHeld=>?_);refine Xx 0 ?_;refine Xx 1 ?_;refine Xx 2 ?_;refine Xx 3 ?_;refine Xx 4 ?_;obtain⟨C8,data,B4,⟨t1,t2⟩,B6,A0,C9,D0⟩:=o;refine wpAnyH_ready (rs:=[5,9]) Zk Zs ?_;refine AllReadyH.cons rfl (fun K Z=>?_) ?_
   ·go_simp;refine(L.o _ B2.1).mono ?_;rintro e u ⟨ea,ec,pa,pc,rfl,A9,hb⟩;have D:=B2.1.trans (hb.mono nr);have B3:=C.o u D;refine Z.out _ _ (B3) (fun hHeld=>?_);clear Z K;refine Xx 6 ?_;refine Xx 7 ?_;refine Xx 8 ?_;refine wpAnyH_ready (rs:=[9]) Zk Zs ?_;refine AllReadyH.cons rfl (fun K Z=>?_) AllReadyH.nil;go_simp;refine Z.out _ _ (C.o _ (D.alloc D.size _)) (fun hHeld=>?_);clear Z K;refine wpAnyH_ready (rs:=[10]) Zk Zs ?_;refine AllReadyH.cons rfl (fun K Z=>?_) AllReadyH.nil;go_simp;refine Z.out _ _ (C.o _ (D.alloc D.size _)) (fun hHeld=>?_);clear Z K;refine Xx 11 ?_;refine wpAnyH_done Zk ?_ _;obtain⟨v,hv⟩:=Qe (u.alloc (.cells #[Yi C8,data,.slice ea B4.length ec,Yu t1,Yu t2,.slice pa B6.length pc,A0,Yi C9,D0] 59));have J:PM wc v:=hv▸D.alloc D.size _;obtain⟨ob,M⟩:=Qe (u:Nat);have A4:BK ob #[Yi C8,data,.slice ea B4.length ec,Yu t1,Yu t2,.slice pa B6.length pc,A0,Yi C9,D0] 59 v:=by rw[hv,M]; exact BK.new _ _ _
    have B0:dZ wc.drew.heap.size v ⟨C8,data,B4,(t1,t2),B6,A0,C9,D0⟩ ea ec pa pc:=A9.below (hv▸ba _ _);simp only[Ob.val];rw[<-hv,<-M];clear hv M A9 hb D B3;have B1:=B5.o.below J;have A3:=X.o.below J;have A5:w.grownBy v (some (R.ib+1)):=aJ (XT N.o J);have E3:=N.o.size;have Y:=Qf (iP ⟨C8,data,B4,(t1,t2),B6,A0,C9,D0⟩ ea ec pa pc v B0.inn);have A6:Qg (∃K',R.In K' v/\∀m:Int,(i:Int)<=m->K' m=K m):=Qf ⟨K,A3,fun _ _=>rfl⟩;obtain⟨P,O,Q⟩:=Yk A3 A5 B1;unfold Ob.val at Y;obtain⟨o0,o1,o2,o3,o4,o5,o6,o7,o8⟩:=BK.c9 A4;clear A4 B0 J B1 A3 A5 B5 C0 N X C L B2;by_cases he:oe=0
    ·subst he;have H:=I.o.resolve_left (fun h=>h.1 rfl);rw[H.2.1] at Y;obtain⟨_,_,C1⟩:=H;subst C1;simp only at Y;generalize B4.length=ne at Y o2;generalize B6.length=np at Y o5;clear I;go_wp2_with fail;refine Y.o.mono ?_;rintro e u2 ⟨rfl,U⟩;have hr:=Q.o.below U;have A2:=P.o.below U;have A1:w.grownBy u2 (some (R.ib+1)):=bu O.o (aJ U);clear Y Q P O A6 U o0 o1 o2 o3 o4 o5 o6 o7 o8;obtain⟨r0,r1⟩:=BK.c2 hr;obtain⟨E4,F6⟩:=BK.f2 (hr);go_wp2_with fail;obtain⟨W9,B⟩:=Qe (putF u2 (w:Nat) T 0);have G:=bZ hr T 0;have F:=A2.putF (n:=(w:Nat)) Zo T 0;have E:=bL A1 nr T 0;rw[<-B] at G F E;unfold putF at B;rw[<-B];clear B r0 r1 E4 F6;obtain⟨r0,r1⟩:=BK.c2 G;refine XB (v:=.agg #[T,Yi 0]) (by simp[results,results246,go_sem,r0,r1]) rfl ?_;exact⟨rfl,⟨_,F,fun _ _=>rfl⟩,E⟩
    ·have F2:(oe !=0)=true:=Zu he;have H:=I.o.resolve_right (fun h=>he h.1);have V:=H.2;simp only[XC] at V;obtain⟨V,C3⟩:=V;subst V;subst C3;have hr:=Q.o;have A2:=P.o;have A1:=O.o;clear Y Q P O A6 I he H o0 o1 o2 o3 o4 o5 o6 o7 o8;obtain⟨r0,r1⟩:=BK.c2 hr;obtain⟨E4,F6⟩:=BK.f2 (hr);go_wp2_with fail;obtain⟨W9,B⟩:=Qe (putF v (w:Nat) [] 8);have G:=bZ hr [] 8;have F:=A2.putF (n:=(w:Nat)) Zo [] 8;have E:=bL A1 nr [] 8;rw[<-B] at G F E;unfold putF at B;rw[<-B];clear B r0 r1 E4 F6;obtain⟨r0,r1⟩:=BK.c2 G;refine XB (v:=.agg #[Ye,Yi 8]) (by simp[results,results246,go_sem,r0,r1]) rfl ?_;exact⟨rfl,⟨_,F,fun _ _=>rfl⟩,E⟩
   ·refine AllReadyH.cons rfl (fun K_ Z=>?_) AllReadyH.nil;go_simp;obtain⟨W1,A7⟩:=Qe ((wc.alloc (.cells #[Yi 0,Ye,(),Yu 0,Yu 0,(),Ye,Yi 0,Ye] 59)).drew);have A8:PM wc W1:=A7▸(ba _ _).drew;have D5:BK wc #[Yi 0,Ye,(),Yu 0,Yu 0,(),Ye,Yi 0,Ye] 59 W1:=A7▸(BK.new wc _ _).below ((bf _).drew);have D7:(W1:Nat)=(wc:Nat)+1:=Zn A7;have D4:=Qf (L.o W1 A8);rw[<-A7];clear A7;refine Z.out _ _ (C.o _ A8) (fun hHeld=>?_);clear Z K_;refine wpAnyH_ready (rs:=[5]) Zk Zs ?_;refine AllReadyH.cons rfl (fun K Z=>?_) AllReadyH.nil;go_simp;refine D4.o.mono ?_;rintro e u ⟨ea,ec,pa,pc,rfl,A9,hb⟩;have D:=(XT A8 hb);have B7:=D5.below hb;have B3:=C.o u D;refine Z.out _ _ (B3) (fun hHeld=>?_);clear Z K;refine Xx 6 ?_;refine Xx 7 ?_;refine Xx 8 ?_;refine wpAnyH_ready (rs:=[10]) Zk Zs ?_;simp only[Ob.val];obtain⟨o0,o1,o2,o3,o4,o5,o6,o7,o8⟩:=BK.c9 B7;obtain⟨G9,H1,H6,H7,I4,I5,I6,I7,I8⟩:=BK.f9 (B7);refine AllReadyH.cons rfl (fun K Z=>?_) AllReadyH.nil;go_simp;obtain⟨v,hv⟩:=Qe (Oj u (wc:Nat) (Yi C8) (.string ⟨data.toArray⟩) (.slice ea B4.length ec) (Yu t1) (Yu t2) (.slice pa B6.length pc) (.string ⟨A0.toArray⟩) (Yi C9) (.string ⟨D0.toArray⟩));have A4:BK wc #[Yi C8,data,.slice ea B4.length ec,Yu t1,Yu t2,.slice pa B6.length pc,A0,Yi C9,D0] 59 v:=hv▸DZ B7 (Yi C8) (.string ⟨data.toArray⟩) (.slice ea B4.length ec) (Yu t1) (Yu t2) (.slice pa B6.length pc) (.string ⟨A0.toArray⟩) (Yi C9) (.string ⟨D0.toArray⟩);have C2:u.grownBy v (some (wc:Nat)):=hv▸wN u (wc:Nat) (Yi C8) (.string ⟨data.toArray⟩) (.slice ea B4.length ec) (Yu t1) (Yu t2) (.slice pa B6.length pc) (.string ⟨A0.toArray⟩) (Yi C9) (.string ⟨D0.toArray⟩);have J:PM wc v:=D.grown C2 D.size (fun k e=>by cases e; exact nr);have B0:dZ (W1:Nat) v ⟨C8,data,B4,(t1,t2),B6,A0,C9,D0⟩ ea ec pa pc:=A9.kept C2 Zo;obtain⟨ob,M⟩:=Qe (wc:Nat);unfold Oj at hv;rw[<-hv];clear hv o0 o1 o2 o3 o4 o5 o6 o7 o8 G9 H1 H6 H7 I4 I5 I6 I7 I8;refine Z.out _ _ (C.o _ J) (fun hHeld=>?_);clear Z K;refine Xx 11 ?_;refine wpAnyH_done Zk ?_ _;rw[<-M] at A4 ⊢;clear A9 hb D B3 B7 C2 A8 D5 D7 D4 M;have B1:=B5.o.below J;have A3:=X.o.below J;have A5:w.grownBy v (some (R.ib+1)):=aJ (XT N.o J);have E3:=N.o.size;have Y:=Qf (iP ⟨C8,data,B4,(t1,t2),B6,A0,C9,D0⟩ ea ec pa pc v B0.inn);have A6:Qg (∃K',R.In K' v/\∀m:Int,(i:Int)<=m->K' m=K m):=Qf ⟨K,A3,fun _ _=>rfl⟩;obtain⟨P,O,Q⟩:=Yk A3 A5 B1;unfold Ob.val at Y;obtain⟨o0,o1,o2,o3,o4,o5,o6,o7,o8⟩:=BK.c9 A4;clear A4 B0 J B1 A3 A5 B5 C0 N X C L B2;by_cases he:oe=0
    ·subst he;have H:=I.o.resolve_left (fun h=>h.1 rfl);rw[H.2.1] at Y;obtain⟨_,_,C1⟩:=H;subst C1;simp only at Y;generalize B4.length=ne at Y o2;generalize B6.length=np at Y o5;clear I;go_wp2_with fail;refine Y.o.mono ?_;rintro e u2 ⟨rfl,U⟩;have hr:=Q.o.below U;have A2:=P.o.below U;have A1:w.grownBy u2 (some (R.ib+1)):=bu O.o (aJ U);clear Y Q P O A6 U o0 o1 o2 o3 o4 o5 o6 o7 o8;obtain⟨r0,r1⟩:=BK.c2 hr;obtain⟨E4,F6⟩:=BK.f2 (hr);go_wp2_with fail;obtain⟨W9,B⟩:=Qe (putF u2 (w:Nat) T 0);have G:=bZ hr T 0;have F:=A2.putF (n:=(w:Nat)) Zo T 0;have E:=bL A1 nr T 0;rw[<-B] at G F E;unfold putF at B;rw[<-B];clear B r0 r1 E4 F6;obtain⟨r0,r1⟩:=BK.c2 G;refine XB (v:=.agg #[T,Yi 0]) (by simp[results,results246,go_sem,r0,r1]) rfl ?_;exact⟨rfl,⟨_,F,fun _ _=>rfl⟩,E⟩
    ·have F2:(oe !=0)=true:=Zu he;have H:=I.o.resolve_right (fun h=>he h.1);have V:=H.2;simp only[XC] at V;obtain⟨V,C3⟩:=V;subst V;subst C3;have hr:=Q.o;have A2:=P.o;have A1:=O.o;clear Y Q P O A6 I he H o0 o1 o2 o3 o4 o5 o6 o7 o8;obtain⟨r0,r1⟩:=BK.c2 hr;obtain⟨E4,F6⟩:=BK.f2 (hr);go_wp2_with fail;obtain⟨W9,B⟩:=Qe (putF v (w:Nat) [] 8);have G:=bZ hr [] 8;have F:=A2.putF (n:=(w:Nat)) Zo [] 8;have E:=bL A1 nr [] 8;rw[<-B] at G F E;unfold putF at B;rw[<-B];clear B r0 r1 E4 F6;obtain⟨r0,r1⟩:=BK.c2 G;refine XB (v:=.agg #[Ye,Yi 8]) (by simp[results,results246,go_sem,r0,r1]) rfl ?_;exact⟨rfl,⟨_,F,fun _ _=>rfl⟩,E⟩
 | none=>
  have C6:(Instr.lookup 265 (.map (some R.ib)) (.agg #[Yu b1,Yu b2]) true).run prog wb.drew=.ok (.tuple #[Yi 0,.bool false]) wb.drew:=by rw[E2,hx]; rfl
  clear E2;have B9:wu R.xs R.l R.dat i (b1,b2)=De R.xs (b1,b2):=by unfold wu; rw[hx]
  have B8:De R.xs (b1,b2)=(T,er):=B9.symm.trans E9.o;have C4:=D6 hR (b1,b2);rw[B8] at C4;obtain⟨I,L⟩:=Yj C4 (fun W (hW:PM wc W)=>yw R.pa R.xs R.pc b1 b2 W ⟨(X.o.its.below hW (Zh X.o.lt)).mono (by have:=hW.size; have:=X.o.lt; omega),hR.pc,hR.xl,hR.xd⟩ hR.asc);have C:Qg (∀W,PM wc W->PM wc W/\W.cell? ⟨R.ib+1+1,2,none⟩=some (.slice R.pa R.xs.length R.pc)/\W.cell? ⟨(w:Nat)+1,0,none⟩=some (Yu b1)/\W.cell? ⟨(w:Nat)+1,1,none⟩=some (Yu b2)):=Qf (fun W hW=>by
   have h1:=(X.o.below hW).box;have h2:=C0.o.below hW;exact⟨hW,Zw h1.cell,Zw h2.cell,Zw h2.cell⟩)
  generalize dW R.xs (b1,b2)=OE at L I;obtain⟨o,oe⟩:=OE;simp only at L I;have B2:=C.o wc.drew ((bf _).drew);clear C5 B9 hx B8 C4;go_region;rw[<-C7.o];clear x0 x1 x2 x3 x4 d0 d1 C6 C7;go_wp2_with fail;refine wp_region_held_drew (S:=(fun W=>PM wc W/\W.cell? ⟨R.ib+1+1,2,none⟩=some (.slice R.pa R.xs.length R.pc)/\W.cell? ⟨(w:Nat)+1,0,none⟩=some (Yu b1)/\W.cell? ⟨(w:Nat)+1,1,none⟩=some (Yu b2))) Zk B2 (fun hHeld=>?_);refine Xx 0 ?_;refine Xx 1 ?_;refine Xx 2 ?_;refine Xx 3 ?_;refine Xx 4 ?_;obtain⟨C8,data,B4,⟨t1,t2⟩,B6,A0,C9,D0⟩:=o;refine wpAnyH_ready (rs:=[5,9]) Zk Zs ?_;refine AllReadyH.cons rfl (fun K Z=>?_) ?_
  ·go_simp;refine(L.o _ B2.1).mono ?_;rintro e u ⟨ea,ec,pa,pc,rfl,A9,hb⟩;have D:=B2.1.trans (hb.mono nr);have B3:=C.o u D;refine Z.out _ _ (B3) (fun hHeld=>?_);clear Z K;refine Xx 6 ?_;refine Xx 7 ?_;refine Xx 8 ?_;refine wpAnyH_ready (rs:=[9]) Zk Zs ?_;refine AllReadyH.cons rfl (fun K Z=>?_) AllReadyH.nil;go_simp;refine Z.out _ _ (C.o _ (D.alloc D.size _)) (fun hHeld=>?_);clear Z K;refine wpAnyH_ready (rs:=[10]) Zk Zs ?_;refine AllReadyH.cons rfl (fun K Z=>?_) AllReadyH.nil;go_simp;refine Z.out _ _ (C.o _ (D.alloc D.size _)) (fun hHeld=>?_);clear Z K;refine Xx 11 ?_;refine wpAnyH_done Zk ?_ _;obtain⟨v,hv⟩:=Qe (u.alloc (.cells #[Yi C8,data,.slice ea B4.length ec,Yu t1,Yu t2,.slice pa B6.length pc,A0,Yi C9,D0] 59));have J:PM wc v:=hv▸D.alloc D.size _;obtain⟨ob,M⟩:=Qe (u:Nat);have A4:BK ob #[Yi C8,data,.slice ea B4.length ec,Yu t1,Yu t2,.slice pa B6.length pc,A0,Yi C9,D0] 59 v:=by rw[hv,M]; exact BK.new _ _ _
   have B0:dZ wc.drew.heap.size v ⟨C8,data,B4,(t1,t2),B6,A0,C9,D0⟩ ea ec pa pc:=A9.below (hv▸ba _ _);simp only[Ob.val];rw[<-hv,<-M];clear hv M A9 hb D B3;have B1:=B5.o.below J;have A3:=X.o.below J;have A5:w.grownBy v (some (R.ib+1)):=aJ (XT N.o J);have E3:=N.o.size;have Y:=Qf (iP ⟨C8,data,B4,(t1,t2),B6,A0,C9,D0⟩ ea ec pa pc v B0.inn);have A6:Qg (∃K',R.In K' v/\∀m:Int,(i:Int)<=m->K' m=K m):=Qf ⟨K,A3,fun _ _=>rfl⟩;obtain⟨P,O,Q⟩:=Yk A3 A5 B1;unfold Ob.val at Y;obtain⟨o0,o1,o2,o3,o4,o5,o6,o7,o8⟩:=BK.c9 A4;clear A4 B0 J B1 A3 A5 B5 C0 N X C L B2;by_cases he:oe=0
   ·subst he;have H:=I.o.resolve_left (fun h=>h.1 rfl);rw[H.2.1] at Y;obtain⟨_,_,C1⟩:=H;subst C1;simp only at Y;generalize B4.length=ne at Y o2;generalize B6.length=np at Y o5;clear I;go_wp2_with fail;refine Y.o.mono ?_;rintro e u2 ⟨rfl,U⟩;have hr:=Q.o.below U;have A2:=P.o.below U;have A1:w.grownBy u2 (some (R.ib+1)):=bu O.o (aJ U);clear Y Q P O A6 U o0 o1 o2 o3 o4 o5 o6 o7 o8;obtain⟨r0,r1⟩:=BK.c2 hr;obtain⟨E4,F6⟩:=BK.f2 (hr);go_wp2_with fail;obtain⟨W9,B⟩:=Qe (putF u2 (w:Nat) T 0);have G:=bZ hr T 0;have F:=A2.putF (n:=(w:Nat)) Zo T 0;have E:=bL A1 nr T 0;rw[<-B] at G F E;unfold putF at B;rw[<-B];clear B r0 r1 E4 F6;obtain⟨r0,r1⟩:=BK.c2 G;refine XB (v:=.agg #[T,Yi 0]) (by simp[results,results246,go_sem,r0,r1]) rfl ?_;exact⟨rfl,⟨_,F,fun _ _=>rfl⟩,E⟩
   ·have F2:(oe !=0)=true:=Zu he;have H:=I.o.resolve_right (fun h=>he h.1);have V:=H.2;simp only[XC] at V;obtain⟨V,C3⟩:=V;subst V;subst C3;have hr:=Q.o;have A2:=P.o;have A1:=O.o;clear Y Q P O A6 I he H o0 o1 o2 o3 o4 o5 o6 o7 o8;obtain⟨r0,r1⟩:=BK.c2 hr;obtain⟨E4,F6⟩:=BK.f2 (hr);go_wp2_with fail;obtain⟨W9,B⟩:=Qe (putF v (w:Nat) [] 8);have G:=bZ hr [] 8;have F:=A2.putF (n:=(w:Nat)) Zo [] 8;have E:=bL A1 nr [] 8;rw[<-B] at G F E;unfold putF at B;rw[<-B];clear B r0 r1 E4 F6;obtain⟨r0,r1⟩:=BK.c2 G;refine XB (v:=.agg #[Ye,Yi 8]) (by simp[results,results246,go_sem,r0,r1]) rfl ?_;exact⟨rfl,⟨_,F,fun _ _=>rfl⟩,E⟩
  ·refine AllReadyH.cons rfl (fun K_ Z=>?_) AllReadyH.nil;go_simp;obtain⟨W1,A7⟩:=Qe ((wc.alloc (.cells #[Yi 0,Ye,(),Yu 0,Yu 0,(),Ye,Yi 0,Ye] 59)).drew);have A8:PM wc W1:=A7▸(ba _ _).drew;have D5:BK wc #[Yi 0,Ye,(),Yu 0,Yu 0,(),Ye,Yi 0,Ye] 59 W1:=A7▸(BK.new wc _ _).below ((bf _).drew);have D7:(W1:Nat)=(wc:Nat)+1:=Zn A7;have D4:=Qf (L.o W1 A8);rw[<-A7];clear A7;refine Z.out _ _ (C.o _ A8) (fun hHeld=>?_);clear Z K_;refine wpAnyH_ready (rs:=[5]) Zk Zs ?_;refine AllReadyH.cons rfl (fun K Z=>?_) AllReadyH.nil;go_simp;refine D4.o.mono ?_;rintro e u ⟨ea,ec,pa,pc,rfl,A9,hb⟩;have D:=(XT A8 hb);have B7:=D5.below hb;have B3:=C.o u D;refine Z.out _ _ (B3) (fun hHeld=>?_);clear Z K;refine Xx 6 ?_;refine Xx 7 ?_;refine Xx 8 ?_;refine wpAnyH_ready (rs:=[10]) Zk Zs ?_;simp only[Ob.val];obtain⟨o0,o1,o2,o3,o4,o5,o6,o7,o8⟩:=BK.c9 B7;obtain⟨G9,H1,H6,H7,I4,I5,I6,I7,I8⟩:=BK.f9 (B7);refine AllReadyH.cons rfl (fun K Z=>?_) AllReadyH.nil;go_simp;obtain⟨v,hv⟩:=Qe (Oj u (wc:Nat) (Yi C8) (.string ⟨data.toArray⟩) (.slice ea B4.length ec) (Yu t1) (Yu t2) (.slice pa B6.length pc) (.string ⟨A0.toArray⟩) (Yi C9) (.string ⟨D0.toArray⟩));have A4:BK wc #[Yi C8,data,.slice ea B4.length ec,Yu t1,Yu t2,.slice pa B6.length pc,A0,Yi C9,D0] 59 v:=hv▸DZ B7 (Yi C8) (.string ⟨data.toArray⟩) (.slice ea B4.length ec) (Yu t1) (Yu t2) (.slice pa B6.length pc) (.string ⟨A0.toArray⟩) (Yi C9) (.string ⟨D0.toArray⟩);have C2:u.grownBy v (some (wc:Nat)):=hv▸wN u (wc:Nat) (Yi C8) (.string ⟨data.toArray⟩) (.slice ea B4.length ec) (Yu t1) (Yu t2) (.slice pa B6.length pc) (.string ⟨A0.toArray⟩) (Yi C9) (.string ⟨D0.toArray⟩);have J:PM wc v:=D.grown C2 D.size (fun k e=>by cases e; exact nr);have B0:dZ (W1:Nat) v ⟨C8,data,B4,(t1,t2),B6,A0,C9,D0⟩ ea ec pa pc:=A9.kept C2 Zo;obtain⟨ob,M⟩:=Qe (wc:Nat);unfold Oj at hv;rw[<-hv];clear hv o0 o1 o2 o3 o4 o5 o6 o7 o8 G9 H1 H6 H7 I4 I5 I6 I7 I8;refine Z.out _ _ (C.o _ J) (fun hHeld=>?_);clear Z K;refine Xx 11 ?_;refine wpAnyH_done Zk ?_ _;rw[<-M] at A4 ⊢;clear A9 hb D B3 B7 C2 A8 D5 D7 D4 M;have B1:=B5.o.below J;have A3:=X.o.below J;have A5:w.grownBy v (some (R.ib+1)):=aJ (XT N.o J);have E3:=N.o.size;have Y:=Qf (iP ⟨C8,data,B4,(t1,t2),B6,A0,C9,D0⟩ ea ec pa pc v B0.inn);have A6:Qg (∃K',R.In K' v/\∀m:Int,(i:Int)<=m->K' m=K m):=Qf ⟨K,A3,fun _ _=>rfl⟩;obtain⟨P,O,Q⟩:=Yk A3 A5 B1;unfold Ob.val at Y;obtain⟨o0,o1,o2,o3,o4,o5,o6,o7,o8⟩:=BK.c9 A4;clear A4 B0 J B1 A3 A5 B5 C0 N X C L B2;by_cases he:oe=0
   ·subst he;have H:=I.o.resolve_left (fun h=>h.1 rfl);rw[H.2.1] at Y;obtain⟨_,_,C1⟩:=H;subst C1;simp only at Y;generalize B4.length=ne at Y o2;generalize B6.length=np at Y o5;clear I;go_wp2_with fail;refine Y.o.mono ?_;rintro e u2 ⟨rfl,U⟩;have hr:=Q.o.below U;have A2:=P.o.below U;have A1:w.grownBy u2 (some (R.ib+1)):=bu O.o (aJ U);clear Y Q P O A6 U o0 o1 o2 o3 o4 o5 o6 o7 o8;obtain⟨r0,r1⟩:=BK.c2 hr;obtain⟨E4,F6⟩:=BK.f2 (hr);go_wp2_with fail;obtain⟨W9,B⟩:=Qe (putF u2 (w:Nat) T 0);have G:=bZ hr T 0;have F:=A2.putF (n:=(w:Nat)) Zo T 0;have E:=bL A1 nr T 0;rw[<-B] at G F E;unfold putF at B;rw[<-B];clear B r0 r1 E4 F6;obtain⟨r0,r1⟩:=BK.c2 G;refine XB (v:=.agg #[T,Yi 0]) (by simp[results,results246,go_sem,r0,r1]) rfl ?_;exact⟨rfl,⟨_,F,fun _ _=>rfl⟩,E⟩
   ·have F2:(oe !=0)=true:=Zu he;have H:=I.o.resolve_right (fun h=>he h.1);have V:=H.2;simp only[XC] at V;obtain⟨V,C3⟩:=V;subst V;subst C3;have hr:=Q.o;have A2:=P.o;have A1:=O.o;clear Y Q P O A6 I he H o0 o1 o2 o3 o4 o5 o6 o7 o8;obtain⟨r0,r1⟩:=BK.c2 hr;obtain⟨E4,F6⟩:=BK.f2 (hr);go_wp2_with fail;obtain⟨W9,B⟩:=Qe (putF v (w:Nat) [] 8);have G:=bZ hr [] 8;have F:=A2.putF (n:=(w:Nat)) Zo [] 8;have E:=bL A1 nr [] 8;rw[<-B] at G F E;unfold putF at B;rw[<-B];clear B r0 r1 E4 F6;obtain⟨r0,r1⟩:=BK.c2 G;refine XB (v:=.agg #[Ye,Yi 8]) (by simp[results,results246,go_sem,r0,r1]) rfl ?_;exact⟨rfl,⟨_,F,fun _ _=>rfl⟩,E⟩
theorem AZ(s:Qb)(i n:Nat)(h:i+n<=s.length):((s.drop i).take n).length=n:=by rw[aA,ah]; omega
theorem Bv{a A:Qb}{l:List Dop}(h:gP a l=(A,0)):(A.length:Int)<=65536:=by
 by_cases B:bW l a.length=0
 ·have C:=Ju B;rw[Bz B] at h;have e1:=congrArg Prod.fst h;simp only at e1;have:=C.siz l.length;rw[rC,e1] at this;omega
 ·rw[xD B] at h;have e1:=congrArg Prod.snd h;exact absurd e1 B
theorem zu{t:Qb}{d:Int×Int}{b:Nat}(h:t.length<=b):(iK.rightS t d).1.length<=b:=by
 unfold iK.rightS;split
 ·simp
 ·split
  ·simp
  ·exact h
theorem sN{R:Rdr}(A:R.Ok)(d:Int×Int):((De R.xs d).1.length:Int)<=140737488355328:=by
 unfold De;cases B:R.xs.find? (fun x=>decide (x.d=d)) with
 | none=>simp
 | some x=>exact A.xd x (List.mem_of_find?_eq_some B)
theorem Dc{R:Rdr}(A:R.Ok):∀(n i:Nat),i<n->i<R.l.length->((R.dat i).1.length:Int)<=140737488355328
 | 0,i,h,_=>Zo
 | n+1,i,h,E=>by
  have J:((wu R.xs R.l R.dat i R.l[i].base).1.length:Int)<=140737488355328:=by
   unfold wu;cases L:rE R.l R.l[i].base with
   | none=>exact sN A _
   | some j=>
    simp only;by_cases F:j<i
    ·rw[if_pos F]; exact Dc A n j Zo Zo
    ·rw[if_neg F]; exact sN A _
  obtain⟨k0,B⟩:=A.ents.at_ _ (ak E);have C:=(iB B).1;have G:=C.tl;have K:R.dat i=iK R.s (wu R.xs R.l R.dat i R.l[i].base) R.l[i]:=JB E;rw[K];generalize wu R.xs R.l R.dat i R.l[i].base=sr at *
  generalize R.l[i]=x at *
  have H:((R.s.drop x.off).take x.len).length<=65536:=Zy aA;unfold iK;split
  ·split
   ·exact J
   ·split
    ·simp
    ·split
     ·simp
     ·rename_i D;have I:gP sr.1 (sK ((R.s.drop x.off).take x.len)).1=((gP sr.1 (sK ((R.s.drop x.off).take x.len)).1).1,0):=by
       simp only[ne_eq,Decidable.not_not] at D;rw[<-D]
      have:=Bv I;have:=zu (t:=(gP sr.1 (sK ((R.s.drop x.off).take x.len)).1).1) (d:=x.d) (b:=65536) Zo;omega
  ·have:=zu (d:=x.d) H;omega
theorem M4{R:Rdr}(A:R.Ok)(i:Nat)(C:i<=R.l.length)(d:Int×Int):((wu R.xs R.l R.dat i d).1.length:Int)<=140737488355328:=by
 unfold wu;cases D:rE R.l d with
 | none=>exact sN A _
 | some j=>
  simp only;by_cases B:j<i
  ·rw[if_pos B]; exact Dc A (j+1) j Zo Zo
  ·rw[if_neg B]; exact sN A _
theorem NR(R:Rdr)(hR:R.Ok)(i:Nat)(V:i<R.l.length)(F2:∀j,j<i->PL R j):Px R i:=by
 intro K w h;have K2:(i:Int)<=1000:=Zh hR.ll;have K0:=h.lt;have F3:=Nat.le_of_lt V;have B9:=Qf (Ha R hR i V F2);obtain⟨k0,I1⟩:=hR.ents.at_ _ (ak V);have B6:=(iB I1).1;have K5:=hR.sl;have D7:R.l[i].off+R.l[i].len<=R.s.length:=by have:=B6.hi; rw[aA] at this; omega
 have I7:=B6.tl;have I5:=B6.kind;have F1:R.dat i=iK R.s (wu R.xs R.l R.dat i R.l[i].base) R.l[i]:=JB V;obtain⟨bl,J7,J5,K4,q0,q1,q2,q3,q4,q5,q6⟩:=rX h.ents V;obtain⟨T,er,G1⟩:∃T er,R.dat i=(T,er):=⟨_,_,rfl⟩;have C5:=Qf (G1.symm.trans F1);rw[G1];generalize R.l[i]=x at *
 obtain⟨⟨d1,d2⟩,kd,⟨b1,b2⟩,E9,F4⟩:=x;simp only at q0 q1 q2 q3 q4 q5 q6 D7 I7 I5 B9 C5;unfold vF iX;simp only;clear G1 F1 I1 B6 F2
 -- the worlds
 obtain⟨wa,E0⟩:=Qe (w.alloc (.cells #[Ye,Yi 0] 270));have C2:PM w wa:=E0▸ba _ _;have J0:(wa:Nat)=(w:Nat)+1:=Zn E0;obtain⟨wb,E1⟩:=Qe (wa.alloc (.cells #[Yu d1,Yu d2,Yi kd,Yu b1,Yu b2,Yi (E9:Int),Yi (F4:Int)] 222));have E7:PM wa wb:=E1▸ba _ _;have H1:=Qf ((show BK w #[Ye,Yi 0] 270 wa by rw[E0]; exact BK.new _ _ _).below E7);have F7:Qg (BK ((w:Nat)+1) #[Yu d1,Yu d2,Yi kd,Yu b1,Yu b2,Yi (E9:Int),Yi (F4:Int)] 222 wb):=Qf (by rw[E1,<-J0]; exact BK.new _ _ _);obtain⟨F5,F9⟩:=Yj (XT C2 E7) ((h.below C2).below E7);have F0:=(h.below C2).box;obtain⟨x0,x1,x2,x3,x4⟩:=BK.c5 F0;have hp:∀j v,w.cell? ⟨bl,J7+j,none⟩=some v->wa.cell? ⟨bl,J7+j,none⟩=some v:=fun j v hv=>(C2.cell (p:=⟨bl,J7+j,none⟩) Zt).trans hv
 have r0:=hp (i*7) _ q0;have r1:=hp (i*7+1) _ (by rw[<-aP]; exact q1);have r2:=hp (i*7+2) _ (by rw[<-aP]; exact q2);have r3:=hp (i*7+3) _ (by rw[<-aP]; exact q3);have r4:=hp (i*7+4) _ (by rw[<-aP]; exact q4);have r5:=hp (i*7+5) _ (by rw[<-aP]; exact q5);have r6:=hp (i*7+6) _ (by rw[<-aP]; exact q6);simp only[<-aP] at r0 r1 r2 r3 r4 r5 r6;rw[J5] at x1;obtain⟨nl,G7⟩:=Qe R.l.length;have K1:i<nl:=G7▸V;rw[<-G7] at x1;rw[E0] at x0 x1 x2 x3 x4 r0 r1 r2 r3 r4 r5 r6 E1;have H4:=Qf E1;clear E0 E1 C2 E7 J0 F0 hp q0 q1 q2 q3 q4 q5 q6 G7 h V;obtain⟨pe,B6⟩:=Qe (E9+F4);have K7:IntKind.i64.wrap ((E9:Int)+(F4:Int))=(pe:Int):=by rw[ZV]; omega
 have G9:=fun W=>DD R.s E9 pe Zo Zo W
 have I2:(⟨R.s.toArray⟩:ByteArray).extract E9 pe=⟨((R.s.drop E9).take F4).toArray⟩:=by rw[dw,B6,jR]
 rw[show pe-E9=F4 by omega] at G9;have H9:=AZ R.s E9 F4 D7;obtain⟨D0,G0⟩:=Qe ((R.s.drop E9).take F4);have K6:=bH R.s;rw[<-G0] at G9 I2 H9;have E2:=Qf G0;clear G0 B6;go_enter func231,ntmps231;go_wp2_with fail;rw[<-H4.o];clear H4 x0 x1 x2 x3 x4 r0 r1 r2 r3 r4 r5 r6;have H8:=F9.o.box;obtain⟨x0,x1,x2,x3,x4⟩:=BK.c5 H8;obtain⟨e0,e1,e2,e3,e4,e5,e6⟩:=BK.c7 F7.o;obtain⟨wc,H0⟩:=Qe wb.drew;have C8:PM wb wc:=H0▸(bf _).drew;obtain⟨B2,A8,B1⟩:=Yk (H1.o.below C8) (F7.o.below C8) (F9.o.below C8);have Z:Qg (w.grownBy wc (some (R.ib+1))):=Qf (aJ (XT F5.o C8));have H5:=Qf H0;clear C8 H0 H8 H1 F7 F9 F5;go_region;rw[<-H5.o];clear H5 x0 x1 x2 x3 x4 e0 e1 e2 e3 e4 e5 e6 G9 I2;obtain⟨e0,e1,e2,e3,e4,e5,e6⟩:=BK.c7 A8.o;rcases I5 with rfl | rfl
 ·have N:Qg ((T,er)=iK.rightS D0 (d1,d2)):=Qf (by rw[C5.o,E2.o]; unfold iK; rw[if_neg Zs]);obtain⟨D,H6⟩:=Qe D0;rw[<-H6] at N H9 ⊢;have J4:(D.length:Int)<=65536:=Zo;clear H6 B9 C5 E2;obtain⟨A3,A4⟩:=Yj (mf D wc Zo) (fun W=>qV D W Zo);obtain⟨o,oe,B5⟩:∃o oe,bI D=(o,oe):=⟨_,_,rfl⟩;have A5:Qg ((T,er)=if oe≠0 then([],13) else if iY D≠(d1,d2) then([],15) else(D,0)):=Qf (by have h:=N.o; unfold iK.rightS at h; rw[B5] at h; exact h);rw[B5] at A3;simp only at A3;clear B5 N;go_wp2_with fail;refine A3.o.mono ?_;rintro e u ⟨ea,ec,pa,pc,rfl,G8,U⟩;have hr:=B2.o.below U;have he:=A8.o.below U;have V:=B1.o.below U;have hg:=bu Z.o (aJ (b:=R.ib+1) U);have J1:=(bu Z.o (aJ (b:=R.ib+1) U)).size;obtain⟨A9,data,J3,⟨t1,t2⟩,J6,A2,C3,H2⟩:=o;simp only[Ob.val];generalize J3.length=ne;generalize J6.length=np;clear A3 G8 U B2 A8 B1 Z;by_cases A7:oe=0
  case neg=>
   have J:(oe !=0)=true:=Zu A7;have N:Qg ((T,er)=(([]:Qb),(13:Int))):=Qf (by rw[A5.o,if_pos A7]);have G:=N.o;simp only[XC] at G;obtain⟨H,I⟩:=G;subst H;subst I;clear N;have B7:=hr.alloc (.cells #[Yi A9,data,.slice ea ne ec,Yu t1,Yu t2,.slice pa np pc,A2,Yi C3,H2] 59);have G6:=V.alloc (.cells #[Yi A9,data,.slice ea ne ec,Yu t1,Yu t2,.slice pa np pc,A2,Yi C3,H2] 59);have G4:w.grownBy (u.alloc (.cells #[Yi A9,data,.slice ea ne ec,Yu t1,Yu t2,.slice pa np pc,A2,Yi C3,H2] 59)) (some (R.ib+1)):=bu hg (XZ _ _ _);obtain⟨r0,r1⟩:=BK.c2 B7;obtain⟨H7,J2⟩:=BK.f2 (B7);clear A5 A7;go_wp2_with fail;obtain⟨W9,B⟩:=Qe (putF (u.alloc (.cells #[Yi A9,data,.slice ea ne ec,Yu t1,Yu t2,.slice pa np pc,A2,Yi C3,H2] 59)) (w:Nat) [] 13);have F:=bZ B7 [] 13;have E:=Rdr.In.putF G6 (n:=(w:Nat)) Zo [] 13;have C:=bL G4 nr [] 13;rw[<-B] at F E C;unfold putF at B;rw[<-B];clear B;obtain⟨z0,z1⟩:=BK.c2 F;refine XB (v:=.agg #[.string ⟨([]).toArray⟩,Yi 13]) (by simp[results,results231,go_sem,z0,z1]) rfl ?_;exact⟨rfl,⟨_,E,(fun _ _=>rfl)⟩,C⟩
  case pos=>
  subst A7;have M:Qg ((T,er)=if iY D≠(d1,d2) then([],15) else(D,0)):=Qf (by rw[A5.o,if_neg Zs]);obtain⟨u2,B8⟩:=Qe (u.alloc (.cells #[Yi A9,data,.slice ea ne ec,Yu t1,Yu t2,.slice pa np pc,A2,Yi C3,H2] 59));have X:PM u u2:=B8▸ba _ _;have D5:=hr.below X;have D3:=he.below X;have D4:=V.below X;have A1:=bu hg (aJ (b:=R.ib+1) X);have A6:=Qf B8;obtain⟨D1,D2,A0⟩:∃D1 D2,iY D=(D1,D2):=⟨_,_,rfl⟩;rw[A0] at A4 M;simp only at A4;have Q:=fun W=>nI D1 D2 d1 d2 W
  have P:=Qf (fun d os=>YJ (w:=u2) (d:=d) (os:=os) (A4.o _));obtain⟨x0,x1,x2,x3,x4,x5,x6⟩:=BK.c7 D3;have f0:=YG x0;have f1:=YG x1;clear B8 X hr he V hg A5 A4 A0 D3;by_cases J:(D1,D2)=(d1,d2)
  case neg=>
   have U:(D1==d1&&D2==d2)=false:=by
    cases h:(D1==d1&&D2==d2) with
    | false=>rfl
    | true=>exact absurd (by simp only[XF,XS] at h; rw[h.1,h.2]) J
   have N:Qg ((T,er)=(([]:Qb),(15:Int))):=Qf (by rw[M.o,if_pos J]);have G:=N.o;simp only[XC] at G;obtain⟨H,I⟩:=G;subst H;subst I;clear N;rw[U] at Q;simp only[Bool.not_false] at Q;clear M J U;go_upto_region 16 with(fail)
   rw[<-A6.o];refine YH Zk Zk ?_
   repeat (any_goals (first | go_big_quiet_step (with_reducible exact P.o _ _) | quiet_step (with_reducible exact P.o _ _)))
   refine YI ?_;intro w4 Y;have L:=aX Y;have O:=D5.below L;have B4:=D4.below L;have B3:=bu A1 (aJ (b:=R.ib+1) L);clear Y A6 x0 x1 x2 x3 x4 x5 x6 f0 f1 P Q;obtain⟨r0,r1⟩:=BK.c2 O;obtain⟨H7,J2⟩:=BK.f2 (O);go_wp2_with fail;obtain⟨W9,B⟩:=Qe (putF w4 (w:Nat) [] 15);have F:=bZ O [] 15;have E:=Rdr.In.putF B4 (n:=(w:Nat)) Zo [] 15;have C:=bL B3 nr [] 15;rw[<-B] at F E C;unfold putF at B;rw[<-B];clear B;obtain⟨z0,z1⟩:=BK.c2 F;refine XB (v:=.agg #[.string ⟨([]).toArray⟩,Yi 15]) (by simp[results,results231,go_sem,z0,z1]) rfl ?_;exact⟨rfl,⟨_,E,(fun _ _=>rfl)⟩,C⟩
  case pos=>
  have U:(D1==d1&&D2==d2)=true:=by
   simp only[XC] at J;simp[J.1,J.2]
  have N:Qg ((T,er)=(D,(0:Int))):=Qf (by rw[M.o,if_neg (Zj J)]);have G:=N.o;simp only[XC] at G;obtain⟨H,I⟩:=G;subst H;subst I;clear N;rw[U] at Q;simp only[Bool.not_true] at Q;clear M J U;go_upto_region 16 with(fail)
  rw[<-A6.o];refine YH Zk Zk ?_
  repeat (any_goals (first | go_big_quiet_step (with_reducible exact P.o _ _) | quiet_step (with_reducible exact P.o _ _)))
  refine YI ?_;intro w4 Y;have L:=aX Y;have O:=D5.below L;have B4:=D4.below L;have B3:=bu A1 (aJ (b:=R.ib+1) L);clear Y A6 x0 x1 x2 x3 x4 x5 x6 f0 f1 P Q;obtain⟨r0,r1⟩:=BK.c2 O;obtain⟨H7,J2⟩:=BK.f2 (O);go_wp2_with fail;obtain⟨W9,B⟩:=Qe (putF w4 (w:Nat) T 0);have F:=bZ O T 0;have E:=Rdr.In.putF B4 (n:=(w:Nat)) Zo T 0;have C:=bL B3 nr T 0;rw[<-B] at F E C;unfold putF at B;rw[<-B];clear B;obtain⟨z0,z1⟩:=BK.c2 F;refine XB (v:=.agg #[(T),Yi 0]) (by simp[results,results231,go_sem,z0,z1]) rfl ?_;exact⟨rfl,⟨_,E,(fun _ _=>rfl)⟩,C⟩
 ·obtain⟨S,se,G2⟩:∃S se,wu R.xs R.l R.dat i (b1,b2)=(S,se):=⟨_,_,rfl⟩;have D9:=M4 hR i F3 (b1,b2);have HS:=Qf (B9.o K wc B1.o);unfold vF iX at HS;rw[G2] at HS D9;simp only at HS D9;have E3:Qg ((T,er)=if se≠0 then(S,se) else if(sK D0).2≠0 then([],13) else if(gP S (sK D0).1).2≠0 then([],13) else iK.rightS (gP S (sK D0).1).1 (d1,d2)):=Qf (by rw[C5.o,E2.o]; unfold iK; rw[G2]; rw[if_pos rfl]);clear G2 B9 C5 E2;go_wp2_with fail;refine HS.o.mono ?_;rintro e u ⟨rfl,⟨K',I4,I6⟩,hg⟩;have C0:Qg (∀m:Int,(i:Int)<=m->K' m=K m):=Qf I6;have J1:=Z.o.size;have J8:=hg.size;obtain⟨v,hv⟩:=Qe (u.alloc (.cells #[S,Yi se] 270));have C7:PM u v:=hv▸ba _ _;have hr:=(B2.o.grow1 hg Zo).below C7;have he:=(A8.o.grow1 hg Zo).below C7;have V:=I4.below C7;have A1:w.grownBy v (some (R.ib+1)):=bu (bu Z.o hg) (aJ C7);have D8:BK u #[S,Yi se] 270 v:=hv▸BK.new _ _ _;obtain⟨sb,B0⟩:=Qe (u:Nat);rw[<-B0] at D8;clear C7 I6 hg I4 HS B2 A8 B1 Z e0 e1 e2 e3 e4 e5 e6;obtain⟨s0,s1⟩:=BK.c2 D8;rw[hv,B0] at s0 s1;obtain⟨HV,H3⟩:=Yj hv B0;by_cases E8:se=0
  case neg=>
   have J:(se !=0)=true:=Zu E8;have N:Qg ((T,er)=(S,se)):=Qf (by rw[E3.o,if_pos E8]);have G:=N.o;simp only[XC] at G;obtain⟨H,I⟩:=G;subst H;subst I;clear N;rw[hv] at hr V A1;clear E3 E8 hv B0 HV H3 D8 he D9 F3;obtain⟨r0,r1⟩:=BK.c2 hr;obtain⟨H7,J2⟩:=BK.f2 (hr);go_wp2_with fail;obtain⟨W9,B⟩:=Qe (putF (u.alloc (.cells #[T,Yi er] 270)) (w:Nat) T er);have F:=bZ hr T er;have E:=Rdr.In.putF V (n:=(w:Nat)) Zo T er;have C:=bL A1 nr T er;rw[<-B] at F E C;unfold putF at B;rw[<-B];clear B;obtain⟨z0,z1⟩:=BK.c2 F;refine XB (v:=.agg #[(T),Yi er]) (by simp[results,results231,go_sem,z0,z1]) rfl ?_;exact⟨rfl,⟨_,E,C0.o⟩,C⟩
  case pos=>
  subst E8;obtain⟨l,de,A0⟩:∃l de,sK D0=(l,de):=⟨_,_,rfl⟩;have C4:=Qf (Db D0 v Zo);unfold MM at C4;rw[A0] at C4;simp only at C4;have E4:Qg ((T,er)=if de≠0 then([],13) else if(gP S l).2≠0 then([],13) else iK.rightS (gP S l).1 (d1,d2)):=Qf (by rw[E3.o,if_neg Zs,A0]);have F8:Qg (de=0->(l.length:Int)<=D0.length/\∀o∈l,o.data.length<=1099511627776/\o.len<=1099511627776/\o.off<=1099511627776):=Qf (fun h=>by
   subst h;obtain⟨_,_,h3,h4⟩:=JA A0;exact⟨h3,fun o ho=>⟨Zh ((h4 o ho).1),(h4 o ho).2⟩⟩)
  clear A0 E3 hv B0;go_wp2_with fail;rw[<-HV.o];clear s0 s1 HV;refine C4.o.mono ?_;rintro e u3 ⟨da,dc,rfl,I3,C1⟩;have D6:=hr.below C1;have I0:=he.below C1;have G5:=V.below C1;have I9:=D8.below C1;have G3:=bu A1 (aJ (b:=R.ib+1) C1);clear C4 hr he V D8 A1 C1;by_cases C9:de=0
  case neg=>
   have J:(de !=0)=true:=Zu C9;have N:Qg ((T,er)=(([]:Qb),(13:Int))):=Qf (by rw[E4.o,if_pos C9]);have G:=N.o;simp only[XC] at G;obtain⟨H,I⟩:=G;subst H;subst I;clear N;obtain⟨r0,r1⟩:=BK.c2 D6;obtain⟨H7,J2⟩:=BK.f2 (D6);clear E4 F8 C9;go_wp2_with fail;obtain⟨W9,B⟩:=Qe (putF u3 (w:Nat) [] 13);have F:=bZ D6 [] 13;have E:=Rdr.In.putF G5 (n:=(w:Nat)) Zo [] 13;have C:=bL G3 nr [] 13;rw[<-B] at F E C;unfold putF at B;rw[<-B];clear B;obtain⟨z0,z1⟩:=BK.c2 F;refine XB (v:=.agg #[.string ⟨([]).toArray⟩,Yi 13]) (by simp[results,results231,go_sem,z0,z1]) rfl ?_;exact⟨rfl,⟨_,E,C0.o⟩,C⟩
  case pos=>
  obtain⟨K3,I8⟩:=F8.o C9;subst C9;obtain⟨D,ae,E6⟩:∃A ae,gP S l=(A,ae):=⟨_,_,rfl⟩;have HA:=Qf (Gq S da l dc u3 I3 Zo Zo I8);rw[E6] at HA;simp only at HA;have E5:Qg ((T,er)=if ae≠0 then([],13) else iK.rightS D (d1,d2)):=Qf (by rw[E4.o,if_neg Zs,E6]);have F6:Qg (ae=0->(D.length:Int)<=65536):=Qf (fun h=>by subst h; exact Bv E6);obtain⟨s0,s1⟩:=BK.c2 I9;rw[H3.o] at s0 s1;generalize l.length=ln at *
  clear E6 E4 F8 I8 I3;go_wp2_with fail;refine HA.o.mono ?_;rintro e u4 ⟨rfl,L⟩;have hr:=D6.below L;have he:=I0.below L;have V:=G5.below L;have hg:=bu G3 (aJ (b:=R.ib+1) L);clear HA D6 I0 G5 I9 G3 L s0 s1;by_cases C6:ae=0
  case neg=>
   have J:(ae !=0)=true:=Zu C6;have N:Qg ((T,er)=(([]:Qb),(13:Int))):=Qf (by rw[E5.o,if_pos C6]);have G:=N.o;simp only[XC] at G;obtain⟨H,I⟩:=G;subst H;subst I;clear N;obtain⟨r0,r1⟩:=BK.c2 hr;obtain⟨H7,J2⟩:=BK.f2 (hr);clear E5 F6 C6;go_wp2_with fail;obtain⟨W9,B⟩:=Qe (putF u4 (w:Nat) [] 13);have F:=bZ hr [] 13;have E:=Rdr.In.putF V (n:=(w:Nat)) Zo [] 13;have C:=bL hg nr [] 13;rw[<-B] at F E C;unfold putF at B;rw[<-B];clear B;obtain⟨z0,z1⟩:=BK.c2 F;refine XB (v:=.agg #[.string ⟨([]).toArray⟩,Yi 13]) (by simp[results,results231,go_sem,z0,z1]) rfl ?_;exact⟨rfl,⟨_,E,C0.o⟩,C⟩
  case pos=>
  have J4:=F6.o C6;subst C6;have N:Qg ((T,er)=iK.rightS D (d1,d2)):=Qf (by rw[E5.o,if_neg Zs]);obtain⟨B2,A8,B1,Z⟩:=Yl hr he V hg;clear E5 F6 hr he V hg;obtain⟨A3,A4⟩:=Yj (mf D u4 Zo) (fun W=>qV D W Zo);obtain⟨o,oe,B5⟩:∃o oe,bI D=(o,oe):=⟨_,_,rfl⟩;have A5:Qg ((T,er)=if oe≠0 then([],13) else if iY D≠(d1,d2) then([],15) else(D,0)):=Qf (by have h:=N.o; unfold iK.rightS at h; rw[B5] at h; exact h);rw[B5] at A3;simp only at A3;clear B5 N;go_wp2_with fail;refine A3.o.mono ?_;rintro e u ⟨ea,ec,pa,pc,rfl,G8,U⟩;have hr:=B2.o.below U;have he:=A8.o.below U;have V:=B1.o.below U;have hg:=bu Z.o (aJ (b:=R.ib+1) U);have J1:=(bu Z.o (aJ (b:=R.ib+1) U)).size;obtain⟨A9,data,J3,⟨t1,t2⟩,J6,A2,C3,H2⟩:=o;simp only[Ob.val];generalize J3.length=ne;generalize J6.length=np;clear A3 G8 U B2 A8 B1 Z;by_cases A7:oe=0
  case neg=>
   have J:(oe !=0)=true:=Zu A7;have N:Qg ((T,er)=(([]:Qb),(13:Int))):=Qf (by rw[A5.o,if_pos A7]);have G:=N.o;simp only[XC] at G;obtain⟨H,I⟩:=G;subst H;subst I;clear N;have B7:=hr.alloc (.cells #[Yi A9,data,.slice ea ne ec,Yu t1,Yu t2,.slice pa np pc,A2,Yi C3,H2] 59);have G6:=V.alloc (.cells #[Yi A9,data,.slice ea ne ec,Yu t1,Yu t2,.slice pa np pc,A2,Yi C3,H2] 59);have G4:w.grownBy (u.alloc (.cells #[Yi A9,data,.slice ea ne ec,Yu t1,Yu t2,.slice pa np pc,A2,Yi C3,H2] 59)) (some (R.ib+1)):=bu hg (XZ _ _ _);obtain⟨r0,r1⟩:=BK.c2 B7;obtain⟨H7,J2⟩:=BK.f2 (B7);clear A5 A7;go_wp2_with fail;obtain⟨W9,B⟩:=Qe (putF (u.alloc (.cells #[Yi A9,data,.slice ea ne ec,Yu t1,Yu t2,.slice pa np pc,A2,Yi C3,H2] 59)) (w:Nat) [] 13);have F:=bZ B7 [] 13;have E:=Rdr.In.putF G6 (n:=(w:Nat)) Zo [] 13;have C:=bL G4 nr [] 13;rw[<-B] at F E C;unfold putF at B;rw[<-B];clear B;obtain⟨z0,z1⟩:=BK.c2 F;refine XB (v:=.agg #[.string ⟨([]).toArray⟩,Yi 13]) (by simp[results,results231,go_sem,z0,z1]) rfl ?_;exact⟨rfl,⟨_,E,C0.o⟩,C⟩
  case pos=>
  subst A7;have M:Qg ((T,er)=if iY D≠(d1,d2) then([],15) else(D,0)):=Qf (by rw[A5.o,if_neg Zs]);obtain⟨u2,B8⟩:=Qe (u.alloc (.cells #[Yi A9,data,.slice ea ne ec,Yu t1,Yu t2,.slice pa np pc,A2,Yi C3,H2] 59));have X:PM u u2:=B8▸ba _ _;have D5:=hr.below X;have D3:=he.below X;have D4:=V.below X;have A1:=bu hg (aJ (b:=R.ib+1) X);have A6:=Qf B8;obtain⟨D1,D2,A0⟩:∃D1 D2,iY D=(D1,D2):=⟨_,_,rfl⟩;rw[A0] at A4 M;simp only at A4;have Q:=fun W=>nI D1 D2 d1 d2 W
  have P:=Qf (fun d os=>YJ (w:=u2) (d:=d) (os:=os) (A4.o _));obtain⟨x0,x1,x2,x3,x4,x5,x6⟩:=BK.c7 D3;have f0:=YG x0;have f1:=YG x1;clear B8 X hr he V hg A5 A4 A0 D3;by_cases J:(D1,D2)=(d1,d2)
  case neg=>
   have U:(D1==d1&&D2==d2)=false:=by
    cases h:(D1==d1&&D2==d2) with
    | false=>rfl
    | true=>exact absurd (by simp only[XF,XS] at h; rw[h.1,h.2]) J
   have N:Qg ((T,er)=(([]:Qb),(15:Int))):=Qf (by rw[M.o,if_pos J]);have G:=N.o;simp only[XC] at G;obtain⟨H,I⟩:=G;subst H;subst I;clear N;rw[U] at Q;simp only[Bool.not_false] at Q;clear M J U;go_upto_region 16 with(fail)
   rw[<-A6.o];refine YH Zk Zk ?_
   repeat (any_goals (first | go_big_quiet_step (with_reducible exact P.o _ _) | quiet_step (with_reducible exact P.o _ _)))
   refine YI ?_;intro w4 Y;have L:=aX Y;have O:=D5.below L;have B4:=D4.below L;have B3:=bu A1 (aJ (b:=R.ib+1) L);clear Y A6 x0 x1 x2 x3 x4 x5 x6 f0 f1 P Q;obtain⟨r0,r1⟩:=BK.c2 O;obtain⟨H7,J2⟩:=BK.f2 (O);go_wp2_with fail;obtain⟨W9,B⟩:=Qe (putF w4 (w:Nat) [] 15);have F:=bZ O [] 15;have E:=Rdr.In.putF B4 (n:=(w:Nat)) Zo [] 15;have C:=bL B3 nr [] 15;rw[<-B] at F E C;unfold putF at B;rw[<-B];clear B;obtain⟨z0,z1⟩:=BK.c2 F;refine XB (v:=.agg #[.string ⟨([]).toArray⟩,Yi 15]) (by simp[results,results231,go_sem,z0,z1]) rfl ?_;exact⟨rfl,⟨_,E,C0.o⟩,C⟩
  case pos=>
  have U:(D1==d1&&D2==d2)=true:=by
   simp only[XC] at J;simp[J.1,J.2]
  have N:Qg ((T,er)=(D,(0:Int))):=Qf (by rw[M.o,if_neg (Zj J)]);have G:=N.o;simp only[XC] at G;obtain⟨H,I⟩:=G;subst H;subst I;clear N;rw[U] at Q;simp only[Bool.not_true] at Q;clear M J U;go_upto_region 16 with(fail)
  rw[<-A6.o];refine YH Zk Zk ?_
  repeat (any_goals (first | go_big_quiet_step (with_reducible exact P.o _ _) | quiet_step (with_reducible exact P.o _ _)))
  refine YI ?_;intro w4 Y;have L:=aX Y;have O:=D5.below L;have B4:=D4.below L;have B3:=bu A1 (aJ (b:=R.ib+1) L);clear Y A6 x0 x1 x2 x3 x4 x5 x6 f0 f1 P Q;obtain⟨r0,r1⟩:=BK.c2 O;obtain⟨H7,J2⟩:=BK.f2 (O);go_wp2_with fail;obtain⟨W9,B⟩:=Qe (putF w4 (w:Nat) T 0);have F:=bZ O T 0;have E:=Rdr.In.putF B4 (n:=(w:Nat)) Zo T 0;have C:=bL B3 nr T 0;rw[<-B] at F E C;unfold putF at B;rw[<-B];clear B;obtain⟨z0,z1⟩:=BK.c2 F;refine XB (v:=.agg #[(T),Yi 0]) (by simp[results,results231,go_sem,z0,z1]) rfl ?_;exact⟨rfl,⟨_,E,C0.o⟩,C⟩
theorem Jb{R:Rdr}(A:R.Ok):∀(n i:Nat),i<n->i<R.l.length->PL R i
 | 0,i,h,_=>Zo
 | n+1,i,h,B=>O6 R A i B (NR R A i B (fun j C=>Jb A n j Zo Zo))
theorem IY{l:List Pe}{x:Pe}(d:Int×Int)(C:x.d∉l.map (·.d)):rE (l++[x]) d=if d=x.d then some l.length else rE l d:=by
 unfold rE;rw[List.findIdx?_append];by_cases e:d=x.d
 ·rw[if_pos e];have A:l.findIdx? (fun e=>decide (e.d=d))=none:=by
   rw[List.findIdx?_eq_none_iff];intro y D;simp only[XL];intro h;exact C (by rw[<-e,<-h]; exact List.mem_map_of_mem D)
  rw[A];simp[e,List.findIdx?_cons]
 ·rw[if_neg e];have B:[x].findIdx? (fun e=>decide (e.d=d))=none:=by simp[List.findIdx?_cons,Ne.symm e]
  rw[B];cases l.findIdx? (fun e=>decide (e.d=d)) <;> rfl
structure Ps (xs:List Itm) (pc:Nat):Prop where
 asc:Asc xs
 val:∀x∈xs,(bI x.data).2=0
 dig:∀x∈xs,OkD x.d
 xl:(xs.length:Int)<=100000000
 xd:∀x∈xs,(x.data.length:Int)<=140737488355328
 pc:xs.length<=pc
def N9(w:World)(s:Qb)(xs:List Itm)(e:Ending)(w':World):Prop:=∃R:Rdr,R.s=s/\R.xs=xs/\R.l=(bi s).1/\e=.returned (.tuple #[.pointer (some ⟨R.ib+1+1,0,none⟩),Yi (bi s).2])/\R.Ok/\R.In (fun _=>none) w'/\PM w w'/\(w:Nat)<=R.ib
theorem KQ(s:Qb)(xs:List Itm)(pa:Qa)(pc:Nat)(w:World)(hl:(s.length:Int)<=70368744177664)(J:Its w w pa xs)(hp:Ps xs pc):Qh 201 #[s,.slice pa xs.length pc] w (N9 w s xs):=by
 obtain⟨I,M,HL,R⟩:=Yl J hp hl (CW s w hl);unfold J9 at R;have K:kN (s.take (s.length-16)) (bi s).1/\(bi s).1.length<=1000:=by
  by_cases h:(bi s).2=0
  ·obtain⟨g1,g2,_⟩:=uM (s:=s) (l:=(bi s).1) (by rw[<-h]);exact⟨g1,g2⟩
  ·rw[AQ h]; exact⟨kN.nil _,Zs⟩
 have C:=Qf K;unfold N9;generalize bi s=E at R C ⊢;obtain⟨l,er⟩:=E;simp only at R C ⊢;have C5:=C.o.2;obtain⟨n,hn⟩:=Qe l.length;have Y:=Qf hn;rw[<-hn] at C5;simp only[<-hn] at R;obtain⟨nx,O⟩:=Qe xs.length;have Z:=Qf O;rw[<-O];have C7:=@run_makeMap prog;clear J hp K hn hl O;go_enter func201,ntmps201;go_wp2_with fail;refine R.o.mono ?_;rintro e u ⟨a,c,rfl,A5,hb⟩;obtain⟨q,Q⟩:=Qe (u:Nat);obtain⟨v,F⟩:=Qe (((u.alloc (.map #[] 0)).alloc (.map #[] 0)).alloc (.cells #[s,.slice a n c,.slice pa nx pc,.map (some q),.map (some (q+1))] 268));have A7:fT vH q 0 (fun _=>none) (u.alloc (.map #[] 0)):=Q▸fT.made _ _;have A8:fT Oq (q+1) 0 (fun _=>none) ((u.alloc (.map #[] 0)).alloc (.map #[] 0)):=by have:=fT.made Oq (u.alloc (.map #[] 0)); rw[Q]; simpa using this
 have X:Qg (fT vH q 0 (fun d=>(rE (l.take 0) d).map fun i=>Yi (i:Int)) v):=Qf (F▸((A7.alloc _).alloc _).eq (fun d=>rfl));have W:Qg (fT Oq (q+1) 0 (fun _=>none) v):=Qf (F▸A8.alloc _);have A1:Qg (BK (q+1+1) #[s,.slice a n c,.slice pa nx pc,.map (some q),.map (some (q+1))] 268 v):=Qf (by
  have:=BK.new ((u.alloc (.map #[] 0)).alloc (.map #[] 0)) #[s,.slice a n c,.slice pa nx pc,.map (some q),.map (some (q+1))] 268;rw[F];have e1:((u.alloc (.map #[] 0)).alloc (.map #[] 0)).heap.size=q+1+1:=Zn Q;rw[e1] at this;exact this)
 have D:PM u v:=by rw[F]; exact((ba _ _).alloc Zs _).alloc Zt _
 have T:=Qf (XT hb D);have V:Qg (GIn tX 7 q v a l):=Qf (Q▸A5.below D nr);have HQ:Qg ((w:Nat)<=q):=Qf (Q▸hb.size);clear A7 A8 D hb A5 R;go_wp2_with fail;rw[<-Q,<-F];clear Q F C7;go_loopw [25] (fun i wr=>∃k:Nat,k<=n/\i=Yi (k:Int)/\Qg (fT vH q k (fun d=>(rE (l.take k) d).map fun i=>Yi (i:Int)) wr)/\Qg (fT Oq (q+1) 0 (fun _=>none) wr)/\Qg (BK (q+1+1) #[s,.slice a n c,.slice pa nx pc,.map (some q),.map (some (q+1))] 268 wr)/\Qg (GIn tX 7 q wr a l)/\Qg (PM w wr)) (fun i _=>n-(intOf i).toNat)
 case atStart=>exact⟨0,Zo,rfl,X,W,A1,V,T⟩
 case round=>
  clear X W A1 V T;obtain⟨k,hk,rfl,HM,HK,S,U,HB⟩:=hrel;by_cases C6:k<n
  ·have C3:(k:Int)<(n:Int):=Zo;have H:k<l.length:=Y.o▸C6;obtain⟨bl,B5,rfl,D2,q0,q1,q2,q3,q4,q5,q6⟩:=rX U.out H;obtain⟨k0,A2⟩:=C.o.1.at_ _ (ak H);have P:=(iB A2).1.dok;have N:Qg (∀d,rE (l.take (k+1)) d=if d=l[k].d then some k else rE (l.take k) d):=Qf (fun d=>by
    rw[ai H,IY]
    ·rw[aA,mM Zo]
    ·have B1:=C.o.1.nd;rw[<-aQ k l,dJ,List.nodup_append] at B1;intro hm;exact B1.2.2 _ hm _ (List.mem_map_of_mem (List.mem_of_getElem (i:=0) (h:=Zt) rfl)) Zs)
   have D5:=S.out.lt;generalize l[k]=x at *
   obtain⟨⟨d1,d2⟩,kd,⟨b1,b2⟩,B4,B3⟩:=x;simp only at q0 q1 q2 q3 q4 q5 q6 P N;obtain⟨v,F⟩:=Qe (wr.alloc (.cells #[Yu d1,Yu d2,Yi kd,Yu b1,Yu b2,Yi (B4:Int),Yi (B3:Int)] 222));have D:PM wr v:=F▸ba _ _;have A9:=(HM.out.below D).below ((bf _).drew);have B2:=S.out.below D;have A3:BK wr #[Yu d1,Yu d2,Yi kd,Yu b1,Yu b2,Yi (B4:Int),Yi (B3:Int)] 222 v:=F▸BK.new _ _ _;obtain⟨v2,L,B0,A4,C8⟩:=A9.put underlying265 (a:=(d1,d2)) P Zo (Yi (k:Int));have A0:(Instr.mapUpdate 265 (.map (some q)) (.agg #[Yu d1,Yu d2]) (Yi (k:Int))).run prog v.drew=.ok () v2:=L;have B:wr.grownBy v2 (some q):=bu (aJ D) (bu (aJ ((bf _).drew)) A4);have G:Qg (fT vH q (k+1) (fun d=>(rE (l.take (k+1)) d).map fun i=>Yi (i:Int)) v2):=Qf (B0.eq (fun d=>by rw[N.o d]; split <;> rfl));obtain⟨C0,C2⟩:=Yj (HK.out.kept B Zs) (S.out.grow1 B Zo);have A6:Below q wr v2:=⟨B.os,B.tape,B.output,B.size,fun j hj=>B.block j Zo (fun e=>by cases e; omega)⟩;obtain⟨B9,B8⟩:=Yj (U.out.below A6 nr) (bE HB.out B HQ.o);obtain⟨x0,x1,x2,x3,x4⟩:=BK.c5 B2;obtain⟨e0,e1,e2,e3,e4,e5,e6⟩:=BK.c7 A3;have HV:=Qf F;clear F D A9 B2 A3 L B0 A4 C8 B A6 HM HK S U HB N P A2 H;go_wp2_with fail;rw[<-HV.o];clear q0 q1 q2 q3 q4 q5 q6 HV;go_region;clear x0 x1 x2 x3 x4 e0 e1 e2 e3 e4 e5 e6 A0;go_wp2;go_roundw
   case rel=>exact⟨k+1,Zo,Zg,G,C0,C2,B9,B8⟩
   case measure=>exact Yr
  ·obtain rfl:k=n:=Zo;have C3:¬(k:Int)<(k:Int):=Zo;have G:Qg (fT vH q k (fun d=>(rE l d).map fun i=>Yi (i:Int)) wr):=Qf (by have:=HM.out; rw[Y.o,rC] at this; rw[Y.o]; exact this);have HR:Qg (Rdr.Ok ⟨q,s,l,a,c,xs,pa,pc⟩/\Rdr.In ⟨q,s,l,a,c,xs,pa,pc⟩ (fun _=>none) wr):=Qf (by
    have hx:=S.out;rw[Y.o,Z.o] at hx;refine⟨⟨M.o.asc,M.o.val,M.o.dig,M.o.xl,M.o.xd,M.o.pc,HL.o,C.o.1,C.o.2⟩,hx,U.out,(I.o.below HB.out nr).mono HQ.o,⟨k,G.o⟩,HK.out.mono (Q6 _),fun i v h=>by cases h⟩)
   clear HM HK S U G Y Z M HL C I;go_wp2;go_ret2;exact⟨⟨q,s,l,a,c,xs,pa,pc⟩,rfl,rfl,rfl,rfl,HR.o.1,HR.o.2,HB.out,HQ.o⟩
def Lr(s:Qb)(xs:List Itm)(d:Int×Int):Qb×Int:=
 if(bi s).2≠0 then([],(bi s).2) else match rE (bi s).1 d with
  | some i=>NK s xs (bi s).1 i
  | none=>([],8)
def Fb(dat:Nat->Qb×Int)(l:List Pe):Nat->Nat->List Itm->List Itm×Int
 | 0,_,p=>(p,0)
 | f+1,k,p=>match l[k]? with
  | none=>(p,0)
  | some e=>if(dat k).2≠0 then([],(dat k).2) else if(rJ p ⟨e.d,(dat k).1⟩).2≠0 then([],(rJ p ⟨e.d,(dat k).1⟩).2) else Fb dat l f (k+1) (rJ p ⟨e.d,(dat k).1⟩).1
def tu(s:Qb)(xs:List Itm):List Itm×Int:=
 if(bi s).2≠0 then([],(bi s).2) else Fb (NK s xs (bi s).1) (bi s).1 (bi s).1.length 0 xs
theorem GY{dat:Nat->Qb×Int}{l:List Pe}(A:k<l.length)(p:List Itm):Fb dat l (l.length-k) k p=if(dat k).2≠0 then([],(dat k).2) else if(rJ p ⟨l[k].d,(dat k).1⟩).2≠0 then([],(rJ p ⟨l[k].d,(dat k).1⟩).2) else Fb dat l (l.length-(k+1)) (k+1) (rJ p ⟨l[k].d,(dat k).1⟩).1:=by
 rw[show l.length-k=(l.length-(k+1))+1 by omega,Fb,XH A]
theorem Q0{b j:Nat}(C:W.grownBy W' (some c))(B:b<(W:Nat))(A:b≠c):W'.cell? ⟨b,j,none⟩=W.cell? ⟨b,j,none⟩:=by
 have h:=C.block b B (fun e=>by cases e; exact A rfl);unfold World.cell?;simp only[h]
theorem IM(h:Its W W a xs)(B:W.grownBy W' (some c))(D:0<xs.length->∀ad,a=some ad->ad.block≠c):Its W' W' a xs:=by
 intro i H;obtain⟨b,I,rfl,A,E,F,G⟩:=h i H;have C:=D Zo _ rfl;have hs:=B.size;exact⟨b,I,rfl,Zo,(Q0 B A C).trans E,(Q0 B A C).trans F,(Q0 B A C).trans G⟩
structure UnP (R:Rdr) (pa:Qa) (k:Nat) (a:Qa) (c:Nat) (P:List Itm) (W:World):Prop where
 its:Its W W a P
 cap:P.length<=c
 asc:Asc P
 len:P.length<=R.xs.length+k
 dat:∀x∈P,(x.data.length:Int)<=140737488355328
 or_:(a=pa/\P=R.xs)\/∀ad,a=some ad->R.ib+1<ad.block
theorem UnP.apart{R:Rdr}(h:UnP R pa k a c P W)(G:Its B w pa R.xs)(H:B<=R.ib):0<P.length->∀ad,a=some ad->ad.block≠R.ib+1:=by
 intro E ad A;rcases h.or_ with⟨rfl,rfl⟩ | D
 ·obtain⟨b,I,C,F,_⟩:=G 0 E;rw[A] at C;cases C;simp only;omega
 ·have:=D ad A;omega
theorem UnP.grown{R:Rdr}(h:UnP R pa k a c P W)(D:Its B w pa R.xs)(A:B<=R.ib)(C:W.grownBy W' (some (R.ib+1))):UnP R pa k a c P W':=
 ⟨IM h.its C (h.apart D A),h.cap,h.asc,h.len,h.dat,h.or_⟩
theorem UnP.pool{R:Rdr}(h:UnP R pa k a c P W)(A:(R.xs.length:Int)<=1000000)(B:k<=1000):jQ W a P c:=⟨h.its,h.cap,Zh h.len,h.dat⟩
theorem J2(h:rJ P x=(Q,0)):Ag P x=(Q,0):=by
 unfold rJ at h;by_cases A:vg x=0
 ·rw[if_neg (Zj A)] at h; exact h
 ·rw[if_pos A] at h;have:=congrArg Prod.snd h;exact absurd this A
theorem Mg(h:(rJ P x).2≠0):(rJ P x).1=[]:=by
 unfold rJ at h ⊢;by_cases C:vg x=0
 ·rw[if_neg (Zj C)] at h ⊢;unfold Ag at h ⊢;split
  ·split
   ·split
    ·rename_i A B D; rw[A] at h; simp[B,D] at h
    ·rfl
   ·rename_i A B; rw[A] at h; simp[B] at h
  ·rename_i A; rw[A] at h; simp at h
 ·rw[if_pos C]
theorem UnP.next{R:Rdr}(h:UnP R pa k a c P W)(K:R.ib+1<(W:Nat)){a':Qa}{c':Nat}(F:iF W a P Q a' c' W')(H:(x.data.length:Int)<=140737488355328)(G:rJ P x=(Q,0)):UnP R pa (k+1) a' c' Q W':=by
 obtain⟨C,D,A,J⟩:=F;obtain⟨g1,g2,g3⟩:=IU h.asc (J2 G);refine⟨C,D,g1,Zh h.len,fun y I=>?_,?_⟩
 ·rcases(g2 y).1 I with E | rfl
  ·exact h.dat y E
  ·exact H
 ·rcases A with⟨rfl,rfl⟩ | A
  ·exact h.or_
  ·exact .inr (fun ad B=>Zh (A ad B))
theorem Nc(s:Qb)(xs:List Itm)(pa:Qa)(pc:Nat)(w:World)(hl:(s.length:Int)<=70368744177664)(J:Its w w pa xs)(hp:Ps xs pc)(D6:(xs.length:Int)<=1000000):Qh 160 #[s,.slice pa xs.length pc] w (J7 w pa xs (tu s xs)):=by
 obtain⟨A1,G,HN⟩:=Yk J hp (KQ s xs pa pc w hl J hp);unfold N9 at HN;obtain⟨U,C⟩:=Qe (tu s xs);rw[<-C];unfold tu at C;obtain⟨l,er,hE⟩:∃l er,bi s=(l,er):=⟨_,_,rfl⟩;rw[hE] at C HN;simp only at HN C;obtain⟨N,E3⟩:=Yj C D6;obtain⟨nx,B5⟩:=Qe xs.length;have D9:=Qf B5;rw[<-B5] at HN ⊢;clear C hE J hp hl D6 B5;unfold J7;go_enter func160,ntmps160;go_wp2_with fail;refine HN.o.mono ?_;rintro e u ⟨R,rfl,rfl,rfl,rfl,B6,B3,hb,D3⟩;by_cases B1:er=0
 case neg=>
  have D4:(er !=0)=true:=Zu B1;have D5:=N.o;rw[if_pos B1] at D5;subst D5;clear N HN;go_wp2;go_ret2;exact⟨none,0,rfl,iF.none _ _ hb⟩
 case pos=>
 subst B1;have C9:Qg (U=Fb R.dat R.l (R.l.length-0) 0 R.xs):=Qf (by rw[N.o,if_neg Zs]; rfl);have D1:=B3.box;have E9:=B6.ll;obtain⟨n,hn⟩:=Qe R.l.length;have C5:=Qf hn;obtain⟨x0,x1,x2,x3,x4⟩:=BK.c5 D1;rw[<-hn] at x1 E9;obtain⟨C4,C7,HB,A6⟩:=Yl B3 B6 hb D3;have D0:Qg (UnP R pa 0 pa pc R.xs u):=Qf ⟨A1.o.ahead hb,G.o.pc,G.o.asc,Zo,G.o.xd,.inl ⟨rfl,rfl⟩⟩;clear hn D1 B3 B6 hb D3 N HN G;go_wp2_with fail;clear x0 x1 x2 x3 x4;go_loopw [8,27] (fun p i wr=>∃(k:Nat) (a:Qa) (c:Nat) (P:List Itm) (K:Int->Option Value),k<=n/\p=.slice a P.length c/\i=Yi (k:Int)/\Qg (U=Fb R.dat R.l (R.l.length-k) k P)/\Qg (UnP R pa k a c P wr)/\Qg (R.In K wr)/\Qg (PM w wr)) (fun _ i _=>n-(intOf i).toNat)
 case atStart=>exact⟨0,pa,pc,R.xs,fun _=>none,Zo,Zx D9.o,rfl,C9,D0,C4,HB⟩
 case round=>
  clear C9 D0 C4 HB;obtain⟨k,a,c,P,K,hk,rfl,rfl,N,G,HI,HB⟩:=hrel;obtain⟨np,B4⟩:=Qe P.length;have C6:=Qf B4;rw[<-B4];clear B4;by_cases F0:k<n
  ·have E7:(k:Int)<(n:Int):=Zo;have L:k<R.l.length:=C5.o▸F0;obtain⟨bl,A7,E5,F4,q0,q1,q2,q3,q4,q5,q6⟩:=rX HI.out.ents L;obtain⟨D,de,B0⟩:∃D de,R.dat k=(D,de):=⟨_,_,rfl⟩;have Y:=Dc C7.o (k+1) k Zo L;have A0:=N.o.trans (GY L P);rw[B0] at A0 Y;simp only at A0 Y;have H:=Qf A0;have F8:=HI.out.lt;obtain⟨v,M⟩:=Qe (wr.alloc (.cells (tX R.l[k]).toArray 222));have A9:PM wr v:=M▸ba _ _;have A8:BK wr (tX R.l[k]).toArray 222 v:=M▸BK.new _ _ _;obtain⟨C1,HG⟩:=Yj A9 (Jb C7.o (k+1) k Zo L K v (HI.out.below A9));unfold vF iX at HG;rw[B0] at HG;simp only at HG;have I:=fun W a2=>N7 a2 P c R.l[k].d.1 R.l[k].d.2 D W
   generalize R.l[k]=x at *
   obtain⟨⟨d1,d2⟩,kd,⟨b1,b2⟩,A4,A3⟩:=x;simp only[tX] at q0 q1 q2 q3 q4 q5 q6 M H I A8;obtain⟨C0,F,HV⟩:=Yk A8 I M;clear M A9 A8 I A0 B0 L;rw[E5];go_wp2_with fail;rw[<-HV.o];clear q0 q1 q2 q3 q4 q5 q6 HV;refine HG.o.mono ?_;rintro e u2 ⟨rfl,⟨K',A2,E8⟩,hg⟩;have D2:wr.grownBy u2 (some (R.ib+1)):=bu (aJ C1.o) hg;obtain⟨v,M⟩:=Qe (u2.alloc (.cells #[D,Yi de] 270));have E:PM u2 v:=M▸ba _ _;have hf:BK u2 #[D,Yi de] 270 v:=M▸BK.new _ _ _;have he:=(C0.o.grow1 hg Zo).below E;have B2:=bu D2 (aJ (b:=R.ib+1) E);obtain⟨T,A5,S⟩:=Yk (G.o.grown A1.o A6.o B2) (A2.below E) (bE HB.o B2 (Zh A6.o));have F9:=A5.o.lt;obtain⟨f0,f1⟩:=BK.c2 hf;obtain⟨e0,e1,e2,e3,e4,e5,e6⟩:=BK.c7 he;have HV:=Qf M;rw[M] at f0 f1 e0 e1 e2 e3 e4 e5 e6;clear E hf he B2 D2 hg A2 E8 HG C0 C1 G HI HB;by_cases X:de=0
   case neg=>
    have D4:(de !=0)=true:=Zu X;have C:=H.o;rw[if_pos X] at C;subst C;clear H F X N;go_wp2;go_region;clear f0 f1 e0 e1 e2 e3 e4 e5 e6;go_wp2;go_ret2;exact⟨none,0,rfl,iF.none _ _ (HV.o▸S.o.drew)⟩
   case pos=>
   subst X;have B:Qg (U=if(rJ P ⟨(d1,d2),D⟩).2≠0 then([],(rJ P ⟨(d1,d2),D⟩).2) else Fb R.dat R.l (R.l.length-(k+1)) (k+1) (rJ P ⟨(d1,d2),D⟩).1):=Qf (by rw[H.o,if_neg Zs]);have HA:=Qf (F.o v a (T.o.pool E3.o Zo) T.o.asc Y);unfold J7 at HA;rw[<-C6.o] at HA;have O:Qg ((rJ P ⟨(d1,d2),D⟩).2≠0->(rJ P ⟨(d1,d2),D⟩).1=[]):=Qf Mg;obtain⟨Q,ae,B7⟩:∃Q ae,rJ P ⟨(d1,d2),D⟩=(Q,ae):=⟨_,_,rfl⟩;have C8:=Qf B7;rw[B7] at HA B O;simp only at HA B O;clear B7 H F N;go_wp2_with fail;rw[<-HV.o];clear M HV f0 f1 e0 e1 e2 e3 e4 e5 e6;refine HA.o.mono ?_;rintro e3 u3 ⟨a3,c3,rfl,Z⟩;have B9:=Qf (S.o.trans (Z.2.2.2.mono S.o.size));by_cases V:ae=0
   case neg=>
    have D4:(ae !=0)=true:=Zu V;have C:=B.o;rw[if_pos V] at C;subst C;clear B HA O V;go_wp2;go_ret2;exact⟨none,0,rfl,iF.none _ _ B9.o⟩
   case pos=>
   subst V;have E2:Qg (U=Fb R.dat R.l (R.l.length-(k+1)) (k+1) Q):=Qf (by rw[B.o,if_neg Zs]);obtain⟨E0,D8⟩:=Yj (T.o.next Zo Z Y C8.o) (A5.o.below Z.2.2.2);clear B HA O T A5 S Z C8;go_wp2;go_roundw
   case rel=>exact⟨k+1,a3,c3,Q,K',Zo,rfl,Zg,E2,E0,D8,B9⟩
   case measure=>exact Yr
  ·obtain rfl:k=n:=Zo;have E7:¬(k:Int)<(k:Int):=Zo;have C:U=(P,0):=by rw[N.o,C5.o,Nat.sub_self,Fb]
   subst C;rw[C6.o];have E1:Qg (iF w pa R.xs P a c wr):=Qf ⟨G.o.its,G.o.cap,G.o.or_.elim (fun h=>.inl h) (fun h=>.inr (fun ad E4=>by have:=h ad E4; have:=A6.o; omega)),HB.o⟩;clear N G HI HB;go_wp2;go_ret2;exact⟨a,c,rfl,E1.o⟩
theorem GK(h:rJ P x=(Q,0)):vg x=0/\Ag P x=(Q,0):=by
 refine⟨?_,J2 h⟩;unfold rJ at h;by_cases A:vg x=0
 ·exact A
 ·rw[if_pos A] at h;exact absurd (congrArg Prod.snd h) A
theorem Kt{dat:Nat->Qb×Int}{l:List Pe}:∀(n k:Nat) (p Q:List Itm),n=l.length-k->k<=l.length->Asc p->(∀y∈p,vg y=0)->Fb dat l n k p=(Q,0)->
  Asc Q/\(∀y∈Q,vg y=0)/\(∀y∈p,y∈Q)/\(∀i (h:i<l.length),k<=i->(dat i).2=0/\(⟨l[i].d,(dat i).1⟩:Itm)∈Q)/\(∀y∈Q,y∈p\/∃e∈l,y.d=e.d)/\Q.length<=p.length+n:=by
 intro n;induction n with
 | zero=>
  intro k p Q L K H F h;unfold Fb at h;cases h;exact⟨H,F,fun y A=>A,fun i I G=>Zo,fun y A=>.inl A,Zo⟩
 | succ n ih=>
  intro k p Q L K H F h;have C:k<l.length:=Zo;rw[Fb,XH C] at h;simp only at h;by_cases D:(dat k).2=0
  ·rw[if_neg (Zu D)] at h;by_cases E:(rJ p ⟨l[k].d,(dat k).1⟩).2=0
   ·rw[if_neg (Zu E)] at h;obtain⟨c1,c2⟩:=GK (P:=p) (Q:=(rJ p ⟨l[k].d,(dat k).1⟩).1) (x:=⟨l[k].d,(dat k).1⟩) (Prod.ext rfl E);obtain⟨g1,g2,g3⟩:=IU H c2;obtain⟨r1,r2,r3,r4,r5,r6⟩:=ih (k+1) _ Q Zo Zo g1 (fun y A=>by
     rcases(g2 y).1 A with B | rfl
     ·exact F y B
     ·exact c1) h
    refine⟨r1,r2,fun y A=>r3 y ((g2 y).2 (.inl A)),fun i I G=>?_,fun y A=>?_,Zo⟩
    ·rcases gB k i with B | B
     ·exact r4 i I Zo
     ·obtain rfl:i=k:=Zo;exact⟨D,r3 _ ((g2 _).2 (.inr rfl))⟩
    ·rcases r5 y A with B | B
     ·rcases(g2 y).1 B with J | rfl
      ·exact .inl J
      ·exact .inr ⟨l[k],ak C,rfl⟩
     ·exact .inr B
   ·rw[if_pos (Zu E)] at h;exact absurd (congrArg Prod.snd h) E
  ·rw[if_pos (Zu D)] at h;exact absurd (congrArg Prod.snd h) D
theorem JK(h:vg x=0):x.data≠[]:=by
 intro e;obtain⟨d,t⟩:=x;simp only at e;subst e;unfold vg at h;have A:(bI []).2≠0:=Zl;rw[if_pos A] at h;cases h
structure Pq (s:Qb) (xs Q:List Itm):Prop where
 ent:(bi s).2=0
 chk:mV Q=0
 asc:Asc Q
 fnd:∀e∈(bi s).1,(Lr s xs e.d).2=0/\(Lr s xs e.d).1≠[]/\e.d∈Q.map (·.d)
 all:∀y∈Q,y.d∈xs.map (·.d)++(bi s).1.map (·.d)
 keep:OU Q (xs.map (·.d))=xs
 len:Q.length<=xs.length+(bi s).1.length
theorem OD{s:Qb}(E:Asc xs)(I:∀x∈xs,vg x=0)(h:tu s xs=(Q,0)):Pq s xs Q:=by
 unfold tu at h;by_cases A:(bi s).2=0
 ·rw[if_neg (Zu A)] at h;obtain⟨e1,e2,e3⟩:=uM (s:=s) (l:=(bi s).1) (Prod.ext rfl A);obtain⟨r1,r2,r3,r4,r5,r6⟩:=Kt _ 0 xs Q Zo Zo E I h;refine⟨A,?_,r1,fun e D=>?_,fun y B=>?_,?_,r6⟩
  ·unfold mV;exact EI r2 r1 (fun q K=>by cases K)
  ·obtain⟨i,F,rfl⟩:=aV D;obtain⟨g1,g2⟩:=r4 i F Zo;have J:Lr s xs (bi s).1[i].d=NK s xs (bi s).1 i:=by
    unfold Lr;rw[if_neg (Zu A),Ny e1.nd F]
   rw[J];exact⟨g1,JK (r2 _ g2),bV.2 ⟨_,g2,rfl⟩⟩
  ·rw[aD];rcases r5 y B with H | ⟨e,D,C⟩
   ·exact .inl (bV.2 ⟨y,H,rfl⟩)
   ·exact .inr (bV.2 ⟨e,D,C.symm⟩)
  ·refine NY (Gz r1 _) E (fun x=>?_);unfold OU;rw[QJ];constructor
   ·rintro⟨g1,g2⟩;simp only[XJ,bV] at g2;obtain⟨y,B,C⟩:=g2;rw[<-Md r1 (r3 y B) g1 C];exact B
   ·intro G;exact⟨r3 x G,by simp only[XJ,bV]; exact⟨x,G,rfl⟩⟩
 ·rw[if_pos (Zu A)] at h;exact absurd (congrArg Prod.snd h) A
