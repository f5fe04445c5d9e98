/- Joined texts: PkK, PkL, PkMv, PkR, PkSo. -/
import Derived.Test.YtkedhdcnakhbgaaGreatP0
import Derived.Test.YtkedhdcnakhbgaaGreatP2
import Derived.Test.YtkedhdcnakhbgaaGreatK5
import Derived.Test.YtkedhdcnakhbgaaGreatK4
import Derived.Test.YtkedhdcnakhbgaaGreatK8
/- Packs: one entry. -/
set_option linter.unusedSimpArgs false
set_option maxRecDepth 100000
set_option maxHeartbeats 16000000
namespace Go.Proofs.YtkedhdcnakhbgaaGreat
open Go.RowKit Go.Shelf
set_option linter.unusedVariables false
variable {er:Int}{B k n p u:Nat}{o:Option Value}{b x:Qb}{v x0 x1 x2 x3 x4 x5 x6 z:Value}{W W' w w':World}
def tX(e:Pe):List Value:=[.int .u64 e.d.1,.int .u64 e.d.2,.int .i64 e.kind,.int .u64 e.base.1,.int .u64 e.base.2,.int .i64 (e.off:Int),.int .i64 (e.len:Int)]
def Pe.val(e:Pe):Value:=.agg #[.int .u64 e.d.1,.int .u64 e.d.2,.int .i64 e.kind,.int .u64 e.base.1,.int .u64 e.base.2,.int .i64 (e.off:Int),.int .i64 (e.len:Int)]
theorem OT:Lay tX 7:=⟨by decide,fun o=>rfl,fun o v A=>by
 simp only[tX,List.mem_cons,List.not_mem_nil,or_false] at A;rcases A with rfl | rfl | rfl | rfl | rfl | rfl | rfl <;> rfl⟩
def GotPe(b:Qb)(k:Nat)(w:World)(e:Ending)(w':World):Prop:=∃(x:Pe) (t:Bool),e=.returned (.tuple #[x.val,.bool t])/\(t=true->dY b k=some x)/\(t=false->dY b k=none)/\PM w w'
theorem AP(h:b.length<k+16):dY b k=none:=by unfold dY; rw[if_pos h]
theorem Gh{kd u:Int}(h:k+16<=b.length)(B:Cw.getI (b.drop (k+16))=(kd,u,er))(A:er≠0\/(kd≠0/\kd≠1)):dY b k=none:=by
 unfold dY; rw[if_neg (by omega),B]; simp only; rw[if_pos A]
theorem yF(h:k+16<=b.length)(B:Cw.getI (b.drop (k+16))=(1,(u:Int),0))(A:b.length<k+16+u+16):dY b k=none:=by
 unfold dY; rw[if_neg (by omega),B]; simp only[aj]; rw[if_neg (by simp),if_pos (by simpa using A)]
theorem LA{v:Nat}(h:k+16<=b.length)(A:Cw.getI (b.drop (k+16))=(0,(u:Int),0))(B:Cw.getT (b.drop (k+16+u))=(x,(v:Int),er)):dY b k=if er≠0 then none else some ⟨CS (b.drop k),0,(0,0),k+16+u+v-x.length,x.length⟩:=by
 unfold dY;rw[if_neg (by omega),A];simp only[aj];rw[if_neg (by simp),if_neg (by simp),show k+16+u+(if(0:Int)=1 then 16 else 0)=k+16+u by simp,B];simp
theorem Lx{v:Nat}(h:k+16<=b.length)(A:Cw.getI (b.drop (k+16))=(1,(u:Int),0))(C:k+16+u+16<=b.length)(B:Cw.getT (b.drop (k+16+u+16))=(x,(v:Int),er)):dY b k=if er≠0 then none else some ⟨CS (b.drop k),1,CS (b.drop (k+16+u)),k+16+u+16+v-x.length,x.length⟩:=by
 unfold dY;rw[if_neg (by omega),A];simp only[aj,if_true];rw[if_neg (by simp),if_neg (by simp; omega),B];simp
theorem Jc{l:Qb}{v:Int}(h:Cw.getT l=(x,v,er)):(x.length:Int)<=v:=by
 by_cases e:er=0
 ·subst e
  have:=En h;omega
 ·unfold Cw.getT at h
  have A:=(gH (l:=l) rfl).2.2.1;split at h
  ·simp only[Prod.mk.injEq] at h; rw[<-h.1,<-h.2.1]; simp
  ·split at h
   ·simp only[Prod.mk.injEq] at h; rw[<-h.1,<-h.2.1]; simp
   ·split at h
    ·simp only[Prod.mk.injEq] at h; rw[<-h.1,<-h.2.1]; simp
    ·simp only[Prod.mk.injEq] at h; exact absurd h.2.2.symm e
def FM(W:World)(n:Nat)(d1 d2 kd b1 b2 f g:Int):World:=((((((W.setCell ⟨n,0,none⟩ (.int .u64 d1)).setCell ⟨n,1,none⟩ (.int .u64 d2)).setCell ⟨n,2,none⟩ (.int .i64 kd)).setCell ⟨n,3,none⟩ (.int .u64 b1)).setCell ⟨n,4,none⟩ (.int .u64 b2)).setCell ⟨n,5,none⟩ (.int .i64 f)).setCell ⟨n,6,none⟩ (.int .i64 g)
theorem oM(h:BK n #[x0,x1,x2,x3,x4,x5,x6] 222 W)(d1 d2 kd b1 b2 f g:Int):BK n #[.int .u64 d1,.int .u64 d2,.int .i64 kd,.int .u64 b1,.int .u64 b2,.int .i64 f,.int .i64 g] 222 (FM W n d1 d2 kd b1 b2 f g):=by
 unfold FM;have A:BK n #[.int .u64 d1,x1,x2,x3,x4,x5,x6] _ _:=h.set 0 (.int .u64 d1);have B:BK n #[.int .u64 d1,.int .u64 d2,x2,x3,x4,x5,x6] _ _:=A.set 1 (.int .u64 d2);have C:BK n #[.int .u64 d1,.int .u64 d2,.int .i64 kd,x3,x4,x5,x6] _ _:=B.set 2 (.int .i64 kd);have D:BK n #[.int .u64 d1,.int .u64 d2,.int .i64 kd,.int .u64 b1,x4,x5,x6] _ _:=C.set 3 (.int .u64 b1);have E:BK n #[.int .u64 d1,.int .u64 d2,.int .i64 kd,.int .u64 b1,.int .u64 b2,x5,x6] _ _:=D.set 4 (.int .u64 b2);have F:BK n #[.int .u64 d1,.int .u64 d2,.int .i64 kd,.int .u64 b1,.int .u64 b2,.int .i64 f,x6] _ _:=E.set 5 (.int .i64 f);exact F.set 6 (.int .i64 g)
theorem jK(h:Below B w W)(A:B<=n)(d1 d2 kd b1 b2 f g:Int):Below B w (FM W n d1 d2 kd b1 b2 f g):=((((((h.setCell A _).setCell A _).setCell A _).setCell A _).setCell A _).setCell A _).setCell A _
abbrev peZ:Array Value:=#[.int .u64 0,.int .u64 0,.int .i64 0,.int .u64 0,.int .u64 0,.int .i64 0,.int .i64 0]
theorem Jn(b:Qb)(k:Nat)(w:World)(hk:k<=b.length)(hl:(b.length:Int)<=70368744177664):Qh 245 #[.string ⟨b.toArray⟩,.int .i64 (k:Int)] w (GotPe b k w):=by
 have F2:=bH b;obtain⟨m,hm⟩:=Qe b.length;rw[<-hm] at F2 hk hl;have G5:IntKind.i64.wrap ((m:Int)-(k:Int))=(m:Int)-(k:Int):=wrap_i64 (by omega) (by omega);by_cases E5:m<k+16
 ·have hi:(m:Int)-(k:Int)<16:=by omega
  have L:=Qf (AP (b:=b) (k:=k) (by omega));clear hm;go_enter Tryz.func245,Tryz.ntmps245;go_wp2_with fail;refine bodyPost_ret (v:=.tuple #[.agg peZ,.bool false]) (by simp[results,Tryz.results245,go_sem]) rfl ?_;refine⟨⟨(0,0),0,(0,0),0,0⟩,false,rfl,(fun h=>by cases h),(fun _=>L.o),?_⟩
  repeat (first | exact bf _ | (refine Below.setCell ?_ (by simp) _) | (refine Below.alloc ?_ (by simp) _))
 have hi:¬(m:Int)-(k:Int)<16:=by omega
 have N:k+16<=b.length:=by omega
 have K:=fun W=>jY b k (by omega) W
 have J:(⟨b.toArray⟩:ByteArray).extract k m=⟨(b.drop k).toArray⟩:=by rw[dw,ag (by simp[hm])]
 have U:=Qf (fun W=>lh (b.drop k) W (by rw[ah]; omega) (by rw[ah]; omega));obtain⟨⟨D1,D2⟩,hD⟩:=Qe (CS (b.drop k));rw[<-hD] at U;obtain⟨S1,B0⟩:=Qe (b.drop k);rw[<-B0] at U K J;obtain⟨q,hq⟩:=Qe (k+16);have G9:IntKind.i64.wrap ((k:Int)+16)=(q:Int):=by rw[wrap_i64 (by omega) (by omega)]; omega
 have A5:=fun W=>jY b q (by omega) W
 have A3:(⟨b.toArray⟩:ByteArray).extract q m=⟨(b.drop q).toArray⟩:=by rw[dw,ag (by simp[hm])]
 obtain⟨kd,u,er,hg⟩:∃kd u er,Cw.getI (b.drop q)=(kd,u,er):=⟨_,_,_,rfl⟩;have HG:=Qf (fun X=>dQ (s:=⟨(b.drop q).toArray⟩) (n:=kd) (k:=u) (er:=er) (by simpa using hg) X);obtain⟨g1,g2,g3,g4⟩:=gH hg;rw[ah] at g4;obtain⟨u0,rfl⟩:∃u0:Nat,u=(u0:Int):=⟨u.toNat,by omega⟩;have B4:Cw.getI (b.drop (k+16))=(kd,(u0:Int),er):=by rw[<-hq]; exact hg
 have P:=Qf (Gh N B4);obtain⟨S2,B3⟩:=Qe (b.drop q);rw[<-B3] at HG A5 A3;have C5:Qg (BK w.heap.size peZ 222 ((w.alloc (.cells peZ 222)).alloc (.cells peZ 222))/\BK (w.heap.size+1) peZ 222 ((w.alloc (.cells peZ 222)).alloc (.cells peZ 222))/\PM w ((w.alloc (.cells peZ 222)).alloc (.cells peZ 222))):=Qf ⟨(BK.new _ _ _).alloc _,BK.new2 _ _ _ _,(ba w _).alloc (by simp) _⟩;have M:=Qf hm;have HD:=Qf hD;have F8:=Qf B0;have HQ:=Qf hq;have F9:=Qf B3;have A7:=Qf B4;clear hm hD B0 hq B3 B4 hg E5;go_enter Tryz.func245,Tryz.ntmps245;go_wp2_with fail
 refine(U.o _).mono ?_;rintro e u1 ⟨rfl,hb⟩
 obtain⟨z1,z2,z3⟩:=C5.o;have HZ:=Qf (z1.below hb);have Y:=z2.below hb;have C3:=Qf (z3.trans (hb.mono z3.size));have G:Qg (BK (w.heap.size+1) #[.int .u64 D1,.int .u64 D2,.int .i64 0,.int .u64 0,.int .u64 0,.int .i64 0,.int .i64 0] 222 ((u1.setCell ⟨w.heap.size+1,0,none⟩ (.int .u64 D1)).setCell ⟨w.heap.size+1,1,none⟩ (.int .u64 D2))):=Qf ((Y.set 0 _).set 1 _);have F:Qg (BK w.heap.size peZ 222 ((u1.setCell ⟨w.heap.size+1,0,none⟩ (.int .u64 D1)).setCell ⟨w.heap.size+1,1,none⟩ (.int .u64 D2))):=Qf ((HZ.o.other (by omega) _ _).other (by omega) _ _);have Q:Qg (PM w ((u1.setCell ⟨w.heap.size+1,0,none⟩ (.int .u64 D1)).setCell ⟨w.heap.size+1,1,none⟩ (.int .u64 D2))):=Qf ((C3.o.setCell (by simp) _).setCell (by simp) _);obtain⟨x0,x1,x2,x3,x4,x5,x6⟩:=BK.c7 Y;obtain⟨fx0,fx1,fx2,fx3,fx4,fx5,fx6⟩:=BK.f7 (Y);go_wp2_with fail
 refine(HG.o _).mono ?_;rintro e u2 ⟨rfl,rfl⟩
 clear HG U K J A5 A3;obtain⟨W1,C9⟩:=Qe ((u1.setCell ⟨w.heap.size+1,0,none⟩ (.int .u64 D1)).setCell ⟨w.heap.size+1,1,none⟩ (.int .u64 D2));rw[<-C9] at G F Q ⊢;clear C9 C5 HZ Y C3 x0 x1 x2 x3 x4 x5 x6 fx0 fx1 fx2 fx3 fx4 fx5 fx6 z1 z2 z3 hb;obtain⟨x0,x1,x2,x3,x4,x5,x6⟩:=BK.c7 G.o;obtain⟨fx0,fx1,fx2,fx3,fx4,fx5,fx6⟩:=BK.f7 (G.o);obtain⟨y0,y1,y2,y3,y4,y5,y6⟩:=BK.c7 F.o;obtain⟨fy0,fy1,fy2,fy3,fy4,fy5,fy6⟩:=BK.f7 (F.o);obtain⟨x0,x1,x2,x3,x4,x5,x6⟩:=BK.c7 G.o;obtain⟨fx0,fx1,fx2,fx3,fx4,fx5,fx6⟩:=BK.f7 (G.o);obtain⟨y0,y1,y2,y3,y4,y5,y6⟩:=BK.c7 F.o;obtain⟨fy0,fy1,fy2,fy3,fy4,fy5,fy6⟩:=BK.f7 (F.o);obtain⟨x0,x1,x2,x3,x4,x5,x6⟩:=BK.c7 G.o;obtain⟨fx0,fx1,fx2,fx3,fx4,fx5,fx6⟩:=BK.f7 (G.o);obtain⟨y0,y1,y2,y3,y4,y5,y6⟩:=BK.c7 F.o;obtain⟨fy0,fy1,fy2,fy3,fy4,fy5,fy6⟩:=BK.f7 (F.o);by_cases I:er≠0\/(kd≠0/\kd≠1)
 case pos=>
  have L:=Qf (P.o I);clear G P;by_cases he:er=0
  ·subst he
   have B5:kd≠0/\kd≠1:=I.elim (fun h=>absurd rfl h) id;have E7:(kd !=0)=true:=by simpa using B5.1
   have G0:(kd !=1)=true:=by simpa using B5.2
   clear B5 I;go_wp2_with fail;obtain⟨W9,B⟩:=Qe (FM W1 w.heap.size D1 D2 0 0 0 0 0);have E:=oM F.o D1 D2 0 0 0 0 0;have C:=jK Q.o nr D1 D2 0 0 0 0 0;rw[<-B] at E C;unfold FM at B;rw[<-B];clear B x0 x1 x2 x3 x4 x5 x6 fx0 fx1 fx2 fx3 fx4 fx5 fx6 y0 y1 y2 y3 y4 y5 y6 fy0 fy1 fy2 fy3 fy4 fy5 fy6;obtain⟨r0,r1,r2,r3,r4,r5,r6⟩:=BK.c7 E;refine bodyPost_ret (v:=.tuple #[.agg #[.int .u64 D1,.int .u64 D2,.int .i64 0,.int .u64 0,.int .u64 0,.int .i64 0,.int .i64 0],.bool false]) (by simp[results,Tryz.results245,go_sem,r0,r1,r2,r3,r4,r5,r6]) rfl ?_;exact⟨⟨(D1,D2),0,(0,0),0,0⟩,false,rfl,(fun h=>by cases h),(fun _=>L.o),C⟩
  ·have E7:(er !=0)=true:=by simpa using he
   clear I he;go_wp2_with fail;obtain⟨W9,B⟩:=Qe (FM W1 w.heap.size D1 D2 0 0 0 0 0);have E:=oM F.o D1 D2 0 0 0 0 0;have C:=jK Q.o nr D1 D2 0 0 0 0 0;rw[<-B] at E C;unfold FM at B;rw[<-B];clear B x0 x1 x2 x3 x4 x5 x6 fx0 fx1 fx2 fx3 fx4 fx5 fx6 y0 y1 y2 y3 y4 y5 y6 fy0 fy1 fy2 fy3 fy4 fy5 fy6;obtain⟨r0,r1,r2,r3,r4,r5,r6⟩:=BK.c7 E;refine bodyPost_ret (v:=.tuple #[.agg #[.int .u64 D1,.int .u64 D2,.int .i64 0,.int .u64 0,.int .u64 0,.int .i64 0,.int .i64 0],.bool false]) (by simp[results,Tryz.results245,go_sem,r0,r1,r2,r3,r4,r5,r6]) rfl ?_;exact⟨⟨(D1,D2),0,(0,0),0,0⟩,false,rfl,(fun h=>by cases h),(fun _=>L.o),C⟩
 obtain⟨he,E9⟩:er=0/\(kd=0\/kd=1):=by omega
 subst he;clear I P;have R:∀s:Qb,(s.length:Int)<=70368744177664->∃(x:Qb) (v:Nat) (er2:Int),Cw.getT s=(x,(v:Int),er2)/\x.length<=v/\v<=s.length/\Qg (∀X,Qh 126 #[.string ⟨s.toArray⟩] X fun e w'=>e=.returned (.tuple #[.string ⟨x.toArray⟩,.int .i64 (v:Int),.int .i64 er2])/\X=w'):=fun s hs=>by
  obtain⟨x,v,er2,H⟩:∃x v er2,Cw.getT s=(x,v,er2):=⟨_,_,_,rfl⟩;obtain⟨k3,k4,_⟩:=lZ H;have k5:=Jc H;obtain⟨v0,rfl⟩:∃v0:Nat,v=(v0:Int):=⟨v.toNat,by omega⟩;refine⟨x,v0,er2,H,by omega,by omega,Qf (fun X=>?_)⟩;have:=kD ⟨s.toArray⟩ X (by rw[bH]; omega);rw[show(⟨s.toArray⟩:ByteArray).data.toList=s by simp,H] at this;exact this
 obtain⟨p,hp⟩:=Qe (q+u0);have G4:p<=m:=by have:=M.o; have:=HQ.o; omega
 have G6:IntKind.i64.wrap ((q:Int)+(u0:Int))=(p:Int):=by rw[wrap_i64 (by omega) (by omega)]; omega
 have HP:=Qf hp;clear hp;have Z:=Qf (F.o.other (c:=w.heap.size+1) (by omega) 2 (.int .i64 kd));have C6:Qg (BK (w.heap.size+1) #[.int .u64 D1,.int .u64 D2,.int .i64 kd,.int .u64 0,.int .u64 0,.int .i64 0,.int .i64 0] 222 (W1.setCell ⟨w.heap.size+1,2,none⟩ (.int .i64 kd))):=Qf (G.o.set 2 _);have O:=Qf (Q.o.setCell (p:=⟨w.heap.size+1,2,none⟩) (by simp) (.int .i64 kd));clear G F Q g1 g2;rcases E9 with rfl | rfl
 ·obtain⟨x,v,er2,H,C0,S,HT⟩:=R (b.drop (p)) (by rw[ah]; have:=M.o; omega)
  have L:Qg (dY b k=if er2≠0 then none else some ⟨(D1,D2),0,(0,0),p+v-x.length,x.length⟩):=Qf (by
   have hq:=HQ.o;have hp:=HP.o;subst hq;subst hp;rw[LA N A7.o H];rw[<-HD.o])
  have B8:=bH x;obtain⟨xl,T⟩:=Qe x.length;rw[<-T] at B8 L C0;rw[ah] at S;have F0:p+v<=m:=by have:=M.o; omega
  have K:=fun W=>jY b (p) (by have:=M.o; omega) W
  have J:(⟨b.toArray⟩:ByteArray).extract (p) m=⟨(b.drop (p)).toArray⟩:=by rw[dw,ag (by simp[M.o])]
  generalize b.drop (p)=S5 at HT K J;obtain⟨pv,B6⟩:=Qe (p+v);obtain⟨f,hf⟩:=Qe (p+v-xl);rw[<-hf] at L;have F3:IntKind.i64.wrap (((p:Nat):Int)+(v:Int))=(pv:Int):=by rw[wrap_i64 (by omega) (by omega)]; omega
  have F4:IntKind.i64.wrap ((pv:Int)-(xl:Int))=(f:Int):=by rw[wrap_i64 (by omega) (by omega)]; omega
  clear R H T S B6 hf;go_wp2_with fail
  refine(HT.out _).mono ?_;rintro e u5 ⟨rfl,rfl⟩
  have C7:=Z.o.other (c:=w.heap.size+1) (by omega) 6 (.int .i64 (xl:Int));have E3:=Qf (C7.other (c:=w.heap.size+1) (by omega) 5 (.int .i64 (f:Int)));have D7:=Qf ((O.o.setCell (p:=⟨w.heap.size+1,6,none⟩) (by simp) (.int .i64 (xl:Int))).setCell (p:=⟨w.heap.size+1,5,none⟩) (by simp) (.int .i64 (f:Int)));clear C7 HT K J;go_wp2_with fail;obtain⟨W9,B⟩:=Qe (FM (((W1.setCell ⟨w.heap.size+1,2,none⟩ (.int .i64 0)).setCell ⟨w.heap.size+1,6,none⟩ (.int .i64 (xl:Int))).setCell ⟨w.heap.size+1,5,none⟩ (.int .i64 (f:Int))) w.heap.size D1 D2 0 0 0 (f:Int) (xl:Int));have E:=oM E3.o D1 D2 0 0 0 (f:Int) (xl:Int);have C:=jK D7.o nr D1 D2 0 0 0 (f:Int) (xl:Int);rw[<-B] at E C;unfold FM at B;rw[<-B];clear B x0 x1 x2 x3 x4 x5 x6 fx0 fx1 fx2 fx3 fx4 fx5 fx6 y0 y1 y2 y3 y4 y5 y6 fy0 fy1 fy2 fy3 fy4 fy5 fy6;obtain⟨r0,r1,r2,r3,r4,r5,r6⟩:=BK.c7 E;refine bodyPost_ret (v:=.tuple #[.agg #[.int .u64 D1,.int .u64 D2,.int .i64 0,.int .u64 0,.int .u64 0,.int .i64 (f:Int),.int .i64 (xl:Int)],.bool (er2==0)]) (by simp[results,Tryz.results245,go_sem,r0,r1,r2,r3,r4,r5,r6]) rfl ?_;refine⟨⟨(D1,D2),0,(0,0),f,xl⟩,er2==0,rfl,fun h=>?_,fun h=>?_,C⟩
  ·have e:er2=0:=by simpa using h
   rw[L.o,if_neg (by simp[e])]
  ·have e:er2≠0:=by simpa using h
   rw[L.o,if_pos e]
 ·have G8:IntKind.i64.wrap ((m:Int)-(p:Int))=(m:Int)-(p:Int):=wrap_i64 (by omega) (by omega)
  by_cases F1:m<p+16
  ·have E8:(m:Int)-(p:Int)<16:=by omega
   have L:=Qf (yF N A7.o (by have:=M.o; have:=HQ.o; have:=HP.o; omega));clear R F1;go_wp2_with fail;obtain⟨W9,B⟩:=Qe (FM (W1.setCell ⟨w.heap.size+1,2,none⟩ (.int .i64 1)) w.heap.size D1 D2 1 0 0 0 0);have E:=oM Z.o D1 D2 1 0 0 0 0;have C:=jK O.o nr D1 D2 1 0 0 0 0;rw[<-B] at E C;unfold FM at B;rw[<-B];clear B x0 x1 x2 x3 x4 x5 x6 fx0 fx1 fx2 fx3 fx4 fx5 fx6 y0 y1 y2 y3 y4 y5 y6 fy0 fy1 fy2 fy3 fy4 fy5 fy6;obtain⟨r0,r1,r2,r3,r4,r5,r6⟩:=BK.c7 E;refine bodyPost_ret (v:=.tuple #[.agg #[.int .u64 D1,.int .u64 D2,.int .i64 1,.int .u64 0,.int .u64 0,.int .i64 0,.int .i64 0],.bool false]) (by simp[results,Tryz.results245,go_sem,r0,r1,r2,r3,r4,r5,r6]) rfl ?_;exact⟨⟨(D1,D2),1,(0,0),0,0⟩,false,rfl,(fun h=>by cases h),(fun _=>L.o),C⟩
  ·have E8:¬(m:Int)-(p:Int)<16:=by omega
   have A6:=fun W=>jY b p (by have:=M.o; omega) W
   have A4:(⟨b.toArray⟩:ByteArray).extract p m=⟨(b.drop p).toArray⟩:=by rw[dw,ag (by simp[M.o])]
   have V:=Qf (fun W=>lh (b.drop p) W (by rw[ah]; have:=M.o; omega) (by rw[ah]; have:=M.o; omega));obtain⟨⟨B1,B2⟩,A9⟩:=Qe (CS (b.drop p));rw[<-A9] at V;have D9:=Qf A9;generalize b.drop p=S3 at V A6 A4;obtain⟨p2,A1⟩:=Qe (p+16);have G7:IntKind.i64.wrap ((p:Int)+16)=(p2:Int):=by rw[wrap_i64 (by omega) (by omega)]; omega
   have E2:=Qf A1;clear A9;go_wp2_with fail
   refine(V.o _).mono ?_;rintro e u5 ⟨rfl,hb⟩
   have A2:=Z.o.below hb;have B9:=C6.o.below hb;have D0:=O.o.trans (hb.mono O.o.size);clear V A6 A4 x0 x1 x2 x3 x4 x5 x6 fx0 fx1 fx2 fx3 fx4 fx5 fx6 y0 y1 y2 y3 y4 y5 y6 fy0 fy1 fy2 fy3 fy4 fy5 fy6 hb;obtain⟨x0,x1,x2,x3,x4,x5,x6⟩:=BK.c7 B9;obtain⟨fx0,fx1,fx2,fx3,fx4,fx5,fx6⟩:=BK.f7 (B9);obtain⟨y0,y1,y2,y3,y4,y5,y6⟩:=BK.c7 A2;obtain⟨fy0,fy1,fy2,fy3,fy4,fy5,fy6⟩:=BK.f7 (A2);have C8:=Qf ((A2.other (c:=w.heap.size+1) (by omega) 3 (.int .u64 B1)).other (c:=w.heap.size+1) (by omega) 4 (.int .u64 B2));have C4:=Qf ((D0.setCell (p:=⟨w.heap.size+1,3,none⟩) (by simp) (.int .u64 B1)).setCell (p:=⟨w.heap.size+1,4,none⟩) (by simp) (.int .u64 B2));clear A2 B9 D0 Z C6 O;have F7:p2<=m:=by omega
   clear A1;obtain⟨x,v,er2,H,C0,S,HT⟩:=R (b.drop (p2)) (by rw[ah]; have:=M.o; omega);have L:Qg (dY b k=if er2≠0 then none else some ⟨(D1,D2),1,(B1,B2),p2+v-x.length,x.length⟩):=Qf (by
    have hq:=HQ.o;have hp:=HP.o;subst hq;subst hp;have A1:=E2.o;subst A1;rw[Lx N A7.o (by have:=M.o; omega) H];rw[<-HD.o,<-D9.o])
   have B8:=bH x;obtain⟨xl,T⟩:=Qe x.length;rw[<-T] at B8 L C0;rw[ah] at S;have F0:p2+v<=m:=by have:=M.o; omega
   have K:=fun W=>jY b (p2) (by have:=M.o; omega) W
   have J:(⟨b.toArray⟩:ByteArray).extract (p2) m=⟨(b.drop (p2)).toArray⟩:=by rw[dw,ag (by simp[M.o])]
   generalize b.drop (p2)=S5 at HT K J;obtain⟨pv,B6⟩:=Qe (p2+v);obtain⟨f,hf⟩:=Qe (p2+v-xl);rw[<-hf] at L;have F3:IntKind.i64.wrap (((p2:Nat):Int)+(v:Int))=(pv:Int):=by rw[wrap_i64 (by omega) (by omega)]; omega
   have F4:IntKind.i64.wrap ((pv:Int)-(xl:Int))=(f:Int):=by rw[wrap_i64 (by omega) (by omega)]; omega
   clear R H T S B6 hf;go_wp2_with fail
   refine(HT.out _).mono ?_;rintro e u6 ⟨rfl,rfl⟩
   have E4:=Qf ((C8.o.other (c:=w.heap.size+1) (by omega) 6 (.int .i64 (xl:Int))).other (c:=w.heap.size+1) (by omega) 5 (.int .i64 (f:Int)));have D8:=Qf ((C4.o.setCell (p:=⟨w.heap.size+1,6,none⟩) (by simp) (.int .i64 (xl:Int))).setCell (p:=⟨w.heap.size+1,5,none⟩) (by simp) (.int .i64 (f:Int)));clear HT K J C8 C4;go_wp2_with fail;obtain⟨W9,B⟩:=Qe (FM ((((u5.setCell ⟨w.heap.size+1,3,none⟩ (.int .u64 B1)).setCell ⟨w.heap.size+1,4,none⟩ (.int .u64 B2)).setCell ⟨w.heap.size+1,6,none⟩ (.int .i64 (xl:Int))).setCell ⟨w.heap.size+1,5,none⟩ (.int .i64 (f:Int))) w.heap.size D1 D2 1 B1 B2 (f:Int) (xl:Int));have E:=oM E4.o D1 D2 1 B1 B2 (f:Int) (xl:Int);have C:=jK D8.o nr D1 D2 1 B1 B2 (f:Int) (xl:Int);rw[<-B] at E C;unfold FM at B;rw[<-B];clear B x0 x1 x2 x3 x4 x5 x6 fx0 fx1 fx2 fx3 fx4 fx5 fx6 y0 y1 y2 y3 y4 y5 y6 fy0 fy1 fy2 fy3 fy4 fy5 fy6;obtain⟨r0,r1,r2,r3,r4,r5,r6⟩:=BK.c7 E;refine bodyPost_ret (v:=.tuple #[.agg #[.int .u64 D1,.int .u64 D2,.int .i64 1,.int .u64 B1,.int .u64 B2,.int .i64 (f:Int),.int .i64 (xl:Int)],.bool (er2==0)]) (by simp[results,Tryz.results245,go_sem,r0,r1,r2,r3,r4,r5,r6]) rfl ?_;refine⟨⟨(D1,D2),1,(B1,B2),f,xl⟩,er2==0,rfl,fun h=>?_,fun h=>?_,C⟩
   ·have e:er2=0:=by simpa using h
    rw[L.o,if_neg (by simp[e])]
   ·have e:er2≠0:=by simpa using h
    rw[L.o,if_pos e]
def J9(w:World)(r:List Pe×Int)(e:Ending)(w':World):Prop:=∃a c,e=.returned (.tuple #[.slice a r.1.length c,.int .i64 r.2])/\GIn tX 7 w'.heap.size w' a r.1/\PM w w'
theorem J9.no(er:Int)(A:PM w w'):J9 w ([],er) (.returned (.tuple #[.slice none 0 0,.int .i64 er])) w':=⟨none,0,rfl,GIn.nil _ _ _,A⟩
theorem OY:(Tryz.prog.info? 222).map (fun i=>(i.zero,i.size,i.bytes))=some (some (.agg #[.int .u64 0,.int .u64 0,.int .i64 0,.int .u64 0,.int .u64 0,.int .i64 0,.int .i64 0]),7,56):=by kernel_rfl
theorem JW{base:Nat}{l:List Pe}(I:n=l.length)(D:W.ownsRow base 222 7 v n (gcs tX l))(x:Pe)(C:(n:Int)<=1000000)(B:base<=W.heap.size):
  ∃v' W',Qg ((Builtin.append_ #[216,216] 216 #[v,.slice (some ⟨W.heap.size,0,none⟩) 1 1]).run Tryz.prog (W.alloc (.cells (tX x).toArray 222))=.ok v' W')/\W'.ownsRow base 222 7 v' (n+1) (gcs tX (l++[x]))/\(W.alloc (.cells (tX x).toArray 222)).grownBy W' v.ownBlock/\(v'.ownBlock=v.ownBlock\/v'.ownBlock=some (W.heap.size+1)):=by
 obtain⟨i0,H,E,F,G⟩:=info_parts OY;exact jb OT Tryz.underlying216 H E F G rfl I D x C (by decide) B
structure Kg (b:Qb) (R:List Pe×Int) (n k p:Nat) (l:List Pe):Prop where
 go:R=D8 b (n-k) p l
 len:l.length=k
 le:p<=b.length
theorem Kg.none{R:List Pe×Int}{l:List Pe}(h:Kg b R n k p l)(B:k<n)(A:dY b p=none):R=([],13):=by
 rw[h.go,show n-k=(n-(k+1))+1 by omega,D8,A]
theorem Kg.met{R:List Pe×Int}{l:List Pe}{x:Pe}(h:Kg b R n k p l)(C:k<n)(A:dY b p=some x)(B:x.d∈l.map (·.d)):R=([],13):=by
 rw[h.go,show n-k=(n-(k+1))+1 by omega,D8,A]; simp only; rw[if_pos B]
theorem Kg.next{R:List Pe×Int}{l:List Pe}{x:Pe}(h:Kg b R n k p l)(C:k<n)(A:dY b p=some x)(B:¬x.d∈l.map (·.d)):Kg b R n (k+1) (x.off+x.len) (l++[x]):=by
 refine⟨?_,by rw[af,h.len]; rfl,(iB A).1.hi⟩;rw[h.go,show n-k=(n-(k+1))+1 by omega,D8,A]; simp only; rw[if_neg B]
theorem Kg.fin{R:List Pe×Int}{l:List Pe}(h:Kg b R n n p l):R=if p=b.length then(l,0) else([],13):=by
 rw[h.go,Nat.sub_self,D8]
theorem Ir(l:List Pe)(x:Pe)(d:Int×Int):(decide (d∈l.map (·.d))||decide (d=x.d))=decide (d∈(l++[x]).map (·.d)):=by
 rw[<-Bool.decide_or];congr 1;simp
theorem CW(s:Qb)(w:World)(hl:(s.length:Int)<=70368744177664):Qh 230 #[.string ⟨s.toArray⟩] w (J9 w (bi s)):=by
 have E6:=bH s;have F0:=Qf (Below.refl w.heap.size w);by_cases Y:s.length<16
 ·have N:Qg (bi s=([],12)):=Qf (by unfold bi; rw[if_pos Y])
  obtain⟨n,hn⟩:=Qe s.length;rw[<-hn] at E6 hl Y;have E7:IntKind.i64.wrap ((n:Int)-16)=(n:Int)-16:=by simp[IntKind.wrap,IntKind.bits,IntKind.signed]; omega
  have hi:(n:Int)-16<0:=by omega
  rw[N.o];clear hn N;go_enter Tryz.func230,Tryz.ntmps230;go_wp2_with fail;go_ret2;exact J9.no 12 F0.o
 obtain⟨m,hm⟩:=Qe (s.length-16);have E7:IntKind.i64.wrap ((s.length:Int)-16)=(m:Int):=by rw[wrap_i64 (by omega) (by omega)]; omega
 have hi:¬(m:Int)<0:=by omega
 have E5:=fun W=>OJ s m (by omega) W
 have D7:(⟨s.toArray⟩:ByteArray).extract 0 m=⟨(s.take m).toArray⟩:=by rw[dw]; rfl
 have C1:=fun W=>jY s m (by omega) W
 have Z:(⟨s.toArray⟩:ByteArray).extract m s.length=⟨(s.drop m).toArray⟩:=by rw[dw,ag (by simp)]
 have Q:=Qf (fun W=>qV (s.take m) W (by rw[aA]; omega));have R:=Qf (fun W=>lh (s.drop m) W (by rw[ah]; omega) (by rw[ah]; omega));have N:Qg (bi s=if iY (s.take m)≠CS (s.drop m) then([],14) else tY (s.take m)):=Qf (by unfold bi; rw[if_neg Y,<-hm]);have B3:(s.take m).length=m:=by rw[aA]; omega
 generalize s.take m=b at E5 D7 Q N B3;have D8:=Cx (s.drop m);generalize s.drop m=b2 at C1 Z R N D8;generalize F6:iY b=D1 at Q N;generalize F7:CS b2=D2 at R N D8;obtain⟨x1,y1⟩:=D1;obtain⟨x2,y2⟩:=D2;simp only at Q R;obtain⟨E,hE⟩:=Qe (bi s);rw[<-hE] at N ⊢;obtain⟨n,hn⟩:=Qe s.length;rw[<-hn] at E6 hl E7 Z Y hm;have G3:(m:Int)<=70368744177664:=by omega
 have A4:=fun W=>nI x1 y1 x2 y2 W
 have U:=Qf (fun d os=>Calls.regrown_of (w:=w) (d:=d) (os:=os) (Q.o _));have V:=Qf (fun d os=>Calls.regrown_of (w:=w) (d:=d) (os:=os) (R.o _));have G6:=bH b;rw[B3] at G6;have P:=Qf B3;clear hE F6 F7 hn hm Y B3 Q R;by_cases F:(x1,y1)=(x2,y2)
 case neg=>
  have hb:(x1==x2&&y1==y2)=false:=by
   cases h:(x1==x2&&y1==y2) with
   | false=>rfl
   | true=>exact absurd (by simp only[Bool.and_eq_true,beq_iff_eq] at h; rw[h.1,h.2]) F
  have S:Qg (E=([],14)):=Qf (by rw[N.o,if_pos F]);rw[hb] at A4;simp only[Bool.not_false] at A4;clear F N hb;go_enter Tryz.func230,Tryz.ntmps230;go_wp2_with fail;refine wp_region_quiet_below (by kernel_rfl) (by kernel_rfl) ?_
  repeat (any_goals (first | go_big_quiet_step (first | (with_reducible exact U.o _ _) | (with_reducible exact V.o _ _)) | quiet_step (first | (with_reducible exact U.o _ _) | (with_reducible exact V.o _ _))))
  refine wpQuiet_nil ?_;intro w2 A5;have D:=Qf (aX A5);clear A5;go_wp2_with fail;go_ret2;rw[S.o];exact J9.no 14 D.o
 case pos=>
 have S:Qg (E=tY b):=Qf (by rw[N.o,if_neg (by simp[F])]);have hb:(x1==x2&&y1==y2)=true:=by
  simp only[Prod.mk.injEq] at F;simp[F.1,F.2]
 rw[hb] at A4;simp only[Bool.not_true] at A4;clear F N hb;obtain⟨kn,u,er,hg⟩:∃kn u er,Cw.getI b=(kn,u,er):=⟨_,_,_,rfl⟩;have HG:=Qf (fun X=>dQ (s:=⟨b.toArray⟩) (n:=kn) (k:=u) (er:=er) (by simpa using hg) X);obtain⟨g1,g2,g3,g4⟩:=gH hg;obtain⟨u0,rfl⟩:∃u0:Nat,u=(u0:Int):=⟨u.toNat,by omega⟩;obtain⟨n0,rfl⟩:∃n0:Nat,kn=(n0:Int):=⟨kn.toNat,by omega⟩;have J:Qg (er≠0\/1000<(n0:Int)->E=([],13)):=Qf (fun h=>by rw[S.o]; unfold tY; rw[hg]; simp only; rw[if_pos h]);have B1:Qg (¬(er≠0\/1000<(n0:Int))->Kg b E n0 0 u0 []):=Qf (fun h=>⟨by rw[S.o]; unfold tY; rw[hg]; simp only; rw[if_neg h]; simp,rfl,by omega⟩);clear hg S;have G2:=@run_makeMap Tryz.prog;go_enter Tryz.func230,Tryz.ntmps230;go_wp2_with fail;refine wp_region_quiet_below (by kernel_rfl) (by kernel_rfl) ?_
 repeat (any_goals (first | go_big_quiet_step (first | (with_reducible exact U.o _ _) | (with_reducible exact V.o _ _)) | quiet_step (first | (with_reducible exact U.o _ _) | (with_reducible exact V.o _ _))))
 refine wpQuiet_nil ?_;intro w2 A5;have D:=Qf (aX A5);clear A5 A4 U V E5 C1 D7 Z;go_wp2_with fail
 refine(HG.o _).mono ?_;rintro e w3 ⟨rfl,rfl⟩
 clear HG;by_cases B:er≠0\/1000<(n0:Int)
 case pos=>
  have C8:=Qf (J.o B);by_cases he:er=0
  ·subst he
   have H9:1000<(n0:Int):=B.elim (fun h=>absurd rfl h) id;clear B J B1;go_wp2_with fail;go_ret2;rw[C8.o];exact J9.no 13 D.o
  ·have H7:(er !=0)=true:=by simpa using he
   clear B J B1 he;go_wp2_with fail;go_ret2;rw[C8.o];exact J9.no 13 D.o
 case neg=>
 have D5:=Qf (B1.o B);have I0:¬1000<(n0:Int):=fun h=>B (.inr h)
 obtain rfl:er=0:=by
  by_cases e:er=0
  ·exact e
  ·exact absurd (.inl e) B
 clear B J B1 g1 g2;obtain⟨q,hq⟩:=Qe w2.heap.size;have D0:Qg (pO q 0 (fun d=>decide (d∈([]:List Pe).map (·.d))) (w2.alloc (.map #[] 0))):=Qf (by rw[hq]; exact(pO.made w2).eq (fun d=>by simp));have C7:=Qf (D.o.alloc D.o.size (.map #[] 0));have HQ:Qg (w.heap.size<=q):=Qf (by rw[hq]; exact D.o.size);go_wp2_with fail;rw[<-hq];clear D hq;go_loopw [7,9,42] (fun a v i wr=>∃(k p:Nat) (ls:List Pe),k<=n0/\a=.int .i64 (p:Int)/\i=.int .i64 (k:Int)/\Qg (Kg b E n0 k p ls)/\Qg (pO q k (fun d=>decide (d∈ls.map (·.d))) wr)/\Qg (wr.ownsRow (q+1) 222 7 v k (gcs tX ls))/\Qg (PM w wr)) (fun _ _ i _=>n0-(intOf i).toNat)
 case atStart=>exact⟨0,u0,[],by omega,rfl,rfl,D5,D0,Qf (World.ownsRow_nil _ _ _ _),C7⟩
 case round=>
  clear D5 D0 C7 G2;obtain⟨k,p,ls,hk,rfl,rfl,O,HM,HO,HB⟩:=hrel;obtain⟨va,vc,rfl,I1⟩:=aB HO.out;have G5:p<=m:=by rw[<-P.o]; exact O.out.le
  by_cases C4:k<n0
  ·have G0:(k:Int)<(n0:Int):=by omega
   have HC:=Qf (Jn b p wr (by rw[P.o]; exact G5) (by rw[P.o]; exact G3));go_wp2_with fail
   refine HC.o.mono ?_;rintro e u1 ⟨x,t,rfl,ht,hf,hb⟩
   have L:=Qf (HB.out.trans (hb.mono HB.out.size));have T:=Qf (own_below HO.out hb);have A9:=Qf (HM.out.below hb);clear hb HB HO HM HC;cases t with
   | false=>
    have I:=Qf (O.out.none C4 (hf rfl));have H:=Qf (L.o.alloc L.o.size (.cells (tX x).toArray 222));obtain⟨⟨d1,d2⟩,kd,⟨b1,b2⟩,off,len⟩:=x;simp only[Pe.val,tX] at H ⊢;clear ht hf L T A9 O;go_wp2_with fail;go_ret2;rw[I.o];exact J9.no 13 H.o
   | true=>
    have M:=ht rfl;have B7:=(iB M).1.dok;have C5:=(iB M).1.hi;rw[P.o] at C5;have G8:IntKind.i64.wrap ((x.off:Int)+(x.len:Int))=((x.off+x.len:Nat):Int):=by rw[wrap_i64 (by omega) (by omega)]; omega
    obtain⟨u2,G⟩:=Qe (u1.alloc (.cells (tX x).toArray 222));have B4:PM u1 u2:=by rw[G]; exact ba _ _
    have A8:=Qf (L.o.trans (B4.mono L.o.size));have C3:=Qf (own_below T.o B4);have B0:=Qf (A9.o.below B4);have B2:Qg (BK u1.heap.size (tX x).toArray 222 u2):=Qf (by rw[G]; exact BK.new _ _ _);have D6:=Qf G;have H5:=A9.o.lt;clear B4 L A9 ht hf;have B6:=B0.o.look B7;obtain⟨⟨d1,d2⟩,kd,⟨b1,b2⟩,off,len⟩:=x;simp only[Pe.val,tX] at *
    obtain⟨x0,x1,x2,x3,x4,x5,x6⟩:=BK.c7 B2.o;by_cases C:(d1,d2)∈ls.map (·.d)
    ·have I:=Qf (O.out.met C4 M C)
     rw[decide_eq_true C] at B6;have H:=Qf A8.o;rw[G] at B6 x0 x1 x2 x3 x4 x5 x6 H;clear G D6 B2 B0 C3 A8 C M B7 C5 G8 O;go_wp2_with fail;go_ret2;rw[I.o];exact J9.no 13 H.o
    ·rw[decide_eq_false C] at B6
     have F5:=Qf (O.out.next C4 M C);have D9:=O.out.len;have D3:=Qf (Ir ls ⟨(d1,d2),kd,(b1,b2),off,len⟩);obtain⟨u3,E2,B9,A1⟩:=B0.o.put B7 (by omega);have E1:∀g,(Value.slice va k vc).ownBlock=some g->g<u1.heap.size:=fun g hg=>(T.o.lt g hg).2
     have A6:=B2.o.grow1 A1 (by omega);have K:=bE A8.o A1 HQ.o;have A2:=bD C3.o A1 (by omega);have C2:=Qf (B9.eq D3.o);have E4:=A1.size;have E3:u2.heap.size=u1.heap.size+1:=by rw[G]; simp
     obtain⟨v',W',C0,A3,B5,_⟩:=JW D9.symm A2 ⟨(d1,d2),kd,(b1,b2),off,len⟩ (by omega) (by have:=C2.o.lt; omega);have B8:=Qf C0.out;have F4:=Qf A3;have E8:=(A6.alloc (.cells (tX ⟨(d1,d2),kd,(b1,b2),off,len⟩).toArray 222)).grow B5 (fun g hg=>by have:=E1 g hg; omega);have F3:=Qf ((C2.o.alloc (.cells (tX ⟨(d1,d2),kd,(b1,b2),off,len⟩).toArray 222)).kept B5 (lS A2 (by omega)));have H:Qg (PM w W'):=Qf ((K.alloc K.size _).grown B5 (by simp; have:=K.size; omega) (fun g hg=>by have:=(T.o.lt g hg).1; have:=HQ.o; omega));obtain⟨y0,y1,y2,y3,y4,y5,y6⟩:=BK.c7 A6;obtain⟨z0,z1,z2,z3,z4,z5,z6⟩:=BK.c7 E8;simp only[tX] at B8;rw[G] at B6 x0 x1 x2 x3 x4 x5 x6 E2;clear G D6 B2 B0 C3 A8 C M B7 C5 O E1 A6 K A2 B9 A1 B5 A3 C0 C2 D3 E8 E4 E3 T D9;go_wp2_with (at_builtin; refine Lib.wpList_append_run _ rfl _ _ _ _ rfl _ _ rfl rfl _ _ B8.o ?_);go_roundw
     case rel=>exact⟨k+1,off+len,_,by omega,rfl,by go_num,F5,F3,F4,H⟩
     case measure=>simp[intOf] <;> omega
  ·obtain rfl:k=n0:=by omega
   have G0:¬(k:Int)<(k:Int):=by omega
   have HF:=Qf O.out.fin;rw[P.o] at HF;have HI:=Qf (jw OT O.out.len.symm HO.out);have F1:=Qf O.out.len;clear O HM HO;by_cases hp:p=m
   ·subst hp
    have I:Qg (E=(ls,0)):=Qf (by rw[HF.o,if_pos rfl]);clear HF;go_wp2_with fail;go_ret2;rw[I.o];exact⟨va,vc,by rw[F1.o]; rfl,HI.o,HB.out⟩
   ·have H4:((p:Int) !=(m:Int))=true:=by simp; omega
    have I:Qg (E=([],13)):=Qf (by rw[HF.o,if_neg hp]);clear HF hp;go_wp2_with fail;go_ret2;rw[I.o];exact J9.no 13 HB.out
def KD(v:Value):Option (DataW Value×List MemPlace):=some (.held v,[])
def optG:Option Value->DataW Value->DataW Value
 | some v,_=>.held v
 | none,z=>z
structure N8 (α:Type) where
 kt:TypeId
 val:α->Value
 lit:α->Lit
 ok:α->Prop
 law:Maps.Keyed Tryz.prog kt
 get:∀a,ok a->keyOf Tryz.prog kt (val a)=some (lit a)
 inj:∀a b,ok a->ok b->lit a=lit b->a=b
def fT{α:Type}(G:N8 α)(b n:Nat)(F:α->Option Value)(W:World):Prop:=
 ∃D:DataW Value,W.ownsMap Tryz.prog G.kt KD b n D/\∀a,G.ok a->∀z,D.atKey (G.lit a) z=optG (F a) z
section
variable {α:Type} {G:N8 α} {b n:Nat} {F:α->Option Value} {W:World}
theorem fT.made(G:N8 α)(W:World):fT G W.heap.size 0 (fun _=>none) (W.alloc (.map #[] 0)):=⟨.map [],World.ownsMap_made _ _ _ _,fun d _ z=>WideAt.atKey_none _ (fun p A=>by simp at A)⟩
theorem fT.lt(h:fT G b n F W):b<W.heap.size:=by obtain⟨D,A,_⟩:=h; exact A.lt
theorem fT.kept{row:Option Nat}(h:fT G b n F W)(E:W.grownBy W' row)(A:some b≠row):fT G b n F W':=by obtain⟨D,B,C⟩:=h; exact⟨D,B.kept E A,C⟩
theorem fT.alloc(h:fT G b n F W)(o:Obj):fT G b n F (W.alloc o):=by obtain⟨D,A,B⟩:=h; exact⟨D,A.alloc o,B⟩
theorem fT.below(h:fT G b n F W)(A:PM W W'):fT G b n F W':=h.kept (row:=none) ⟨A.os,A.tape,A.output,A.size,fun k B _=>A.block k B⟩ (by simp)
theorem fT.eq{F':α->Option Value}(h:fT G b n F W)(e:∀d,F d=F' d):fT G b n F' W:=by
 have:F=F':=funext e;rw[<-this]; exact h
theorem fT.mono{n':Nat}(h:fT G b n F W)(C:n<=n'):fT G b n' F W:=by obtain⟨D,A,B⟩:=h; exact⟨D,A.mono C,B⟩
theorem Lf{D:DataW Value}{k:Lit}(h:∀z,D.atKey k z=optG o z):Maps.has D k=o.isSome:=by
 cases o with
 | none=>exact Maps.has_false_of_atKey h
 | some v=>exact Maps.has_true_of_atKey h
theorem He{y:DataW Value×List MemPlace}(h:KD v=some y):y=(.held v,[]):=by unfold KD at h; injection h with h; exact h.symm
theorem zQ{ps:List MemPlace}(h:KD v=some (optG o (.held z),ps)):v=o.getD z:=by
 have:=He h;cases o <;> simp[optG] at this ⊢ <;> exact this.1.symm
theorem fT.look{t e:TypeId}(h:fT G b n F W)(J:Tryz.prog.underlying t=some (.map G.kt e))(K:(zeroValue e).run Tryz.prog W=.ok z W){a:α}(C:G.ok a):(Instr.lookup t (.map (some b)) (G.val a) false).run Tryz.prog W=.ok ((F a).getD z) W:=by
 obtain⟨D,H,I⟩:=h;obtain⟨v,ps,B,E⟩:=H.lookup G.law J K (zd:=.held z) (zp:=[]) rfl (G.get a C);rw[I _ C] at E;rw[B,zQ E]
theorem fT.lookOk{t e:TypeId}(h:fT G b n F W)(J:Tryz.prog.underlying t=some (.map G.kt e))(K:(zeroValue e).run Tryz.prog W=.ok z W){a:α}(C:G.ok a):(Instr.lookup t (.map (some b)) (G.val a) true).run Tryz.prog W=.ok (.tuple #[(F a).getD z,.bool (F a).isSome]) W:=by
 obtain⟨D,I,E⟩:=h;obtain⟨v,ps,B,H⟩:=I.look_ok G.law J K (zd:=.held z) (zp:=[]) rfl (G.get a C);rw[E _ C] at H;rw[B,zQ H,Lf (E _ C)]
theorem fT.put[DecidableEq α]{t e:TypeId}(h:fT G b n F W)(L:Tryz.prog.underlying t=some (.map G.kt e)){a:α}(H:G.ok a)(N:(n:Int)<=1000000000)(v:Value):
  ∃W',(Instr.mapUpdate t (.map (some b)) (G.val a) v).run Tryz.prog W=.ok () W'/\fT G b (n+1) (fun d=>if d=a then some v else F d) W'/\W.grownBy W' (some b)/\W'.heap.size=W.heap.size:=by
 obtain⟨D,I,J⟩:=h;obtain⟨W',C,K,E⟩:=I.store G.law L (by unfold maxLen; omega) (G.get a H) (d:=.held v) (ps:=[]) rfl;refine⟨W',C,⟨_,K,fun d B z=>?_⟩,E.grown,?_⟩
 ·by_cases e:d=a
  ·subst e
   rw[Maps.atKey_put_same I.isMap (G.law.key (G.get d H))];simp[optG]
  ·rw[Maps.atKey_put_other (fun h=>e (G.inj _ _ B H h)),J _ B]
   simp only[if_neg e]
 ·obtain⟨es,clock,es',clock',M,rfl⟩:=E
  simp[ChangeMaps.setBlock]
end
noncomputable def vH:N8 (Int×Int):=⟨54,PH,Ef,OkD,Ki,fun _ h=>fK h,fun _ _ h h'=>su h h'⟩
def okN(n:Int):Prop:=0<=n/\n<=1000000000
theorem IE{n:Int}(h:okN n):keyOf Tryz.prog 3 (.int .i64 n)=some (.int .i64 n):=by
 unfold okN at h;exact Maps.keyOf_int_mk Tryz.underlying3 (by
  simp[Lit.wf,IntKind.min,IntKind.max,IntKind.signed,IntKind.bits]
  omega)
def Oq:N8 Int:=⟨3,fun n=>.int .i64 n,fun n=>.int .i64 n,okN,Maps.int_keyed Tryz.underlying3,fun _ h=>IE h,fun a b _ _ e=>by injection e⟩
structure Rdr where
 ib:Nat
 s:Qb
 l:List Pe
 ea:Qa
 ec:Nat
 xs:List Itm
 pa:Qa
 pc:Nat
def iX(r:Qb×Int):Value:=.agg #[.string ⟨r.1.toArray⟩,.int .i64 r.2]
def Rdr.dat(R:Rdr)(i:Nat):Qb×Int:=NK R.s R.xs R.l i
def Oo(K:Int->Option Value)(m:Nat):Nat:=((List.range m).filter fun i:Nat=>(K (i:Int)).isSome).length
structure Rdr.Ok (R:Rdr):Prop where
 asc:Asc R.xs
 val:∀x∈R.xs,(bI x.data).2=0
 dig:∀x∈R.xs,OkD x.d
 xl:(R.xs.length:Int)<=100000000
 xd:∀x∈R.xs,(x.data.length:Int)<=140737488355328
 pc:R.xs.length<=R.pc
 sl:(R.s.length:Int)<=70368744177664
 ents:kN (R.s.take (R.s.length-16)) R.l
 ll:R.l.length<=1000
structure Rdr.In (R:Rdr) (K:Int->Option Value) (W:World):Prop where
 box:BK (R.ib+1+1) #[.string ⟨R.s.toArray⟩,.slice R.ea R.l.length R.ec,.slice R.pa R.xs.length R.pc,.map (some R.ib),.map (some (R.ib+1))] 268 W
 ents:GIn tX 7 R.ib W R.ea R.l
 its:Its R.ib W R.pa R.xs
 idx:∃n,fT vH R.ib n (fun d=>(rE R.l d).map fun i=>.int .i64 (i:Int)) W
 kn:fT Oq (R.ib+1) (Oo K R.l.length) K W
 right:∀i v,K i=some v->∃j:Nat,i=(j:Int)/\j<R.l.length/\v=iX (R.dat j)
theorem Nu(K:Int->Option Value)(m:Nat):Oo K m<=m:=by
 have:=List.length_filter_le (fun i:Nat=>(K (i:Int)).isSome) (List.range m);rw[List.length_range] at this;exact this
theorem K8{K:Int->Option Value}{m i:Nat}(B:i<m)(C:K (i:Int)=none)(v:Value):Oo (fun d=>if d=(i:Int) then some v else K d) m=Oo K m+1:=by
 unfold Oo;have key:∀n,n<=m->((List.range n).filter fun j:Nat=>((if((j:Nat):Int)=(i:Int) then some v else K (j:Int))).isSome).length=((List.range n).filter fun j:Nat=>(K (j:Int)).isSome).length+(if i<n then 1 else 0):=by
  intro n;induction n with
  | zero=>intro _; simp
  | succ n ih=>
   intro D;have A:=ih (by omega);rw[List.range_succ,vX,vX,af,af,A];by_cases e:n=i
   ·subst e
    simp[C]
   ·have e2:((n:Nat):Int)≠(i:Int):=by omega
    by_cases e3:i<n
    ·rw[if_pos e3,if_pos (by omega)]
     simp only[kK,List.filter_nil,if_neg e2];split <;> simp <;> omega
    ·rw[if_neg e3,if_neg (by omega)]
     simp only[kK,List.filter_nil,if_neg e2];omega
 have:=key m nr;rw[if_pos B] at this;exact this
section
variable {R:Rdr} {K:Int->Option Value} {W:World}
theorem Rdr.In.lt(h:R.In K W):R.ib+1+1<W.heap.size:=h.box.lt
theorem Rdr.In.grown(h:R.In K W){c:Option Nat}(A:W.grownBy W' c)(C:∀b,c=some b->R.ib+1+1<b):R.In K W':=by
 obtain⟨n,D⟩:=h.idx;have B:Below R.ib W W':=⟨A.os,A.tape,A.output,A.size,fun k E=>A.block k (by have:=h.lt; omega) (fun e=>by have:=C k e.symm; omega)⟩;exact⟨h.box.grow A (fun k e=>by have:=C k e; omega),h.ents.below B nr,h.its.below B nr,⟨n,D.kept A (fun e=>by have:=C _ e.symm; omega)⟩,h.kn.kept A (fun e=>by have:=C _ e.symm; omega),h.right⟩
theorem Rdr.In.below(h:R.In K W)(A:PM W W'):R.In K W':=h.grown (c:=none) ⟨A.os,A.tape,A.output,A.size,fun k B _=>A.block k B⟩ (fun b e=>by cases e)
theorem Rdr.In.alloc(h:R.In K W)(o:Obj):R.In K (W.alloc o):=h.below (ba _ _)
theorem Rdr.In.set(h:R.In K W){c:Nat}(A:R.ib+1+1<c)(j:Nat)(v:Value):R.In K (W.setCell ⟨c,j,none⟩ v):=h.grown (dN _ _ _ _) (fun b e=>by cases e; exact A)
theorem Rdr.In.put(h:R.In K W){W':World}{i:Nat}(D:i<R.l.length)(A:W.grownBy W' (some (R.ib+1)))
  (F:fT Oq (R.ib+1) (Oo K R.l.length+1) (fun d=>if d=(i:Int) then some (iX (R.dat i)) else K d) W') (E:K (i:Int)=none):R.In (fun d=>if d=(i:Int) then some (iX (R.dat i)) else K d) W':=by
 obtain⟨n,G⟩:=h.idx;have B:Below R.ib W W':=⟨A.os,A.tape,A.output,A.size,fun k E=>A.block k (by have:=h.lt; omega) (fun e=>by cases e; omega)⟩;refine⟨h.box.grow1 A (by omega),h.ents.below B nr,h.its.below B nr,⟨n,G.kept A (fun e=>by injection e with e; omega)⟩,by rw[K8 D E]; exact F,fun j v C=>?_⟩;by_cases e:j=(i:Int)
 ·subst e
  rw[if_pos rfl] at C;cases C;exact⟨i,rfl,D,rfl⟩
 ·rw[if_neg e] at C
  exact h.right j v C
end
def vF(R:Rdr)(K:Int->Option Value)(m:Nat)(w:World)(r:Qb×Int)(e:Ending)(w':World):Prop:=e=.returned (iX r)/\(∃K',R.In K' w'/\∀j:Int,(m:Int)<=j->K' j=K j)/\w.grownBy w' (some (R.ib+1))
def PL(R:Rdr)(i:Nat):Prop:=∀(K:Int->Option Value) (W:World),R.In K W->Qh 202 #[.pointer (some ⟨R.ib+1+1,0,none⟩),.int .i64 (i:Int)] W (vF R K (i+1) W (R.dat i))
def Px(R:Rdr)(i:Nat):Prop:=∀(K:Int->Option Value) (W:World),R.In K W->Qh 231 #[.pointer (some ⟨R.ib+1+1,0,none⟩),.int .i64 (i:Int)] W (vF R K i W (R.dat i))
theorem GV(W:World):(zeroValue 270).run Tryz.prog W=.ok (.agg #[.string ⟨#[]⟩,.int .i64 0]) W:=by kernel_rfl
theorem aJ{b:Nat}(A:PM w w'):w.grownBy w' (some b):=⟨A.os,A.tape,A.output,A.size,fun k B _=>A.block k B⟩
def putF(W:World)(n:Nat)(T:Qb)(er:Int):World:=(W.setCell ⟨n,0,none⟩ (.string ⟨T.toArray⟩)).setCell ⟨n,1,none⟩ (.int .i64 er)
theorem bZ(h:BK n #[x0,x1] 270 W)(T:Qb)(er:Int):BK n #[.string ⟨T.toArray⟩,.int .i64 er] 270 (putF W n T er):=by
 have A:BK n #[.string ⟨T.toArray⟩,x1] _ _:=h.set 0 (.string ⟨T.toArray⟩);exact A.set 1 (.int .i64 er)
theorem FJ{m:Nat}{cs:Array Value}{t:TypeId}(h:BK m cs t W)(A:n≠m)(T:Qb)(er:Int):BK m cs t (putF W n T er):=(h.other A _ _).other A _ _
theorem bL{b:Nat}(h:w.grownBy W (some b))(C:w.heap.size<=n)(T:Qb)(er:Int):w.grownBy (putF W n T er) (some b):=
 ⟨h.os,h.tape,h.output,by simpa[putF] using h.size,fun k A B=>(Below.heap_setCell _ _ _ _ (by simp; omega)).trans ((Below.heap_setCell _ _ _ _ (by simp; omega)).trans (h.block k A B))⟩
theorem Rdr.In.putF{R:Rdr}{K:Int->Option Value}(h:R.In K W)(A:R.ib+1+1<n)(T:Qb)(er:Int):R.In K (putF W n T er):=(h.set A _ _).set A _ _
theorem O6(R:Rdr)(hR:R.Ok)(i:Nat)(hi:i<R.l.length)(hc:Px R i):PL R i:=by
 intro K w h;have D8:(i:Int)<=1000:=by have:=hR.ll; omega
 have HC:=Qf hc;have D5:=h.lt
 -- two boxes are laid: the result's,and f
 obtain⟨wa,C⟩:=Qe (w.alloc (.cells #[.string ⟨#[]⟩,.int .i64 0] 270));have H:PM w wa:=by rw[C]; exact ba _ _
 have Y:wa.heap.size=w.heap.size+1:=by rw[C]; simp
 have HA:BK w.heap.size #[.string ⟨#[]⟩,.int .i64 0] 270 wa:=by rw[C]; exact BK.new _ _ _
 have HI:=h.below H;have B:(Instr.lookup 266 (.map (some (R.ib+1))) (.int .i64 (i:Int)) true).run Tryz.prog wa=.ok (.tuple #[(K (i:Int)).getD (.agg #[.string ⟨#[]⟩,.int .i64 0]),.bool (K (i:Int)).isSome]) wa:=HI.kn.lookOk Tryz.underlying266 (GV _) (a:=(i:Int)) ⟨by omega,by omega⟩;have E:=HI.box;obtain⟨x0,x1,x2,x3,x4⟩:=BK.c5 E;cases hk:K (i:Int) with
 | some v=>
  obtain⟨j,C8,C9,rfl⟩:=h.right _ _ hk;obtain rfl:i=j:=by omega
  rw[hk] at B;simp only[Option.getD_some,Option.isSome_some,iX] at B;unfold vF iX;obtain⟨T,er,F⟩:∃T er,R.dat i=(T,er):=⟨_,_,rfl⟩;rw[F] at B ⊢;simp only at B ⊢;have C3:=Qf h;rw[C] at B x0 x1 x2 x3 x4;clear C H Y HA HI E HC F C8 C9 h hk;go_enter Tryz.func202,Tryz.ntmps202;go_wp2_with fail;refine bodyPost_ret (v:=.agg #[.string ⟨T.toArray⟩,.int .i64 er]) (by simp[results,Tryz.results202,go_sem]) rfl ?_;exact⟨rfl,⟨K,(C3.o.alloc _).alloc _,fun j _=>rfl⟩,aJ ((ba w _).alloc (by simp) _)⟩
 | none=>
  rw[hk] at B;simp only[Option.getD_none,Option.isSome_none] at B;obtain⟨wb,G⟩:=Qe (wa.alloc (.cells #[.string ⟨#[]⟩,.int .i64 0] 270));have M:PM wa wb:=by rw[G]; exact ba _ _
  have V:BK (w.heap.size+1) #[.string ⟨#[]⟩,.int .i64 0] 270 wb:=by rw[G,<-Y]; exact BK.new _ _ _
  have hr:=HA.below M;have B2:=HI.below M;have A6:=H.trans (M.mono H.size);have D:=Qf (HC.o K wb B2);rw[G,C] at D;rw[C] at B x0 x1 x2 x3 x4;rw[C] at G;have A5:=Qf G;have HF:=Qf V;have C6:=Qf hr;have A1:=Qf A6;have HK:=Qf hk;clear C G M H Y HA HI E HC h hk V hr A6 B2;unfold vF iX at D;unfold vF;obtain⟨T,er,F⟩:∃T er,R.dat i=(T,er):=⟨_,_,rfl⟩;have C5:=Qf F;rw[F] at D ⊢;unfold iX;simp only at D ⊢;clear F;go_enter Tryz.func202,Tryz.ntmps202;go_wp2_with fail
  refine D.o.mono ?_;rintro e u ⟨rfl,⟨K',B3,W⟩,Z⟩
  rw[<-A5.o] at Z;have E0:=Z.size;have E1:=A1.o.size;have V:=HF.o.grow1 Z (by omega);have hr:=C6.o.grow1 Z (by omega);clear D A5 x0 x1 x2 x3 x4 B;obtain⟨f0,f1⟩:=BK.c2 V;obtain⟨ff0,ff1⟩:=BK.f2 (V);obtain⟨v,hv⟩:=Qe (putF u (w.heap.size+1) T er);have N:=bZ V T er;have X:=FJ hr (n:=w.heap.size+1) (by omega) T er;have O:=B3.putF (n:=w.heap.size+1) (by omega) T er;have B0:w.grownBy u (some (R.ib+1)):=bu (aJ A1.o) Z;have A9:w.grownBy v (some (R.ib+1)):=by rw[hv]; exact bL B0 (by omega) T er
  rw[<-hv] at N X O;have J:=O.below ((bf _).drew);have S:=X.below ((bf _).drew);have P:=N.below ((bf _).drew);have B4:K' (i:Int)=none:=by rw[W _ (rP _)]; exact HK.o
  have D0:=Nu K' R.l.length;have D9:=hR.ll;obtain⟨v2,Q,B5,I,D1⟩:=J.kn.put Tryz.underlying266 (a:=(i:Int)) ⟨by omega,by omega⟩ (by omega) (iX (T,er));have A4:(Instr.mapUpdate 266 (.map (some (R.ib+1))) (.int .i64 (i:Int)) (.agg #[.string ⟨T.toArray⟩,.int .i64 er])).run Tryz.prog v.drew=.ok () v2:=Q;have A3:=Qf (J.put hi I (by rw[C5.o]; exact B5) B4);have C1:=Qf (P.grow1 I (by omega));have U:=Qf (S.grow1 I (by omega));have A8:v.grownBy v.drew (some (R.ib+1)):=aJ ((bf _).drew);have C2:=Qf (bu A9 (bu A8 I));have C4:Qg (∀j:Int,((i+1:Nat):Int)<=j->(if j=(i:Int) then some (iX (R.dat i)) else K' j)=K j):=Qf (fun j hj=>by rw[if_neg (by omega)]; exact W j (by omega));have E:=O.box;obtain⟨x0,x1,x2,x3,x4⟩:=BK.c5 E;obtain⟨k0,k1⟩:=BK.c2 N;have HV:=Qf hv;unfold putF at HV;clear V hr N X O J S P hv B0 A9 Q B5 I A8 W B3 Z B4 D0 D1 E;go_wp2_with fail;rw[<-HV.o];clear f0 f1 ff0 ff1 HV;go_region;clear x0 x1 x2 x3 x4 k0 k1 A4;obtain⟨k0,k1⟩:=BK.c2 C1.o;obtain⟨r0,r1⟩:=BK.c2 U.o;obtain⟨fr0,fr1⟩:=BK.f2 (U.o);go_wp2_with fail;obtain⟨W9,L⟩:=Qe (putF v2 w.heap.size T er);have B7:=bZ U.o T er;have B1:=A3.o.putF (n:=w.heap.size) (by omega) T er;have A7:=bL C2.o nr T er;rw[<-L] at B7 B1 A7;unfold putF at L;rw[<-L];clear L k0 k1 r0 r1 fr0 fr1;obtain⟨r0,r1⟩:=BK.c2 B7;refine bodyPost_ret (v:=.agg #[.string ⟨T.toArray⟩,.int .i64 er]) (by simp[results,Tryz.results202,go_sem,r0,r1]) rfl ?_;exact⟨rfl,⟨_,B1,C4.o⟩,A7⟩
theorem Lh{xs:List Itm}(B:Asc xs){x:Itm}(D:x∈xs):dW xs x.d=bI x.data:=by
 obtain⟨k,A,rfl⟩:=aV D;have C:qw xs xs[k].d k=true:=by unfold qw; rw[List.getElem?_eq_getElem A]; simp
 obtain⟨_,_,h⟩:=yz (JV B A rfl) C;exact h
theorem D6{R:Rdr}(E:R.Ok)(d:Int×Int):((dW R.xs d).2≠0/\De R.xs d=([],8))\/((dW R.xs d).2=0/\aR (dW R.xs d).1=((De R.xs d).1,0)/\(De R.xs d).2=0):=by
 unfold De;cases D:R.xs.find? (fun x=>decide (x.d=d)) with
 | none=>
  left;refine⟨fun h=>?_,rfl⟩;obtain⟨x,B,C,_⟩:=oW h;have:=List.find?_eq_none.1 D x B;simp[C] at this
 | some x=>
  right;have B:=List.mem_of_find?_eq_some D;have C:x.d=d:=by have:=List.find?_some D; simpa using this
  have F:dW R.xs d=bI x.data:=by rw[<-C]; exact Lh E.asc B
  have A:=E.val x B;refine⟨by rw[F]; exact A,?_,rfl⟩;rw[F];obtain⟨o,er,G⟩:∃o er,bI x.data=(o,er):=⟨_,_,rfl⟩;rw[G] at A ⊢;simp only at A;subst A;exact(kI G).1
theorem rX{a:Qa}{l:List Pe}(h:GIn tX 7 B W a l)(E:k<l.length):∃b off,a=some ⟨b,off,none⟩/\b<B/\W.cell? ⟨b,off+k*7,none⟩=some (.int .u64 l[k].d.1)/\W.cell? ⟨b,off+k*7+1,none⟩=some (.int .u64 l[k].d.2)/\W.cell? ⟨b,off+k*7+2,none⟩=some (.int .i64 l[k].kind)/\W.cell? ⟨b,off+k*7+3,none⟩=some (.int .u64 l[k].base.1)/\W.cell? ⟨b,off+k*7+4,none⟩=some (.int .u64 l[k].base.2)/\W.cell? ⟨b,off+k*7+5,none⟩=some (.int .i64 (l[k].off:Int))/\W.cell? ⟨b,off+k*7+6,none⟩=some (.int .i64 (l[k].len:Int)):=by
 obtain⟨b,off,C,D,A⟩:=h k E;exact⟨b,off,C,D,A 0 _ rfl,A 1 _ rfl,A 2 _ rfl,A 3 _ rfl,A 4 _ rfl,A 5 _ rfl,A 6 _ rfl⟩
def Oj(W:World)(n:Nat)(v0 v1 v2 v3 v4 v5 v6 v7 v8:Value):World:=((((((((W.setCell ⟨n,0,none⟩ v0).setCell ⟨n,1,none⟩ v1).setCell ⟨n,2,none⟩ v2).setCell ⟨n,3,none⟩ v3).setCell ⟨n,4,none⟩ v4).setCell ⟨n,5,none⟩ v5).setCell ⟨n,6,none⟩ v6).setCell ⟨n,7,none⟩ v7).setCell ⟨n,8,none⟩ v8
theorem DZ{x7 x8:Value}{t:TypeId}(h:BK n #[x0,x1,x2,x3,x4,x5,x6,x7,x8] t W)(v0 v1 v2 v3 v4 v5 v6 v7 v8:Value):BK n #[v0,v1,v2,v3,v4,v5,v6,v7,v8] t (Oj W n v0 v1 v2 v3 v4 v5 v6 v7 v8):=by
 have A:BK n #[v0,x1,x2,x3,x4,x5,x6,x7,x8] _ _:=h.set 0 v0;have B:BK n #[v0,v1,x2,x3,x4,x5,x6,x7,x8] _ _:=A.set 1 v1;have C:BK n #[v0,v1,v2,x3,x4,x5,x6,x7,x8] _ _:=B.set 2 v2;have D:BK n #[v0,v1,v2,v3,x4,x5,x6,x7,x8] _ _:=C.set 3 v3;have E:BK n #[v0,v1,v2,v3,v4,x5,x6,x7,x8] _ _:=D.set 4 v4;have F:BK n #[v0,v1,v2,v3,v4,v5,x6,x7,x8] _ _:=E.set 5 v5;have G:BK n #[v0,v1,v2,v3,v4,v5,v6,x7,x8] _ _:=F.set 6 v6;have H:BK n #[v0,v1,v2,v3,v4,v5,v6,v7,x8] _ _:=G.set 7 v7;exact H.set 8 v8
theorem wN(W:World)(n:Nat)(v0 v1 v2 v3 v4 v5 v6 v7 v8:Value):W.grownBy (Oj W n v0 v1 v2 v3 v4 v5 v6 v7 v8) (some n):=fM (fM (fM (fM (fM (fM (fM (fM (dN _ _ _ _) _ _) _ _) _ _) _ _) _ _) _ _) _ _) _ _
theorem MO(W:World):(zeroValue 3).run Tryz.prog W=.ok (.int .i64 0) W:=by kernel_rfl
theorem Ha(R:Rdr)(hR:R.Ok)(i:Nat)(hi:i<R.l.length)(C5:∀j,j<i->PL R j)(K:Int->Option Value)(w:World)(h:R.In K w):Qh 246 #[.pointer (some ⟨R.ib+1+1,0,none⟩),.int .i64 (i:Int)] w (vF R K i w (wu R.xs R.l R.dat i R.l[i].base)):=by
 have I1:(i:Int)<=1000:=by have:=hR.ll; omega
 have I0:=h.lt;obtain⟨k0,G2⟩:=hR.ents.at_ _ (ak hi);have F4:=(iB G2).1.bok;obtain⟨bl,ofl,H0,I3,q0,q1,q2,q3,q4,q5,q6⟩:=rX h.ents hi;generalize D2:R.l[i].base=bs at q3 q4 F4 ⊢;obtain⟨b1,b2⟩:=bs;simp only at q3 q4;obtain⟨T,er,F0⟩:∃T er,wu R.xs R.l R.dat i (b1,b2)=(T,er):=⟨_,_,rfl⟩;have E9:=Qf F0;rw[F0];unfold vF iX;simp only;clear F0
 -- the worlds
 obtain⟨wa,D8⟩:=Qe (w.alloc (.cells #[.string ⟨#[]⟩,.int .i64 0] 270));have D1:PM w wa:=by rw[D8]; exact ba _ _
 have G7:wa.heap.size=w.heap.size+1:=by rw[D8]; simp
 obtain⟨wb,D9⟩:=Qe (wa.alloc (.cells #[.int .u64 b1,.int .u64 b2] 54));have E1:PM wa wb:=by rw[D9]; exact ba _ _
 have F8:=Qf ((show BK w.heap.size #[.string ⟨#[]⟩,.int .i64 0] 270 wa by rw[D8]; exact BK.new _ _ _).below E1);have E8:Qg (BK (w.heap.size+1) #[.int .u64 b1,.int .u64 b2] 54 wb):=Qf (by rw[D9,<-G7]; exact BK.new _ _ _);have E7:=Qf (D1.trans (E1.mono D1.size));have E0:=Qf ((h.below D1).below E1);have F7:=Qf (h.below D1);have E5:=F7.o.box;obtain⟨x0,x1,x2,x3,x4⟩:=BK.c5 E5;have hp:∀j,wa.cell? ⟨bl,ofl+j,none⟩=w.cell? ⟨bl,ofl+j,none⟩:=fun j=>D1.cell (p:=⟨bl,ofl+j,none⟩) (by simp; omega)
 have r3:wa.cell? ⟨bl,ofl+i*7+3,none⟩=some (.int .u64 b1):=by rw[show ofl+i*7+3=ofl+(i*7+3) by omega,hp]; rw[show ofl+(i*7+3)=ofl+i*7+3 by omega]; exact q3
 have r4:wa.cell? ⟨bl,ofl+i*7+4,none⟩=some (.int .u64 b2):=by rw[show ofl+i*7+4=ofl+(i*7+4) by omega,hp]; rw[show ofl+(i*7+4)=ofl+i*7+4 by omega]; exact q4
 rw[H0] at x1;have H2:i<R.l.length:=hi;obtain⟨nl,F3⟩:=Qe R.l.length;rw[<-F3] at x1 H2;rw[D8] at x0 x1 x2 x3 x4 r3 r4 D9;have F9:=Qf D9;have H9:=Qf F3;have H8:=Qf D2;clear D8 D9 D1 E1 G7 E5 hp q0 q1 q2 q3 q4 q5 q6 F3 D2 h G2 F7;go_enter Tryz.func246,Tryz.ntmps246;go_wp2_with fail;rw[<-F9.o];clear F9 x0 x1 x2 x3 x4 r3 r4;have E6:=E0.o.below ((bf _).drew);obtain⟨mn,G5⟩:=E6.idx;have E2:(Instr.lookup 265 (.map (some R.ib)) (.agg #[.int .u64 b1,.int .u64 b2]) true).run Tryz.prog wb.drew=.ok (.tuple #[((rE R.l (b1,b2)).map fun i=>Value.int .i64 (i:Int)).getD (.int .i64 0),.bool ((rE R.l (b1,b2)).map fun i=>Value.int .i64 (i:Int)).isSome]) wb.drew:=G5.lookOk Tryz.underlying265 (MO _) (a:=(b1,b2)) F4;have G1:=E0.o.box;obtain⟨x0,x1,x2,x3,x4⟩:=BK.c5 G1;obtain⟨d0,d1⟩:=BK.c2 E8.o;obtain⟨wc,F5⟩:=Qe wb.drew;have D3:PM wb wc:=by rw[F5]; exact(bf _).drew
 have B5:=Qf (F8.o.below D3);have C0:=Qf (E8.o.below D3);have N:=Qf (E7.o.trans (D3.mono E7.o.size));have X:=Qf (E0.o.below D3);have C7:=Qf F5;clear D3 E6 G5 F8 E8 E7 E0 F5 G1;cases hx:rE R.l (b1,b2) with
 | some j=>
  have C6:(Instr.lookup 265 (.map (some R.ib)) (.agg #[.int .u64 b1,.int .u64 b2]) true).run Tryz.prog wb.drew=.ok (.tuple #[.int .i64 (j:Int),.bool true]) wb.drew:=by rw[E2,hx]; rfl
  clear E2;obtain⟨G4,H4⟩:=Ai hx;clear H4;have I2:(j:Int)<=1000:=by have:=hR.ll; omega
  by_cases F1:j<i
  ·have G3:(j:Int)<(i:Int):=by omega
   have B9:wu R.xs R.l R.dat i (b1,b2)=R.dat j:=by unfold wu; rw[hx]; simp only; rw[if_pos F1]
   have G6:R.dat j=(T,er):=B9.symm.trans E9.o;have HG:=Qf (C5 j F1 K wc X.o);unfold vF iX at HG;rw[G6] at HG;simp only at HG;clear C5 G6 B9 G4 hx F4;go_region;rw[<-C7.o];clear x0 x1 x2 x3 x4 d0 d1 C6 C7;go_wp2_with fail
   refine HG.o.mono ?_;rintro e u ⟨rfl,⟨K',H3,H5⟩,hg⟩
   have E3:=N.o.size;have hr:=B5.o.grow1 hg (by omega);have A5:w.grownBy u (some (R.ib+1)):=bu (aJ N.o) hg;have G8:Qg (∀m:Int,(i:Int)<=m->K' m=K m):=Qf (fun m hm=>H5 m (by omega));obtain⟨r0,r1⟩:=BK.c2 hr;obtain⟨fr0,fr1⟩:=BK.f2 (hr);clear HG B5 C0 N X;go_wp2_with fail;obtain⟨W9,B⟩:=Qe (putF u w.heap.size T er);have G:=bZ hr T er;have F:=H3.putF (n:=w.heap.size) (by omega) T er;have E:=bL A5 nr T er;rw[<-B] at G F E;unfold putF at B;rw[<-B];clear B r0 r1 fr0 fr1;obtain⟨r0,r1⟩:=BK.c2 G;refine bodyPost_ret (v:=.agg #[.string ⟨T.toArray⟩,.int .i64 er]) (by simp[results,Tryz.results246,go_sem,r0,r1]) rfl ?_;exact⟨rfl,⟨_,F,G8.o⟩,E⟩
  ·have G3:¬(j:Int)<(i:Int):=by omega
   have B9:wu R.xs R.l R.dat i (b1,b2)=De R.xs (b1,b2):=by unfold wu; rw[hx]; simp only; rw[if_neg F1]
   clear G4;have B8:De R.xs (b1,b2)=(T,er):=B9.symm.trans E9.o;have C4:=D6 hR (b1,b2);rw[B8] at C4;have I:=Qf C4;have L:=Qf (fun W (hW:PM wc W)=>yw R.pa R.xs R.pc b1 b2 W ⟨(X.o.its.below hW (by have:=X.o.lt; omega)).mono (by have:=hW.size; have:=X.o.lt; omega),hR.pc,hR.xl,hR.xd⟩ hR.asc);have C:Qg (∀W,PM wc W->PM wc W/\W.cell? ⟨R.ib+1+1,2,none⟩=some (.slice R.pa R.xs.length R.pc)/\W.cell? ⟨w.heap.size+1,0,none⟩=some (.int .u64 b1)/\W.cell? ⟨w.heap.size+1,1,none⟩=some (.int .u64 b2)):=Qf (fun W hW=>by
    have h1:=(X.o.below hW).box;have h2:=C0.o.below hW;exact⟨hW,by rw[h1.cell]; rfl,by rw[h2.cell]; rfl,by rw[h2.cell]; rfl⟩)
   generalize dW R.xs (b1,b2)=OE at L I;obtain⟨o,oe⟩:=OE;simp only at L I;have B2:=C.o wc.drew ((bf _).drew);clear C5 B9 hx B8 C4;go_region;rw[<-C7.o];clear x0 x1 x2 x3 x4 d0 d1 C6 C7;go_wp2_with fail;refine wp_region_held_drew (S:=(fun W=>PM wc W/\W.cell? ⟨R.ib+1+1,2,none⟩=some (.slice R.pa R.xs.length R.pc)/\W.cell? ⟨w.heap.size+1,0,none⟩=some (.int .u64 b1)/\W.cell? ⟨w.heap.size+1,1,none⟩=some (.int .u64 b2))) (by kernel_rfl) B2 (fun hHeld=>?_);refine th 0 ?_;refine th 1 ?_;refine th 2 ?_;refine th 3 ?_;refine th 4 ?_;obtain⟨kind,data,ents,⟨t1,t2⟩,pars,author,time,msg⟩:=o;refine wpAnyH_ready (rs:=[5,9]) (by kernel_rfl) (by simp) ?_;refine AllReadyH.cons rfl (fun K Z=>?_) ?_
   ·go_simp
    refine(L.o _ B2.1).mono ?_;rintro e u ⟨ea,ec,pa,pc,rfl,A9,hb⟩
    have D:=B2.1.trans (hb.mono nr);have B3:=C.o u D;refine Z.out _ _ (B3) (fun hHeld=>?_);clear Z K;refine th 6 ?_;refine th 7 ?_;refine th 8 ?_;refine wpAnyH_ready (rs:=[9]) (by kernel_rfl) (by simp) ?_;refine AllReadyH.cons rfl (fun K Z=>?_) AllReadyH.nil;go_simp;refine Z.out _ _ (C.o _ (D.alloc D.size _)) (fun hHeld=>?_);clear Z K;refine wpAnyH_ready (rs:=[10]) (by kernel_rfl) (by simp) ?_;refine AllReadyH.cons rfl (fun K Z=>?_) AllReadyH.nil;go_simp;refine Z.out _ _ (C.o _ (D.alloc D.size _)) (fun hHeld=>?_);clear Z K;refine th 11 ?_;refine wpAnyH_done (by kernel_rfl) ?_ _;obtain⟨v,hv⟩:=Qe (u.alloc (.cells #[.int .i64 kind,.string ⟨data.toArray⟩,.slice ea ents.length ec,.int .u64 t1,.int .u64 t2,.slice pa pars.length pc,.string ⟨author.toArray⟩,.int .i64 time,.string ⟨msg.toArray⟩] 59));have J:PM wc v:=by rw[hv]; exact D.alloc D.size _
    obtain⟨ob,M⟩:=Qe u.heap.size;have A4:BK ob #[.int .i64 kind,.string ⟨data.toArray⟩,.slice ea ents.length ec,.int .u64 t1,.int .u64 t2,.slice pa pars.length pc,.string ⟨author.toArray⟩,.int .i64 time,.string ⟨msg.toArray⟩] 59 v:=by rw[hv,M]; exact BK.new _ _ _
    have B0:dZ wc.drew.heap.size v ⟨kind,data,ents,(t1,t2),pars,author,time,msg⟩ ea ec pa pc:=A9.below (by rw[hv]; exact ba _ _);simp only[Ob.val];rw[<-hv,<-M];clear hv M A9 hb D B3;have B1:=B5.o.below J;have A3:=X.o.below J;have A5:w.grownBy v (some (R.ib+1)):=aJ (N.o.trans (J.mono N.o.size));have E3:=N.o.size;have Y:=Qf (iP ⟨kind,data,ents,(t1,t2),pars,author,time,msg⟩ ea ec pa pc v B0.inn);have A6:Qg (∃K',R.In K' v/\∀m:Int,(i:Int)<=m->K' m=K m):=Qf ⟨K,A3,fun _ _=>rfl⟩;have P:=Qf A3;have O:=Qf A5;have Q:=Qf B1;unfold Ob.val at Y;obtain⟨o0,o1,o2,o3,o4,o5,o6,o7,o8⟩:=BK.c9 A4;clear A4 B0 J B1 A3 A5 B5 C0 N X C L B2;by_cases he:oe=0
    ·subst he
     have H:=I.o.resolve_left (fun h=>h.1 rfl);rw[H.2.1] at Y;obtain⟨_,_,C1⟩:=H;subst C1;simp only at Y;generalize ents.length=ne at Y o2;generalize pars.length=np at Y o5;clear I;go_wp2_with fail
     refine Y.o.mono ?_;rintro e u2 ⟨rfl,U⟩
     have hr:=Q.o.below U;have A2:=P.o.below U;have A1:w.grownBy u2 (some (R.ib+1)):=bu O.o (aJ U);clear Y Q P O A6 U o0 o1 o2 o3 o4 o5 o6 o7 o8;obtain⟨r0,r1⟩:=BK.c2 hr;obtain⟨fr0,fr1⟩:=BK.f2 (hr);go_wp2_with fail;obtain⟨W9,B⟩:=Qe (putF u2 w.heap.size T 0);have G:=bZ hr T 0;have F:=A2.putF (n:=w.heap.size) (by omega) T 0;have E:=bL A1 nr T 0;rw[<-B] at G F E;unfold putF at B;rw[<-B];clear B r0 r1 fr0 fr1;obtain⟨r0,r1⟩:=BK.c2 G;refine bodyPost_ret (v:=.agg #[.string ⟨T.toArray⟩,.int .i64 0]) (by simp[results,Tryz.results246,go_sem,r0,r1]) rfl ?_;exact⟨rfl,⟨_,F,fun _ _=>rfl⟩,E⟩
    ·have F2:(oe !=0)=true:=by simpa using he
     have H:=I.o.resolve_right (fun h=>he h.1);have V:=H.2;simp only[Prod.mk.injEq] at V;obtain⟨V,C3⟩:=V;subst V;subst C3;have hr:=Q.o;have A2:=P.o;have A1:=O.o;clear Y Q P O A6 I he H o0 o1 o2 o3 o4 o5 o6 o7 o8;obtain⟨r0,r1⟩:=BK.c2 hr;obtain⟨fr0,fr1⟩:=BK.f2 (hr);go_wp2_with fail;obtain⟨W9,B⟩:=Qe (putF v w.heap.size [] 8);have G:=bZ hr [] 8;have F:=A2.putF (n:=w.heap.size) (by omega) [] 8;have E:=bL A1 nr [] 8;rw[<-B] at G F E;unfold putF at B;rw[<-B];clear B r0 r1 fr0 fr1;obtain⟨r0,r1⟩:=BK.c2 G;refine bodyPost_ret (v:=.agg #[.string ⟨#[]⟩,.int .i64 8]) (by simp[results,Tryz.results246,go_sem,r0,r1]) rfl ?_;exact⟨rfl,⟨_,F,fun _ _=>rfl⟩,E⟩
   ·refine AllReadyH.cons rfl (fun K_ Z=>?_) AllReadyH.nil
    go_simp;obtain⟨W1,A7⟩:=Qe ((wc.alloc (.cells #[.int .i64 0,.string ⟨#[]⟩,.slice none 0 0,.int .u64 0,.int .u64 0,.slice none 0 0,.string ⟨#[]⟩,.int .i64 0,.string ⟨#[]⟩] 59)).drew);have A8:PM wc W1:=by rw[A7]; exact(ba _ _).drew
    have D5:BK wc.heap.size #[.int .i64 0,.string ⟨#[]⟩,.slice none 0 0,.int .u64 0,.int .u64 0,.slice none 0 0,.string ⟨#[]⟩,.int .i64 0,.string ⟨#[]⟩] 59 W1:=by rw[A7]; exact(BK.new wc _ _).below ((bf _).drew)
    have D7:W1.heap.size=wc.heap.size+1:=by rw[A7]; simp
    have D4:=Qf (L.o W1 A8);rw[<-A7];clear A7;refine Z.out _ _ (C.o _ A8) (fun hHeld=>?_);clear Z K_;refine wpAnyH_ready (rs:=[5]) (by kernel_rfl) (by simp) ?_;refine AllReadyH.cons rfl (fun K Z=>?_) AllReadyH.nil;go_simp
    refine D4.o.mono ?_;rintro e u ⟨ea,ec,pa,pc,rfl,A9,hb⟩
    have D:=A8.trans (hb.mono A8.size);have B7:=D5.below hb;have B3:=C.o u D;refine Z.out _ _ (B3) (fun hHeld=>?_);clear Z K;refine th 6 ?_;refine th 7 ?_;refine th 8 ?_;refine wpAnyH_ready (rs:=[10]) (by kernel_rfl) (by simp) ?_;simp only[Ob.val];obtain⟨o0,o1,o2,o3,o4,o5,o6,o7,o8⟩:=BK.c9 B7;obtain⟨fo0,fo1,fo2,fo3,fo4,fo5,fo6,fo7,fo8⟩:=BK.f9 (B7);refine AllReadyH.cons rfl (fun K Z=>?_) AllReadyH.nil;go_simp;obtain⟨v,hv⟩:=Qe (Oj u wc.heap.size (.int .i64 kind) (.string ⟨data.toArray⟩) (.slice ea ents.length ec) (.int .u64 t1) (.int .u64 t2) (.slice pa pars.length pc) (.string ⟨author.toArray⟩) (.int .i64 time) (.string ⟨msg.toArray⟩));have A4:BK wc.heap.size #[.int .i64 kind,.string ⟨data.toArray⟩,.slice ea ents.length ec,.int .u64 t1,.int .u64 t2,.slice pa pars.length pc,.string ⟨author.toArray⟩,.int .i64 time,.string ⟨msg.toArray⟩] 59 v:=by rw[hv]; exact DZ B7 (.int .i64 kind) (.string ⟨data.toArray⟩) (.slice ea ents.length ec) (.int .u64 t1) (.int .u64 t2) (.slice pa pars.length pc) (.string ⟨author.toArray⟩) (.int .i64 time) (.string ⟨msg.toArray⟩)
    have C2:u.grownBy v (some wc.heap.size):=by rw[hv]; exact wN u wc.heap.size (.int .i64 kind) (.string ⟨data.toArray⟩) (.slice ea ents.length ec) (.int .u64 t1) (.int .u64 t2) (.slice pa pars.length pc) (.string ⟨author.toArray⟩) (.int .i64 time) (.string ⟨msg.toArray⟩)
    have J:PM wc v:=D.grown C2 D.size (fun k e=>by cases e; exact nr);have B0:dZ W1.heap.size v ⟨kind,data,ents,(t1,t2),pars,author,time,msg⟩ ea ec pa pc:=A9.kept C2 (by omega);obtain⟨ob,M⟩:=Qe wc.heap.size;unfold Oj at hv;rw[<-hv];clear hv o0 o1 o2 o3 o4 o5 o6 o7 o8 fo0 fo1 fo2 fo3 fo4 fo5 fo6 fo7 fo8;refine Z.out _ _ (C.o _ J) (fun hHeld=>?_);clear Z K;refine th 11 ?_;refine wpAnyH_done (by kernel_rfl) ?_ _;rw[<-M] at A4 ⊢;clear A9 hb D B3 B7 C2 A8 D5 D7 D4 M;have B1:=B5.o.below J;have A3:=X.o.below J;have A5:w.grownBy v (some (R.ib+1)):=aJ (N.o.trans (J.mono N.o.size));have E3:=N.o.size;have Y:=Qf (iP ⟨kind,data,ents,(t1,t2),pars,author,time,msg⟩ ea ec pa pc v B0.inn);have A6:Qg (∃K',R.In K' v/\∀m:Int,(i:Int)<=m->K' m=K m):=Qf ⟨K,A3,fun _ _=>rfl⟩;have P:=Qf A3;have O:=Qf A5;have Q:=Qf B1;unfold Ob.val at Y;obtain⟨o0,o1,o2,o3,o4,o5,o6,o7,o8⟩:=BK.c9 A4;clear A4 B0 J B1 A3 A5 B5 C0 N X C L B2;by_cases he:oe=0
    ·subst he
     have H:=I.o.resolve_left (fun h=>h.1 rfl);rw[H.2.1] at Y;obtain⟨_,_,C1⟩:=H;subst C1;simp only at Y;generalize ents.length=ne at Y o2;generalize pars.length=np at Y o5;clear I;go_wp2_with fail
     refine Y.o.mono ?_;rintro e u2 ⟨rfl,U⟩
     have hr:=Q.o.below U;have A2:=P.o.below U;have A1:w.grownBy u2 (some (R.ib+1)):=bu O.o (aJ U);clear Y Q P O A6 U o0 o1 o2 o3 o4 o5 o6 o7 o8;obtain⟨r0,r1⟩:=BK.c2 hr;obtain⟨fr0,fr1⟩:=BK.f2 (hr);go_wp2_with fail;obtain⟨W9,B⟩:=Qe (putF u2 w.heap.size T 0);have G:=bZ hr T 0;have F:=A2.putF (n:=w.heap.size) (by omega) T 0;have E:=bL A1 nr T 0;rw[<-B] at G F E;unfold putF at B;rw[<-B];clear B r0 r1 fr0 fr1;obtain⟨r0,r1⟩:=BK.c2 G;refine bodyPost_ret (v:=.agg #[.string ⟨T.toArray⟩,.int .i64 0]) (by simp[results,Tryz.results246,go_sem,r0,r1]) rfl ?_;exact⟨rfl,⟨_,F,fun _ _=>rfl⟩,E⟩
    ·have F2:(oe !=0)=true:=by simpa using he
     have H:=I.o.resolve_right (fun h=>he h.1);have V:=H.2;simp only[Prod.mk.injEq] at V;obtain⟨V,C3⟩:=V;subst V;subst C3;have hr:=Q.o;have A2:=P.o;have A1:=O.o;clear Y Q P O A6 I he H o0 o1 o2 o3 o4 o5 o6 o7 o8;obtain⟨r0,r1⟩:=BK.c2 hr;obtain⟨fr0,fr1⟩:=BK.f2 (hr);go_wp2_with fail;obtain⟨W9,B⟩:=Qe (putF v w.heap.size [] 8);have G:=bZ hr [] 8;have F:=A2.putF (n:=w.heap.size) (by omega) [] 8;have E:=bL A1 nr [] 8;rw[<-B] at G F E;unfold putF at B;rw[<-B];clear B r0 r1 fr0 fr1;obtain⟨r0,r1⟩:=BK.c2 G;refine bodyPost_ret (v:=.agg #[.string ⟨#[]⟩,.int .i64 8]) (by simp[results,Tryz.results246,go_sem,r0,r1]) rfl ?_;exact⟨rfl,⟨_,F,fun _ _=>rfl⟩,E⟩
 | none=>
  have C6:(Instr.lookup 265 (.map (some R.ib)) (.agg #[.int .u64 b1,.int .u64 b2]) true).run Tryz.prog wb.drew=.ok (.tuple #[.int .i64 0,.bool false]) wb.drew:=by rw[E2,hx]; rfl
  clear E2;have B9:wu R.xs R.l R.dat i (b1,b2)=De R.xs (b1,b2):=by unfold wu; rw[hx]
  have B8:De R.xs (b1,b2)=(T,er):=B9.symm.trans E9.o;have C4:=D6 hR (b1,b2);rw[B8] at C4;have I:=Qf C4;have L:=Qf (fun W (hW:PM wc W)=>yw R.pa R.xs R.pc b1 b2 W ⟨(X.o.its.below hW (by have:=X.o.lt; omega)).mono (by have:=hW.size; have:=X.o.lt; omega),hR.pc,hR.xl,hR.xd⟩ hR.asc);have C:Qg (∀W,PM wc W->PM wc W/\W.cell? ⟨R.ib+1+1,2,none⟩=some (.slice R.pa R.xs.length R.pc)/\W.cell? ⟨w.heap.size+1,0,none⟩=some (.int .u64 b1)/\W.cell? ⟨w.heap.size+1,1,none⟩=some (.int .u64 b2)):=Qf (fun W hW=>by
   have h1:=(X.o.below hW).box;have h2:=C0.o.below hW;exact⟨hW,by rw[h1.cell]; rfl,by rw[h2.cell]; rfl,by rw[h2.cell]; rfl⟩)
  generalize dW R.xs (b1,b2)=OE at L I;obtain⟨o,oe⟩:=OE;simp only at L I;have B2:=C.o wc.drew ((bf _).drew);clear C5 B9 hx B8 C4;go_region;rw[<-C7.o];clear x0 x1 x2 x3 x4 d0 d1 C6 C7;go_wp2_with fail;refine wp_region_held_drew (S:=(fun W=>PM wc W/\W.cell? ⟨R.ib+1+1,2,none⟩=some (.slice R.pa R.xs.length R.pc)/\W.cell? ⟨w.heap.size+1,0,none⟩=some (.int .u64 b1)/\W.cell? ⟨w.heap.size+1,1,none⟩=some (.int .u64 b2))) (by kernel_rfl) B2 (fun hHeld=>?_);refine th 0 ?_;refine th 1 ?_;refine th 2 ?_;refine th 3 ?_;refine th 4 ?_;obtain⟨kind,data,ents,⟨t1,t2⟩,pars,author,time,msg⟩:=o;refine wpAnyH_ready (rs:=[5,9]) (by kernel_rfl) (by simp) ?_;refine AllReadyH.cons rfl (fun K Z=>?_) ?_
  ·go_simp
   refine(L.o _ B2.1).mono ?_;rintro e u ⟨ea,ec,pa,pc,rfl,A9,hb⟩
   have D:=B2.1.trans (hb.mono nr);have B3:=C.o u D;refine Z.out _ _ (B3) (fun hHeld=>?_);clear Z K;refine th 6 ?_;refine th 7 ?_;refine th 8 ?_;refine wpAnyH_ready (rs:=[9]) (by kernel_rfl) (by simp) ?_;refine AllReadyH.cons rfl (fun K Z=>?_) AllReadyH.nil;go_simp;refine Z.out _ _ (C.o _ (D.alloc D.size _)) (fun hHeld=>?_);clear Z K;refine wpAnyH_ready (rs:=[10]) (by kernel_rfl) (by simp) ?_;refine AllReadyH.cons rfl (fun K Z=>?_) AllReadyH.nil;go_simp;refine Z.out _ _ (C.o _ (D.alloc D.size _)) (fun hHeld=>?_);clear Z K;refine th 11 ?_;refine wpAnyH_done (by kernel_rfl) ?_ _;obtain⟨v,hv⟩:=Qe (u.alloc (.cells #[.int .i64 kind,.string ⟨data.toArray⟩,.slice ea ents.length ec,.int .u64 t1,.int .u64 t2,.slice pa pars.length pc,.string ⟨author.toArray⟩,.int .i64 time,.string ⟨msg.toArray⟩] 59));have J:PM wc v:=by rw[hv]; exact D.alloc D.size _
   obtain⟨ob,M⟩:=Qe u.heap.size;have A4:BK ob #[.int .i64 kind,.string ⟨data.toArray⟩,.slice ea ents.length ec,.int .u64 t1,.int .u64 t2,.slice pa pars.length pc,.string ⟨author.toArray⟩,.int .i64 time,.string ⟨msg.toArray⟩] 59 v:=by rw[hv,M]; exact BK.new _ _ _
   have B0:dZ wc.drew.heap.size v ⟨kind,data,ents,(t1,t2),pars,author,time,msg⟩ ea ec pa pc:=A9.below (by rw[hv]; exact ba _ _);simp only[Ob.val];rw[<-hv,<-M];clear hv M A9 hb D B3;have B1:=B5.o.below J;have A3:=X.o.below J;have A5:w.grownBy v (some (R.ib+1)):=aJ (N.o.trans (J.mono N.o.size));have E3:=N.o.size;have Y:=Qf (iP ⟨kind,data,ents,(t1,t2),pars,author,time,msg⟩ ea ec pa pc v B0.inn);have A6:Qg (∃K',R.In K' v/\∀m:Int,(i:Int)<=m->K' m=K m):=Qf ⟨K,A3,fun _ _=>rfl⟩;have P:=Qf A3;have O:=Qf A5;have Q:=Qf B1;unfold Ob.val at Y;obtain⟨o0,o1,o2,o3,o4,o5,o6,o7,o8⟩:=BK.c9 A4;clear A4 B0 J B1 A3 A5 B5 C0 N X C L B2;by_cases he:oe=0
   ·subst he
    have H:=I.o.resolve_left (fun h=>h.1 rfl);rw[H.2.1] at Y;obtain⟨_,_,C1⟩:=H;subst C1;simp only at Y;generalize ents.length=ne at Y o2;generalize pars.length=np at Y o5;clear I;go_wp2_with fail
    refine Y.o.mono ?_;rintro e u2 ⟨rfl,U⟩
    have hr:=Q.o.below U;have A2:=P.o.below U;have A1:w.grownBy u2 (some (R.ib+1)):=bu O.o (aJ U);clear Y Q P O A6 U o0 o1 o2 o3 o4 o5 o6 o7 o8;obtain⟨r0,r1⟩:=BK.c2 hr;obtain⟨fr0,fr1⟩:=BK.f2 (hr);go_wp2_with fail;obtain⟨W9,B⟩:=Qe (putF u2 w.heap.size T 0);have G:=bZ hr T 0;have F:=A2.putF (n:=w.heap.size) (by omega) T 0;have E:=bL A1 nr T 0;rw[<-B] at G F E;unfold putF at B;rw[<-B];clear B r0 r1 fr0 fr1;obtain⟨r0,r1⟩:=BK.c2 G;refine bodyPost_ret (v:=.agg #[.string ⟨T.toArray⟩,.int .i64 0]) (by simp[results,Tryz.results246,go_sem,r0,r1]) rfl ?_;exact⟨rfl,⟨_,F,fun _ _=>rfl⟩,E⟩
   ·have F2:(oe !=0)=true:=by simpa using he
    have H:=I.o.resolve_right (fun h=>he h.1);have V:=H.2;simp only[Prod.mk.injEq] at V;obtain⟨V,C3⟩:=V;subst V;subst C3;have hr:=Q.o;have A2:=P.o;have A1:=O.o;clear Y Q P O A6 I he H o0 o1 o2 o3 o4 o5 o6 o7 o8;obtain⟨r0,r1⟩:=BK.c2 hr;obtain⟨fr0,fr1⟩:=BK.f2 (hr);go_wp2_with fail;obtain⟨W9,B⟩:=Qe (putF v w.heap.size [] 8);have G:=bZ hr [] 8;have F:=A2.putF (n:=w.heap.size) (by omega) [] 8;have E:=bL A1 nr [] 8;rw[<-B] at G F E;unfold putF at B;rw[<-B];clear B r0 r1 fr0 fr1;obtain⟨r0,r1⟩:=BK.c2 G;refine bodyPost_ret (v:=.agg #[.string ⟨#[]⟩,.int .i64 8]) (by simp[results,Tryz.results246,go_sem,r0,r1]) rfl ?_;exact⟨rfl,⟨_,F,fun _ _=>rfl⟩,E⟩
  ·refine AllReadyH.cons rfl (fun K_ Z=>?_) AllReadyH.nil
   go_simp;obtain⟨W1,A7⟩:=Qe ((wc.alloc (.cells #[.int .i64 0,.string ⟨#[]⟩,.slice none 0 0,.int .u64 0,.int .u64 0,.slice none 0 0,.string ⟨#[]⟩,.int .i64 0,.string ⟨#[]⟩] 59)).drew);have A8:PM wc W1:=by rw[A7]; exact(ba _ _).drew
   have D5:BK wc.heap.size #[.int .i64 0,.string ⟨#[]⟩,.slice none 0 0,.int .u64 0,.int .u64 0,.slice none 0 0,.string ⟨#[]⟩,.int .i64 0,.string ⟨#[]⟩] 59 W1:=by rw[A7]; exact(BK.new wc _ _).below ((bf _).drew)
   have D7:W1.heap.size=wc.heap.size+1:=by rw[A7]; simp
   have D4:=Qf (L.o W1 A8);rw[<-A7];clear A7;refine Z.out _ _ (C.o _ A8) (fun hHeld=>?_);clear Z K_;refine wpAnyH_ready (rs:=[5]) (by kernel_rfl) (by simp) ?_;refine AllReadyH.cons rfl (fun K Z=>?_) AllReadyH.nil;go_simp
   refine D4.o.mono ?_;rintro e u ⟨ea,ec,pa,pc,rfl,A9,hb⟩
   have D:=A8.trans (hb.mono A8.size);have B7:=D5.below hb;have B3:=C.o u D;refine Z.out _ _ (B3) (fun hHeld=>?_);clear Z K;refine th 6 ?_;refine th 7 ?_;refine th 8 ?_;refine wpAnyH_ready (rs:=[10]) (by kernel_rfl) (by simp) ?_;simp only[Ob.val];obtain⟨o0,o1,o2,o3,o4,o5,o6,o7,o8⟩:=BK.c9 B7;obtain⟨fo0,fo1,fo2,fo3,fo4,fo5,fo6,fo7,fo8⟩:=BK.f9 (B7);refine AllReadyH.cons rfl (fun K Z=>?_) AllReadyH.nil;go_simp;obtain⟨v,hv⟩:=Qe (Oj u wc.heap.size (.int .i64 kind) (.string ⟨data.toArray⟩) (.slice ea ents.length ec) (.int .u64 t1) (.int .u64 t2) (.slice pa pars.length pc) (.string ⟨author.toArray⟩) (.int .i64 time) (.string ⟨msg.toArray⟩));have A4:BK wc.heap.size #[.int .i64 kind,.string ⟨data.toArray⟩,.slice ea ents.length ec,.int .u64 t1,.int .u64 t2,.slice pa pars.length pc,.string ⟨author.toArray⟩,.int .i64 time,.string ⟨msg.toArray⟩] 59 v:=by rw[hv]; exact DZ B7 (.int .i64 kind) (.string ⟨data.toArray⟩) (.slice ea ents.length ec) (.int .u64 t1) (.int .u64 t2) (.slice pa pars.length pc) (.string ⟨author.toArray⟩) (.int .i64 time) (.string ⟨msg.toArray⟩)
   have C2:u.grownBy v (some wc.heap.size):=by rw[hv]; exact wN u wc.heap.size (.int .i64 kind) (.string ⟨data.toArray⟩) (.slice ea ents.length ec) (.int .u64 t1) (.int .u64 t2) (.slice pa pars.length pc) (.string ⟨author.toArray⟩) (.int .i64 time) (.string ⟨msg.toArray⟩)
   have J:PM wc v:=D.grown C2 D.size (fun k e=>by cases e; exact nr);have B0:dZ W1.heap.size v ⟨kind,data,ents,(t1,t2),pars,author,time,msg⟩ ea ec pa pc:=A9.kept C2 (by omega);obtain⟨ob,M⟩:=Qe wc.heap.size;unfold Oj at hv;rw[<-hv];clear hv o0 o1 o2 o3 o4 o5 o6 o7 o8 fo0 fo1 fo2 fo3 fo4 fo5 fo6 fo7 fo8;refine Z.out _ _ (C.o _ J) (fun hHeld=>?_);clear Z K;refine th 11 ?_;refine wpAnyH_done (by kernel_rfl) ?_ _;rw[<-M] at A4 ⊢;clear A9 hb D B3 B7 C2 A8 D5 D7 D4 M;have B1:=B5.o.below J;have A3:=X.o.below J;have A5:w.grownBy v (some (R.ib+1)):=aJ (N.o.trans (J.mono N.o.size));have E3:=N.o.size;have Y:=Qf (iP ⟨kind,data,ents,(t1,t2),pars,author,time,msg⟩ ea ec pa pc v B0.inn);have A6:Qg (∃K',R.In K' v/\∀m:Int,(i:Int)<=m->K' m=K m):=Qf ⟨K,A3,fun _ _=>rfl⟩;have P:=Qf A3;have O:=Qf A5;have Q:=Qf B1;unfold Ob.val at Y;obtain⟨o0,o1,o2,o3,o4,o5,o6,o7,o8⟩:=BK.c9 A4;clear A4 B0 J B1 A3 A5 B5 C0 N X C L B2;by_cases he:oe=0
   ·subst he
    have H:=I.o.resolve_left (fun h=>h.1 rfl);rw[H.2.1] at Y;obtain⟨_,_,C1⟩:=H;subst C1;simp only at Y;generalize ents.length=ne at Y o2;generalize pars.length=np at Y o5;clear I;go_wp2_with fail
    refine Y.o.mono ?_;rintro e u2 ⟨rfl,U⟩
    have hr:=Q.o.below U;have A2:=P.o.below U;have A1:w.grownBy u2 (some (R.ib+1)):=bu O.o (aJ U);clear Y Q P O A6 U o0 o1 o2 o3 o4 o5 o6 o7 o8;obtain⟨r0,r1⟩:=BK.c2 hr;obtain⟨fr0,fr1⟩:=BK.f2 (hr);go_wp2_with fail;obtain⟨W9,B⟩:=Qe (putF u2 w.heap.size T 0);have G:=bZ hr T 0;have F:=A2.putF (n:=w.heap.size) (by omega) T 0;have E:=bL A1 nr T 0;rw[<-B] at G F E;unfold putF at B;rw[<-B];clear B r0 r1 fr0 fr1;obtain⟨r0,r1⟩:=BK.c2 G;refine bodyPost_ret (v:=.agg #[.string ⟨T.toArray⟩,.int .i64 0]) (by simp[results,Tryz.results246,go_sem,r0,r1]) rfl ?_;exact⟨rfl,⟨_,F,fun _ _=>rfl⟩,E⟩
   ·have F2:(oe !=0)=true:=by simpa using he
    have H:=I.o.resolve_right (fun h=>he h.1);have V:=H.2;simp only[Prod.mk.injEq] at V;obtain⟨V,C3⟩:=V;subst V;subst C3;have hr:=Q.o;have A2:=P.o;have A1:=O.o;clear Y Q P O A6 I he H o0 o1 o2 o3 o4 o5 o6 o7 o8;obtain⟨r0,r1⟩:=BK.c2 hr;obtain⟨fr0,fr1⟩:=BK.f2 (hr);go_wp2_with fail;obtain⟨W9,B⟩:=Qe (putF v w.heap.size [] 8);have G:=bZ hr [] 8;have F:=A2.putF (n:=w.heap.size) (by omega) [] 8;have E:=bL A1 nr [] 8;rw[<-B] at G F E;unfold putF at B;rw[<-B];clear B r0 r1 fr0 fr1;obtain⟨r0,r1⟩:=BK.c2 G;refine bodyPost_ret (v:=.agg #[.string ⟨#[]⟩,.int .i64 8]) (by simp[results,Tryz.results246,go_sem,r0,r1]) rfl ?_;exact⟨rfl,⟨_,F,fun _ _=>rfl⟩,E⟩
