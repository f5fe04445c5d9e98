/- Lemmas. -/
import Derived.Test.YtkedhdcnakhbgaaGreatW1
import Derived.Deep.DeepCutAuto
import Derived.StillTailTactics
import Derived.Deep.RegionLaw
import Derived.Deep.CutBlock
import Derived.Deep.CutRange
import Derived.ChangeKeysEq
import Derived.Laws.StructEq
set_option linter.unusedSimpArgs false
set_option maxRecDepth 100000
set_option maxHeartbeats 16000000
namespace Go.Proofs.YtkedhdcnakhbgaaGreat
open Tryz
open Go.RowKit
variable {e er i id mid mtot oa ob tot:Int}{R:Int×Int×Int×List P}{ps qs:List P}{B' at_ k size:Nat}{b p r:P}{a:Qa}{A B data:Qb}{c:UInt8}{W w x:World}
def nxt(tot:Int):List P->Int
 | []=>tot
 | q::_=>q.1
def O8(id tot:Int):List P->Int×Int×Bool
 | []=>(0,0,false)
 | p::ps=>
  if gm id tot (p::ps)=false then(0,0,false)
  else if 0<p.1 then(0,p.1,true)
  else if PU p=nxt tot ps then(0,0,false)
  else(PU p,nxt tot ps-PU p,true)
theorem uG(id tot:Int)(p:P)(ps:List P):O8 id tot (p::ps)=if gm id tot (p::ps)=false then(0,0,false)
  else if 0<p.1 then(0,p.1,true) else if PU p=nxt tot ps then(0,0,false) else(PU p,nxt tot ps-PU p,true):=rfl
theorem Wm(id tot:Int)(a:Qa)(ps:List P)(c:Nat)(w:World)(N:Pcs w w a ps)(hn:(ps.length:Int)<=1048576)(Z:∀p∈ps,p.2.length<=1048576):
  Qh 44 #[.agg #[Yi id,Yi tot,.slice a ps.length c]] w (Xz (.tuple #[Yi (O8 id tot ps).1,Yi (O8 id tot ps).2.1,.bool (O8 id tot ps).2.2]) w):=by
 obtain⟨R,hR⟩:=Qe (O8 id tot ps);rw[<-hR];have HR:=Qf hR;clear hR;cases ps with
 | nil=>
  have H:Qg (R=(0,0,false)):=Qf HR.o;clear HR;simp only[aK];go_enter func44,ntmps44;go_wp2;go_ret3;exact⟨Zw H.o,ba w _⟩
 | cons p rest=>
  obtain⟨n,M⟩:=Qe ((p::rest).length);have D3:0<n:=Zn M;obtain⟨I,HN⟩:=Yj (fun W hp h1 h2=>jq id tot a (p::rest) c W hp h1 h2) M;rw[<-M] at hn I ⊢;clear M;have t0:((n:Int)==0)=false:=Zt;obtain⟨b,A1,rfl,X,hc,hd⟩:=N 0 Zs;simp only[aS,dG,QI] at hc hd;obtain⟨o,T⟩:=p;simp only at hc hd;have B3:(T.length:Int)<=1048576:=by have:=Z (o,T) Zs; simp only at this; omega
  obtain⟨W,hW⟩:∃W:World,w.alloc (.cells #[Yi id,Yi tot,.slice (some ⟨b,A1,none⟩) n c] 32)=W:=⟨_,rfl⟩;have K:Qg (PM w W):=Qf (hW▸ba w _);have w1:W.cell? ⟨w,1,none⟩=some (Yi tot):=by rw[<-hW]; simp[go_sem]
  have w2:W.cell? ⟨w,2,none⟩=some (.slice (some ⟨b,A1,none⟩) n c):=by rw[<-hW]; simp[go_sem]
  have A5:(w:Nat)+1<=(W:Nat):=by rw[<-hW]; simp
  obtain⟨A4,HW⟩:=Yj (I.o W ((N.below K.o nr).mono Zo) Zo (fun p hp=>Zh (Z p hp))) hW;clear hW I;have B0:=Qf N;clear N Z;go_enter func44,ntmps44;go_wp2_with fail;rw[HW.o];refine A4.o.mono ?_;rintro e x ⟨rfl,hb⟩;have x1:=(hb.cell (p:=⟨w,1,none⟩) Zt).trans w1;have x2:=(hb.cell (p:=⟨w,2,none⟩) Zt).trans w2;have E:Qg (PM w x):=Qf (XT K.o hb);have C9:=(E.o.cell (p:=⟨b,A1,none⟩) X).trans hc;have D0:=(E.o.cell (p:=⟨b,A1+1,none⟩) X).trans hd;have D5:(w:Nat)+1<=(x:Nat):=aC A5 hb.size;clear hb w1 w2 hc hd A4 HW K A5;clear W;cases O:gm id tot ((o,T)::rest) with
  | false=>
   have H:Qg (R=(0,0,false)):=Qf (by rw[HR.o,uG,if_pos O]);clear O;go_wp2;go_ret3;exact⟨Zw H.o,E.o⟩
  | true=>
   have HV:=Qf O;have Q:(0<=tot/\tot<=1048576)/\vgo tot (-1) ((o,T)::rest)=true:=by
    unfold gm at O;simp at O;exact⟨⟨O.1.2.2.1,O.1.2.2.2⟩,O.2⟩
   obtain⟨⟨B9,C0⟩,Q⟩:=Q;have B8:=ni Q (o,T) Zs;obtain⟨B5,_,B6,_⟩:=B8;simp only[PU] at B5 B6;clear O;by_cases G:0<o
   ·have H:Qg (R=(0,o,true)):=Qf (by rw[HR.o,uG,if_neg (Zn HV.o),if_pos G]);have g0:decide (0<o)=true:=Zu G;go_wp2_with fail;go_quiet (fail);go_wp2;go_ret3;exact⟨Zw H.o,below_drewN (E.o.alloc Zo _) _⟩
   ·have g0:decide (0<o)=false:=Zu G;obtain rfl:o=0:=Zo;have H:Qg (R=if PU ((0:Int),T)=nxt tot rest then(0,0,false) else(PU ((0:Int),T),nxt tot rest-PU ((0:Int),T),true)):=Qf (by rw[HR.o,uG,if_neg (Zn HV.o),if_neg Zs]);obtain⟨nx,J⟩:=Qe (nxt tot rest);rw[<-J] at H;have U:0<=nx/\nx<=1048576:=by
     cases rest with
     | nil=>rw[J]; exact⟨B9,C0⟩
     | cons q qs=>
      have hq:=ni Q q Zs;simp only[PU] at hq;rw[J];simp only[nxt];omega
    obtain⟨U,C6⟩:=U;have A3:=Qf J;clear J HR HV G g0;have Y:(n=1/\nx=tot)\/(1<n/\x.cell? ⟨b,A1+2,none⟩=some (Yi nx)):=by
     cases rest with
     | nil=>exact .inl ⟨Zw HN.o,A3.o⟩
     | cons q qs=>
      refine .inr ⟨Zn HN.o,?_⟩;obtain⟨b',A2,he,C4,L,_⟩:=B0.o 1 Zs;cases he;simp only[bK,aS,Nat.one_mul] at L;rw[A3.o];exact(E.o.cell (p:=⟨b,A1+2,none⟩) X).trans L
    have HE:=Qf (fun W=>Kr 0 T W (rP _) Zo B3);rw[show(0:Int)+(T.length:Int)=(T.length:Int) from Zo] at HE;simp only[PU,show(0:Int)+(T.length:Int)=(T.length:Int) from Zo] at H;have A6:=fun x=>bP x1 x
    have A7:=fun x=>bP x2 x
    rcases Y with⟨S,B4⟩ | ⟨S,L⟩
    ·subst B4;go_wp2_with fail;refine(HE.o _).mono ?_;rintro e u ⟨rfl,C⟩;have u0:=(C.cell (p:=⟨x,0,none⟩) Zs).trans (show(x.alloc (.cells #[Yi 0,T] 78)).cell? x=some (Yi 0) by simp[go_sem]);have u1:=(C.cell (p:=⟨x,1,none⟩) Zs).trans (show(x.alloc (.cells #[Yi 0,T] 78)).cell? ⟨x,1,none⟩=some (.string ⟨T.toArray⟩) by simp[go_sem]);have D:Qg (PM w u):=Qf ((E.o.alloc Zo _).trans (C.mono Zt));clear C;by_cases B:(T.length:Int)=nx
     ·have F:Qg (R=(0,0,false)):=Qf (by rw[H.o,if_pos B]);have g2:((T.length:Int)==nx)=true:=Zu B;clear B;go_wp2;go_ret3;exact⟨Zw F.o,D.o⟩
     ·have F:Qg (R=((T.length:Int),nx-(T.length:Int),true)):=Qf (by rw[H.o,if_neg B]);have g2:((T.length:Int)==nx)=false:=Zu B;have C1:IntKind.i64.wrap (nx-(T.length:Int))=nx-(T.length:Int):=IntWalk.i64_in _ Zo;clear B;have A0:=Qf (fun(d:Nat) (os:Array Obj)=>YJ (w:=u) (d:=d) (os:=os) (HE.o _));have k0:=YG u0;have k1:=YG u1;go_wp2_with fail;refine YH Zk Zk ?_
      repeat (any_goals (first | go_big_quiet_step (exact A0.o _ _) | quiet_step (exact A0.o _ _)))
      refine YI ?_;intro y hy;have V:=aX hy;clear hy A0 k0 k1;go_wp2;go_ret3;exact⟨Zw F.o,(XT D.o V)⟩
    ·have g1:decide (1<n)=true:=Zu S;have C5:=fun x=>bP L x
     go_wp2_with fail;refine(HE.o _).mono ?_;rintro e u ⟨rfl,C⟩;have u0:=(C.cell (p:=⟨x,0,none⟩) Zs).trans (show(x.alloc (.cells #[Yi 0,T] 78)).cell? x=some (Yi 0) by simp[go_sem]);have u1:=(C.cell (p:=⟨x,1,none⟩) Zs).trans (show(x.alloc (.cells #[Yi 0,T] 78)).cell? ⟨x,1,none⟩=some (.string ⟨T.toArray⟩) by simp[go_sem]);have D:Qg (PM w u):=Qf ((E.o.alloc Zo _).trans (C.mono Zt));clear C;by_cases B:(T.length:Int)=nx
     ·have F:Qg (R=(0,0,false)):=Qf (by rw[H.o,if_pos B]);have g2:((T.length:Int)==nx)=true:=Zu B;clear B;go_wp2;go_ret3;exact⟨Zw F.o,D.o⟩
     ·have F:Qg (R=((T.length:Int),nx-(T.length:Int),true)):=Qf (by rw[H.o,if_neg B]);have g2:((T.length:Int)==nx)=false:=Zu B;have C1:IntKind.i64.wrap (nx-(T.length:Int))=nx-(T.length:Int):=IntWalk.i64_in _ Zo;clear B;have A0:=Qf (fun(d:Nat) (os:Array Obj)=>YJ (w:=u) (d:=d) (os:=os) (HE.o _));have k0:=YG u0;have k1:=YG u1;go_wp2_with fail;refine YH Zk Zk ?_
      repeat (any_goals (first | go_big_quiet_step (exact A0.o _ _) | quiet_step (exact A0.o _ _)))
      refine YI ?_;intro y hy;have V:=aX hy;clear hy A0 k0 k1;go_wp2;go_ret3;exact⟨Zw F.o,(XT D.o V)⟩
theorem E8(id off tot:Int)(a:Qa)(nd cd:Nat)(s:ByteArray)(w:World)(h:id<0\/1099511627776<id):
  Qh 70 #[.agg #[Yi 2,Yi id,Yi off,Yi tot,.slice a nd cd,.string s]] w fun e w'=>e=.returned (.bool false)/\w.alloc (.cells #[Yi 2,Yi id,Yi off,Yi tot,.slice a nd cd,.string s] 73)=w':=by
 go_enter func70,ntmps70;go_wp2
 all_goals
  go_ret;exact⟨rfl,rfl⟩
def v2i(id off tot:Int)(nd n:Nat):Bool:=decide (0<=id/\id<=1099511627776)&&v2 off tot nd n
theorem E9(id off tot:Int)(a:Qa)(nd cd:Nat)(T:Qb)(w:World)(hs:(T.length:Int)<=140737488355328):
  Qh 70 #[.agg #[Yi 2,Yi id,Yi off,Yi tot,.slice a nd cd,T]] w (Xz (.bool (v2i id off tot nd T.length)) w):=by
 by_cases h:0<=id/\id<=1099511627776
 ·refine(OA id off tot a nd cd ⟨T.toArray⟩ w h.1 h.2 (by rw[bH]; exact hs)).mono ?_;rintro e w' ⟨rfl,rfl⟩;rw[bH];refine⟨?_,ba w _⟩;unfold v2i; rw[XI h]; rfl
 ·refine(E8 id off tot a nd cd ⟨T.toArray⟩ w Zo).mono ?_;rintro e w' ⟨rfl,rfl⟩;refine⟨?_,ba w _⟩;unfold v2i; rw[XN h]; rfl
def Lj(off mid mtot:Int)(data:Qb)(ps:List P):Int×Int×Int×List P:=
 match lg (off+data.length) (off,data) (ps.drop (jB off ps)) with
  | none=>(11,0,0,[])
  | some (p,k)=>(0,mid,mtot,ps.take (jB off ps)++p::ps.drop (jB off ps+k))
def sQ(w:World)(r:Int×Int×Int×List P)(e:Ending)(w':World):Prop:=
 ∃a c,e=.returned (.tuple #[.agg #[Yi r.2.1,Yi r.2.2.1,.slice a r.2.2.2.length c],Yi r.1])/\Pcs w' w' a r.2.2.2/\PM w w'/\r.2.2.2.length<=c/\∀ad,a=some ad->(w:Nat)<=ad.block
theorem Av{w':World}{r:Int×Int×Int×List P}(er:Int)(h:r=(er,0,0,[]))(A:PM w w'):sQ w r (.returned (.tuple #[.agg #[Yi 0,Yi 0,()],Yi er])) w':=by
 subst h;exact⟨none,0,rfl,fun i B=>by simp at B,A,nr,fun ad h=>by cases h⟩
theorem II(w:World)(C:0<=oa)(D:oa<=1048576)(E:0<=ob)(F:ob<=1048576)(H:(A.length:Int)<=1048576)(I:(B.length:Int)<=1048576)(J:ob<=oa+A.length)(G:oa<=ob+B.length)(h:kZ (oa,A) (ob,B)=none):
  Qh 159 #[.agg #[Yi oa,A],.agg #[Yi ob,B]] w (Xz (.tuple #[.agg #[Yi 0,Ye],.bool false]) w):=by
 have:=y8 oa ob A B w C D E F H I J G;rw[h] at this;exact this
theorem IG{ro:Int}{RT:Qb}(w:World)(C:0<=oa)(D:oa<=1048576)(E:0<=ob)(F:ob<=1048576)(H:(A.length:Int)<=1048576)(I:(B.length:Int)<=1048576)(J:ob<=oa+A.length)(G:oa<=ob+B.length)(h:kZ (oa,A) (ob,B)=some (ro,RT)):
  Qh 159 #[.agg #[Yi oa,A],.agg #[Yi ob,B]] w (Xz (.tuple #[.agg #[Yi ro,RT],.bool true]) w):=by
 have:=y8 oa ob A B w C D E F H I J G;rw[h] at this;exact this
theorem LW{u:World}(A:Below (u.drew.alloc (.cells #[Yi 0,Ye] 78)).heap.size (u.drew.alloc (.cells #[Yi 0,Ye] 78)) x):
  x.cell? u=some (Yi 0)/\x.cell? ⟨u,1,none⟩=some (.string ⟨#[]⟩)/\x.frozen? u=false/\x.frozen? ⟨u,1,none⟩=false:=
 ⟨(A.cell (p:=⟨u,0,none⟩) Zs).trans (by simp[go_sem]),(A.cell (p:=⟨u,1,none⟩) Zs).trans (by simp[go_sem]),(A.frozen (p:=⟨u,0,none⟩) Zs).trans (by simp[go_sem]),(A.frozen (p:=⟨u,1,none⟩) Zs).trans (by simp[go_sem])⟩
theorem Me{a b c d G:Prop}(h:a/\b/\c/\d)(k:a->b->c->d->G):G:=k h.1 h.2.1 h.2.2.1 h.2.2.2
theorem CO{y4:World}{g mk:Nat}{t:TypeId}(E:R=(0,mid,mtot,qs))(I:qs.length=mk)(A:y4.heap[g]? = some (.cells (gD qs).toArray t (0,0)))(F:PM w y4)(J:(w:Nat)+3<=g):
  sQ w R (.returned (.tuple #[.agg #[Yi mid,Yi mtot,.slice g mk mk],Yi 0])) (((y4.setCell ⟨(w:Nat)+1+1,0,none⟩ (Yi mid)).setCell ⟨(w:Nat)+1+1,1,none⟩ (Yi mtot)).setCell ⟨(w:Nat)+1+1,2,none⟩ (.slice g mk mk)):=by
 subst E I;refine⟨some ⟨g,0,none⟩,qs.length,rfl,?_,((F.setCell Zt _).setCell Zt _).setCell Zt _,nr,fun ad h=>by cases h; show (w:Nat)<=g; omega⟩;intro i H;obtain⟨b,K,G,B,C,D⟩:=Pcs.row A i H;cases G;refine⟨g,0,rfl,Zu B,?_,?_⟩
 ·simp only[aZ] at C ⊢;simp[go_sem,C]
 ·simp only[aZ] at D ⊢;simp[go_sem,D]
structure GC (B:Nat) (id tot:Int) (a:Qa) (n c:Nat) (kind mid off mtot:Int) (ad:Qa) (nd cd:Nat) (data:Qb) (W:World):Prop where
 w0:W.cell? B=some (Yi id)
 w1:W.cell? ⟨B,1,none⟩=some (Yi tot)
 w2:W.cell? ⟨B,2,none⟩=some (.slice a n c)
 m0:W.cell? ⟨B+1,0,none⟩=some (Yi kind)
 m1:W.cell? ⟨B+1,1,none⟩=some (Yi mid)
 m2:W.cell? ⟨B+1,2,none⟩=some (Yi off)
 m3:W.cell? ⟨B+1,3,none⟩=some (Yi mtot)
 m4:W.cell? ⟨B+1,4,none⟩=some (.slice ad nd cd)
 m5:W.cell? ⟨B+1,5,none⟩=some (.string ⟨data.toArray⟩)
 r0:W.cell? ⟨B+1+1,0,none⟩=some (Yi 0)
 r1:W.cell? ⟨B+1+1,1,none⟩=some (Yi 0)
 r2:W.cell? ⟨B+1+1,2,none⟩=some (.slice none 0 0)
 f0:W.frozen? ⟨B+1+1,0,none⟩=false
 f1:W.frozen? ⟨B+1+1,1,none⟩=false
 f2:W.frozen? ⟨B+1+1,2,none⟩=false
 hs:B+3<=(W:Nat)
theorem GC.below{B:Nat}{id tot:Int}{a:Qa}{n c:Nat}{kind mid off mtot:Int}{ad:Qa}{nd cd:Nat}{data:Qb}{W W':World}{B':Nat}
  (h:GC B id tot a n c kind mid off mtot ad nd cd data W) (A:Below B' W W') (C:B+3<=B'):GC B id tot a n c kind mid off mtot ad nd cd data W' where
 w0:=(A.cell (p:=⟨B,0,none⟩) Zt).trans h.w0
 w1:=(A.cell (p:=⟨B,1,none⟩) Zt).trans h.w1
 w2:=(A.cell (p:=⟨B,2,none⟩) Zt).trans h.w2
 m0:=(A.cell (p:=⟨B+1,0,none⟩) Zt).trans h.m0
 m1:=(A.cell (p:=⟨B+1,1,none⟩) Zt).trans h.m1
 m2:=(A.cell (p:=⟨B+1,2,none⟩) Zt).trans h.m2
 m3:=(A.cell (p:=⟨B+1,3,none⟩) Zt).trans h.m3
 m4:=(A.cell (p:=⟨B+1,4,none⟩) Zt).trans h.m4
 m5:=(A.cell (p:=⟨B+1,5,none⟩) Zt).trans h.m5
 r0:=(A.cell (p:=⟨B+1+1,0,none⟩) Zt).trans h.r0
 r1:=(A.cell (p:=⟨B+1+1,1,none⟩) Zt).trans h.r1
 r2:=(A.cell (p:=⟨B+1+1,2,none⟩) Zt).trans h.r2
 f0:=(A.frozen (p:=⟨B+1+1,0,none⟩) Zt).trans h.f0
 f1:=(A.frozen (p:=⟨B+1+1,1,none⟩) Zt).trans h.f1
 f2:=(A.frozen (p:=⟨B+1+1,2,none⟩) Zt).trans h.f2
 hs:=aC h.hs A.size
theorem tJ(h:R=(er,0,0,[]))(A:PM w x):
  sQ w R (.returned (.tuple #[.agg #[Yi 0,Yi 0,()],Yi er])) (((x.setCell ⟨(w:Nat)+1+1,0,none⟩ (Yi 0)).setCell ⟨(w:Nat)+1+1,1,none⟩ (Yi 0)).setCell ⟨(w:Nat)+1+1,2,none⟩ (.slice none 0 0)):=
 Av er h (((A.setCell Zt _).setCell Zt _).setCell Zt _)
theorem Ou(id tot:Int)(a:Qa)(ps:List P)(c:Nat)(kind mid off mtot:Int)(ad:Qa)(nd cd:Nat)(data:Qb)(w:World)
  (J0:Pcs w w a ps) (C4:ps.length<=c) (hn:(ps.length:Int)<=1048576) (J3:∀p∈ps,p.2.length<=1048576) (O9:(data.length:Int)<=1048576) :
  Qh 103 #[.agg #[Yi id,Yi tot,.slice a ps.length c],.agg #[Yi kind,Yi mid,Yi off,Yi mtot,.slice ad nd cd,data]] w
   (sQ w (nJ id tot ps kind mid off mtot nd data)):=by
 have HS:Qg (∀p∈ps,p.2.length<=1048576):=Qf J3;clear J3;obtain⟨R,hR⟩:=Qe (nJ id tot ps kind mid off mtot nd data);rw[<-hR];have HR:=Qf hR;clear hR;obtain⟨n,E8⟩:=Qe ps.length;obtain⟨I,A4⟩:=Yj E8 (fun W hp h1 h2=>jq id tot a ps c W hp h1 h2);rw[<-E8] at hn C4 A4 ⊢;clear E8;obtain⟨W,hW⟩:∃W:World,(((w.alloc (.cells #[Yi id,Yi tot,.slice a n c] 32)).alloc (.cells #[Yi kind,Yi mid,Yi off,Yi mtot,.slice ad nd cd,data] 73)).alloc (.cells #[Yi 0,Yi 0,()] 32))=W:=⟨_,rfl⟩;have B0:Qg (PM w W):=Qf (by rw[<-hW]; exact((ba w _).alloc Zs _).alloc Zt _);have HG:Qg (GC (w:Nat) id tot a n c kind mid off mtot ad nd cd data W):=Qf (by
  rw[<-hW];constructor <;> simp[go_sem])
 have D6:Qg (Pcs w W a ps):=Qf (J0.below B0.o nr);have HW:=Qf hW;clear hW J0;have G7:=Qf (A4.o W (D6.o.mono (Zh HG.o.hs)) Zo (fun p hp=>Zh (HS.o p hp)));go_enter func103,ntmps103;go_wp2_with fail;rw[HW.o];refine G7.o.mono ?_;rintro e x ⟨rfl,N⟩;have HX:Qg (GC (w:Nat) id tot a n c kind mid off mtot ad nd cd data x):=Qf (HG.o.below N HG.o.hs);have Y:Qg (PM w x):=Qf (XT B0.o N);have G4:Qg (Pcs w x a ps):=Qf (D6.o.below N (Zh HG.o.hs));clear N G7 A4 HW HG B0 D6 W;obtain⟨w0,w1,w2,m0,m1,m2,m3,m4,m5,r0,r1,r2,f0,f1,f2,hs⟩:=HX.o;cases F:gm id tot ps with
 | false=>
  have Z:Qg (R=(1,0,0,[])):=Qf (by rw[HR.o,nJ,F]; rfl);clear F;go_wp2;refine XB (v:=.tuple #[.agg #[Yi 0,Yi 0,()],Yi 1]) (by simp[results,results103,go_sem,r0,r1,r2]) rfl (tJ Z.o Y.o)
 | true=>
  by_cases hk:kind=2
  ·subst hk;obtain⟨B3,HV⟩:=Yj (show R=if !v2i mid off mtot nd data.length then(1,0,0,[]) else if 0<ps.length/\(id≠mid\/tot≠mtot) then(11,0,0,[]) else Lj off mid mtot data ps from by rw[HR.o,nJ,F]; rfl) F;clear F HR;go_wp2_with fail;refine(E9 mid off mtot ad nd cd data x Zo).mono ?_;rintro e y ⟨rfl,N⟩;clear w0 w1 w2 m0 m1 m2 m3 m4 m5 r0 r1 r2 f0 f1 f2;have HY:Qg (GC (w:Nat) id tot a n c 2 mid off mtot ad nd cd data y):=Qf (HX.o.below N hs);have H:Qg (PM w y):=Qf (XT Y.o N);have A0:Qg (Pcs w y a ps):=Qf (G4.o.below N Zo);clear N HX Y G4 hs x;obtain⟨w0,w1,w2,m0,m1,m2,m3,m4,m5,r0,r1,r2,f0,f1,f2,hs⟩:=HY.o;cases F:v2i mid off mtot nd data.length with
   | false=>
    have Z:Qg (R=(1,0,0,[])):=Qf (by rw[B3.o,F]; rfl);clear F;go_wp2;refine XB (v:=.tuple #[.agg #[Yi 0,Yi 0,()],Yi 1]) (by simp[results,results103,go_sem,r0,r1,r2]) rfl (tJ Z.o H.o)
   | true=>
    go_upto_region 7 with fail
    go_cut [41] from 24 (fun c wx=>c=.bool (decide (0<n/\(id≠mid\/tot≠mtot)))/\y=wx)
    case first=>
     by_cases h0:0<n
     ·have g1:decide (0<n)=true:=Zu h0;by_cases hi:id=mid
      ·have g2:(id==mid)=true:=Zu hi;by_cases ht:tot=mtot
       ·have g3:(tot==mtot)=true:=Zu ht;go_wp2_with fail;go_meet
        case rel=>exact⟨congrArg Value.bool (XN Zo).symm,rfl⟩
       ·have g3:(tot==mtot)=false:=Zu ht;go_wp2_with fail;go_meet
        case rel=>exact⟨congrArg Value.bool (by rw[XI (by omega:0<n/\(id≠mid\/tot≠mtot))]; simpa[bne] using g3),rfl⟩
      ·have g2:(id==mid)=false:=Zu hi;go_wp2_with fail;go_meet
       case rel=>exact⟨congrArg Value.bool (XI Zo).symm,rfl⟩
     ·have g1:decide (0<n)=false:=Zu h0;go_wp2_with fail;go_meet
      case rel=>exact⟨congrArg Value.bool (XN Zo).symm,rfl⟩
    case rest=>
    obtain⟨rfl,rfl⟩:=hcut;by_cases hm:0<n/\(id≠mid\/tot≠mtot)
    ·have Z:Qg (R=(11,0,0,[])):=Qf (by rw[B3.o,F,<-I.o,if_pos hm]; rfl);have g1:decide (0<n/\(id≠mid\/tot≠mtot))=true:=XI hm;rw[g1];clear F hm g1;go_wp2;refine XB (v:=.tuple #[.agg #[Yi 0,Yi 0,()],Yi 11]) (by simp[results,results103,go_sem,r0,r1,r2]) rfl (tJ Z.o H.o)
    ·have D8:=Qf (show R=Lj off mid mtot data ps from by rw[B3.o,F,<-I.o,if_neg hm]; rfl);have g1:decide (0<n/\(id≠mid\/tot≠mtot))=false:=XN hm;rw[g1];have M7:(0<=mid/\mid<=1099511627776)/\(1<=data.length/\data.length<=65536/\1<=mtot/\mtot<=1048576/\0<=off/\off<=mtot-data.length/\nd=0):=by
      unfold v2i v2 at F; simpa using F
     clear F B3;obtain⟨⟨M3,M4⟩,P6,P7,P8,P9,M5,Q0,rfl⟩:=M7;have B4:Qg (0<n->vgo mtot (-1) ps=true):=Qf (fun h0=>by
      have hi:id=mid:=Zo;have ht:tot=mtot:=Zo;subst hi ht;have:=HV.o
      rwa[zi (I.o▸h0) ⟨M3,M4,Zo,Zo⟩] at this)
     clear hm g1 HV;obtain⟨z,hz⟩:∃z:World,y.alloc (.cells #[Yi off,data] 78)=z:=⟨_,rfl⟩;have C0:(y:Nat)+1<=(z:Nat):=by rw[<-hz]; simp
     have U:Qg (PM y z):=Qf (hz▸ba y _);have HZ:Qg (GC (w:Nat) id tot a n c 2 mid off mtot ad 0 cd data z):=Qf (HY.o.below U.o hs);have D2:Qg (PM w z):=Qf (XT H.o U.o);have D7:Qg (Pcs w z a ps):=Qf (A0.o.below U.o Zo);have p0:z.cell? y=some (Yi off):=by rw[<-hz]; simp[go_sem]
     have p1:z.cell? ⟨y,1,none⟩=some (.string ⟨data.toArray⟩):=by rw[<-hz]; simp[go_sem]
     have p2:z.frozen? y=false:=by rw[<-hz]; simp[go_sem]
     have p3:z.frozen? ⟨y,1,none⟩=false:=by rw[<-hz]; simp[go_sem]
     have G9:=Qf hz;clear hz;go_upto_block 0 with fail
     rw[G9.o];clear U A0 H HY G9;obtain⟨b6,H7⟩:=Qe (y:Nat);rw[<-H7] at hs C0 p0 p1 p2 p3 ⊢;clear H7 w0 w1 w2 m0 m1 m2 m3 m4 m5 r0 r1 r2 f0 f1 f2;clear y;have K:Qg (∀f,f<=n->(∀i (h:i<ps.length),i<f->PU ps[i]<off)->(∀(h:f<ps.length),¬PU ps[f]<off)->jB off ps=f):=Qf (fun f h1 h2 h3=>Lg (I.o▸h1) h2 h3);go_cut [7] from 48 to 65 (fun i wr=>∃f:Nat,f<=n/\i=Yi f/\Below (b6+1) z wr/\jB off ps=f/\Qg (∀(h:f<ps.length),off<=PU ps[f]))
     case first=>
      go_wp2;go_loopw [7] (fun i wr=>∃f:Nat,f<=n/\i=Yi f/\Below (b6+1) z wr/\Qg (∀i (h:i<ps.length),i<f->PU ps[i]<off)) (fun i _=>n-(intOf i).toNat)
      case atStart=>exact⟨0,Zo,rfl,bf _,Qf (fun i _ h=>Zo)⟩
      case round=>
       obtain⟨f,hf,rfl,B,D3⟩:=hrel;have HB:=Qf B;have HQ:Qg (GC (w:Nat) id tot a n c 2 mid off mtot ad 0 cd data wr):=Qf (HZ.o.below B Zo);have D4:Qg (Pcs w wr a ps):=Qf (D7.o.below B Zo);have X:b6+1<=(wr:Nat):=aC C0 B.size;have q0:=(B.cell (p:=⟨b6,0,none⟩) Zs).trans p0;have q1:=(B.cell (p:=⟨b6,1,none⟩) Zs).trans p1;have q2:=(B.frozen (p:=⟨b6,0,none⟩) Zs).trans p2;have q3:=(B.frozen (p:=⟨b6,1,none⟩) Zs).trans p3;have G0:Qg (PM w wr):=Qf (D2.o.trans (B.mono Zo));clear B;by_cases O:f<n
       ·have g0:decide (f<n)=true:=Zu O;have C:f<ps.length:=I.o▸O;obtain⟨b,o1,rfl,L2,hc,hd⟩:=D4.o f C;obtain⟨o,ho⟩:=Qe (ps[f].1);obtain⟨T,hT⟩:=Qe (ps[f].2);have S:=ni (B4.o Zo) ps[f] (ak C);have H4:(T.length:Int)<=1048576:=by have:=HS.o ps[f] (ak C); rw[hT]; omega
        rw[<-ho] at hc;rw[<-hT] at hd;have Q:PU ps[f]=o+T.length:=by rw[ho,hT]
        have F0:0<=o:=ho▸S.1;have L8:o<=1048576:=by have:=S.2.2.1; rw[Q] at this; omega
        have D:=Qf Q;clear ho hT S Q;have HE:=Qf (fun(d:Nat) (os:Array Obj)=>YJ (w:=wr) (d:=d) (os:=os) (Kr o T _ F0 L8 H4));have k0:=YG HQ.o.w2;have k1:=YG hc;have k2:=YG hd;have k3:=YG q0;go_wp2_with fail;refine YH Zk Zk ?_
        repeat (any_goals (first | go_big_quiet_step (exact HE.o _ _) | quiet_step (exact HE.o _ _)))
        refine YI ?_;intro x2 B8;have J:=aX B8;clear B8 HE k0 k1 k2 k3;by_cases L7:o+(T.length:Int)<off
        ·go_wp2;go_roundw
         case rel=>exact⟨f+1,Zo,Zg,HB.o.trans (J.mono Zo),Qf (fun i hi P2=>by
           by_cases I4:i<f
           ·exact D3.out i hi I4
           ·obtain rfl:i=f:=Zo;rw[D.o]; exact L7)⟩
         case measure=>exact Yq
        ·have M:=K.o f hf D3.out (fun _=>Zy D.o);go_wp2_with fail;go_meet
         case rel=>exact⟨f,hf,rfl,HB.o.trans (J.mono Zo),M,Qf (fun _=>Zy D.o)⟩
       ·have g0:decide (f<n)=false:=Zu O;obtain rfl:f=n:=Zo;have k0:=HQ.o.w2;have M:=K.o f hf D3.out (fun h=>by rw[<-I.o] at h; omega);go_wp2_with fail;go_quiet (fail);go_wp2_with fail;go_meet
        case rel=>exact⟨f,hf,rfl,below_drewN HB.o _,M,Qf (fun h=>by rw[<-I.o] at h; omega)⟩
     case rest=>
     obtain⟨f,hf,rfl,B,I1,G2⟩:=hcut;go_upto_block 2 with fail
     obtain⟨v,J4⟩:=Qe wc;rw[<-J4] at B ⊢;clear J4;have E2:Qg (GC (w:Nat) id tot a n c 2 mid off mtot ad 0 cd data v):=Qf (HZ.o.below B Zo);have D5:Qg (Pcs w v a ps):=Qf (D7.o.below B Zo);have M6:b6+1<=(v:Nat):=aC C0 B.size;have v0:=(B.cell (p:=⟨b6,0,none⟩) Zs).trans p0;have v1:=(B.cell (p:=⟨b6,1,none⟩) Zs).trans p1;have v2:=(B.frozen (p:=⟨b6,0,none⟩) Zs).trans p2;have v3:=(B.frozen (p:=⟨b6,1,none⟩) Zs).trans p3;have D1:Qg (PM w v):=Qf (D2.o.trans (B.mono Zo));clear B D2 D7 HZ p0 p1 p2 p3 C0 K;have M:=Qf I1;clear I1;go_cut [8,9,10] from 67 to 102 (fun i _ _ wr=>∃(t:Nat) (po:Int) (PT:Qb),f<=t/\t<=n/\i=Yi t/\Below b6 v wr/\b6+1<=(wr:Nat)/\wr.cell? b6=some (Yi po)/\wr.cell? ⟨b6,1,none⟩=some (.string ⟨PT.toArray⟩)/\Qg (lg (off+data.length) (off,data) (ps.drop f)=some ((po,PT),t-f)))
     case first=>
      go_wp2;go_loopw [8] (fun i wr=>∃(t:Nat) (po:Int) (PT:Qb),i=Yi t/\Below b6 v wr/\b6+1<=(wr:Nat)/\wr.cell? b6=some (Yi po)/\wr.cell? ⟨b6,1,none⟩=some (.string ⟨PT.toArray⟩)/\wr.frozen? b6=false/\wr.frozen? ⟨b6,1,none⟩=false/\GU (off+data.length) off mtot data ps f t (po,PT)) (fun i _=>n-(intOf i).toNat)
      case atStart=>exact⟨f,off,data,rfl,bf _,M6,v0,v1,v2,v3,GU.start (I.o▸hf) M5 (rP _) Zo⟩
      case round=>
       obtain⟨t,po,PT,rfl,B,X,q0,q1,q2,q3,hrel⟩:=hrel;have HB:=Qf B;have HQ:Qg (GC (w:Nat) id tot a n c 2 mid off mtot ad 0 cd data wr):=Qf (E2.o.below B Zo);have D4:Qg (Pcs w wr a ps):=Qf (D5.o.below B Zo);have G0:Qg (PM w wr):=Qf (D1.o.trans (B.mono Zo));have B1:=Qf hrel;obtain⟨E7,A9,_,I6,I7,I8,I9⟩:=hrel;simp only[PU] at I6 I7 I8 I9;rw[<-I.o] at A9;clear B v0 v1 v2 v3;by_cases O:t<n
       ·have g0:decide (t<n)=true:=Zu O;have C:t<ps.length:=I.o▸O;obtain⟨b,o1,rfl,L2,hc,hd⟩:=D4.o t C;obtain⟨o,ho⟩:=Qe (ps[t].1);obtain⟨T,hT⟩:=Qe (ps[t].2);have S:=ni (B4.o Zo) ps[t] (ak C);have H4:(T.length:Int)<=1048576:=by have:=HS.o ps[t] (ak C); rw[hT]; omega
        have I5:off<=PU ps[t]:=by
         have h1:=G2.out Zo;by_cases I0:f=t
         ·subst I0; exact h1
         ·have h2:=wm (B4.o Zo) f t C Zo;have h3:ps[t].1<=PU ps[t]:=by simp only[PU]; omega
          omega
        rw[<-ho] at hc;rw[<-hT] at hd;have Q:ps[t]=(o,T):=by rw[ho,hT]
        have A7:PU ps[t]=o+T.length:=Zx Q;have F0:0<=o:=ho▸S.1;have L9:o+T.length<=mtot:=by rw[<-A7]; exact S.2.2.1
        rw[A7] at I5;have D:=Qf Q;clear ho hT S Q A7;have k0:=HQ.o.w2;have k1:=HQ.o.m2;have k2:=HQ.o.m5;by_cases A6:o<=off+(data.length:Int)
        ·have g1:decide (o<=off+(data.length:Int))=true:=Zu A6;obtain⟨B2,ro,RT,HJ,G3⟩:∃(B2:Bool) (ro:Int) (RT:Qb),Qg (∀w,Qh 159 #[.agg #[Yi po,PT],.agg #[Yi o,T]] w (Xz (.tuple #[.agg #[Yi ro,RT],.bool B2]) w))/\Qg ((B2=true/\kZ (po,PT) (o,T)=some (ro,RT))\/(B2=false/\kZ (po,PT) (o,T)=none)):=by
          cases hj:kZ (po,PT) (o,T) with
          | none=>exact⟨false,0,[],Qf (fun w=>II w Zo Zo Zo Zo Zo Zo Zo Zo hj),Qf (.inr ⟨rfl,rfl⟩)⟩
          | some r=>exact⟨true,r.1,r.2,Qf (fun w=>IG w Zo Zo Zo Zo Zo Zo Zo Zo hj),Qf (.inl ⟨rfl,rfl⟩)⟩
         go_wp2_with fail;go_quiet (fail);go_upto_region 15 with fail
         obtain⟨u,hu⟩:=Qe (wr.drewN nq);have G:PM wr u:=hu▸below_drewN (bf _) _;have M2:(wr:Nat)<=(u:Nat):=G.size;rw[<-hu];clear hu;have k0:=(G.cell (p:=⟨w,2,none⟩) Zt).trans HQ.o.w2;have t0:=(G.cell (p:=⟨b6,0,none⟩) Zt).trans q0;have t1:=(G.cell (p:=⟨b6,1,none⟩) Zt).trans q1;have t2:=(G.frozen (p:=⟨b6,0,none⟩) Zt).trans q2;have t3:=(G.frozen (p:=⟨b6,1,none⟩) Zt).trans q3;have H8:=(G.cell (p:=⟨b,o1+t*2,none⟩) Zt).trans hc;have H9:=(G.cell (p:=⟨b,o1+t*2+1,none⟩) Zt).trans hd;have K3:=Qf G;clear G k1 k2 q0 q1 q2 q3 hc hd;go_cut [9,10] from 67 to 102 (fun s9 C2 wx=>∃g:Nat,(u:Nat)<=g/\s9=.pointer (some ⟨g,0,none⟩)/\C2=.bool B2/\wx.cell? ⟨g,0,none⟩=some (Yi ro)/\wx.cell? ⟨g,1,none⟩=some (.string ⟨RT.toArray⟩)/\PM u wx)
         case first=>
          have C8:=fun x=>bP k0 x
          have C9:=fun x=>bP t0 x
          have F2:=fun x=>bP t1 x
          have N5:=fun x=>bP H8 x
          have N6:=fun x=>bP H9 x
          go_region_with (first | (go_at_call 159; refine(HJ.out _).mono ?_; rintro e x ⟨rfl,N⟩; (try (refine Me (LW (u:=u) N) ?_; intro e0 e1 e2 e3))))
          all_goals
           go_wp2_with fail;go_meet
           case rel=>
            first
             | exact⟨u,nr,rfl,rfl,by simp[go_sem,e0],by simp[go_sem,e1],(((ba u _).drew.trans (N.mono Zs)).setCell Zs _).setCell Zs _⟩
             | exact⟨x,Zu N.size,rfl,rfl,by simp[go_sem],by simp[go_sem],((bf u).drew.trans N).alloc (Zu N.size) _⟩
         case rest=>
         obtain⟨g,hg,rfl,rfl,g2,g3,V⟩:=hcut;have HX:Qg (PM wr wc):=Qf (K3.o.trans (V.mono M2));have K7:Qg (GC (w:Nat) id tot (some ⟨b,o1,none⟩) n c 2 mid off mtot ad 0 cd data wc):=Qf (HQ.o.below HX.o Zo);have s0:=(V.cell (p:=⟨b6,0,none⟩) Zt).trans t0;have s1:=(V.cell (p:=⟨b6,1,none⟩) Zt).trans t1;have s2:=(V.frozen (p:=⟨b6,0,none⟩) Zt).trans t2;have s3:=(V.frozen (p:=⟨b6,1,none⟩) Zt).trans t3;have Q2:b6+1<=(wc:Nat):=aC X HX.o.size;have P1:b6<g:=Zo;clear V t0 t1 t2 t3 H8 H9 k0 g1 g0;obtain⟨_,_,_,_,_,_,_,_,_,r0,r1,r2,f0,f1,f2,_⟩:=K7.o;cases B2 with
         | false=>
          have Z:Qg (R=(11,0,0,[])):=Qf (by
           have L5:kZ (po,PT) (o,T)=none:=by
            rcases G3.out with⟨h,_⟩ | ⟨_,h⟩
            ·exact absurd h Zd
            ·exact h
           have:=B1.o.fails C (D.o▸A6) (D.o▸L5);rw[D8.o,Lj,M.o,this])
          go_wp2;refine XB (v:=.tuple #[.agg #[Yi 0,Yi 0,()],Yi 11]) (by simp[results,results103,go_sem,r0,r1,r2]) rfl (tJ Z.o (G0.o.trans (HX.o.mono Zo)))
         | true=>
          have K6:Qg (GU (off+data.length) off mtot data ps f (t+1) (ro,RT)):=Qf (by
           have L6:kZ (po,PT) (o,T)=some (ro,RT):=by
            rcases G3.out with⟨_,h⟩ | ⟨h,_⟩
            ·exact h
            ·exact absurd h Zd
           refine B1.o.next C (D.o▸A6) (D.o▸L6) (D.o▸F0) (D.o▸I5) (D.o▸L9))
          go_wp2;go_roundw
          case rel=>exact⟨t+1,ro,RT,Zg,((HB.o.trans (HX.o.mono Zo)).setCell Zs _).setCell Zs _,Zt,by simp[go_sem,s0],by simp[go_sem,s1],by simp[go_sem,s2],by simp[go_sem,s3],K6.o⟩
          case measure=>exact Yq
        ·have g1:decide (o<=off+(data.length:Int))=false:=Zu A6;have HD:=Qf (B1.o.done (fun _=>D.o▸A6));go_wp2_with fail;go_quiet (fail);go_wp2_with fail;go_meet
         case rel=>exact⟨t,po,PT,E7,A9,rfl,below_drewN HB.o _,X,q0,q1,HD⟩
       ·have g0:decide (t<n)=false:=Zu O;obtain rfl:t=n:=Zo;have k0:=HQ.o.w2;have HD:=Qf (B1.o.done (fun h=>by rw[<-I.o] at h; omega));go_wp2_with fail;go_quiet (fail);go_wp2_with fail;go_meet
        case rel=>exact⟨t,po,PT,E7,A9,rfl,below_drewN HB.o _,X,q0,q1,HD⟩
     case rest=>
     obtain⟨t,po,PT,E7,A9,rfl,B,X,q0,q1,HD⟩:=hcut;obtain⟨y,hy⟩:=Qe wc;rw[<-hy] at B X q0 q1 ⊢;clear hy v0 v1 v2 v3;have HY:Qg (GC (w:Nat) id tot a n c 2 mid off mtot ad 0 cd data y):=Qf (E2.o.below B Zo);have A0:Qg (Pcs w y a ps):=Qf (D5.o.below B Zo);have H:Qg (PM w y):=Qf (D1.o.trans (B.mono Zo));clear B E2 D5 D1;have Z:Qg (R=(0,mid,mtot,ps.take f++(po,PT)::ps.drop t)):=Qf (by
      rw[D8.o,Lj,M.o,HD.o];simp only;rw[show f+(t-f)=t from Zo])
     clear D8 HD M G2 B4;obtain⟨mk,P4⟩:∃mk:Nat,(n:Int)-((t:Int)-(f:Int))+1=(mk:Int):=⟨n-(t-f)+1,Zo⟩;have O0:mk<=f+1+(n-t):=Zo;have N9:f+1+(n-t)<=mk:=Zo;obtain⟨B5,I2,L3,I3,L4⟩:=XR Ah;obtain⟨w0,w1,w2,m0,m1,m2,m3,m4,m5,r0,r1,r2,f0,f1,f2,F1⟩:=HY.o;obtain⟨A1,c1,H1,O1⟩:=KA a n c f Zo;obtain⟨A2,c2,H2,_,O2⟩:=DC a n c t A9 C4;have K0:Qg (Pcs w y A1 (ps.take f)):=Qf (H1 _ _ _ A0.o);have K1:Qg (Pcs w y A2 (ps.drop t)):=Qf (H2 _ _ _ I.o.symm A0.o);clear H1 H2;have C7:(prog.info? 78).map (·.size)=some 2:=by rw[I2]; simp[I3]
     obtain⟨X1,E5⟩:=Qe (gD (ps.take f));obtain⟨X2,E6⟩:=Qe (gD (ps.drop t));have C3:X1.length=f*2:=by rw[E5,oU,aA,<-I.o]; omega
     have H5:X2.length=(n-t)*2:=by rw[E6,oU,ah,<-I.o]
     obtain⟨E3,E4⟩:=Yj E5 E6;clear E5 E6;go_wp2_with (at_make; refine wpList_make_full _ rfl _ _ 30 rfl (y:Nat) 78 B5 _ 2 underlying30 I2 L3 I3 _ _ _ _ mk rfl rfl rfl rfl (Zy L4) Zm nr ?_);intro y1 C6 A5;obtain⟨L,hL,A8⟩:=K4 C6;have B6:=ze A5;obtain⟨G5,F9⟩:=Yj A8 B6;have O5:Qg (GC (w:Nat) id tot a n c 2 mid off mtot ad 0 cd data y1):=Qf (HY.o.below B6 F1);have e0:=(B6.cell (p:=⟨w,2,none⟩) Zt).trans w2;have N8:(y:Nat)<(y1:Nat):=(XA.1 A8).1;clear C6 A5 B6 A8 w0 w1 w2 m0 m1 m2 m3 m4 m5 r0 r1 r2 f0 f1 f2;have G6:Qg (0<f->(some (⟨y,0,none⟩:Addr))=some ⟨y,0,none⟩/\∃ad,A1=some ad/\∀j v,X1[j]? = some v->y1.cell? (ad.add j)=some v):=Qf (fun h0=>by
      refine⟨rfl,?_⟩;rw[E3.o];exact(K0.o.below F9.o Zo).src (by rw[aA,<-I.o]; omega))
     go_wp2_with (refine mY rfl (.tmp 112) (.tmp 116) 30 30 rfl 78 2 underlying30 C7 (some ⟨y,0,none⟩) A1 mk mk f c1 rfl rfl (y:Nat) 0 L 78 G5.o X1 f (mM Zo).symm C3 G6.o Zo (fun v F=>wO (by rw[E3.o] at F; exact F)) (y:Nat) y F9.o nr ?_);intro y2 E J;have O4:=Qf J;have O8:(splice L 0 X1).length=mk*2:=by rw[length_splice _ _ _ Zo]; exact hL
     obtain⟨x0,M9⟩:=DT (k:=f*2) E.out Zo;obtain⟨x1,N0⟩:=DT (k:=f*2+1) E.out Zo;have B8:=DN (k:=f*2) E.out;have N1:=DN (k:=f*2+1) E.out;have B7:=(J.cell (p:=⟨b6,0,none⟩) Zt).trans q0;have C1:=(J.cell (p:=⟨b6,1,none⟩) Zt).trans q1;have P0:f<mk:=Zo;obtain⟨y3,B9⟩:∃y3,(y2.setCell ⟨y,f*2,none⟩ (Yi po)).setCell ⟨y,f*2+1,none⟩ (.string ⟨PT.toArray⟩)=y3:=⟨_,rfl⟩;have D9:Qg (y3.heap[(y:Nat)]? = some (.cells (((splice L 0 X1).set (f*2) (Yi po)).set (f*2+1) (.string ⟨PT.toArray⟩)).toArray 78 (0,0))):=Qf (B9▸M8 _ _ E.out);have D0:Qg (PM y y3):=Qf (B9▸(J.setCell (by simp) _).setCell (by simp) _);have G8:=Qf B9;clear B9 J;go_wp2_with fail;rw[G8.o];clear G8 M9 N0 B8 N1 B7 C1 q0 q1 e0;have z0:=(D0.o.cell (p:=⟨w,2,none⟩) Zt).trans HY.o.w2;obtain⟨A3,c3,_,H3,J2⟩:=DC (some ⟨y,0,none⟩) mk mk (f+1) Zo nr;rw[show((f+1:Nat):Int)=(f:Int)+1 from Zo] at J2;have K2:=Qf H3;clear H3;have E1:Qg (0<n-t->A3=some (⟨y,f*2+2,none⟩:Addr)/\∃ad,A2=some ad/\∀j v,X2[j]? = some v->y3.drew.cell? (ad.add j)=some v):=Qf (fun h0=>by
      refine⟨?_,?_⟩
      ·rw[K2.o _ rfl Zo,XD]; congr 2; omega
      ·rw[E4.o];exact(K1.o.below D0.o.drew Zo).src (by rw[ah,<-I.o]; omega))
     have Q1:IntKind.i64.wrap ((f:Int)+1)=(f:Int)+1:=IntWalk.i64_in _ Zo;go_region_law (refine pV rfl (.tmp 125) (.tmp 129) 30 30 rfl 78 2 underlying30 C7 A3 A2 (mk-(f+1)) c3 (n-t) c2 rfl rfl (y:Nat) (f*2+2) _ 78 D9.o X2 (n-t) (mM Zo).symm H5 E1.o (by simp only[aL]; omega) (fun v F=>wO (by rw[E4.o] at F; exact F)) (y:Nat) y D0.o.drew nr ?_; intro y4 E0 H6)
     all_goals
      have K9:Qg (GC (w:Nat) id tot a n c 2 mid off mtot ad 0 cd data y4):=Qf (HY.o.below H6 F1);obtain⟨w0,w1,w2,m0,m1,m2,m3,m4,m5,r0,r1,r2,f0,f1,f2,_⟩:=K9.o;go_wp2;refine XB (v:=.tuple #[.agg #[Yi mid,Yi mtot,.slice y mk mk],Yi 0]) (by simp[results,results103,go_sem,r0,r1,r2]) rfl (CO (t:=78) Z.o (by simp only[af,aA,az,ah,<-I.o]; omega) ?_ (XT H.o H6) F1);have C5:=Hm L X1 X2 (Yi po) (.string ⟨PT.toArray⟩) Zo;rw[C3] at C5;have J1:=E0.out;rw[C5,E3.o,E4.o] at J1;rw[xU,fV];exact J1
  ·have Z:Qg (R=(9,0,0,[])):=Qf (by rw[HR.o,nJ,F,if_pos hk]; rfl);have P3:(kind==2)=false:=Zu hk;clear F hk;go_wp2;refine XB (v:=.tuple #[.agg #[Yi 0,Yi 0,()],Yi 9]) (by simp[results,results103,go_sem,r0,r1,r2]) rfl (tJ Z.o Y.o)
theorem Xj(a b:Qa)(ds es:Qd)(ca cb:Nat)(w:World)(X:dE w w a ds)(Y:dE w w b es)(hn:(ds.length:Int)<=140737488355328):
  Qh 26 #[.slice a ds.length ca,.slice b es.length cb] w fun e w'=>e=.returned (.bool (decide (ds=es)))/\∃q,w'=w.drewN q:=by
 obtain⟨n,B⟩:=Qe ds.length;obtain⟨m,D⟩:=Qe es.length;obtain⟨R,Q⟩:∃R:Bool,R=decide (ds=es):=⟨_,rfl⟩;rw[<-B] at hn;rw[<-B,<-D,<-Q];obtain⟨N,M,O,HA,HB⟩:=Ym B D Q X Y;clear B D Q X Y;by_cases E:n=m
 ·subst E;have t0:((n:Int) !=(n:Int))=false:=Zs;go_enter func26,ntmps26;go_wp2;go_loopw [5] (fun i wr=>∃k q:Nat,k<=n/\i=Yi k/\wr=w.drewN q/\ds.take k=es.take k) (fun i _=>n-(intOf i).toNat)
  case atStart=>exact⟨0,0,Zo,rfl,rfl,rfl⟩
  case round=>
   obtain⟨k,q,hk,rfl,rfl,hrel⟩:=hrel;have L:=Qf hrel;clear hrel;by_cases I:k<n
   ·have U:k<ds.length:=N.o▸I;have V:k<es.length:=M.o▸I;obtain⟨b1,o1,rfl,_,c1,c2⟩:=HA.o k U;obtain⟨b2,o2,rfl,_,c3,c4⟩:=HB.o k V;obtain⟨x,S⟩:=Qe (ds[k].1);obtain⟨y,T⟩:=Qe (ds[k].2);obtain⟨x',F⟩:=Qe (es[k].1);obtain⟨y',G⟩:=Qe (es[k].2);rw[<-S] at c1;rw[<-T] at c2;rw[<-F] at c3;rw[<-G] at c4;have K:Qg (ds[k]=es[k]↔x=x'/\y=y'):=Qf (by rw[S,T,F,G,Prod.ext_iff]);clear S T F G;have Z:=fun W=>nI x y x' y' W
    by_cases C:x=x'/\y=y'
    ·have J:(!(x==x'&&y==y'))=false:=by simp[C.1,C.2]
     have P:=Qf (qO L.o U V (K.o.2 C));rw[J] at Z;clear C J L K;go_wp2_with fail;go_quiet (fail);go_wp2;go_roundw
     case rel=>exact⟨k+1,_,Zo,Zg,by first | rfl | (simp only[World.drewN_drewN]; rfl),P.o⟩
     case measure=>exact Yq
    ·have J:(!(x==x'&&y==y'))=true:=by
      by_cases h4:x=x' <;> by_cases h5:y=y' <;> simp[h4,h5] at C ⊢
     have H:Qg (R=false):=Qf (by
      rw[O.o,XL];intro h;subst h;exact C (K.o.1 rfl))
     rw[J] at Z;clear C J L K;go_wp2_with fail;go_quiet (fail);go_wp2_with fail;go_ret;exact⟨Zw H.o,_,by first | rfl | (simp only[World.drewN_drewN]; rfl)⟩
   ·have H:Qg (R=true):=Qf (by
     rw[O.o,decide_eq_true_iff];have:=L.o
     rwa[ag (by rw[<-N.o]; omega),ag (by rw[<-M.o]; omega)] at this)
    go_wp2;go_ret;exact⟨Zw H.o,_,rfl⟩
 ·have t0:((n:Int) !=(m:Int))=true:=Zt;have H:Qg (R=false):=Qf (by
   rw[O.o,XL];intro h;exact E (by rw[N.o,M.o,h]))
  clear E;go_enter func26,ntmps26;go_wp2;go_ret;exact⟨Zw H.o,0,rfl⟩
structure Msg where
 kind:Int
 id:Int
 off:Int
 tot:Int
 ds:Qd
 data:Qb
deriving DecidableEq
abbrev Msg.val(m:Msg)(a:Qa)(c:Nat):Value:=.agg #[Yi m.kind,Yi m.id,Yi m.off,Yi m.tot,.slice a m.ds.length c,m.data]
def GQ(B:Nat)(W:World)(a:Qa)(ms:List Msg):Prop:=
 ∀i (h:i<ms.length),∃b off da cd,a=some ⟨b,off,none⟩/\b<B/\W.cell? ⟨b,off+i*6,none⟩=some (Yi ms[i].kind)/\W.cell? ⟨b,off+i*6+1,none⟩=some (Yi ms[i].id)
  /\W.cell? ⟨b,off+i*6+2,none⟩=some (Yi ms[i].off)/\W.cell? ⟨b,off+i*6+3,none⟩=some (Yi ms[i].tot)/\W.cell? ⟨b,off+i*6+4,none⟩=some (.slice da ms[i].ds.length cd)
  /\W.cell? ⟨b,off+i*6+5,none⟩=some (.string ⟨ms[i].data.toArray⟩)/\dE B W da ms[i].ds
theorem GQ.below{B:Nat}{W':World}{ms:List Msg}(h:GQ B W a ms)(A:Below B' W W')(K:B<=B'):GQ B W' a ms:=by
 intro i M;obtain⟨b,N,da,cd,L,C,D,E,F,G,H,I,J⟩:=h i M;exact⟨b,N,da,cd,L,C,(A.cell (p:=⟨b,N+i*6,none⟩) Zt).trans D,(A.cell (p:=⟨b,N+i*6+1,none⟩) Zt).trans E,(A.cell (p:=⟨b,N+i*6+2,none⟩) Zt).trans F,
  (A.cell (p:=⟨b,N+i*6+3,none⟩) Zt).trans G,(A.cell (p:=⟨b,N+i*6+4,none⟩) Zt).trans H,(A.cell (p:=⟨b,N+i*6+5,none⟩) Zt).trans I,J.below A K⟩
theorem GQ.mono{B:Nat}{ms:List Msg}(h:GQ B W a ms)(I:B<=B'):GQ B' W a ms:=by
 intro i K;obtain⟨b,M,da,cd,J,L,A,C,D,E,F,G,H⟩:=h i K;exact⟨b,M,da,cd,J,Zo,A,C,D,E,F,G,H.mono I⟩
theorem GQ.nil(B:Nat)(W:World)(a:Qa):GQ B W a []:=fun i h=>by simp at h
abbrev MA:=Msg×Qa×Nat
def fJ(l:List MA):List Value:=l.flatMap fun x=>[Yi x.1.kind,Yi x.1.id,Yi x.1.off,Yi x.1.tot,.slice x.2.1 x.1.ds.length x.2.2,.string ⟨x.1.data.toArray⟩]
theorem oQ(l m:List MA):fJ (l++m)=fJ l++fJ m:=by simp[fJ]
theorem zZ:∀(l:List MA) (i:Nat) (h:i<l.length),(fJ l)[i*6]? = some (Yi l[i].1.kind)/\(fJ l)[i*6+1]? = some (Yi l[i].1.id)/\(fJ l)[i*6+2]? = some (Yi l[i].1.off)
  /\(fJ l)[i*6+3]? = some (Yi l[i].1.tot)/\(fJ l)[i*6+4]? = some (.slice l[i].2.1 l[i].1.ds.length l[i].2.2)/\(fJ l)[i*6+5]? = some (.string ⟨l[i].1.data.toArray⟩)
 | [],i,h=>by simp at h
 | x::l,0,h=>by simp[fJ]
 | x::l,i+1,h=>by
  have A:i<l.length:=Zu h;have e:fJ (x::l)=[Yi x.1.kind,Yi x.1.id,Yi x.1.off,Yi x.1.tot,.slice x.2.1 x.1.ds.length x.2.2,.string ⟨x.1.data.toArray⟩]++fJ l:=by simp[fJ]
  have g:∀j,(fJ (x::l))[(i+1)*6+j]? = (fJ l)[i*6+j]?:=fun j=>by
   rw[e,YE Zt];congr 1;simp;omega
  have:=zZ l i A;simp only[bK];exact⟨(g 0).trans this.1,(g 1).trans this.2.1,(g 2).trans this.2.2.1,(g 3).trans this.2.2.2.1,(g 4).trans this.2.2.2.2.1,(g 5).trans this.2.2.2.2.2⟩
theorem qR{base:Nat}{cap:Nat}{l:List MA}(h:w.ownsRow base 73 6 (.slice a l.length cap) l.length (fJ l))(D:∀x∈l,dE w w x.2.1 x.1.ds):GQ w w a (l.map Prod.fst):=by
 intro i A;rw[fC] at A;rw[List.getElem_map];rcases h.2 with⟨B,G⟩ | ⟨g,H,I,B,_,E,_⟩
 ·omega
 ·cases B
  obtain⟨c0,c1,c2,c3,c4,c5⟩:=zZ l i A;have C:=fun j u (F:(fJ l)[j]? = some u)=>h.cells (g:=g) rfl j u F
  refine⟨g,0,l[i].2.1,l[i].2.2,rfl,(XA.1 E).1,?_,?_,?_,?_,?_,?_,D _ (ak A)⟩
  ·have:=C _ _ c0; rwa[XD] at this
  ·have:=C _ _ c1; rwa[XD,<-aP] at this
  ·have:=C _ _ c2; rwa[XD,<-aP] at this
  ·have:=C _ _ c3; rwa[XD,<-aP] at this
  ·have:=C _ _ c4; rwa[XD,<-aP] at this
  ·have:=C _ _ c5; rwa[XD,<-aP] at this
theorem IW:(prog.info? 73).map (fun i=>(i.zero,i.size,i.bytes))=some (some (.agg #[Yi 0,Yi 0,Yi 0,Yi 0,(),Ye]),6,72):=Zk
def part(id:Int)(data:Qb)(size at_:Nat):Msg:=⟨2,id,at_,data.length,[],(data.drop at_).take size⟩
def Rn(id:Int)(data:Qb)(size:Nat):List Msg:=(List.range ((data.length+size-1)/size)).map fun i=>part id data size (i*size)
def ww(id:Int)(data:Qb)(size:Int):List Msg×Int:=
 if id<0\/1099511627776<id\/size<1\/65536<size then([],2) else if 1048576<data.length then([],4) else(Rn id data size.toNat,0)
def MI(id:Int)(data:Qb)(size k at_:Nat)(acc:List Msg):Prop:=
 at_=k*size/\acc=(List.range k).map (fun i=>part id data size (i*size))/\(k=0\/(k-1)*size<data.length)/\1<=size
theorem MI.len{acc:List Msg}(h:MI id data size k at_ acc):acc.length=k/\k<=at_/\k<=data.length:=by
 obtain⟨rfl,rfl,h,hs⟩:=h;have A:∀k:Nat,k<=k*size:=fun k=>Nat.le_mul_of_pos_right k hs
 refine⟨Zs,A k,?_⟩;rcases h with h | h
 ·omega
 ·have:=A (k-1); omega
theorem MI.next{acc:List Msg}(h:MI id data size k at_ acc)(A:at_<data.length):MI id data size (k+1) (at_+size) (acc++[part id data size at_]):=by
 obtain⟨rfl,rfl,h,hs⟩:=h;refine⟨by rw[Nat.succ_mul],?_,.inr (Zu A),hs⟩;rw[List.range_succ,dJ]; rfl
theorem MI.fin{acc:List Msg}(h:MI id data size k at_ acc)(A:data.length<=at_):acc=Rn id data size:=by
 obtain⟨rfl,rfl,h,hs⟩:=h;unfold Rn
 suffices(data.length+size-1)/size=k by rw[this]
 rw[Nat.div_eq_iff Zo];rcases h with rfl | h
 ·simp only[dG] at A ⊢; omega
 ·obtain⟨j,rfl⟩ | rfl:(∃j,k=j+1)\/k=0:=by cases k with | zero=>exact .inr rfl | succ j=>exact .inl ⟨j,rfl⟩
  ·simp only[Nat.add_sub_cancel,Nat.succ_mul] at h A ⊢; omega
  ·simp only[dG] at A ⊢; omega
def J8(w:World)(ms:List Msg)(er:Int)(e:Ending)(w':World):Prop:=
 ∃a c,e=.returned (.tuple #[.slice a ms.length c,Yi er])/\GQ w' w' a ms/\PM w w'/\ms.length<=c
theorem J8.none{ms:List Msg}{er':Int}(h:(ms,er')=(([]:List Msg),er)):J8 w ms er' (.returned (.tuple #[(),Yi er])) w:=by
 cases h
 exact⟨_,0,rfl,GQ.nil _ _ _,bf _,nr⟩
theorem xE(w:World)(kind id off tot:Int)(n c:Nat)(a:Qa)(T:ByteArray)(j:Nat)(u:Value)(h:[Yi kind,Yi id,Yi off,Yi tot,.slice a n c,.string T][j]? = some u):
  (w.alloc (.cells #[Yi kind,Yi id,Yi off,Yi tot,.slice a n c,.string T] 73)).cell? ((⟨w,0,none⟩:Addr).add j)=some u:=by
 rw[XD]
 match j,h with
 | 0,h=>simp at h; subst h; simp
 | 1,h=>simp at h; subst h; simp
 | 2,h=>simp at h; subst h; simp
 | 3,h=>simp at h; subst h; simp
 | 4,h=>simp at h; subst h; simp
 | 5,h=>simp at h; subst h; simp
 | j+6,h=>simp at h
theorem OH(id:Int)(data:Qb)(size:Int)(w:World)(hd:(data.length:Int)<=140737488355328):
  Qh 98 #[Yi id,data,Yi size] w (J8 w (ww id data size).1 (ww id data size).2):=by
 obtain⟨i0,N,A0,A1,A2⟩:=XR IW;obtain⟨R,H⟩:=Qe (ww id data size);rw[<-H];by_cases K:id<0\/1099511627776<id\/size<1\/65536<size
 ·have I:Qg (R=([],2)):=Qf (by rw[H]; unfold ww; rw[if_pos K]);clear H;go_enter func98,ntmps98;go_wp2_with fail
  all_goals first
   | (exfalso; omega)
   | (go_ret2; exact J8.none I.o)
 ·by_cases hl:(1048576:Int)<data.length
  ·have I:Qg (R=([],4)):=Qf (by rw[H]; unfold ww; rw[if_neg K,if_pos Zo]);clear H;have d1:decide (id<0)=false:=Zt;have d2:decide (1099511627776<id)=false:=Zt;have d3:decide (size<1)=false:=Zt;have d4:decide (65536<size)=false:=Zt;clear K;go_enter func98,ntmps98;go_wp2;go_ret2;exact J8.none I.o
  ·have I:Qg (R=(Rn id data size.toNat,0)):=Qf (by rw[H]; unfold ww; rw[if_neg K,if_neg Zo]);clear H;have d1:decide (id<0)=false:=Zt;have d2:decide (1099511627776<id)=false:=Zt;have d3:decide (size<1)=false:=Zt;have d4:decide (65536<size)=false:=Zt;obtain⟨sz,rfl⟩:∃sz:Nat,size=(sz:Int):=⟨size.toNat,Zo⟩;rw[aj] at I;have Z:1<=sz:=Zo;have B4:sz<=65536:=Zo;clear K;go_enter func98,ntmps98;go_wp2;go_loopw [8,9] (fun v i wr=>∃(k at_:Nat) (A3:List Msg),i=Yi at_/\at_<=data.length+65536/\wr.ownsRow w 73 6 v k (fJ (A3.map fun m=>(m,none,0)))/\PM w wr/\MI id data sz k at_ A3) (fun _ i _=>data.length-(intOf i).toNat)
   case atStart=>exact⟨0,0,[],rfl,Zo,XE _ _ _ _,bf _,Zs,rfl,.inl rfl,Z⟩
   case round=>
    obtain⟨k,at_,A3,rfl,B2,G,B,hrel⟩:=hrel;have D:=hrel.len;have B5:=B.size;have hk:=D.2.2;obtain⟨HB,HR,P,HL⟩:=Yl B hrel G D;clear B hrel G D;by_cases X:at_<data.length
    ·have J:=Qf (HR.o.next X);obtain⟨T,S⟩:=Qe ((data.drop at_).take sz);have O:∃N:Nat,(data:ByteArray).extract at_ N=⟨T.toArray⟩/\(N=at_+sz/\at_+sz<=data.length\/N=data.length/\data.length<at_+sz):=by
      by_cases M:at_+sz<=data.length
      ·exact⟨at_+sz,by rw[dw,S,jR],.inl ⟨rfl,M⟩⟩
      ·exact⟨data.length,by rw[dw,S,ag Zs,ag Zt],.inr ⟨rfl,Zo⟩⟩
     have HT:=Qf S;clear S;obtain⟨B3,O,M⟩:=O;have F:part id data sz at_=⟨2,id,at_,data.length,[],T⟩:=Zw HT.o;rw[F] at J;clear F;rcases M with⟨rfl,M⟩ | ⟨rfl,M⟩
     all_goals
      go_wp2_with (at_builtin; refine wpList_append_own _ rfl _ _ 67 rfl (w:Nat) 73 i0 (.agg #[Yi 0,Yi 0,Yi 0,Yi 0,(),Ye]) 6 72 underlying67 N A0 A1 A2 rfl Zd _ _ _ rfl (P.o.alloc _) ⟨wr,0,none⟩ 1 1 [Yi 2,Yi id,Yi at_,Yi data.length,.slice none 0 0,.string ⟨T.toArray⟩] rfl rfl (xE wr 2 id at_ data.length 0 0 none ⟨T.toArray⟩) ?_ ?_ ?_ ?_ ?_)
      iterate 4 rotate_left
      intro v' w2 E C _;obtain⟨U,W⟩:=Yj ((HB.o.alloc Zo (.cells #[Yi 2,Yi id,Yi at_,Yi data.length,(),T] 73)).grown C Zt (fun k hk=>(P.o.lt k hk).1)) E;clear E C;go_wp2;go_roundw
      case rel=>
       refine⟨k+1,at_+sz,_,Zg,Zo,?_,U.o,J.o⟩;rw[dJ,oQ]; exact W.o
      case measure=>exact Yq
     all_goals first
      | (intro u hu; simp at hu; rcases hu with rfl | rfl | rfl | rfl | rfl | rfl <;> rfl)
      | (unfold maxLen; omega)
      | omega
      | (simp; omega)
    ·obtain⟨Q,V⟩:=Yj (HR.o.fin Zo) HL.o.1;obtain⟨av,cv,rfl,L⟩:=aB P.o;go_wp2;go_ret2;rw[I.o];refine⟨av,cv,?_,?_,HB.o,?_⟩
     ·rw[<-Q.o,V.o]; rfl
     ·rw[<-Q.o];have h1:=qR (l:=A3.map fun m=>(m,none,0)) (a:=av) (cap:=cv) (base:=(w:Nat)) (by rw[fC,V.o]; exact P.o) (by
       intro x hx;obtain⟨m,hm,rfl⟩:=bV.1 hx;have Y:m.ds=[]:=by rw[Q.o] at hm; obtain⟨i,_,rfl⟩:=bV.1 hm; rfl
       show dE _ _ none m.ds;rw[Y]; exact dE.nil _ _ _)
      rw[List.map_map] at h1;have h2:A3.map (Prod.fst ∘ fun m=>((m,none,0):MA))=A3:=List.map_id A3
      rwa[h2] at h1
     ·show(Rn id data sz).length<=cv;rw[<-Q.o,V.o]; exact L
def Uz(tot:Int)(ps:List P)(k:Nat)(e:Int):Prop:=vgo tot e (ps.drop k)=vgo tot (-1) ps/\-1<=e/\e<=1048576
theorem Uz.start(tot:Int)(ps:List P):Uz tot ps 0 (-1):=⟨rfl,Zo,Zo⟩
theorem Uz.fin(h:Uz tot ps k e)(A:ps.length<=k):vgo tot (-1) ps=true:=by
 rw[<-h.1,kR A]; rfl
theorem Uz.bad(h:Uz tot ps k e)(C:k<ps.length)(A:ps[k].2=[]\/ps[k].1<=e\/tot<ps[k].2.length\/tot-ps[k].2.length<ps[k].1):vgo tot (-1) ps=false:=by
 rw[<-h.1,aN C,vgo];have D:=h.2.1;by_cases B:ps[k].1<=e
 ·have:decide (e<ps[k].1)=false:=Zu B;simp[this]
 ·rcases A with A | A | A | A
  ·simp[A]
  ·exact absurd A B
  ·have:decide (ps[k].1<=tot-ps[k].2.length)=false:=Zt;simp[this]
  ·have:decide (ps[k].1<=tot-ps[k].2.length)=false:=Zu A;simp[this]
theorem Uz.next(h:Uz tot ps k e)(F:k<ps.length)(C:ps[k].2≠[])(D:ps[k].1<=tot-ps[k].2.length)(E:e<ps[k].1)(H:tot<=1048576):Uz tot ps (k+1) (ps[k].1+ps[k].2.length):=by
 obtain⟨h,G,_⟩:=h;refine⟨?_,Zo,Zo⟩;rw[<-h,aN F]
 conv=>rhs; rw[vgo]
 have A:ps[k].2.isEmpty=false:=Zu C;have B:(0:Int)<=ps[k].1:=Zo;simp[B,A,D,E]
theorem SQ(id tot:Int)(a:Qa)(ps:List P)(c:Nat)(w:World)(Q:Pcs w w a ps)(hn:(ps.length:Int)<=1048576)(R:∀p∈ps,p.2.length<=1048576):
  Qh 90 #[.agg #[Yi id,Yi tot,.slice a ps.length c]] w (Xz (.bool (gm id tot ps)) w):=by
 obtain⟨HZ,Z⟩:=Yj R Q;clear R Q;obtain⟨n,I⟩:=Qe ps.length;have V:=Qf I;rw[<-I] at hn ⊢;clear I;by_cases H:(n:Int)=0
 ·have G:Qg (gm id tot ps=true):=Qf (by
   have:ps=[]:=Qr.1 (by rw[<-V.o]; omega);rw[this]; rfl)
  have t0:decide (0<n)=false:=Zt;obtain rfl:n=0:=Zo;clear H;go_enter func90,ntmps90;go_wp2_with fail;refine wp_loop_rounds 1 ?_;rw[rounds_succ];go_wp2;go_ret;exact⟨Zw G.o,ba w _⟩
 ·have t0:decide (0<n)=true:=Zt;have O:0<ps.length:=by rw[<-V.o]; omega
  by_cases X:0<=id/\id<=1099511627776/\0<=tot/\tot<=1048576
  ·have G:=Qf (zi O X);obtain⟨M,N,A3,S⟩:=X;have d1:decide (id<0)=false:=Zu M;have d2:decide (1099511627776<id)=false:=Zu N;have d3:decide (tot<0)=false:=Zu A3;have d4:decide (1048576<tot)=false:=Zu S;clear H;go_enter func90,ntmps90;go_wp2;go_loopw [3,4] (fun en i wr=>∃(k:Nat) (e:Int),k<=n/\i=Yi k/\en=Yi e/\Below ((w:Nat)+1) (boxP w id tot a n c) wr/\Uz tot ps k e) (fun _ i _=>n-(intOf i).toNat)
   case atStart=>exact⟨0,-1,Zo,rfl,rfl,bf _,Uz.start _ _⟩
   case round=>
    obtain⟨k,e,hk,rfl,rfl,C,hrel⟩:=hrel;obtain⟨U,J⟩:=Yj C hrel;have B5:-1<=e:=hrel.2.1;have B6:e<=1048576:=hrel.2.2;have A4:(w:Nat)+1<=(wr:Nat):=Zu C.size;have c0:wr.cell? ⟨w,1,none⟩=some (Yi tot):=(C.cell (p:=⟨w,1,none⟩) Zs).trans Zs;have c1:wr.cell? ⟨w,2,none⟩=some (.slice a n c):=(C.cell (p:=⟨w,2,none⟩) Zs).trans Zs;clear C hrel;by_cases A1:k<n
    ·have B:k<ps.length:=V.o▸A1;have HP:Qg (Pcs w wr a ps):=Qf ((Z.o.below (ba w _) nr).below U.o Zo);obtain⟨b,A7,rfl,B2,hc,hd⟩:=HP.o k B;obtain⟨o,ho⟩:=Qe (ps[k].1);obtain⟨T,W⟩:=Qe (ps[k].2);have B1:(T.length:Int)<=1048576:=by have:=HZ.o ps[k] (ak B); rw[W]; omega
     rw[<-ho] at hc;rw[<-W] at hd;obtain⟨L,K⟩:=Yj ho W;clear ho W;have D:Qg (PM w (wr.alloc (.cells #[Yi o,T] 78))):=Qf (((ba w _).trans (U.o.mono Zo)).alloc Zo _);have A2:=fun x=>bP c0 x
     have A5:=fun x=>bP c1 x
     by_cases E:T=[]
     ·have F:=Qf (J.o.bad B (.inl (K.o▸E)));subst E;go_wp2;go_ret;exact⟨by rw[G.o,F.o]; rfl,D.o⟩
     ·have B0:T.isEmpty=false:=Zu E;have A0:=Qf E;clear E;by_cases h1:o<=e
      ·have F:=Qf (J.o.bad B (.inr (.inl (L.o▸h1))));go_wp2;go_ret;exact⟨by rw[G.o,F.o]; rfl,D.o⟩
      ·by_cases h2:tot<T.length
       ·have F:=Qf (J.o.bad B (.inr (.inr (.inl (K.o▸h2)))));go_wp2;go_ret;exact⟨by rw[G.o,F.o]; rfl,D.o⟩
       ·by_cases h3:tot-T.length<o
        ·have F:=Qf (J.o.bad B (.inr (.inr (.inr (by rw[<-K.o,<-L.o]; exact h3)))));go_wp2;go_ret;exact⟨by rw[G.o,F.o]; rfl,D.o⟩
        ·have Y:Qg (Uz tot ps (k+1) (o+T.length)):=Qf (by
          have:=J.o.next B (K.o▸A0.o) (by rw[<-K.o,<-L.o]; omega) (by rw[<-L.o]; omega) S
          rwa[<-K.o,<-L.o] at this)
         go_wp2;go_roundw
         case rel=>exact⟨k+1,o+T.length,Zo,Zg,rfl,U.o.alloc Zo _,Y.o⟩
         case measure=>exact Yq
    ·have F:=Qf (J.o.fin (by rw[<-V.o]; omega));go_wp2;go_ret;exact⟨by rw[G.o,F.o]; rfl,(ba w _).trans (U.o.mono Zo)⟩
  ·have G:=Qf (Fa O X);have A6:(id<0\/1099511627776<id)\/(tot<0\/1048576<tot):=Zo;clear X H;go_enter func90,ntmps90;go_wp2_with fail
   all_goals first
    | (exfalso; omega)
    | (go_ret; exact⟨Zw G.o,ba w _⟩)
theorem SH(id tot:Int)(a b:Qa)(ps:List P)(ca cb:Nat)(w:World)(G:Pcs w w a ps)(H:Pcs w w b ps)(M:(ps.length:Int)<=140737488355328):
  Qh 43 #[.agg #[Yi id,Yi tot,.slice a ps.length ca],.agg #[Yi id,Yi tot,.slice b ps.length cb]] w (Xz (.bool true) w):=by
 obtain⟨J,K⟩:=Yj G H;obtain⟨n,C⟩:=Qe ps.length;have L:=Qf C;rw[<-C] at M ⊢;clear C G H;go_enter func43,ntmps43;go_wp2_with fail;obtain⟨y,D⟩:=Qe ((w.alloc (.cells #[Yi id,Yi tot,.slice a n ca] 32)).alloc (.cells #[Yi id,Yi tot,.slice b n cb] 32));have E:Qg (PM w y):=Qf (D▸(ba w _).alloc (by simp) _);have s1:y.cell? ⟨w,2,none⟩=some (.slice a n ca):=by rw[D]; simp[go_sem]
 have s2:y.cell? ⟨(w:Nat)+1,2,none⟩=some (.slice b n cb):=by rw[D]; simp[go_sem]
 rw[<-D];clear D;go_loopw [5] (fun i wr=>∃k q:Nat,k<=n/\i=Yi k/\wr=y.drewN q) (fun i _=>n-(intOf i).toNat)
 case atStart=>exact⟨0,0,Zo,rfl,rfl⟩
 case round=>
  obtain⟨k,q,N,rfl,rfl⟩:=hrel;by_cases F:k<n
  ·have B:k<ps.length:=L.o▸F;obtain⟨b1,o1,rfl,_,c1,d1⟩:=(J.o.below E.o nr) k B;obtain⟨b2,o2,rfl,_,c2,d2⟩:=(K.o.below E.o nr) k B;obtain⟨⟨o,T⟩,I⟩:=Qe (ps[k]);rw[<-I] at c1 d1 c2 d2;clear I;go_wp2_with fail;go_quiet (fail);go_wp2;go_roundw
   case rel=>exact⟨k+1,_,Zo,Zg,by first | rfl | (simp only[World.drewN_drewN]; rfl)⟩
   case measure=>exact Yq
  ·go_wp2;go_ret;exact⟨rfl,below_drewN E.o _⟩
def y9(id tot:Int):List P->Qb×Bool
 | [p]=>if gm id tot [p]=true/\(p.2.length:Int)=tot then(p.2,true) else([],false)
 | _=>([],false)
theorem EY(id tot:Int)(p:P):y9 id tot [p]=if gm id tot [p]=true/\(p.2.length:Int)=tot then(p.2,true) else([],false):=rfl
theorem EZ(h:ps.length≠1):y9 id tot ps=([],false):=by
 match ps,h with
 | [],_=>rfl
 | [p],h=>simp at h
 | p::q::r,_=>rfl
theorem Oz(id tot:Int)(a:Qa)(ps:List P)(c:Nat)(w:World)(D:Pcs w w a ps)(X:(ps.length:Int)<=1048576)(E:∀p∈ps,p.2.length<=1048576):
  Qh 104 #[.agg #[Yi id,Yi tot,.slice a ps.length c]] w (Xz (.tuple #[.string ⟨(y9 id tot ps).1.toArray⟩,.bool (y9 id tot ps).2]) w):=by
 by_cases J:ps.length=1
 ·obtain⟨p,rfl⟩:∃p,ps=[p]:=List.length_eq_one_iff.1 J;clear J;obtain⟨R,O⟩:=Qe (y9 id tot [p]);rw[<-O];obtain⟨v,V⟩:=Qe (gm id tot [p]);rw[EY,<-V] at O;have Q:=Qf (fun W (F:PM w W)=>jq id tot a [p] c W ((D.below F nr).mono F.size) Zs (fun q hq=>Zh (E q hq)));rw[<-V] at Q;obtain⟨b,A1,rfl,K,S,U⟩:=D 0 Zs;obtain⟨o,T⟩:=p;have hT:(T.length:Int)<=1048576:=by have:=E (o,T) Zs; simp at this; omega
  simp only[aS,dG,QI] at S U;simp only[aI] at Q ⊢;obtain⟨Z,G⟩:=Yj D O;clear V O E D X;obtain⟨W,F⟩:∃W:World,w.alloc (.cells #[Yi id,Yi tot,.slice (some ⟨b,A1,none⟩) 1 c] 32)=W:=⟨_,rfl⟩;have B:Qg (PM w W):=Qf (F▸ba w _);have w0:W.cell? w=some (Yi id):=by rw[<-F]; simp
  have w1:W.cell? ⟨w,1,none⟩=some (Yi tot):=by rw[<-F]; simp
  have w2:W.cell? ⟨w,2,none⟩=some (.slice (some ⟨b,A1,none⟩) 1 c):=by rw[<-F]; simp
  have g0:W.cell? ⟨b,A1,none⟩=some (Yi o):=(B.o.cell (p:=⟨b,A1,none⟩) K).trans S;have g1:W.cell? ⟨b,A1+1,none⟩=some (.string ⟨T.toArray⟩):=(B.o.cell (p:=⟨b,A1+1,none⟩) K).trans U;clear S U;have A0:=Qf (fun d os=>YJ (w:=W) (d:=d) (os:=os) (Q.o _ (XT B.o (below_regrown W d os))));have k0:=YG w0;have k1:=YG w1;have k2:=YG w2;have k3:=YG g0;have k4:=YG g1;have Y:(w:Nat)+1=(W:Nat):=by rw[<-F]; simp
  cases v with
  | false=>
   have I:Qg (R=([],false)):=Qf (Zn G.o);clear G;go_enter func104,ntmps104;go_wp2_with fail;refine YH Zk Zk ?_
   repeat (any_goals (first | go_big_quiet_step (exact A0.o _ _) | quiet_step (exact A0.o _ _)))
   refine YI ?_;intro w2 M;have C:=Qf (aX M);clear M A0 k0 k1 k2 k3 k4;go_wp2;go_ret2;exact⟨Zw I.o,(XT B.o C.o)⟩
  | true=>
   by_cases H:(T.length:Int)=tot
   ·have I:Qg (R=(T,true)):=Qf (by rw[G.o]; simp[H]);have t0:((T.length:Int) !=tot)=false:=Zu H;clear G H;go_enter func104,ntmps104;go_wp2_with fail;refine YH Zk Zk ?_
    repeat (any_goals (first | go_big_quiet_step (exact A0.o _ _) | quiet_step (exact A0.o _ _)))
    refine YI ?_;intro x N;have C:=Qf (aX N);have j2:=(C.o.cell (p:=⟨w,2,none⟩) Zt).trans w2;have j4:=(C.o.cell (p:=⟨b,A1+1,none⟩) Zt).trans g1;clear N A0 k0 k1 k2 k3 k4;go_wp2;go_ret2;exact⟨Zw I.o,(XT B.o C.o)⟩
   ·have I:Qg (R=([],false)):=Qf (by rw[G.o]; simp[H]);have t0:((T.length:Int) !=tot)=true:=Zu H;clear G H;go_enter func104,ntmps104;go_wp2_with fail;refine YH Zk Zk ?_
    repeat (any_goals (first | go_big_quiet_step (exact A0.o _ _) | quiet_step (exact A0.o _ _)))
    refine YI ?_;intro x N;have C:=Qf (aX N);clear N A0 k0 k1 k2 k3 k4;go_wp2;go_ret2;exact⟨Zw I.o,(XT B.o C.o)⟩
 ·rw[EZ J];obtain⟨n,L⟩:=Qe ps.length;rw[<-L] at J ⊢;have t0:((n:Int) !=1)=true:=Zt;clear L J X E D;go_enter func104,ntmps104;go_wp2_with fail;go_quiet (fail);go_wp2;go_ret2;exact⟨rfl,below_drewN (ba w _) _⟩
theorem refWhole_any(id tot:Int)(a:Qa)(ps:List P)(c:Nat)(w:World)(E:Pcs w w a ps)(X:(ps.length:Int)<=1048576)(F:∀p∈ps,p.2.length<=1048576):
  Qh 107 #[.agg #[Yi id,Yi tot,.slice a ps.length c]] w (Xz (.tuple #[.string ⟨(y9 id tot ps).1.toArray⟩,.bool (y9 id tot ps).2]) w):=by
 by_cases M:ps.length=1
 ·obtain⟨p,rfl⟩:∃p,ps=[p]:=List.length_eq_one_iff.1 M;clear M;obtain⟨R,S⟩:=Qe (y9 id tot [p]);rw[<-S];obtain⟨v,K⟩:=Qe (gm id tot [p]);rw[EY,<-K] at S;have H:=Qf (fun W (D:PM w W)=>SQ id tot a [p] c W ((E.below D nr).mono D.size) Zs (fun q hq=>F q hq));rw[<-K] at H;obtain⟨b,A1,rfl,N,U,V⟩:=E 0 Zs;obtain⟨o,T⟩:=p;have hT:(T.length:Int)<=1048576:=by have:=F (o,T) Zs; simp at this; omega
  simp only[aS,dG,QI] at U V;simp only[aI] at H ⊢;obtain⟨Z,I⟩:=Yj E S;clear K S F E X;obtain⟨W,D⟩:∃W:World,w.alloc (.cells #[Yi id,Yi tot,.slice (some ⟨b,A1,none⟩) 1 c] 32)=W:=⟨_,rfl⟩;have B:Qg (PM w W):=Qf (D▸ba w _);have w0:W.cell? w=some (Yi id):=by rw[<-D]; simp
  have w1:W.cell? ⟨w,1,none⟩=some (Yi tot):=by rw[<-D]; simp
  have w2:W.cell? ⟨w,2,none⟩=some (.slice (some ⟨b,A1,none⟩) 1 c):=by rw[<-D]; simp
  have g0:W.cell? ⟨b,A1,none⟩=some (Yi o):=(B.o.cell (p:=⟨b,A1,none⟩) N).trans U;have g1:W.cell? ⟨b,A1+1,none⟩=some (.string ⟨T.toArray⟩):=(B.o.cell (p:=⟨b,A1+1,none⟩) N).trans V;clear U V;have A0:=Qf (fun d os=>YJ (w:=W) (d:=d) (os:=os) (H.o _ (XT B.o (below_regrown W d os))));have k0:=YG w0;have k1:=YG w1;have k2:=YG w2;have k3:=YG g0;have k4:=YG g1;have Y:(w:Nat)+1=(W:Nat):=by rw[<-D]; simp
  cases v with
  | false=>
   have L:Qg (R=([],false)):=Qf (Zn I.o);clear I;go_enter func107,ntmps107;go_wp2_with fail;refine YH Zk Zk ?_
   repeat (any_goals (first | go_big_quiet_step (exact A0.o _ _) | quiet_step (exact A0.o _ _)))
   refine YI ?_;intro w2 G;have C:=Qf (aX G);clear G A0 k0 k1 k2 k3 k4;go_wp2;go_ret2;exact⟨Zw L.o,(XT B.o C.o)⟩
  | true=>
   by_cases J:(T.length:Int)=tot
   ·have L:Qg (R=(T,true)):=Qf (by rw[I.o]; simp[J]);have t0:((T.length:Int) !=tot)=false:=Zu J;clear I J;go_enter func107,ntmps107;go_wp2_with fail;refine YH Zk Zk ?_
    repeat (any_goals (first | go_big_quiet_step (exact A0.o _ _) | quiet_step (exact A0.o _ _)))
    refine YI ?_;intro x Q;have C:=Qf (aX Q);have j2:=(C.o.cell (p:=⟨w,2,none⟩) Zt).trans w2;have j4:=(C.o.cell (p:=⟨b,A1+1,none⟩) Zt).trans g1;clear Q A0 k0 k1 k2 k3 k4;go_wp2;go_ret2;exact⟨Zw L.o,(XT B.o C.o)⟩
   ·have L:Qg (R=([],false)):=Qf (by rw[I.o]; simp[J]);have t0:((T.length:Int) !=tot)=true:=Zu J;clear I J;go_enter func107,ntmps107;go_wp2_with fail;refine YH Zk Zk ?_
    repeat (any_goals (first | go_big_quiet_step (exact A0.o _ _) | quiet_step (exact A0.o _ _)))
    refine YI ?_;intro x Q;have C:=Qf (aX Q);clear Q A0 k0 k1 k2 k3 k4;go_wp2;go_ret2;exact⟨Zw L.o,(XT B.o C.o)⟩
 ·rw[EZ M];obtain⟨v,K⟩:=Qe (gm id tot ps);have H:=Qf (fun W (D:PM w W)=>SQ id tot a ps c W ((E.below D nr).mono D.size) X F);rw[<-K] at H;obtain⟨n,O⟩:=Qe ps.length;rw[<-O] at M H ⊢;have t0:((n:Int) !=1)=true:=Zt;clear O M X F E K;obtain⟨W,D⟩:∃W:World,w.alloc (.cells #[Yi id,Yi tot,.slice a n c] 32)=W:=⟨_,rfl⟩;have B:Qg (PM w W):=Qf (D▸ba w _);have w0:W.cell? w=some (Yi id):=by rw[<-D]; simp
  have w1:W.cell? ⟨w,1,none⟩=some (Yi tot):=by rw[<-D]; simp
  have w2:W.cell? ⟨w,2,none⟩=some (.slice a n c):=by rw[<-D]; simp
  have A0:=Qf (fun d os=>YJ (w:=W) (d:=d) (os:=os) (H.o _ (XT B.o (below_regrown W d os))));have k0:=YG w0;have k1:=YG w1;have k2:=YG w2;cases v <;>
  ·go_enter func107,ntmps107;go_wp2_with fail;refine YH Zk Zk ?_
   repeat (any_goals (first | go_big_quiet_step (exact A0.o _ _) | quiet_step (exact A0.o _ _)))
   refine YI ?_;intro w2 G;have C:=Qf (aX G);clear G A0 k0 k1 k2;go_wp2;go_ret2;exact⟨rfl,(XT B.o C.o)⟩
def H1(p:P)(i:Int)(c:UInt8):Prop:=p.1<=i/\p.2[(i-p.1).toNat]? = some c
def Has(ps:List P)(i:Int)(c:UInt8):Prop:=∃p∈ps,H1 p i c
theorem El:Has (p::ps) i c↔H1 p i c\/Has ps i c:=by
 constructor
 ·rintro⟨q,A,h⟩;rcases XG.1 A with rfl | A
  ·exact .inl h
  ·exact .inr ⟨q,A,h⟩
 ·rintro(h | ⟨q,A,h⟩)
  ·exact⟨p,Zs,h⟩
  ·exact⟨q,Zj A,h⟩
theorem xe:Has (ps++qs) i c↔Has ps i c\/Has qs i c:=by
 constructor
 ·rintro⟨q,A,h⟩;rcases aD.1 A with A | A
  ·exact .inl ⟨q,A,h⟩
  ·exact .inr ⟨q,A,h⟩
 ·rintro(⟨q,A,h⟩ | ⟨q,A,h⟩)
  ·exact⟨q,Zj A,h⟩
  ·exact⟨q,Zj A,h⟩
theorem Ak(k:Nat):Has ps i c↔Has (ps.take k) i c\/Has (ps.drop k) i c:=by
 rw[<-xe,aQ]
theorem H1.range(h:H1 p i c):p.1<=i/\i<PU p:=by
 refine⟨h.1,?_⟩;have:=(XO.1 h.2).1;have:=h.1;simp only[PU]; omega
theorem h1_of(h:p.1<=i)(A:i<PU p):∃c,H1 p i c:=by
 have:(i-p.1).toNat<p.2.length:=by simp only[PU] at A; omega
 exact⟨p.2[(i-p.1).toNat],h,by simp[this]⟩
theorem Ac{a:P}(h:mH a b=some r)(L:a.1<=b.1)(M:b.1<=PU a)(i:Int)(c:UInt8):H1 r i c↔H1 a i c\/H1 b i c:=by
 obtain⟨oa,A⟩:=a;obtain⟨ob,B⟩:=b;simp only[PU] at L M;obtain⟨st,K⟩:∃st:Nat,(st:Int)=ob-oa:=⟨(ob-oa).toNat,Zo⟩;obtain⟨cn,H⟩:∃cn:Nat,min (oa+(A.length:Int)) (ob+(B.length:Int))-ob=(cn:Int):=⟨(min (oa+(A.length:Int)) (ob+(B.length:Int))-ob).toNat,Zo⟩;rw[sw oa ob A B st cn K H] at h;split at h
 ·simp at h
 ·rename_i I;have I:(A.drop st).take cn=B.take cn:=Zu I;have G:∀j,j<cn->A[st+j]? = B[j]?:=fun j G=>by
   have:=congrArg (fun l=>l[j]?) I;simpa[G] using this
  split at h
  ·rename_i N;cases h;refine⟨fun h=>.inl h,fun h=>h.elim id fun F=>?_⟩;have C:=F.range;simp only[PU] at C;obtain⟨_,F⟩:=F;simp only at F;refine⟨Zp,?_⟩;simp only;rw[show(i-oa).toNat=st+(i-ob).toNat by omega,G _ Zo];exact F
  ·rename_i N;have O:(ob:Int)+cn=oa+A.length:=Zo;split at h
   ·rename_i hs;cases h;refine⟨fun h=>.inr h,fun h=>h.elim (fun E=>?_) id⟩;have C:=E.range;simp only[PU] at C;obtain⟨_,E⟩:=E;simp only at E;refine⟨Zp,?_⟩;simp only;rw[<-G _ Zo,show st+(i-ob).toNat=(i-oa).toNat by omega];exact E
   ·cases h
    constructor
    ·rintro⟨D,h⟩;simp only at D h;by_cases J:(i-oa).toNat<A.length
     ·rw[List.getElem?_append_left J] at h;exact .inl ⟨D,h⟩
     ·rw[YE Zo,List.getElem?_drop] at h;refine .inr ⟨Zp,?_⟩;simp only;rw[show(i-ob).toNat=cn+((i-oa).toNat-A.length) by omega];exact h
    ·rintro(h | h)
     ·have C:=h.range;simp only[PU] at C;obtain⟨D,h⟩:=h;refine⟨D,?_⟩;simp only at h ⊢;rw[List.getElem?_append_left Zo];exact h
     ·have C:=h.range;simp only[PU] at C;obtain⟨D,h⟩:=h;simp only at D h;refine⟨Zp,?_⟩;simp only;by_cases J:(i-oa).toNat<A.length
      ·rw[List.getElem?_append_left J,show(i-oa).toNat=st+(i-ob).toNat by omega,G _ Zo];exact h
      ·rw[YE Zo,List.getElem?_drop,show cn+((i-oa).toNat-A.length)=(i-ob).toNat by omega];exact h
theorem IJ{a:P}(h:kZ a b=some r)(A:b.1<=PU a)(B:a.1<=PU b)(i:Int)(c:UInt8):H1 r i c↔H1 a i c\/H1 b i c:=by
 unfold kZ at h;split at h
 ·rw[Ac h Zo B]; exact Or.comm
 ·exact Ac h Zo A i c
theorem Am{lim tot e:Int}:∀{qs:List P} {p r:P} {k:Nat},lg lim p qs=some (r,k)->vgo tot e qs=true->p.1<=lim->lim<=PU p->(∀q∈qs,p.1<=PU q)->PU p<=tot->0<=p.1->(PU p<=lim\/PU p<=e)->
  k<=qs.length/\(∀i c,H1 r i c↔H1 p i c\/Has (qs.take k) i c)/\r.1<=p.1/\0<=r.1/\PU p<=PU r/\PU r<=tot/\(∀h:k<qs.length,PU r<qs[k].1)/\(e<p.1->e<r.1)
 | [],p,r,k,h,_,_,_,_,L,F,_=>by
  simp only[lg,XY,XC] at h;obtain⟨rfl,rfl⟩:=h;exact⟨nr,fun i c=>by simp[Has],rP _,F,rP _,L,fun h=>by simp at h,id⟩
 | q::qs,p,r,k,h,A,Y,Z,O,L,F,I=>by
  rw[vgo] at A;simp only[XF,XJ] at A;obtain⟨⟨⟨⟨V,W⟩,X⟩,S⟩,A⟩:=A;rw[lg] at h;split at h
  ·rename_i U;cases D:kZ p q with
   | none=>simp[D] at h
   | some p'=>
    rw[D] at h;simp only[Option.bind_some] at h;cases H:lg lim p' qs with
    | none=>simp[H] at h
    | some x=>
     obtain⟨r',k'⟩:=x;rw[H] at h;simp only[Option.map_some,XY,XC] at h;obtain⟨rfl,rfl⟩:=h;have C:p.1<=PU q:=O q Zs;have M:=wW D Zo C;have T:=IJ D Zo C;have G:=ni A;have N:PU q<=tot:=by simp only[PU]; omega
     obtain⟨c1,c2,c3,c4,c5,c6,c7,c8⟩:=Am H A Zo Zo (fun x E=>by
      have:=(G x E).2.2.2;have:=(G x E).2.1;simp only[PU] at M ⊢; omega) Zo Zo (by
       simp only[PU] at M I ⊢;by_cases hm:p.1+(p.2.length:Int)<=q.1+q.2.length
       ·exact .inr Zo
       ·exact .inl Zo)
     refine⟨Zu c1,fun i c=>?_,Zo,c4,Zo,c6,fun h=>by simpa using c7 (Zu h),fun R=>?_⟩
     ·rw[c2,T,jS,El,or_assoc]
     ·by_cases J:q.1+(q.2.length:Int)<p'.1
      ·have:=c8 J; omega
      ·-- the joined piece begins at p or at q
       have h9:r'.1<=p'.1:=c3;by_cases hr:r'.1=p'.1
       ·omega
       ·-- everything behind q begins behind q's end
        have:∀i c,H1 r' i c->p'.1<=i\/PU q<i:=fun i c B=>by
         rcases(c2 i c).1 B with B | ⟨x,E,B⟩
         ·exact .inl B.range.1
         ·have:=(G x (dK E)).2.2.2;have:=B.range.1;simp only[PU]; exact .inr Zo
        have K:r'.1<PU r':=Zo;obtain⟨c,Q⟩:=h1_of (rP r'.1) K;rcases this _ _ Q with h | h
        ·omega
        ·simp only[PU] at h; omega
  ·rename_i U;simp only[XY,XC] at h;obtain⟨rfl,rfl⟩:=h;refine⟨Zs,fun i c=>by simp[Has],rP _,F,rP _,L,fun _=>?_,id⟩;simp only[aS];omega
theorem xJ{tot:Int}:∀{ps:List P} {e:Int},vgo tot e ps=true↔(∀p∈ps,0<=p.1/\p.2≠[]/\PU p<=tot/\e<p.1)/\ps.Pairwise (fun p q=>PU p<q.1)
 | [],e=>by simp[vgo]
 | p::ps,e=>by
  rw[vgo];simp only[XF,XJ,xJ (ps:=ps),vW,List.forall_mem_cons];constructor
  ·rintro⟨⟨⟨⟨C,D⟩,G⟩,E⟩,B,F⟩;refine⟨⟨⟨C,Zu D,by simp only[PU]; omega,E⟩,fun q A=>⟨(B q A).1,(B q A).2.1,(B q A).2.2.1,Zh ((B q A).2.2.2)⟩⟩,fun q A=>(B q A).2.2.2,F⟩
  ·rintro⟨⟨⟨C,D,G,E⟩,B⟩,F,H⟩;refine⟨⟨⟨⟨C,Zu D⟩,by simp only[PU] at G; omega⟩,E⟩,fun q A=>⟨(B q A).1,(B q A).2.1,(B q A).2.2.1,F q A⟩,H⟩
theorem uD{off:Int}:∀(ps:List P),jB off ps<=ps.length/\(∀p∈ps.take (jB off ps),PU p<off)/\(∀h:jB off ps<ps.length,off<=PU ps[jB off ps])
 | []=>by simp[jB]
 | p::ps=>by
  obtain⟨C,D,E⟩:=uD (off:=off) ps;rw[jB];split
  ·rename_i A;refine⟨Zu C,?_,fun h=>by simpa using E (Zu h)⟩;rw[jS];intro q B;rcases XG.1 B with rfl | B
   ·exact A
   ·exact D q B
  ·rename_i A;exact⟨Zs,Zs,fun _=>Zu A⟩
theorem iw{R:P->P->Prop}(h:ps.Pairwise R){i j:Nat}(A:i<j)(B:j<ps.length):R (ps[i]'Zo) ps[j]:=
 List.pairwise_iff_getElem.1 h i j Zo B A
theorem Ot{kind off:Int}{nd:Nat}{a b:Int}(h:nJ id tot ps kind mid off mtot nd data=(0,a,b,qs)):
  a=mid/\b=mtot/\gm mid mtot qs=true/\qs≠[]/\(∀i c,Has qs i c↔Has ps i c\/H1 (off,data) i c)/\gm id tot ps=true/\kind=2/\(0<ps.length->id=mid/\tot=mtot):=by
 unfold nJ at h;split at h
 ·simp at h
 rename_i F;split at h
 ·simp at h
 rename_i K;split at h
 ·simp at h
 rename_i O;split at h
 ·simp at h
 rename_i T;have F:gm id tot ps=true:=Zu F;have K:kind=2:=Zu K;simp only[Bool.not_eq_true,Bool.not_eq_false',XF,XJ,v2] at O;obtain⟨Qf,X,Y,A2,A3,ho,A1,Z⟩:=O;split at h
 ·simp at h
 rename_i r k W;simp only[XC,true_and] at h;obtain⟨rfl,rfl,rfl⟩:=h;have D:0<ps.length->id=mid/\tot=mtot:=fun h=>by
  constructor <;> (apply Classical.byContradiction; intro L; exact T ⟨h,Zj L⟩)
 have N:vgo mtot (-1) ps=true:=by
  cases ps with
  | nil=>rfl
  | cons p ps=>
   obtain⟨rfl,rfl⟩:=D Zs;unfold gm at F;simp at F;exact F.2
 obtain⟨A5,A4,A0⟩:=uD (off:=off) ps;generalize hf:jB off ps=f at *
 obtain⟨ga,gp⟩:=xJ.1 N;have C:∀q∈ps.drop f,off<=PU q/\q∈ps:=fun q A=>by
  obtain⟨j,E,rfl⟩:=aV A;simp only[ah] at E;rw[eF];refine⟨?_,ak _⟩;cases j with
  | zero=>exact A0 Zo
  | succ j=>
   have g3:=A0 Zo;have:=iw gp (show f<f+(j+1) by omega) Zo;have U:=(ga ps[f+(j+1)] (ak _)).2.1;have h5:0<ps[f+(j+1)].2.length:=bJ.2 U;simp only[PU] at *; omega
 -- the last piece that ends before
 obtain⟨e,H,V,G⟩:∃e:Int,e<off/\-1<=e/\(∀p∈ps.take f,PU p<=e)/\∀q∈ps.drop f,e<q.1:=by
  by_cases S:f=0
  ·subst S;exact⟨-1,Zo,Zo,Zs,fun q A=>Zh ((ga q (C q A).2).1)⟩
  ·have R:f-1<ps.length:=Zo;refine⟨PU ps[f-1],A4 _ ?_,?_,?_,?_⟩
   ·exact List.mem_take_iff_getElem.2 ⟨f-1,Zo,rfl⟩
   ·have:=(ga _ (ak R)).1; simp only[PU]; omega
   ·intro p B;obtain⟨j,E,rfl⟩:=List.mem_take_iff_getElem.1 B;by_cases J:j=f-1
    ·subst J; exact rP _
    ·have:=iw gp (show j<f-1 by omega) R;simp only[PU] at *; omega
   ·intro q A;obtain⟨j,E,rfl⟩:=aV A;simp only[ah] at E;rw[eF];exact iw gp (show f-1<f+j by omega) Zo
 have M:vgo mtot e (ps.drop f)=true:=xJ.2 ⟨fun q A=>⟨(ga q (C q A).2).1,(ga q (C q A).2).2.1,(ga q (C q A).2).2.2.1,G.2 q A⟩,gp.sublist (List.drop_sublist _ _)⟩;obtain⟨c1,c2,c3,c4,c5,c6,c7,c8⟩:=Am (p:=(off,data)) W M Zp (by simp[PU]) (fun q A=>(C q A).1) (by simp only[PU]; omega) ho (.inl (by simp[PU]));have c8:=c8 H;have c5:off+(data.length:Int)<=PU r:=c5;refine⟨rfl,rfl,?_,Zs,fun i c=>?_,F,K,D⟩
 ·unfold gm;have:vgo mtot (-1) (ps.take f++r::ps.drop (f+k))=true:=by
   refine xJ.2 ⟨fun p B=>?_,?_⟩
   ·rcases aD.1 B with B | B
    ·exact ga p (dK B)
    ·rcases XG.1 B with rfl | B
     ·refine⟨c4,fun e0=>?_,c6,Zo⟩;have:PU p=p.1:=by simp[PU,e0]
      omega
     ·exact ga p (List.mem_of_mem_drop B)
   ·rw[List.pairwise_append];refine⟨gp.sublist (List.take_sublist _ _),?_,?_⟩
    ·rw[vW];refine⟨fun q A=>?_,gp.sublist (List.drop_sublist _ _)⟩;obtain⟨j,E,rfl⟩:=aV A;simp only[ah] at E;rw[eF];have Q:=c7 (Zy ah);rw[eF] at Q;cases j with
     | zero=>exact Q
     | succ j=>
      have:=iw gp (show f+k<f+k+(j+1) by omega) Zo;simp only[PU] at *; omega
    ·intro p B q A;rcases XG.1 A with rfl | A
     ·have:=G.1 p B; omega
     ·obtain⟨j,E,rfl⟩:=List.mem_take_iff_getElem.1 B;obtain⟨j',I,rfl⟩:=aV A;simp only[ah] at I;rw[eF];exact iw gp (show j<f+k+j' by omega) Zo
  rw[this,XI Zo];simp
 ·rw[xe,El,c2,Ak f (ps:=ps),Ak k (ps:=ps.drop f),eY];constructor
  ·rintro(h | (h | h) | h)
   ·exact .inl (.inl h)
   ·exact .inr h
   ·exact .inl (.inr (.inl h))
   ·exact .inl (.inr (.inr h))
  ·rintro((h | h | h) | h)
   ·exact .inl h
   ·exact .inr (.inl (.inr h))
   ·exact .inr (.inr h)
   ·exact .inr (.inl (.inl h))
