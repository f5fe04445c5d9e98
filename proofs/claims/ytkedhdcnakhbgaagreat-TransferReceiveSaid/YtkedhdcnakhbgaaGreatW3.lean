/- Lemmas. -/
import Derived.Test.YtkedhdcnakhbgaaGreatW1
import Derived.Test.YtkedhdcnakhbgaaGreatW2
import Derived.Laws.StructEq
import Derived.ChangeKeysEq
import Derived.Test.YtkedhdcnakhbgaaGreatK1
import Derived.Deep.RegionLaw
import Derived.Deep.RegionHeld3
import Derived.Deep.AppendLies
import Derived.Deep.DeepCutAuto
import Derived.Deep.CutBlock
import Derived.Deep.CutRange
import Derived.Test.YtkedhdcnakhbgaaGreatP1
import Derived.Test.YtkedhdcnakhbgaaGreatG1
set_option linter.unusedSimpArgs false
set_option maxRecDepth 100000
set_option maxHeartbeats 16000000
namespace Go.Proofs.YtkedhdcnakhbgaaGreat
open Tryz
open Go.RowKit
set_option linter.unusedVariables false
variable {b:Bool}{id kind n0 n1 n2 n3 off tot:Int}{ns:List Int}{acc:List MA}{ps:List P}{at_ b10 b2 c cv k n nd u:Nat}{av:Qa}{L T l r s:Qb}{ds:Qd}{v:Value}{w wr x:World}
def vM(kind off tot:Int)(nd n:Nat):Bool:=
 if kind=1 then decide (nd<=1000/\0<=off/\off<=nd/\tot=0/\n=0)
 else if kind=2 then v2 off tot nd n
 else if kind=3 then decide (1<=tot/\tot<=1048576/\0<=off/\off<=1048576-tot/\nd=0/\n=0)
 else if kind=4 then decide (off=0/\tot=0/\nd=0/\n=0)
 else false
theorem vM1(A:b=true↔(nd<=1000/\0<=off/\off<=nd/\tot=0/\n=0)):b=vM 1 off tot nd n:=by
 unfold vM; rw[if_pos rfl,YF,A,decide_eq_true_iff]
theorem vM2(A:b=true↔(1<=n/\n<=65536/\1<=tot/\tot<=1048576/\0<=off/\off<=tot-n/\nd=0)):b=vM 2 off tot nd n:=by
 unfold vM v2; rw[if_neg Zd,if_pos rfl,YF,A,decide_eq_true_iff]
theorem vM3(A:b=true↔(1<=tot/\tot<=1048576/\0<=off/\off<=1048576-tot/\nd=0/\n=0)):b=vM 3 off tot nd n:=by
 unfold vM; rw[if_neg Zd,if_neg Zd,if_pos rfl,YF,A,decide_eq_true_iff]
theorem vM4(A:b=true↔(off=0/\tot=0/\nd=0/\n=0)):b=vM 4 off tot nd n:=by
 unfold vM; rw[if_neg Zd,if_neg Zd,if_neg Zd,if_pos rfl,YF,A,decide_eq_true_iff]
theorem fits1(id off tot:Int)(a:Qa)(nd cd:Nat)(T:Qb)(w:World)(hs:(T.length:Int)<=140737488355328)(K:(nd:Int)<=140737488355328):
  Qh 141 #[.agg #[Yi 1,Yi id,Yi off,Yi tot,.slice a nd cd,T]] w (Xz (.bool (vM 1 off tot nd T.length)) w):=by
 by_cases E:T=[]
 ·subst E;by_cases C:nd=0
  ·subst C;go_enter func141,ntmps141;go_wp2
   all_goals
    go_ret;refine⟨cK (vM1 ?_),ba w _⟩
    first | omega | (simp; done) | (simp; omega)
  ·have F:(0:Int)<nd:=Zo;have G:decide (0<nd)=true:=Zt;have H:(nd==0)=false:=Zu C;clear C;go_enter func141,ntmps141;go_wp2
   all_goals
    go_ret;refine⟨cK (vM1 ?_),ba w _⟩
    first | omega | (simp; done) | (simp; omega)
 ·have D:=Qf E;have I:T.isEmpty=false:=Zu E;have J:1<=T.length:=bJ.2 E;clear E;by_cases C:nd=0
  ·subst C;go_enter func141,ntmps141;go_wp2
   all_goals
    go_ret;refine⟨cK (vM1 ?_),ba w _⟩;have B:=D.o
    first | omega | (simp[B]; done) | (simp[B]; omega) | (simp; done) | (simp; omega)
  ·have F:(0:Int)<nd:=Zo;have G:decide (0<nd)=true:=Zt;have H:(nd==0)=false:=Zu C;clear C;go_enter func141,ntmps141;go_wp2
   all_goals
    go_ret;refine⟨cK (vM1 ?_),ba w _⟩;have B:=D.o
    first | omega | (simp[B]; done) | (simp[B]; omega) | (simp; done) | (simp; omega)
theorem fits2(id off tot:Int)(a:Qa)(nd cd:Nat)(T:Qb)(w:World)(hs:(T.length:Int)<=140737488355328)(J:(nd:Int)<=140737488355328):
  Qh 141 #[.agg #[Yi 2,Yi id,Yi off,Yi tot,.slice a nd cd,T]] w (Xz (.bool (vM 2 off tot nd T.length)) w):=by
 by_cases C:T=[]
 ·subst C;by_cases B:nd=0
  ·subst B;go_enter func141,ntmps141;go_wp2
   all_goals
    go_ret;refine⟨cK (vM2 ?_),ba w _⟩
    first | omega | (simp; done) | (simp; omega)
  ·have D:(0:Int)<nd:=Zo;have E:decide (0<nd)=true:=Zt;have F:(nd==0)=false:=Zu B;clear B;go_enter func141,ntmps141;go_wp2
   all_goals
    go_ret;refine⟨cK (vM2 ?_),ba w _⟩
    first | omega | (simp; done) | (simp; omega)
 ·have G:=Qf C;have H:T.isEmpty=false:=Zu C;have I:1<=T.length:=bJ.2 C;clear C;by_cases B:nd=0
  ·subst B;go_enter func141,ntmps141;go_wp2
   all_goals
    go_ret;refine⟨cK (vM2 ?_),ba w _⟩
    first | omega | (simp; done) | (simp; omega)
  ·have D:(0:Int)<nd:=Zo;have E:decide (0<nd)=true:=Zt;have F:(nd==0)=false:=Zu B;clear B;go_enter func141,ntmps141;go_wp2
   all_goals
    go_ret;refine⟨cK (vM2 ?_),ba w _⟩
    first | omega | (simp; done) | (simp; omega)
theorem fits3(id off tot:Int)(a:Qa)(nd cd:Nat)(T:Qb)(w:World)(hs:(T.length:Int)<=140737488355328)(K:(nd:Int)<=140737488355328):
  Qh 141 #[.agg #[Yi 3,Yi id,Yi off,Yi tot,.slice a nd cd,T]] w (Xz (.bool (vM 3 off tot nd T.length)) w):=by
 by_cases E:T=[]
 ·subst E;by_cases C:nd=0
  ·subst C;go_enter func141,ntmps141;go_wp2
   all_goals
    go_ret;refine⟨cK (vM3 ?_),ba w _⟩
    first | omega | (simp; done) | (simp; omega)
  ·have F:(0:Int)<nd:=Zo;have G:decide (0<nd)=true:=Zt;have H:(nd==0)=false:=Zu C;clear C;go_enter func141,ntmps141;go_wp2
   all_goals
    go_ret;refine⟨cK (vM3 ?_),ba w _⟩
    first | omega | (simp; done) | (simp; omega)
 ·have D:=Qf E;have I:T.isEmpty=false:=Zu E;have J:1<=T.length:=bJ.2 E;clear E;by_cases C:nd=0
  ·subst C;go_enter func141,ntmps141;go_wp2
   all_goals
    go_ret;refine⟨cK (vM3 ?_),ba w _⟩;have B:=D.o
    first | omega | (simp[B]; done) | (simp[B]; omega) | (simp; done) | (simp; omega)
  ·have F:(0:Int)<nd:=Zo;have G:decide (0<nd)=true:=Zt;have H:(nd==0)=false:=Zu C;clear C;go_enter func141,ntmps141;go_wp2
   all_goals
    go_ret;refine⟨cK (vM3 ?_),ba w _⟩;have B:=D.o
    first | omega | (simp[B]; done) | (simp[B]; omega) | (simp; done) | (simp; omega)
theorem fits4(id off tot:Int)(a:Qa)(nd cd:Nat)(T:Qb)(w:World)(hs:(T.length:Int)<=140737488355328)(K:(nd:Int)<=140737488355328):
  Qh 141 #[.agg #[Yi 4,Yi id,Yi off,Yi tot,.slice a nd cd,T]] w (Xz (.bool (vM 4 off tot nd T.length)) w):=by
 by_cases E:T=[]
 ·subst E;by_cases C:nd=0
  ·subst C;go_enter func141,ntmps141;go_wp2
   all_goals
    go_ret;refine⟨cK (vM4 ?_),ba w _⟩
    first | omega | (simp; done) | (simp; omega)
  ·have F:(0:Int)<nd:=Zo;have G:decide (0<nd)=true:=Zt;have H:(nd==0)=false:=Zu C;clear C;go_enter func141,ntmps141;go_wp2
   all_goals
    go_ret;refine⟨cK (vM4 ?_),ba w _⟩
    first | omega | (simp; done) | (simp; omega)
 ·have D:=Qf E;have I:T.isEmpty=false:=Zu E;have J:1<=T.length:=bJ.2 E;clear E;by_cases C:nd=0
  ·subst C;go_enter func141,ntmps141;go_wp2
   all_goals
    go_ret;refine⟨cK (vM4 ?_),ba w _⟩;have B:=D.o
    first | omega | (simp[B]; done) | (simp[B]; omega) | (simp; done) | (simp; omega)
  ·have F:(0:Int)<nd:=Zo;have G:decide (0<nd)=true:=Zt;have H:(nd==0)=false:=Zu C;clear C;go_enter func141,ntmps141;go_wp2
   all_goals
    go_ret;refine⟨cK (vM4 ?_),ba w _⟩;have B:=D.o
    first | omega | (simp[B]; done) | (simp[B]; omega) | (simp; done) | (simp; omega)
theorem MU(id off tot:Int)(a:Qa)(nd cd:Nat)(T:Qb)(w:World)(hs:(T.length:Int)<=140737488355328)(M:(nd:Int)<=140737488355328)(I:0<=id)(J:id<=1099511627776):
  Qh 70 #[.agg #[Yi 1,Yi id,Yi off,Yi tot,.slice a nd cd,T]] w (Xz (.bool (vM 1 off tot nd T.length)) w):=by
 by_cases E:T=[]
 ·subst E;by_cases C:nd=0
  ·subst C;go_enter func70,ntmps70;go_wp2
   all_goals
    go_ret;refine⟨cK (vM1 ?_),ba w _⟩
    first | omega | (simp; done) | (simp; omega)
  ·have F:(0:Int)<nd:=Zo;have G:decide (0<nd)=true:=Zt;have H:(nd==0)=false:=Zu C;clear C;go_enter func70,ntmps70;go_wp2
   all_goals
    go_ret;refine⟨cK (vM1 ?_),ba w _⟩
    first | omega | (simp; done) | (simp; omega)
 ·have D:=Qf E;have K:T.isEmpty=false:=Zu E;have L:1<=T.length:=bJ.2 E;clear E;by_cases C:nd=0
  ·subst C;go_enter func70,ntmps70;go_wp2
   all_goals
    go_ret;refine⟨cK (vM1 ?_),ba w _⟩;have B:=D.o
    first | omega | (simp[B]; done) | (simp[B]; omega) | (simp; done) | (simp; omega)
  ·have F:(0:Int)<nd:=Zo;have G:decide (0<nd)=true:=Zt;have H:(nd==0)=false:=Zu C;clear C;go_enter func70,ntmps70;go_wp2
   all_goals
    go_ret;refine⟨cK (vM1 ?_),ba w _⟩;have B:=D.o
    first | omega | (simp[B]; done) | (simp[B]; omega) | (simp; done) | (simp; omega)
theorem MS(id off tot:Int)(a:Qa)(nd cd:Nat)(T:Qb)(w:World)(hs:(T.length:Int)<=140737488355328)(L:(nd:Int)<=140737488355328)(G:0<=id)(H:id<=1099511627776):
  Qh 70 #[.agg #[Yi 2,Yi id,Yi off,Yi tot,.slice a nd cd,T]] w (Xz (.bool (vM 2 off tot nd T.length)) w):=by
 by_cases C:T=[]
 ·subst C;by_cases B:nd=0
  ·subst B;go_enter func70,ntmps70;go_wp2
   all_goals
    go_ret;refine⟨cK (vM2 ?_),ba w _⟩
    first | omega | (simp; done) | (simp; omega)
  ·have D:(0:Int)<nd:=Zo;have E:decide (0<nd)=true:=Zt;have F:(nd==0)=false:=Zu B;clear B;go_enter func70,ntmps70;go_wp2
   all_goals
    go_ret;refine⟨cK (vM2 ?_),ba w _⟩
    first | omega | (simp; done) | (simp; omega)
 ·have I:=Qf C;have J:T.isEmpty=false:=Zu C;have K:1<=T.length:=bJ.2 C;clear C;by_cases B:nd=0
  ·subst B;go_enter func70,ntmps70;go_wp2
   all_goals
    go_ret;refine⟨cK (vM2 ?_),ba w _⟩
    first | omega | (simp; done) | (simp; omega)
  ·have D:(0:Int)<nd:=Zo;have E:decide (0<nd)=true:=Zt;have F:(nd==0)=false:=Zu B;clear B;go_enter func70,ntmps70;go_wp2
   all_goals
    go_ret;refine⟨cK (vM2 ?_),ba w _⟩
    first | omega | (simp; done) | (simp; omega)
theorem MR(id off tot:Int)(a:Qa)(nd cd:Nat)(T:Qb)(w:World)(hs:(T.length:Int)<=140737488355328)(M:(nd:Int)<=140737488355328)(I:0<=id)(J:id<=1099511627776):
  Qh 70 #[.agg #[Yi 3,Yi id,Yi off,Yi tot,.slice a nd cd,T]] w (Xz (.bool (vM 3 off tot nd T.length)) w):=by
 by_cases E:T=[]
 ·subst E;by_cases C:nd=0
  ·subst C;go_enter func70,ntmps70;go_wp2
   all_goals
    go_ret;refine⟨cK (vM3 ?_),ba w _⟩
    first | omega | (simp; done) | (simp; omega)
  ·have F:(0:Int)<nd:=Zo;have G:decide (0<nd)=true:=Zt;have H:(nd==0)=false:=Zu C;clear C;go_enter func70,ntmps70;go_wp2
   all_goals
    go_ret;refine⟨cK (vM3 ?_),ba w _⟩
    first | omega | (simp; done) | (simp; omega)
 ·have D:=Qf E;have K:T.isEmpty=false:=Zu E;have L:1<=T.length:=bJ.2 E;clear E;by_cases C:nd=0
  ·subst C;go_enter func70,ntmps70;go_wp2
   all_goals
    go_ret;refine⟨cK (vM3 ?_),ba w _⟩;have B:=D.o
    first | omega | (simp[B]; done) | (simp[B]; omega) | (simp; done) | (simp; omega)
  ·have F:(0:Int)<nd:=Zo;have G:decide (0<nd)=true:=Zt;have H:(nd==0)=false:=Zu C;clear C;go_enter func70,ntmps70;go_wp2
   all_goals
    go_ret;refine⟨cK (vM3 ?_),ba w _⟩;have B:=D.o
    first | omega | (simp[B]; done) | (simp[B]; omega) | (simp; done) | (simp; omega)
theorem MQ(id off tot:Int)(a:Qa)(nd cd:Nat)(T:Qb)(w:World)(hs:(T.length:Int)<=140737488355328)(M:(nd:Int)<=140737488355328)(I:0<=id)(J:id<=1099511627776):
  Qh 70 #[.agg #[Yi 4,Yi id,Yi off,Yi tot,.slice a nd cd,T]] w (Xz (.bool (vM 4 off tot nd T.length)) w):=by
 by_cases E:T=[]
 ·subst E;by_cases C:nd=0
  ·subst C;go_enter func70,ntmps70;go_wp2
   all_goals
    go_ret;refine⟨cK (vM4 ?_),ba w _⟩
    first | omega | (simp; done) | (simp; omega)
  ·have F:(0:Int)<nd:=Zo;have G:decide (0<nd)=true:=Zt;have H:(nd==0)=false:=Zu C;clear C;go_enter func70,ntmps70;go_wp2
   all_goals
    go_ret;refine⟨cK (vM4 ?_),ba w _⟩
    first | omega | (simp; done) | (simp; omega)
 ·have D:=Qf E;have K:T.isEmpty=false:=Zu E;have L:1<=T.length:=bJ.2 E;clear E;by_cases C:nd=0
  ·subst C;go_enter func70,ntmps70;go_wp2
   all_goals
    go_ret;refine⟨cK (vM4 ?_),ba w _⟩;have B:=D.o
    first | omega | (simp[B]; done) | (simp[B]; omega) | (simp; done) | (simp; omega)
  ·have F:(0:Int)<nd:=Zo;have G:decide (0<nd)=true:=Zt;have H:(nd==0)=false:=Zu C;clear C;go_enter func70,ntmps70;go_wp2
   all_goals
    go_ret;refine⟨cK (vM4 ?_),ba w _⟩;have B:=D.o
    first | omega | (simp[B]; done) | (simp[B]; omega) | (simp; done) | (simp; omega)
theorem Vw(kind id off tot:Int)(a:Qa)(nd cd:Nat)(T:Qb)(w:World)(hs:(T.length:Int)<=140737488355328)(B:(nd:Int)<=140737488355328)(C:1<=kind)(D:kind<=4):
  Qh 141 #[.agg #[Yi kind,Yi id,Yi off,Yi tot,.slice a nd cd,T]] w (Xz (.bool (vM kind off tot nd T.length)) w):=by
 obtain rfl | rfl | rfl | rfl:kind=1\/kind=2\/kind=3\/kind=4:=Zo
 ·exact fits1 id off tot a nd cd T w hs B
 ·exact fits2 id off tot a nd cd T w hs B
 ·exact fits3 id off tot a nd cd T w hs B
 ·exact fits4 id off tot a nd cd T w hs B
theorem vY(kind id off tot:Int)(a:Qa)(nd cd:Nat)(T:Qb)(w:World)(hs:(T.length:Int)<=140737488355328)(D:(nd:Int)<=140737488355328)(B:0<=id)(C:id<=1099511627776)(E:1<=kind)(F:kind<=4):
  Qh 70 #[.agg #[Yi kind,Yi id,Yi off,Yi tot,.slice a nd cd,T]] w (Xz (.bool (vM kind off tot nd T.length)) w):=by
 obtain rfl | rfl | rfl | rfl:kind=1\/kind=2\/kind=3\/kind=4:=Zo
 ·exact MU id off tot a nd cd T w hs D B C
 ·exact MS id off tot a nd cd T w hs D B C
 ·exact MR id off tot a nd cd T w hs D B C
 ·exact MQ id off tot a nd cd T w hs D B C
def Uv(kind id off tot:Int)(nd n:Nat):Int:=
 if kind<1\/4<kind then 9 else if id<0\/1099511627776<id then 2 else if vM kind off tot nd n=false then 1 else 0
theorem Ub(kind id off tot:Int)(a:Qa)(nd cd:Nat)(T:Qb)(w:World)(hs:(T.length:Int)<=140737488355328)(J:(nd:Int)<=140737488355328):
  Qh 86 #[.agg #[Yi kind,Yi id,Yi off,Yi tot,.slice a nd cd,T]] w (Xz (Yi (Uv kind id off tot nd T.length)) w):=by
 obtain⟨R,B⟩:=Qe (Uv kind id off tot nd T.length);rw[<-B];unfold Uv at B;by_cases I:kind<1\/4<kind
 ·rw[if_pos I] at B;subst B;go_enter func86,ntmps86;go_wp2_with fail
  all_goals first
   | (exfalso; omega)
   | (go_ret; exact⟨rfl,ba w _⟩)
 ·rw[if_neg I] at B;have k1:decide (kind<1)=false:=Zt;have k2:decide (4<kind)=false:=Zt;have k3:1<=kind:=Zo;have k4:kind<=4:=Zo;clear I;by_cases H:id<0\/1099511627776<id
  ·rw[if_pos H] at B;subst B;go_enter func86,ntmps86;go_wp2_with fail
   all_goals first
    | (exfalso; omega)
    | (go_ret; exact⟨rfl,ba w _⟩)
  ·rw[if_neg H] at B;have i1:decide (id<0)=false:=Zt;have i2:decide (1099511627776<id)=false:=Zt;clear H;have F:=Qf (fun w=>Vw kind id off tot a nd cd T w hs J k3 k4);by_cases C:vM kind off tot nd T.length=false
   ·rw[if_pos C] at B;rw[C] at F;subst B;clear C k3 k4;go_enter func86,ntmps86;go_wp2_with fail;refine(F.o _).mono ?_;rintro e w' ⟨rfl,D⟩;have G:=Qf D;clear D;go_wp2;go_ret;exact⟨rfl,(ba w _).trans (G.o.mono Zs)⟩
   ·rw[if_neg C] at B;have E:vM kind off tot nd T.length=true:=Zu C;rw[E] at F;subst B;clear C E k3 k4;go_enter func86,ntmps86;go_wp2_with fail;refine(F.o _).mono ?_;rintro e w' ⟨rfl,D⟩;have G:=Qf D;clear D;go_wp2;go_ret;exact⟨rfl,(ba w _).trans (G.o.mono Zs)⟩
theorem pz(L:Qb)(w:World)(hs:(L.length:Int)<=140737488355328):
  Qh 67 #[L] w fun e w'=>e=.returned (Yu (mJ L))/\w=w':=by
 go_enter func67,ntmps67;go_wp2;go_loop [3,4] (fun n i=>∃(k:Nat) (x:Int),k<=L.length/\i=Yi k/\n=Yu x/\Qg (x=mJ (L.take k))) (fun _ i=>L.length-(intOf i).toNat)
 case atStart=>exact⟨0,0,Zo,rfl,rfl,Qf rfl⟩
 case round=>
  obtain⟨k,x,E,rfl,rfl,D⟩:=hrel;by_cases C:k<L.length
  ·have B:Qg (mJ (L.take (k+1))=mI x L[k]):=Qf (D.out▸gY _ _ _ _ C);go_wp2;go_round
   case rel=>exact⟨k+1,_,Zo,Zg,rfl,Qf (Zw B.o)⟩
   case measure=>exact Yq
  ·have B:Qg (x=mJ L):=Qf (by rw[D.out,ag Zo]);go_wp2;go_ret;exact⟨by rw[<-B.o]; rfl,rfl⟩
theorem value_any(L:Qb)(w:World)(hs:(L.length:Int)<=140737488355328):
  Qh 99 #[L] w fun e w'=>e=.returned (Yu (mJ L))/\w=w':=by
 go_enter func99,ntmps99;go_wp2;go_loop [3,4] (fun n i=>∃(k:Nat) (x:Int),k<=L.length/\i=Yi k/\n=Yu x/\Qg (x=mJ (L.take k))) (fun _ i=>L.length-(intOf i).toNat)
 case atStart=>exact⟨0,0,Zo,rfl,rfl,Qf rfl⟩
 case round=>
  obtain⟨k,x,E,rfl,rfl,D⟩:=hrel;by_cases C:k<L.length
  ·have B:Qg (mJ (L.take (k+1))=mI x L[k]):=Qf (D.out▸gY _ _ _ _ C);go_wp2;go_round
   case rel=>exact⟨k+1,_,Zo,Zg,rfl,Qf (Zw B.o)⟩
   case measure=>exact Yq
  ·have B:Qg (x=mJ L):=Qf (by rw[D.out,ag Zo]);go_wp2;go_ret;exact⟨by rw[<-B.o]; rfl,rfl⟩
def Li:Nat->Qb->Option (List Int×Qb)
 | 0,l=>some ([],l)
 | k+1,l=>if(Cw.getI l).2.2≠0 then none else(Li k (l.drop (Cw.getI l).2.1.toNat)).map fun r=>((Cw.getI l).1::r.1,r.2)
def rF:Nat->Qb->Qd
 | 0,_=>[]
 | c+1,l=>(mJ (l.take 8),mJ ((l.drop 8).take 8))::rF c (l.drop 16)
def Pk(kind id off tot:Int)(ds:Qd)(l:Qb):Option Msg:=
 if(Cw.getT l).2.2≠0\/(Cw.getT l).2.1≠l.length then none
 else if vM kind off tot ds.length (Cw.getT l).1.length=true then some ⟨kind,id,off,tot,ds,(Cw.getT l).1⟩ else none
def Jw(l:Qb):Option Msg:=
 match Li 5 l with
 | some ([kind,id,off,tot,c],r)=>if 1000<c\/(r.length:Int)<16*c then none else Pk kind id off tot (rF c.toNat r) (r.drop (16*c.toNat))
 | _=>none
def G5(L:Qb)(k:Nat)(ns:List Int)(l:Qb):Prop:=Li 5 L=(Li (5-k) l).map fun r=>(ns++r.1,r.2)
theorem G5.start(L:Qb):G5 L 0 [] L:=by unfold G5; cases Li 5 L <;> rfl
theorem G5.bad(h:G5 L k ns l)(C:k<5){n u er:Int}(B:Cw.getI l=(n,u,er))(A:er≠0):Jw L=none:=by
 have:Li 5 L=none:=by
  rw[h,show 5-k=(4-k)+1 by omega,Li,B];simp[A]
 unfold Jw;rw[this]
theorem G5.next(h:G5 L k ns l)(B:k<5){n u:Int}(A:Cw.getI l=(n,u,0)):G5 L (k+1) (ns++[n]) (l.drop u.toNat):=by
 unfold G5 at h ⊢;rw[h,show 5-k=(5-(k+1))+1 by omega]
 conv=>lhs; rw[Li,A]
 simp only[ne_eq,not_true_eq_false,if_false,Option.map_map];congr 1;funext r;simp
theorem G5.fin{c:Int}(h:G5 L 5 [kind,id,off,tot,c] l):Jw L=if 1000<c\/(l.length:Int)<16*c then none else Pk kind id off tot (rF c.toNat l) (l.drop (16*c.toNat)):=by
 have A:Li 5 L=some ([kind,id,off,tot,c],l):=h;unfold Jw;rw[A]
def GD(c:Nat)(r:Qb)(j:Nat)(ds:Qd)(l:Qb):Prop:=rF c r=ds++rF (c-j) l/\l=r.drop (16*j)/\ds.length=j
theorem GD.start(c:Nat)(r:Qb):GD c r 0 [] r:=⟨rfl,Zs,rfl⟩
theorem GD.next{j:Nat}(h:GD c r j ds l)(D:j<c):GD c r (j+1) (ds++[(mJ (l.take 8),mJ ((l.drop 8).take 8))]) (l.drop 16):=by
 obtain⟨A,B,C⟩:=h;refine⟨?_,by rw[B,eY,Nat.mul_succ],Zj C⟩;rw[A,show c-j=(c-(j+1))+1 by omega,rF];simp
theorem GD.fin(h:GD c r c ds l):rF c r=ds/\r.drop (16*c)=l:=by
 obtain⟨A,B,_⟩:=h;rw[Nat.sub_self] at A;exact⟨by rw[A]; simp[rF],B.symm⟩
theorem yZ(kind id off tot:Int)(a:Qa)(nd cd:Nat)(T:Qb)(w:World)(B:0<=id)(C:id<=1099511627776)(h:kind<1\/4<kind):
  Qh 70 #[.agg #[Yi kind,Yi id,Yi off,Yi tot,.slice a nd cd,T]] w (Xz (.bool (vM kind off tot nd T.length)) w):=by
 have D:vM kind off tot nd T.length=false:=by
  unfold vM;rw[if_neg Zo,if_neg Zo,if_neg Zo,if_neg Zo]
 rw[D];have k1:(kind==1)=false:=Zt;have k2:(kind==2)=false:=Zt;have k3:(kind==3)=false:=Zt;have k4:(kind==4)=false:=Zt;clear h D;go_enter func70,ntmps70;go_wp2;go_ret;exact⟨rfl,ba w _⟩
theorem MP(kind id off tot:Int)(a:Qa)(nd cd:Nat)(T:Qb)(w:World)(hs:(T.length:Int)<=140737488355328)(D:(nd:Int)<=140737488355328)(B:0<=id)(C:id<=1099511627776):
  Qh 70 #[.agg #[Yi kind,Yi id,Yi off,Yi tot,.slice a nd cd,T]] w (Xz (.bool (vM kind off tot nd T.length)) w):=by
 by_cases h:kind<1\/4<kind
 ·exact yZ kind id off tot a nd cd T w B C h
 ·exact vY kind id off tot a nd cd T w hs D B C Zo Zo
def m0:Msg:=⟨0,0,0,0,[],[]⟩
def EW(w:World)(r:Option Msg)(e:Ending)(w':World):Prop:=
 ∃a c,e=.returned (.tuple #[(r.getD m0).val a c,.bool r.isSome])/\dE w' w' a (r.getD m0).ds/\PM w w'/\(∀ad,a=some ad->(w:Nat)<=ad.block)/\(r.getD m0).ds.length<=c
theorem EW.none{w':World}{r:Option Msg}(h:r=none)(A:PM w w'):EW w r (.returned (.tuple #[.agg #[Yi 0,Yi 0,Yi 0,Yi 0,(),Ye],.bool false])) w':=by
 subst h;exact⟨Option.none,0,rfl,dE.nil _ _ _,A,fun ad h=>(by cases h),nr⟩
abbrev decW(w:World)(n0 n1 n2 n3 n4:Int):World:=(w.alloc (.cells #[Yi 0,Yi 0,Yi 0,Yi 0,(),Ye] 73)).alloc (.cells #[Yi n0,Yi n1,Yi n2,Yi n3,Yi n4] 174)
theorem gy(w:World)(n0 n1 n2 n3 n4:Int):PM w (decW w n0 n1 n2 n3 n4):=(ba w _).alloc Zs _
def inN(ns:List Int):Prop:=∀n∈ns,0<=n/\n<=1099511627776
theorem V9{W:World}{base:Nat}{e:TypeId}{z:Nat}{a:Qa}{xs:List Value}(h:W.ownsRow base e z (.slice a n c) n xs):n<=c:=by
 rcases h.2 with⟨A,rfl⟩ | ⟨g,C,D,A,_,_,B,_⟩
 ·exact Q6 _
 ·cases A; exact B
theorem NI{R:Option Msg}(F:R=some ⟨n0,n1,n2,n3,ds,T⟩)(D:PM w x)(A:x.ownsRow ((w:Nat)+3) 54 2 (.slice av ds.length cv) ds.length (aW ds)):
  EW w R (.returned (.tuple #[.agg #[Yi n0,Yi n1,Yi n2,Yi n3,.slice av ds.length cv,T],.bool true]))
   ((((((x.setCell w (Yi n0)).setCell ⟨w,1,none⟩ (Yi n1)).setCell ⟨w,2,none⟩ (Yi n2)).setCell ⟨w,3,none⟩ (Yi n3)).setCell ⟨w,4,none⟩ (.slice av ds.length cv)).setCell ⟨w,5,none⟩ (.string ⟨T.toArray⟩)):=by
 have C:∀g,(Value.slice av ds.length cv).ownBlock=some g->g≠(w:Nat):=fun g E=>Zh ((A.lt g E).1)
 have k6:x.grownBy ((((((x.setCell w (Yi n0)).setCell ⟨w,1,none⟩ (Yi n1)).setCell ⟨w,2,none⟩ (Yi n2)).setCell ⟨w,3,none⟩ (Yi n3)).setCell ⟨w,4,none⟩ (.slice av ds.length cv)).setCell ⟨w,5,none⟩ (.string ⟨T.toArray⟩)) (some (w:Nat)):=
  bu (bu (bu (bu (bu (dN _ _ _ _) (dN _ _ _ _)) (dN _ _ _ _)) (dN _ _ _ _)) (dN _ _ _ _)) (dN _ _ _ _)
 subst F;refine⟨av,cv,rfl,iy (A.kept k6 (.inr (fun e=>C _ e rfl))),D.grown k6 D.size (fun k G=>by cases G; exact nr),fun ad h=>?_,V9 A⟩;subst h;rcases A.2 with⟨B,_⟩ | ⟨g,H,I,B,E,_⟩
 ·cases B
 ·cases B; show (w:Nat)<=g; omega
structure DW (b2 b10:Nat) (n0 n1 n2 n3:Int) (wr:World) (v s:Value):Prop where
 c0:wr.cell? b10=some (Yi n0)
 c1:wr.cell? ⟨b10,1,none⟩=some (Yi n1)
 c2:wr.cell? ⟨b10,2,none⟩=some (Yi n2)
 c3:wr.cell? ⟨b10,3,none⟩=some (Yi n3)
 c4:wr.cell? ⟨b10,4,none⟩=some v
 c5:wr.cell? ⟨b10,5,none⟩=some s
 f:∀j,wr.frozen? ⟨b10,j,none⟩=false
 z0:wr.cell? b2=some (Yi 0)
 z1:wr.cell? ⟨b2,1,none⟩=some (Yi 0)
 z2:wr.cell? ⟨b2,2,none⟩=some (Yi 0)
 z3:wr.cell? ⟨b2,3,none⟩=some (Yi 0)
 z4:wr.cell? ⟨b2,4,none⟩=some (.slice none 0 0)
 z5:wr.cell? ⟨b2,5,none⟩=some (.string ⟨#[]⟩)
 g:∀j,wr.frozen? ⟨b2,j,none⟩=false
theorem DW.keep{s:Value}(h:DW b2 b10 n0 n1 n2 n3 wr v s)(k1:∀j,x.cell? ⟨b10,j,none⟩=wr.cell? ⟨b10,j,none⟩/\x.frozen? ⟨b10,j,none⟩=wr.frozen? ⟨b10,j,none⟩)(k2:∀j,x.cell? ⟨b2,j,none⟩=wr.cell? ⟨b2,j,none⟩/\x.frozen? ⟨b2,j,none⟩=wr.frozen? ⟨b2,j,none⟩):DW b2 b10 n0 n1 n2 n3 x v s:=
 ⟨(k1 0).1.trans h.c0,(k1 1).1.trans h.c1,(k1 2).1.trans h.c2,(k1 3).1.trans h.c3,(k1 4).1.trans h.c4,(k1 5).1.trans h.c5,fun j=>(k1 j).2.trans (h.f j),(k2 0).1.trans h.z0,(k2 1).1.trans h.z1,(k2 2).1.trans h.z2,(k2 3).1.trans h.z3,(k2 4).1.trans h.z4,(k2 5).1.trans h.z5,fun j=>(k2 j).2.trans (h.g j)⟩
theorem DW.below{s:Value}(h:DW b2 b10 n0 n1 n2 n3 wr v s)(A:PM wr x)(B:b10<(wr:Nat))(C:b2<(wr:Nat)):DW b2 b10 n0 n1 n2 n3 x v s:=
 h.keep (fun j=>⟨A.cell (p:=⟨b10,j,none⟩) B,A.frozen (p:=⟨b10,j,none⟩) B⟩) (fun j=>⟨A.cell (p:=⟨b2,j,none⟩) C,A.frozen (p:=⟨b2,j,none⟩) C⟩)
theorem DW.set4{s:Value}(h:DW b2 b10 n0 n1 n2 n3 wr v s)(A:b2≠b10)(v':Value):DW b2 b10 n0 n1 n2 n3 (wr.setCell ⟨b10,4,none⟩ v') v' s:=by
 have k2:∀j,(wr.setCell ⟨b10,4,none⟩ v').cell? ⟨b2,j,none⟩=wr.cell? ⟨b2,j,none⟩/\(wr.setCell ⟨b10,4,none⟩ v').frozen? ⟨b2,j,none⟩=wr.frozen? ⟨b2,j,none⟩:=fun j=>by
  have B:=Below.heap_setCell wr ⟨b10,4,none⟩ v' b2 A;exact⟨XM (a:=⟨b2,j,none⟩) B,World.frozen?_of_block (a:=⟨b2,j,none⟩) B⟩
 exact⟨by simp[go_sem,h.c0],by simp[go_sem,h.c1],by simp[go_sem,h.c2],by simp[go_sem,h.c3],by simp[go_sem,h.c4],by simp[go_sem,h.c5],fun j=>by simp[go_sem,h.f],(k2 0).1.trans h.z0,(k2 1).1.trans h.z1,(k2 2).1.trans h.z2,(k2 3).1.trans h.z3,(k2 4).1.trans h.z4,(k2 5).1.trans h.z5,fun j=>(k2 j).2.trans (h.g j)⟩
theorem BU(L:Qb)(w:World)(hL:(L.length:Int)<=140737488355328):
  Qh 68 #[L] w (EW w (Jw L)):=by
 obtain⟨R,hR⟩:=Qe (Jw L);rw[<-hR];have HR:=Qf hR;clear hR;go_enter func68,ntmps68;go_upto_block 0 with fail
 go_cut [0] from 5 to 32 (fun s wx=>∃(n0 n1 n2 n3 n4:Int) (l:Qb),s=.string ⟨l.toArray⟩/\wx=decW w n0 n1 n2 n3 n4/\(l.length:Int)<=L.length/\Qg (G5 L 5 [n0,n1,n2,n3,n4] l)/\Qg (inN [n0,n1,n2,n3,n4]))
 case first=>
  go_wp2;go_loopw [0,14] (fun s i wr=>∃(k:Nat) (n0 n1 n2 n3 n4:Int) (l:Qb),k<=5/\i=Yi k/\s=.string ⟨l.toArray⟩/\wr=decW w n0 n1 n2 n3 n4/\(l.length:Int)<=L.length/\Qg (G5 L k ([n0,n1,n2,n3,n4].take k) l)/\Qg (inN ([n0,n1,n2,n3,n4].take k))) (fun _ i _=>5-(intOf i).toNat)
  case atStart=>exact⟨0,0,0,0,0,0,L,Zo,rfl,rfl,rfl,Zo,Qf (G5.start L),Qf (fun n hn=>by simp at hn)⟩
  case round=>
   obtain⟨k,n0,n1,n2,n3,n4,l,hk,rfl,rfl,rfl,hl,F,K⟩:=hrel;by_cases B8:k<5
   ·rcases(show k=0\/k=1\/k=2\/k=3\/k=4 by omega) with rfl | rfl | rfl | rfl | rfl
    all_goals clear hk B8
    ·obtain⟨n,u,er,E⟩:∃n u er,Cw.getI l=(n,u,er):=⟨_,_,_,rfl⟩;have G:=Qf (fun X=>dQ (s:=⟨l.toArray⟩) (n:=n) (k:=u) (er:=er) (Zu E) X);by_cases I:er=0
     ·subst I;have Z:=bM E;have C:=Qf (F.out.next Zo E);have H:Qg (inN ([n0,n1,n2,n3,n4].take 0++[n])):=Qf (fun x B=>by
       rcases aD.1 B with B | B
       ·exact K.out x B
       ·simp only[aH] at B; subst B; omega)
      obtain⟨u0,rfl⟩:∃u0:Nat,u=(u0:Int):=⟨u.toNat,Zo⟩;rw[aj] at C;have S:u0<=l.length:=Zo;have Q:=fun W=>jY l u0 S W
      have O:(l:ByteArray).extract u0 l.length=⟨(l.drop u0).toArray⟩:=by rw[dw,ag Zs]
      obtain⟨l',D⟩:∃l',l'=l.drop u0:=⟨_,rfl⟩;have P:(l'.length:Int)<=L.length:=by rw[D,ah]; omega
      rw[<-D] at Q C O;clear D E Z;go_wp2_with fail;refine(G.o _).mono ?_;rintro e w' ⟨rfl,rfl⟩;go_wp2;go_roundw
      case rel=>exact⟨1,n,n1,n2,n3,n4,l',Zo,rfl,rfl,rfl,P,C,H⟩
      case measure=>simp[intOf]
     ·have M:Qg (R=none):=Qf (HR.o▸F.out.bad (by omega) E I);have A2:(er !=0)=true:=Zu I;clear E I;go_wp2_with fail;refine(G.o _).mono ?_;rintro e w' ⟨rfl,rfl⟩;go_wp2;refine XB (v:=.tuple #[.agg #[Yi 0,Yi 0,Yi 0,Yi 0,(),Ye],.bool false]) (by simp[results,results68,go_sem]) rfl (EW.none M.o (gy w n0 n1 n2 n3 n4))
    ·obtain⟨n,u,er,E⟩:∃n u er,Cw.getI l=(n,u,er):=⟨_,_,_,rfl⟩;have G:=Qf (fun X=>dQ (s:=⟨l.toArray⟩) (n:=n) (k:=u) (er:=er) (Zu E) X);by_cases I:er=0
     ·subst I;have Z:=bM E;have C:=Qf (F.out.next Zo E);have H:Qg (inN ([n0,n1,n2,n3,n4].take 1++[n])):=Qf (fun x B=>by
       rcases aD.1 B with B | B
       ·exact K.out x B
       ·simp only[aH] at B; subst B; omega)
      obtain⟨u0,rfl⟩:∃u0:Nat,u=(u0:Int):=⟨u.toNat,Zo⟩;rw[aj] at C;have S:u0<=l.length:=Zo;have Q:=fun W=>jY l u0 S W
      have O:(l:ByteArray).extract u0 l.length=⟨(l.drop u0).toArray⟩:=by rw[dw,ag Zs]
      obtain⟨l',D⟩:∃l',l'=l.drop u0:=⟨_,rfl⟩;have P:(l'.length:Int)<=L.length:=by rw[D,ah]; omega
      rw[<-D] at Q C O;clear D E Z;go_wp2_with fail;refine(G.o _).mono ?_;rintro e w' ⟨rfl,rfl⟩;go_wp2;go_roundw
      case rel=>exact⟨2,n0,n,n2,n3,n4,l',Zo,rfl,rfl,rfl,P,C,H⟩
      case measure=>simp[intOf]
     ·have M:Qg (R=none):=Qf (HR.o▸F.out.bad (by omega) E I);have A2:(er !=0)=true:=Zu I;clear E I;go_wp2_with fail;refine(G.o _).mono ?_;rintro e w' ⟨rfl,rfl⟩;go_wp2;refine XB (v:=.tuple #[.agg #[Yi 0,Yi 0,Yi 0,Yi 0,(),Ye],.bool false]) (by simp[results,results68,go_sem]) rfl (EW.none M.o (gy w n0 n1 n2 n3 n4))
    ·obtain⟨n,u,er,E⟩:∃n u er,Cw.getI l=(n,u,er):=⟨_,_,_,rfl⟩;have G:=Qf (fun X=>dQ (s:=⟨l.toArray⟩) (n:=n) (k:=u) (er:=er) (Zu E) X);by_cases I:er=0
     ·subst I;have Z:=bM E;have C:=Qf (F.out.next Zo E);have H:Qg (inN ([n0,n1,n2,n3,n4].take 2++[n])):=Qf (fun x B=>by
       rcases aD.1 B with B | B
       ·exact K.out x B
       ·simp only[aH] at B; subst B; omega)
      obtain⟨u0,rfl⟩:∃u0:Nat,u=(u0:Int):=⟨u.toNat,Zo⟩;rw[aj] at C;have S:u0<=l.length:=Zo;have Q:=fun W=>jY l u0 S W
      have O:(l:ByteArray).extract u0 l.length=⟨(l.drop u0).toArray⟩:=by rw[dw,ag Zs]
      obtain⟨l',D⟩:∃l',l'=l.drop u0:=⟨_,rfl⟩;have P:(l'.length:Int)<=L.length:=by rw[D,ah]; omega
      rw[<-D] at Q C O;clear D E Z;go_wp2_with fail;refine(G.o _).mono ?_;rintro e w' ⟨rfl,rfl⟩;go_wp2;go_roundw
      case rel=>exact⟨3,n0,n1,n,n3,n4,l',Zo,rfl,rfl,rfl,P,C,H⟩
      case measure=>simp[intOf]
     ·have M:Qg (R=none):=Qf (HR.o▸F.out.bad (by omega) E I);have A2:(er !=0)=true:=Zu I;clear E I;go_wp2_with fail;refine(G.o _).mono ?_;rintro e w' ⟨rfl,rfl⟩;go_wp2;refine XB (v:=.tuple #[.agg #[Yi 0,Yi 0,Yi 0,Yi 0,(),Ye],.bool false]) (by simp[results,results68,go_sem]) rfl (EW.none M.o (gy w n0 n1 n2 n3 n4))
    ·obtain⟨n,u,er,E⟩:∃n u er,Cw.getI l=(n,u,er):=⟨_,_,_,rfl⟩;have G:=Qf (fun X=>dQ (s:=⟨l.toArray⟩) (n:=n) (k:=u) (er:=er) (Zu E) X);by_cases I:er=0
     ·subst I;have Z:=bM E;have C:=Qf (F.out.next Zo E);have H:Qg (inN ([n0,n1,n2,n3,n4].take 3++[n])):=Qf (fun x B=>by
       rcases aD.1 B with B | B
       ·exact K.out x B
       ·simp only[aH] at B; subst B; omega)
      obtain⟨u0,rfl⟩:∃u0:Nat,u=(u0:Int):=⟨u.toNat,Zo⟩;rw[aj] at C;have S:u0<=l.length:=Zo;have Q:=fun W=>jY l u0 S W
      have O:(l:ByteArray).extract u0 l.length=⟨(l.drop u0).toArray⟩:=by rw[dw,ag Zs]
      obtain⟨l',D⟩:∃l',l'=l.drop u0:=⟨_,rfl⟩;have P:(l'.length:Int)<=L.length:=by rw[D,ah]; omega
      rw[<-D] at Q C O;clear D E Z;go_wp2_with fail;refine(G.o _).mono ?_;rintro e w' ⟨rfl,rfl⟩;go_wp2;go_roundw
      case rel=>exact⟨4,n0,n1,n2,n,n4,l',Zo,rfl,rfl,rfl,P,C,H⟩
      case measure=>simp[intOf]
     ·have M:Qg (R=none):=Qf (HR.o▸F.out.bad (by omega) E I);have A2:(er !=0)=true:=Zu I;clear E I;go_wp2_with fail;refine(G.o _).mono ?_;rintro e w' ⟨rfl,rfl⟩;go_wp2;refine XB (v:=.tuple #[.agg #[Yi 0,Yi 0,Yi 0,Yi 0,(),Ye],.bool false]) (by simp[results,results68,go_sem]) rfl (EW.none M.o (gy w n0 n1 n2 n3 n4))
    ·obtain⟨n,u,er,E⟩:∃n u er,Cw.getI l=(n,u,er):=⟨_,_,_,rfl⟩;have G:=Qf (fun X=>dQ (s:=⟨l.toArray⟩) (n:=n) (k:=u) (er:=er) (Zu E) X);by_cases I:er=0
     ·subst I;have Z:=bM E;have C:=Qf (F.out.next Zo E);have H:Qg (inN ([n0,n1,n2,n3,n4].take 4++[n])):=Qf (fun x B=>by
       rcases aD.1 B with B | B
       ·exact K.out x B
       ·simp only[aH] at B; subst B; omega)
      obtain⟨u0,rfl⟩:∃u0:Nat,u=(u0:Int):=⟨u.toNat,Zo⟩;rw[aj] at C;have S:u0<=l.length:=Zo;have Q:=fun W=>jY l u0 S W
      have O:(l:ByteArray).extract u0 l.length=⟨(l.drop u0).toArray⟩:=by rw[dw,ag Zs]
      obtain⟨l',D⟩:∃l',l'=l.drop u0:=⟨_,rfl⟩;have P:(l'.length:Int)<=L.length:=by rw[D,ah]; omega
      rw[<-D] at Q C O;clear D E Z;go_wp2_with fail;refine(G.o _).mono ?_;rintro e w' ⟨rfl,rfl⟩;go_wp2;go_roundw
      case rel=>exact⟨5,n0,n1,n2,n3,n,l',Zo,rfl,rfl,rfl,P,C,H⟩
      case measure=>simp[intOf]
     ·have M:Qg (R=none):=Qf (HR.o▸F.out.bad (by omega) E I);have A2:(er !=0)=true:=Zu I;clear E I;go_wp2_with fail;refine(G.o _).mono ?_;rintro e w' ⟨rfl,rfl⟩;go_wp2;refine XB (v:=.tuple #[.agg #[Yi 0,Yi 0,Yi 0,Yi 0,(),Ye],.bool false]) (by simp[results,results68,go_sem]) rfl (EW.none M.o (gy w n0 n1 n2 n3 n4))
   ·obtain rfl:k=5:=Zo;go_wp2_with fail;go_meet
    case rel=>exact⟨n0,n1,n2,n3,n4,l,rfl,rfl,hl,F,K⟩
 case rest=>
  obtain⟨n0,n1,n2,n3,n4,l,rfl,rfl,hl,F,K⟩:=hcut;have A4:=Qf F.out.fin;have F0:=K.out n0 Zs;have F1:=K.out n1 Zs;have F2:=K.out n2 Zs;have F3:=K.out n3 Zs;have D9:=K.out n4 Zs;by_cases hq:1000<n4
  ·have M:Qg (R=none):=Qf (by rw[HR.o,A4.o,if_pos (.inl hq)]);go_wp2;refine XB (v:=.tuple #[.agg #[Yi 0,Yi 0,Yi 0,Yi 0,(),Ye],.bool false]) (by simp[results,results68,go_sem]) rfl (EW.none M.o (gy w n0 n1 n2 n3 n4))
  ·by_cases C8:(l.length:Int)<16*n4
   ·have M:Qg (R=none):=Qf (by rw[HR.o,A4.o,if_pos (.inr C8)]);go_wp2;refine XB (v:=.tuple #[.agg #[Yi 0,Yi 0,Yi 0,Yi 0,(),Ye],.bool false]) (by simp[results,results68,go_sem]) rfl (EW.none M.o (gy w n0 n1 n2 n3 n4))
   ·obtain⟨c,rfl⟩:∃c:Nat,n4=(c:Int):=⟨n4.toNat,Zo⟩;have Y:Qg (R=Pk n0 n1 n2 n3 (rF c l) (l.drop (16*c))):=Qf (by rw[HR.o,A4.o,if_neg Zo,aj]);have F5:c<=1000:=Zo;have F8:16*c<=l.length:=Zo;have d1:decide ((1000:Int)<(c:Int))=false:=Zt;have d2:decide ((l.length:Int)<16*(c:Int))=false:=Zt;clear hq C8 F K A4 HR D9;obtain⟨B0,hi,D0,E1,E2⟩:=XR ul;have D6:=Qf D0;clear D0;go_upto_block 2 with fail
    go_cut [0] from 55 to 71 (fun s wx=>∃(ds:Qd) (v:Value) (l2:Qb),s=.string ⟨l2.toArray⟩/\(l2.length:Int)<=L.length/\wx.ownsRow ((w:Nat)+3) 54 2 v ds.length (aW ds)/\DW (w:Nat) ((w:Nat)+1+1) n0 n1 n2 n3 wx v (.string ⟨#[]⟩)/\PM w wx/\(w:Nat)+3<=wx.heap.size/\Qg (rF c l=ds/\l.drop (16*c)=l2)/\ds.length<=1000)
    case first=>
     go_wp2;go_loopw [0,55] (fun s i wr=>∃(j:Nat) (l2:Qb) (ds:Qd) (v:Value),j<=c/\i=Yi j/\s=.string ⟨l2.toArray⟩/\wr.ownsRow ((w:Nat)+3) 54 2 v ds.length (aW ds)/\DW (w:Nat) ((w:Nat)+1+1) n0 n1 n2 n3 wr v (.string ⟨#[]⟩)/\PM w wr/\(w:Nat)+3<=wr.heap.size/\Qg (GD c l j ds l2)) (fun _ i _=>c-(intOf i).toNat)
     case atStart=>exact⟨0,l,[],.slice none 0 0,Zo,rfl,rfl,XE _ _ _ _,⟨by simp[go_sem],by simp[go_sem],by simp[go_sem],by simp[go_sem],by simp[go_sem],by simp[go_sem],fun j=>by simp[go_sem],by simp[go_sem],by simp[go_sem],by simp[go_sem],by simp[go_sem],by simp[go_sem],by simp[go_sem],fun j=>by simp[go_sem]⟩,(gy w n0 n1 n2 n3 c).alloc Zt _,Zs,Qf (GD.start c l)⟩
     case round=>
      obtain⟨j,l2,ds,v,hj,rfl,rfl,N,A1,U,C9,A5⟩:=hrel;obtain⟨HO,A0,HB⟩:=Yk N A1 U;have B6:ds.length=j:=A5.out.2.2;have C6:l2.length=l.length-16*j:=by rw[A5.out.2.1,ah]
      clear N A1 U;by_cases B8:j<c
      ·have E8:16<=l2.length:=Zo;have E5:(16:Int)<=(l2.length:Int):=Zo;obtain⟨C1,C⟩:=Yj B6 (A5.out.next B8);obtain⟨X1,A8⟩:=Qe (l2.take 8);obtain⟨X2,A9⟩:=Qe ((l2.drop 8).take 8);obtain⟨X3,B5⟩:=Qe (l2.drop 16);rw[<-A8,<-A9,<-B5] at C;have G0:∀W,(Instr.slice 9 (.string ⟨l2.toArray⟩) none (some (Yi 8)) none).run prog W=.ok (.string ⟨X1.toArray⟩) W:=fun W=>A8▸OJ l2 8 (by omega) W
       have G1:∀W,(Instr.slice 9 (.string ⟨l2.toArray⟩) (some (Yi 8)) (some (Yi 16)) none).run prog W=.ok (.string ⟨X2.toArray⟩) W:=fun W=>A9▸DD l2 8 16 (by omega) (by omega) W
       have G2:(l2:ByteArray).extract 16 l2.length=⟨X3.toArray⟩:=by rw[B5,dw,ag Zs]
       obtain⟨C2,C3⟩:=Yj (fun W=>pz X1 W (by rw[A8]; simp; omega)) (fun W=>pz X2 W (by rw[A9]; simp; omega));generalize mJ X1=y1 at C2 C;generalize mJ X2=y2 at C3 C;clear A8 A9 B5 C6 B6;have c4:=A0.o.c4;have B4:=fun x=>bP c4 x
       go_wp2_with fail;go_region_law
        (first
        | (refine step_append_lies _ Zr (.tmp 58) (.tmp 66) _ Zr ((w:Nat)+3) 54 B0 _ 2 16 underlying24 hi D6.o E1 E2 rfl Zo _ ds.length (aW ds) Zr (HO.o.alloc _).drew ⟨wr,0,none⟩ 1 1 [.int .u64 y1,.int .u64 y2] Zr Zr (World.news_of_block (cs:=#[.int .u64 y1,.int .u64 y2]) (t:=54) (fr:=(0,0)) (heap_alloc_new wr _)) (by simp[Value.oneCell']) Zo (by have:=C1.o; unfold maxLen; omega) (Zh C1.o) Zt _ rfl ?_; intro g A6 x A3 J C5 C7; (have A7:=(A0.o.below (((bf _).alloc nr (.cells #[.int .u64 y1,.int .u64 y2] 54)).drew) Zo Zo).keep (fun j=>Mt J (b:=(w:Nat)+1+1) Zt (fun e=>Zh ((HO.o.lt _ e).1)) j) (fun j=>Mt J (b:=(w:Nat)) Zt (fun e=>Zh ((HO.o.lt _ e).1)) j)); (have e4:=A7.c4); (have e5:=A7.f 4))
        | (go_simp; (first | (with_reducible refine(C2.o _).mono ?_) | (with_reducible refine(C3.o _).mono ?_)); rintro e w' ⟨rfl,rfl⟩)
        | fail)
       all_goals
        have D4:Qg (PM w x):=Qf (Below.grown ((HB.o.alloc Zo _).drew) J Zt (fun k hk=>Zh ((HO.o.lt k hk).1)));have E0:(w:Nat)+3<=(x:Nat):=by have:=J.size; simp at this; omega
        obtain⟨C4,D5⟩:=Yj A3 A7;clear A3 J C5 C7 A7;go_wp2;go_roundw
        case rel=>
         refine⟨j+1,X3,ds++[(y1,y2)],.slice g (ds.length+1) A6,Zo,Zg,rfl,?_,D5.o.set4 Zo _,D4.o.setCell Zt _,Zu E0,C⟩;rw[gK,af];exact C4.o.kept (dN _ _ _ _) (.inr (fun e=>Zh ((C4.o.lt _ e).1)))
        case measure=>exact Yq
      ·obtain rfl:j=c:=Zo;go_wp2_with fail;go_meet
       case rel=>exact⟨ds,v,l2,rfl,Zo,HO.o,A0.o,HB.o,C9,Qf A5.out.fin,Zo⟩
    case rest=>
     obtain⟨ds,v,l2,rfl,C6,N,A1,U,C9,D2,B6⟩:=hcut;obtain⟨HO,A0,HB⟩:=Yk N A1 U;obtain⟨av,cv,rfl,F6⟩:=aB N;obtain⟨B1,B2⟩:=D2.out;rw[B1,B2] at Y;clear N A1 U B1 B2;obtain⟨T,us,er,hT⟩:∃T us er,Cw.getT l2=(T,us,er):=⟨_,_,_,rfl⟩;have B3:Qg (∀X,Qh 126 #[l2] X fun e w'=>e=.returned (.tuple #[T,Yi us,Yi er])/\X=w'):=Qf (fun X=>by
      have:=kD ⟨l2.toArray⟩ X (Zy bH);rw[show(l2:ByteArray).data.toList=l2 by simp,hT] at this;exact this)
     obtain⟨c0,c1,c2,c3,c4,c5,f,z0,z1,z2,z3,z4,z5,g⟩:=A0.o;have f5:=f 5;have g0:=g 0;have g1:=g 1;have g2:=g 2;have g3:=g 3;have g4:=g 4;have g5:=g 5;unfold Pk at Y;rw[hT] at Y;simp only at Y;have D8:(T.length:Int)<=140737488355328:=by
      obtain⟨n,k,B7,_,hc⟩:=jM l2;rcases hc with⟨_,V⟩ | ⟨_,_,V⟩ | ⟨_,_,_,V⟩ | ⟨_,_,_,V⟩
      ·rw[hT] at V; simp only[XC] at V; rw[V.1]; simp
      ·rw[hT] at V; simp only[XC] at V; rw[V.1]; simp
      ·rw[hT] at V; simp only[XC] at V; rw[V.1]; simp
      ·rw[hT] at V; simp only[XC] at V; rw[V.1]; simp only[aA,ah]; omega
     clear f g hT;by_cases I:er=0
     ·subst I;by_cases hu:us=l2.length
      ·subst hu;have u0:((l2.length:Int) !=(l2.length:Int))=false:=Zs;obtain⟨b,Z⟩:=Qe (vM n0 n2 n3 ds.length T.length);have HV:=Qf (fun X=>MP n0 n1 n2 n3 av ds.length cv T X D8 Zo Zo Zo);rw[<-Z] at HV Y;clear Z;go_wp2_with fail;refine(B3.o _).mono ?_;rintro e x ⟨rfl,rfl⟩;go_wp2_with fail;refine(HV.o _).mono ?_;rintro e x ⟨rfl,B⟩;have d0:x.cell? ⟨(w:Nat)+1+1,0,none⟩=some (Yi n0):=(B.cell (p:=⟨(w:Nat)+1+1,0,none⟩) Zt).trans (by simp[go_sem,c0]);have d1:x.cell? ⟨(w:Nat)+1+1,1,none⟩=some (Yi n1):=(B.cell (p:=⟨(w:Nat)+1+1,1,none⟩) Zt).trans (by simp[go_sem,c1]);have d2:x.cell? ⟨(w:Nat)+1+1,2,none⟩=some (Yi n2):=(B.cell (p:=⟨(w:Nat)+1+1,2,none⟩) Zt).trans (by simp[go_sem,c2]);have d3:x.cell? ⟨(w:Nat)+1+1,3,none⟩=some (Yi n3):=(B.cell (p:=⟨(w:Nat)+1+1,3,none⟩) Zt).trans (by simp[go_sem,c3]);have d4:x.cell? ⟨(w:Nat)+1+1,4,none⟩=some (.slice av ds.length cv):=(B.cell (p:=⟨(w:Nat)+1+1,4,none⟩) Zt).trans (by simp[go_sem,c4]);have d5:x.cell? ⟨(w:Nat)+1+1,5,none⟩=some (.string ⟨T.toArray⟩):=(B.cell (p:=⟨(w:Nat)+1+1,5,none⟩) Zt).trans (by simp[go_sem,c5]);have e0:x.cell? w=some (Yi 0):=(B.cell (p:=⟨w,0,none⟩) Zt).trans (by simp[go_sem,z0]);have e1:x.cell? ⟨w,1,none⟩=some (Yi 0):=(B.cell (p:=⟨w,1,none⟩) Zt).trans (by simp[go_sem,z1]);have e2:x.cell? ⟨w,2,none⟩=some (Yi 0):=(B.cell (p:=⟨w,2,none⟩) Zt).trans (by simp[go_sem,z2]);have e3:x.cell? ⟨w,3,none⟩=some (Yi 0):=(B.cell (p:=⟨w,3,none⟩) Zt).trans (by simp[go_sem,z3]);have e4:x.cell? ⟨w,4,none⟩=some (.slice none 0 0):=(B.cell (p:=⟨w,4,none⟩) Zt).trans (by simp[go_sem,z4]);have e5:x.cell? ⟨w,5,none⟩=some (.string ⟨#[]⟩):=(B.cell (p:=⟨w,5,none⟩) Zt).trans (by simp[go_sem,z5]);have h0:x.frozen? w=false:=(B.frozen (p:=⟨w,0,none⟩) Zt).trans (by simp[go_sem,g0]);have h1:x.frozen? ⟨w,1,none⟩=false:=(B.frozen (p:=⟨w,1,none⟩) Zt).trans (by simp[go_sem,g1]);have h2:x.frozen? ⟨w,2,none⟩=false:=(B.frozen (p:=⟨w,2,none⟩) Zt).trans (by simp[go_sem,g2]);have h3:x.frozen? ⟨w,3,none⟩=false:=(B.frozen (p:=⟨w,3,none⟩) Zt).trans (by simp[go_sem,g3]);have h4:x.frozen? ⟨w,4,none⟩=false:=(B.frozen (p:=⟨w,4,none⟩) Zt).trans (by simp[go_sem,g4]);have h5:x.frozen? ⟨w,5,none⟩=false:=(B.frozen (p:=⟨w,5,none⟩) Zt).trans (by simp[go_sem,g5]);have C0:Qg (PM w x):=Qf ((HB.o.setCell Zt _).trans (B.mono Zt));have D3:Qg (x.ownsRow ((w:Nat)+3) 54 2 (.slice av ds.length cv) ds.length (aW ds)):=Qf (by
        have h1:=HO.o.kept (w':=wc.setCell ⟨(w:Nat)+1+1,5,none⟩ (.string ⟨T.toArray⟩)) (row:=some ((w:Nat)+1+1)) ⟨rfl,rfl,rfl,Zs,fun k _ hk=>Below.heap_setCell _ _ _ k (fun e=>hk (by rw[e]))⟩ (.inr (fun e=>Zh ((HO.o.lt _ e).1)));refine h1.kept (row:=none) ⟨B.os,B.tape,B.output,B.size,fun k hk _=>B.block k hk⟩ ?_;cases h2:(Value.slice av ds.length cv).ownBlock with
        | none=>exact .inl rfl
        | some k=>exact .inr Zs)
       clear B c0 c1 c2 c3 c4 c5 z0 z1 z2 z3 z4 z5 f5 g0 g1 g2 g3 g4 g5;cases b with
       | false=>
        have M:Qg (R=none):=Qf (Zn Y.o);clear Y;go_wp2;refine XB (v:=.tuple #[.agg #[Yi 0,Yi 0,Yi 0,Yi 0,(),Ye],.bool false]) (by simp[results,results68,go_sem,e0,e1,e2,e3,e4,e5]) rfl (EW.none M.o ?_);exact(((((C0.o.setCell Zs _).setCell Zs _).setCell Zs _).setCell Zs _).setCell Zs _).setCell Zs _
       | true=>
        have M:Qg (R=some ⟨n0,n1,n2,n3,ds,T⟩):=Qf (Zn Y.o);clear Y;go_wp2;refine XB (v:=.tuple #[.agg #[Yi n0,Yi n1,Yi n2,Yi n3,.slice av ds.length cv,T],.bool true]) (by simp[results,results68,go_sem,e0,e1,e2,e3,e4,e5]) rfl ?_;exact NI M.o C0.o D3.o
      ·have M:Qg (R=none):=Qf (by rw[Y.o,if_pos (.inr hu)]);have u0:(us !=(l2.length:Int))=true:=Zu hu;clear hu Y;go_wp2_with fail;refine(B3.o _).mono ?_;rintro e x ⟨rfl,rfl⟩;go_wp2;refine XB (v:=.tuple #[.agg #[Yi 0,Yi 0,Yi 0,Yi 0,(),Ye],.bool false]) (by simp[results,results68,go_sem,z0,z1,z2,z3,z4,z5]) rfl (EW.none M.o ?_);exact(((((HB.o.setCell Zs _).setCell Zs _).setCell Zs _).setCell Zs _).setCell Zs _).setCell Zs _
     ·have M:Qg (R=none):=Qf (by rw[Y.o,if_pos (.inl I)]);have A2:(er !=0)=true:=Zu I;clear I Y;go_wp2_with fail;refine(B3.o _).mono ?_;rintro e x ⟨rfl,rfl⟩;go_wp2;refine XB (v:=.tuple #[.agg #[Yi 0,Yi 0,Yi 0,Yi 0,(),Ye],.bool false]) (by simp[results,results68,go_sem,z0,z1,z2,z3,z4,z5]) rfl (EW.none M.o ?_);exact(((((HB.o.setCell Zs _).setCell Zs _).setCell Zs _).setCell Zs _).setCell Zs _).setCell Zs _
theorem Lm(l:Qb)(h:l.length<=4):Gf l<4294967296:=
 aO (CQ l) (aC (Nat.pow_le_pow_right Zo h) Zd)
def pg(s:Qb):Option (Msg×Nat):=
 if s.length<12 then none
 else if s.length-12<Gf (s.take 4) then none
 else if(iY ((s.drop 12).take (Gf (s.take 4)))).1≠mJ ((s.drop 4).take 8) then none
 else(Jw ((s.drop 12).take (Gf (s.take 4)))).map fun m=>(m,12+Gf (s.take 4))
theorem Uq{m:Msg}(h:pg s=some (m,u)):12<=u/\u<=s.length:=by
 unfold pg at h;split at h
 ·simp at h
 ·split at h
  ·simp at h
  ·split at h
   ·simp at h
   ·simp only[Option.map_eq_some_iff,XC] at h;obtain⟨m',_,_,rfl⟩:=h;omega
inductive BG:Qb->List Msg->Nat->Prop
 | stop {s:Qb} (h:pg s=none):BG s [] 0
 | step {s:Qb} {m:Msg} {u:Nat} {l:List Msg} {n:Nat} (h:pg s=some (m,u)) (r:BG (s.drop u) l n):BG s (m::l) (u+n)
theorem BG.total:∀(k:Nat) (s:Qb),s.length<=k->∃l n,BG s l n
 | 0,s,h=>by
  refine⟨[],0,.stop ?_⟩;unfold pg;rw[if_pos Zo]
 | k+1,s,h=>by
  cases A:pg s with
  | none=>exact⟨[],0,.stop A⟩
  | some x=>
   obtain⟨m,u⟩:=x;have:=Uq A;obtain⟨l,n,B⟩:=BG.total k (s.drop u) (Zy ah);exact⟨m::l,u+n,.step A B⟩
theorem BG.one{l l':List Msg}{n':Nat}(h:BG s l n)(A:BG s l' n'):l=l'/\n=n':=by
 induction h generalizing l' n' with
 | stop h=>
  cases A with
  | stop _=>exact⟨rfl,rfl⟩
  | step g _=>rw[h] at g; cases g
 | step h r ih=>
  cases A with
  | stop g=>rw[h] at g; cases g
  | step g r'=>
   rw[h] at g; cases g;obtain⟨rfl,rfl⟩:=ih r';exact⟨rfl,rfl⟩
theorem BG.le{l:List Msg}(h:BG s l n):n<=s.length/\l.length*12<=n:=by
 induction h with
 | stop h=>simp
 | step h r ih=>
  have:=Uq h;rw[ah] at ih;rw[az];omega
def SR(s:Qb)(at_:Nat)(acc:List Msg):Prop:=∀l n,BG (s.drop at_) l n->BG s (acc++l) (at_+n)
theorem SR.start(s:Qb):SR s 0 []:=fun l n h=>by
 rw[List.drop_zero] at h;simpa using h
theorem SR.next{acc:List Msg}(h:SR s at_ acc){m:Msg}(A:pg (s.drop at_)=some (m,u)):SR s (at_+u) (acc++[m]):=fun l n hs=>by
 have:=h (m::l) (u+n) (.step A (by rw[eY]; exact hs));rw[ay,aP];exact this
theorem SR.fin{acc:List Msg}(h:SR s at_ acc)(A:pg (s.drop at_)=none):BG s acc at_:=by
 have:=h [] 0 (.stop A);simpa using this
theorem qX:∀(c:Nat) (l:Qb),(rF c l).length=c
 | 0,_=>rfl
 | c+1,l=>by rw[rF,az,qX]
theorem NJ{m:Msg}(h:Jw l=some m):m.ds.length<=1000:=by
 unfold Jw at h;split at h
 ·split at h
  ·cases h
  ·rename_i A;unfold Pk at h;split at h
   ·cases h
   ·split at h
    ·cases h
     rw[qX];omega
    ·cases h
 ·cases h
structure GL (w wr:World) (v:Value) (acc:List MA):Prop where
 own:wr.ownsRow w 73 6 v acc.length (fJ acc)
 bel:PM w wr
 cp:∀x∈acc,x.1.ds.length<=x.2.2
 ds:∀x∈acc,dE wr wr x.2.1 x.1.ds/\x.1.ds.length<=1000/\(0<x.1.ds.length->∀ad,x.2.1=some ad->v.ownBlock≠some ad.block)
theorem GL.start(w:World):GL w w (.slice none 0 0) []:=⟨XE _ _ _ _,bf _,fun x A=>(by simp at A),fun x A=>(by simp at A)⟩
theorem GL.below(h:GL w wr v acc)(A:PM wr x):GL w x v acc:=by
 refine⟨h.own.kept (row:=none) ⟨A.os,A.tape,A.output,A.size,fun k E _=>A.block k E⟩ ?_,(XT h.bel A),h.cp,fun y F=>?_⟩
 ·cases B:v.ownBlock with
  | none=>exact .inl rfl
  | some k=>exact .inr Zs
 ·obtain⟨C,B,D⟩:=h.ds y F;exact⟨(C.below A nr).mono A.size,B,D⟩
theorem GL.snoc{w x x':World}{v:Value}{acc:List MA}{m:Msg}{da:Qa}{dc g cap H:Nat}(h:GL w x v acc)(J:dE x x da m.ds)(Q:m.ds.length<=1000)(E:m.ds.length<=dc)
  (L:0<m.ds.length->∀ad,da=some ad->v.ownBlock≠some ad.block)
  (D:x'.ownsRow w 73 6 (.slice g (acc.length+1) cap) (acc.length+1) (fJ acc++[Yi m.kind,Yi m.id,Yi m.off,Yi m.tot,.slice da m.ds.length dc,.string ⟨m.data.toArray⟩]))
  (K:x.grownBy x' v.ownBlock) (C:v.ownBlock=some g\/g=H) (S:(x:Nat)=H):GL w x' (.slice g (acc.length+1) cap) (acc++[(m,da,dc)]):=by
 refine⟨?_,h.bel.grown K h.bel.size (fun k P=>(h.own.lt k P).1),fun y B=>by
  rcases aD.1 B with B | B
  ·exact h.cp y B
  ·simp only[aH] at B;subst B; exact E,fun y B=>?_⟩
 ·rw[af,oQ]; exact D
 ·have A:∀{ds:Qd} {a:Qa},dE x x a ds->(0<ds.length->∀ad,a=some ad->v.ownBlock≠some ad.block)->dE x' x' a ds/\(0<ds.length->∀ad,a=some ad->(Value.slice (some ⟨g,0,none⟩) (acc.length+1) cap).ownBlock≠some ad.block):=fun {ds a} k1 k2=>by
   refine⟨k1.kept K k2,fun F ad N=>?_⟩;obtain⟨b,T,O,R,_⟩:=k1 0 F;subst N;cases O
   show some g≠some b;rcases C with C | C
   ·rw[<-C]; exact k2 F _ rfl
   ·intro e; cases e; omega
  rcases aD.1 B with B | B
  ·obtain⟨G,M,I⟩:=h.ds y B;exact⟨(A G I).1,M,(A G I).2⟩
  ·simp only[aH] at B;subst B;exact⟨(A J L).1,Q,(A J L).2⟩
def Xm(W:World)(a:Qa)(ms:List Msg):Prop:=
 ∀i (h:i<ms.length),∃b off da cd,a=some ⟨b,off,none⟩/\W.cell? ⟨b,off+i*6+4,none⟩=some (.slice da ms[i].ds.length cd)/\ms[i].ds.length<=cd
def Pv(w:World)(s:Qb)(e:Ending)(w':World):Prop:=
 ∃(ms:List Msg) (n:Nat) (a:Qa) (c:Nat),BG s ms n/\e=.returned (.tuple #[.slice a ms.length c,Yi n])/\GQ w' w' a ms/\PM w w'/\ms.length<=c/\(∀m∈ms,m.ds.length<=1000)/\Xm w' a ms
theorem GL.got(h:GL w wr (.slice av acc.length cv) acc)(hs:BG s (acc.map Prod.fst) at_)(E:acc.length<=cv):Pv w s (.returned (.tuple #[.slice av acc.length cv,Yi at_])) wr:=by
 refine⟨acc.map Prod.fst,at_,av,cv,hs,by rw[fC],qR h.own (fun x B=>(h.ds x B).1),h.bel,by rw[fC]; exact E,fun m F=>?_,fun i A=>?_⟩
 ·obtain⟨x,B,rfl⟩:=bV.1 F;exact(h.ds x B).2.1
 ·rw[fC] at A;rw[List.getElem_map];rcases h.own.2 with⟨D,G⟩ | ⟨g,I,J,D,_,H,_⟩
  ·omega
  ·cases D
   have C:=h.own.cells (g:=g) rfl _ _ (zZ acc i A).2.2.2.2.1;refine⟨g,0,acc[i].2.1,acc[i].2.2,rfl,?_,h.cp _ (ak A)⟩
   rwa[XD,<-aP] at C
theorem PD(L:Qb)(w:World)(hL:(L.length:Int)<=1000000000000):
  Qh 32 #[L] w (Pv w L):=by
 obtain⟨i0,hi,B4,B5,B6⟩:=XR IW;obtain⟨C5,C6,C7⟩:=Yk B4 B5 B6;clear B4 B5 B6;go_enter func32,ntmps32;go_wp2;go_loopw [4,5] (fun v i wr=>∃(at_:Nat) (C0:List MA),i=Yi at_/\at_<=L.length/\C0.length*12<=at_/\Qg (GL w wr v C0)/\Qg (SR L at_ (C0.map Prod.fst))) (fun _ i _=>L.length-(intOf i).toNat)
 case atStart=>exact⟨0,[],rfl,Zo,Zs,Qf (GL.start w),Qf (SR.start L)⟩
 case round=>
  obtain⟨at_,C0,rfl,E3,D5,Q,F⟩:=hrel;by_cases E1:at_+12<=L.length
  ·obtain⟨X4,U⟩:=Qe ((L.drop at_).take 4);obtain⟨n,hn⟩:=Qe (Gf X4);have D3:X4.length=4:=by rw[U]; simp; omega
   have E6:n<4294967296:=hn▸Lm X4 (by omega);have H4:Qg (∀W,Qh 67 #[X4] W fun e w'=>e=.returned (Yu (n:Int))/\W=w'):=Qf (fun W=>by
    have:=pz X4 W Zo
    rwa[Es X4 Zo,<-hn] at this)
   have D6:(L:ByteArray).extract at_ (at_+4)=⟨X4.toArray⟩:=by rw[dw,U,jR]
   have C:Qg (pg (L.drop at_)=if L.length-at_-12<n then none else if(iY ((L.drop (at_+12)).take n)).1≠mJ ((L.drop (at_+4)).take 8) then none else(Jw ((L.drop (at_+12)).take n)).map fun m=>(m,12+n)):=Qf (by
    unfold pg;rw[if_neg (Zy ah),<-U,<-hn,ah,eY,eY])
   clear U hn D3;by_cases O:L.length-at_-12<n
   ·have G:=Qf (F.out.fin (by rw[C.o,if_pos O]));have B3:(L.length:Int)-at_-12<n:=Zo;obtain⟨av,cv,rfl,B⟩:=aB Q.out.own;go_wp2_with fail;refine(H4.o _).mono ?_;rintro e x ⟨rfl,rfl⟩;go_wp2;go_ret2;exact Q.out.got G.o B
   ·have B3:(n:Int)<=(L.length:Int)-at_-12:=Zo;obtain⟨T,hT⟩:=Qe ((L.drop (at_+12)).take n);obtain⟨X8,V⟩:=Qe ((L.drop (at_+4)).take 8);have C9:T.length=n:=by rw[hT]; simp; omega
    have A7:X8.length=8:=by rw[V]; simp; omega
    have B1:(L:ByteArray).extract (at_+12) (at_+12+n)=⟨T.toArray⟩:=by rw[dw,hT,jR]
    have C2:∀W,(Instr.slice 9 (.string ⟨L.toArray⟩) (some (Yi ((at_:Int)+4))) (some (Yi ((at_:Int)+12))) none).run prog W=.ok (.string ⟨X8.toArray⟩) W:=fun W=>by
     rw[OI L ((at_:Int)+4) ((at_:Int)+12) Zo Zo Zo W,V];congr 6 <;> omega
    rw[<-hT,<-V] at C;obtain⟨y,hy⟩:=Qe (mJ X8);obtain⟨dg,A4⟩:=Qe (iY T);have H8:Qg (∀W,Qh 67 #[X8] W (Xz (Yu y) W)):=Qf (fun W=>by
     refine(pz X8 W Zo).mono ?_;rintro e w' ⟨rfl,rfl⟩;exact⟨Zx hy,bf _⟩)
    have S:Qg (∀W,Qh 50 #[T] W (Xz (.agg #[Yu dg.1,Yu dg.2]) W)):=Qf (fun W=>by
     rw[A4]; exact qV T W Zo)
    have J:=Qf (fun W=>BU T W Zo);rw[<-hy,<-A4] at C;obtain⟨d1,d2⟩:=dg;simp only at S C;have s4:IntKind.i64.wrap ((at_:Int)+4)=(at_:Int)+4:=ZV;have D4:IntKind.i64.wrap ((at_:Int)+12)=(at_:Int)+12:=ZV;clear hT V hy A4 A7 C9;have D0:∀W,(Instr.index 54 (.agg #[Yu d1,Yu d2]) (Yi 0)).run prog W=.ok (Yu d1) W:=fun W=>Zk
    have C8:decide ((L.length:Int)-at_-12<n)=false:=Zt;by_cases hd:d1=y
    ·subst hd;have D2:(d1 !=d1)=false:=Zs;obtain⟨R,hR⟩:=Qe (Jw T);rw[<-hR] at J;have H:Qg (pg (L.drop at_)=R.map fun m=>(m,12+n)):=Qf (by rw[C.o,if_neg O,if_neg Zs,hR]);have A2:Qg (∀m,R=some m->m.ds.length<=1000):=Qf (fun m hm=>NJ (hR.symm.trans hm));clear C hR O;have E7:=Q.out.bel.size;go_wp2_with fail;refine(H4.o _).mono ?_;rintro e x ⟨rfl,rfl⟩;go_wp2_with fail;obtain⟨D,E⟩:=Yj (fun d os=>YJ (w:=wr) (d:=d) (os:=os) (H8.o _)) (fun d os=>YJ (w:=wr) (d:=d) (os:=os) (S.o _));refine YH Zk Zk ?_
     repeat (any_goals (first | go_big_quiet_step (first | (with_reducible exact D.o _ _) | (with_reducible exact E.o _ _)) | quiet_step (first | (with_reducible exact D.o _ _) | (with_reducible exact E.o _ _))))
     refine YI ?_;intro w2 P;have I:=Qf (aX P);have A1:=Qf (Q.out.below I.o);have D8:=I.o.size;clear P D E I Q;go_wp2_with fail;refine(J.o _).mono ?_;rintro e x ⟨da,dc,rfl,B0,X,A8,A9⟩;obtain⟨A0,C3,A5,Z,K⟩:=Ym B0 X A8 A9 (A1.o.below X);have E8:=X.size;clear B0 X A8 A9 J H4 H8 S B1 C2 D0;cases R with
     | none=>
      have G:=Qf (F.out.fin (Zw H.o));clear H A2 F;obtain⟨av,cv,rfl,B⟩:=aB K.o.own;go_wp2;go_ret2;exact(K.o.below (ba x _)).got G.o B
     | some m=>
      have A6:=Qf (F.out.next (m:=m) (u:=12+n) (Zw H.o));have B2:=A2.o m rfl;clear H A2 F;obtain⟨B7,id,B8,B9,ds,data⟩:=m;simp only[Option.getD_some,Option.isSome_some] at A0 Z B2 ⊢;go_wp2_with (at_builtin; refine wpList_append_lies _ rfl _ _ 67 rfl (w:Nat) 73 i0 (.agg #[Yi 0,Yi 0,Yi 0,Yi 0,(),Ye]) 6 72 underlying67 hi C5.o C6.o C7.o rfl Zd _ _ _ rfl ((K.o.own.alloc _).alloc _) ⟨(x:Nat)+1,0,none⟩ 1 1 [Yi B7,Yi id,Yi B8,Yi B9,.slice da ds.length dc,.string ⟨data.toArray⟩] rfl rfl ?_ ?_ ?_ ?_ ?_ ?_ _ rfl ?_)
      ·have h0:(x.alloc (.cells #[Yi B7,Yi id,Yi B8,Yi B9,.slice da ds.length dc,data] 73)).heap.size=(x:Nat)+1:=Zs;have h1:=xE (x.alloc (.cells #[Yi B7,Yi id,Yi B8,Yi B9,.slice da ds.length dc,data] 73)) B7 id B8 B9 ds.length dc da ⟨data.toArray⟩;rw[h0] at h1;exact h1
      ·intro u hu; simp at hu; rcases hu with rfl | rfl | rfl | rfl | rfl | rfl <;> rfl
      ·decide
      ·unfold maxLen; omega
      ·omega
      ·simp; omega
      ·intro g C1 w' N M Y D1;have C4:Qg (GL w w' (.slice g (C0.length+1) C1) (C0++[(⟨B7,id,B8,B9,ds,data⟩,da,dc)])):=Qf (by
        have A3:PM x ((x.alloc (.cells #[Yi B7,Yi id,Yi B8,Yi B9,.slice da ds.length dc,data] 73)).alloc (.cells #[Yi B7,Yi id,Yi B8,Yi B9,.slice da ds.length dc,data] 73)):=(ba x _).alloc Zs _;exact(K.o.below A3).snoc (m:=⟨B7,id,B8,B9,ds,data⟩) ((A0.o.below A3 nr).mono A3.size) B2 Z.o (fun _ ad ha e=>by
         have h1:=(A1.o.own.lt _ e).2;have h2:=A5.o ad ha
         omega) N M Y Zs)
       clear N M Y D1 K A0 Z C3 A5 A1;go_wp2;go_roundw
       case rel=>
        refine⟨at_+(12+n),C0++[(⟨B7,id,B8,B9,ds,data⟩,da,dc)],Zg,Zo,Zt,C4,?_⟩;rw[dJ]; exact A6
       case measure=>exact Yq
    ·have D2:(d1 !=y)=true:=Zu hd;have G:=Qf (F.out.fin (by rw[C.o,if_neg O,if_pos hd]));clear C hd O;obtain⟨av,cv,rfl,B⟩:=aB Q.out.own;go_wp2_with fail;refine(H4.o _).mono ?_;rintro e x ⟨rfl,rfl⟩;go_wp2_with fail;obtain⟨D,E⟩:=Yj (fun d os=>YJ (w:=wr) (d:=d) (os:=os) (H8.o _)) (fun d os=>YJ (w:=wr) (d:=d) (os:=os) (S.o _));refine YH Zk Zk ?_
     repeat (any_goals (first | go_big_quiet_step (first | (with_reducible exact D.o _ _) | (with_reducible exact E.o _ _)) | quiet_step (first | (with_reducible exact D.o _ _) | (with_reducible exact E.o _ _))))
     refine YI ?_;intro w2 P;have I:=Qf (aX P);clear P D E;go_wp2;go_ret2;exact(Q.out.below I.o).got G.o B
  ·have HF:Qg (pg (L.drop at_)=none):=Qf (by unfold pg; rw[if_pos (Zy ah)]);have G:=Qf (F.out.fin HF.o);obtain⟨av,cv,rfl,B⟩:=aB Q.out.own;go_wp2;go_ret2;exact Q.out.got G.o B
open Go.RowKit Go.Shelf
theorem GX(B b x:Nat)(l:Qb)(n:Int)(k:Nat)(w:World)(h:Lib.IsBuilderF 118 5 B b (Lib.byteCells l) w)(Z:w.heap[x]? = some (.cells #[.pointer b] 115 (0,0)))(U:x≠b)(hk:k<=8)(hn:0<=n)(hl:(l.length:Int)<=70000000000000)(A2:B<=(w:Nat)):
  Qh 129 #[Yu n,Yi k,.pointer x] w fun e w'=>e=.returned (.tuple #[])/\(Lib.IsBuilderF 118 5 B b (Lib.byteCells (l++be k n)) w'/\Below B w w'/\Sd b w w'):=by
 obtain⟨Y,HI⟩:=Yj Z h;clear Z h;go_enter func129,ntmps129;go_wp2;go_loopw [5] (fun i wr=>∃(j:Nat) (p:Qb),j<=k/\i=Yi ((j:Int)-1)/\p.length+j=k/\Qg (p++be j n=be k n)/\Qg (Lib.IsBuilderF 118 5 B b (Lib.byteCells (l++p)) wr)/\Qg (Below B w wr)/\Qg (Sd b w wr)) (fun i _=>(intOf i+1).toNat)
 case atStart=>exact⟨k,[],Zo,rfl,Zs,Qf rfl,by rw[bG]; exact HI,Qf (bf _),Qf (Lib.OthersKept.refl _ _ _)⟩
 case round=>
  obtain⟨j,p,hj,rfl,hp,L,X,J,H⟩:=hrel;cases j with
  | zero=>
   go_wp2;go_end0;rw[<-L.out];simp only[be,bG];exact⟨trivial,X.out,J.out,H.out⟩
  | succ i=>
   have hi:((i+1:Nat):Int)-1=(i:Int):=Zo;rw[hi];have A7:wr.cell? x=some (.pointer b):=by
    rw[Lib.cell_of_heap (H.out x _ Y.o (fun e=>U (XP e)) (fun c fz e=>by cases e))]; rfl
   obtain⟨z,V⟩:=Qe (n/2^(8*i));have A6:IntKind.i64.wrap (8*(i:Int))=8*(i:Int):=ZV;have A5:n/2^(8*(i:Int)).toNat=z:=by
    rw[V];congr 2
   obtain⟨c,R⟩:=Qe (z%256);have A3:IntKind.u8.wrap z=c:=by rw[R]; simp[IntKind.wrap,IntKind.bits,IntKind.signed]
   have S:0<=c:=Zo;have T:c<256:=Zo;have M:Qg ((p++[UInt8.ofNat c.toNat])++be i n=be k n):=Qf (by rw[<-L.out,be,<-V,<-R,ay]; rfl);have A1:=J.out.size;have N:=Qf (fun W P Q=>sW B b (Lib.byteCells (l++p)) c W P (by rw[Lib.byteCells_length,af]; omega) Q);have G:Qg (Lib.IsBuilderF 118 5 B b (Lib.byteCells (l++p)) wr.drew):=X;have O:=Qf (N.o wr.drew G.o (by show B<=(wr:Nat); omega));clear R V L Y;go_wp2_with fail;go_region_law (first | (go_simp; (with_reducible refine O.o.mono ?_); rintro e w1 ⟨rfl,C,E,D⟩) | fail);have F:Qg (Lib.IsBuilderF 118 5 B b (Lib.byteCells (l++(p++[UInt8.ofNat c.toNat]))) w1):=Qf (by
    rw[<-ay,byteCells_append,Bh c S T];exact .inr C)
   have K:Qg (Below B w w1):=Qf (J.out.drew.trans E);have I:Qg (Sd b w w1):=Qf (H.out.drew.trans D);clear C E D;go_wp2;go_roundw
   case rel=>exact⟨i,p++[UInt8.ofNat c.toNat],Zo,rfl,Zt,M,F,K,I⟩
   case measure=>simp[intOf]
def qF(ds:Qd):Qb:=ds.flatMap fun d=>be 8 d.1++be 8 d.2
def qE(ns:List Int):Qb:=ns.flatMap fun n=>Cw.enc n.toNat
def yP(m:Msg):Qb:=qE [m.kind,m.id,m.off,m.tot,m.ds.length]++(qF m.ds++(Cw.enc m.data.length++m.data))
theorem lF:∀(ds:Qd),(qF ds).length=16*ds.length
 | []=>rfl
 | d::ds=>by
  have:=lF ds;rw[qF,bR,af,af,bY,bY];rw[qF] at this;rw[this,az];omega
theorem jo:∀(ns:List Int),(qE ns).length<=10*ns.length
 | []=>by simp[qE]
 | n::ns=>by
  have:=jo ns;have A:=aG n.toNat;rw[qE,bR,af,az];rw[qE] at this;omega
theorem vZ(b:Nat)(w:World):Qh 72 #[.pointer b] w fun e w'=>e=.returned (.func (.func 129) #[] #[.pointer w])/\w.alloc (.cells #[.pointer b] 115)=w':=by
 go_enter func72,ntmps72;go_wp2;go_ret;exact⟨rfl,rfl⟩
theorem BQ(T:Qb)(h:T.length<=65536)(w:World):Qh 128 #[T] w (Xz (.tuple #[(Cw.enc T.length++T),Yi 0]) w):=by
 have B:=nG ⟨T.toArray⟩ w (Zy bH);have:putT T=(Cw.enc T.length++T,0):=if_pos h;simp only[this] at B;exact B
theorem Gv(ns:List Int)(k:Nat)(h:k<ns.length):qE (ns.take (k+1))=qE (ns.take k)++Cw.enc (ns[k]).toNat:=by
 rw[ai h,qE,bg];simp[qE]
theorem Gw(ds:Qd)(k:Nat)(h:k<ds.length):qF (ds.take (k+1))=qF (ds.take k)++(be 8 ds[k].1++be 8 ds[k].2):=by
 rw[ai h,qF,bg];simp[qF]
theorem lI{w0:World}{b x:Nat}(h:BW w w0 b l wr)(n:Int)(k:Nat)(F:k<=8)(H:0<=n)(G:(l.length:Int)<=70000000000000)(I:wr.heap[x]? = some (.cells #[.pointer b] 115 (0,0)))(B:x≠b):
  Qh 129 #[Yu n,Yi k,.pointer x] wr fun e w'=>e=.returned (.tuple #[])/\Qg (BW w w0 b (l++be k n) w')/\Qg (Sd b wr w'):=by
 refine(GX (w:Nat) b x l n k wr h.bld I B F H G h.bel.size).mono ?_;rintro e y ⟨rfl,D,E,C⟩;exact⟨rfl,Qf (h.wrote D E C),Qf C⟩
abbrev L8(w:World)(kind id off tot:Int)(a:Qa)(nd cd:Nat)(T:Qb):World:=
 (((w.alloc (.cells #[Yi kind,Yi id,Yi off,Yi tot,.slice a nd cd,T] 73)).alloc (.cells #[.pointer none,()] 118)).alloc
  (.cells #[.pointer (some ⟨(w:Nat)+1,0,none⟩)] 115)).alloc (.cells #[Yi kind,Yi id,Yi off,Yi tot,Yi nd] 3)
structure BodyW (w w0:World) (kind id off tot:Int) (a:Qa) (nd cd:Nat) (T:Qb):Prop where
 start:BW w w0 ((w:Nat)+1) [] w0
 box:w0.heap[(w:Nat)]? = some (.cells #[Yi kind,Yi id,Yi off,Yi tot,.slice a nd cd,T] 73 (0,0))
 ptr:w0.heap[(w:Nat)+1+1]? = some (.cells #[.pointer (some ⟨(w:Nat)+1,0,none⟩)] 115 (0,0))
 arr:w0.heap[(w:Nat)+1+1+1]? = some (.cells #[Yi kind,Yi id,Yi off,Yi tot,Yi nd] 3 (0,0))
theorem L6(w:World)(kind id off tot:Int)(a:Qa)(nd cd:Nat)(T:Qb):BodyW w (L8 w kind id off tot a nd cd T) kind id off tot a nd cd T:=by
 have s1:∀o,(w.alloc o).heap.size=(w:Nat)+1:=fun o=>Zs
 have s2:∀o o',((w.alloc o).alloc o').heap.size=(w:Nat)+1+1:=fun o o'=>Zs
 have s3:∀o o' B,(((w.alloc o).alloc o').alloc B).heap.size=(w:Nat)+1+1+1:=fun o o' B=>Zs
 have A:(L8 w kind id off tot a nd cd T).heap[(w:Nat)+1]? = some (.cells #[.pointer none,()] 118 (0,0)):=by
  rw[Below.heap_alloc _ _ _ (Zy s3),Below.heap_alloc _ _ _ (Zy s2),<-s1 (.cells #[Yi kind,Yi id,Yi off,Yi tot,.slice a nd cd,T] 73)];exact YL _ _
 refine⟨⟨oZ Zo A,(((ba w _).alloc (Zy s1) _).alloc (Zy s2) _).alloc (Zy s3) _,Lib.OthersKept.refl _ _ _⟩,?_,?_,?_⟩
 ·rw[Below.heap_alloc _ _ _ (Zy s3),Below.heap_alloc _ _ _ (Zy s2),Below.heap_alloc _ _ _ (Zy s1)];exact YL _ _
 ·rw[Below.heap_alloc _ _ _ (Zy s3),<-s2 (.cells #[Yi kind,Yi id,Yi off,Yi tot,.slice a nd cd,T] 73) (.cells #[.pointer none,()] 118)];exact YL _ _
 ·rw[<-s3 (.cells #[Yi kind,Yi id,Yi off,Yi tot,.slice a nd cd,T] 73) (.cells #[.pointer none,()] 118) (.cells #[.pointer (some ⟨(w:Nat)+1,0,none⟩)] 115)];exact YL _ _
theorem LZ(m:Msg)(a:Qa)(cd:Nat)(w:World)(hd:dE w w a m.ds)(S:∀d∈m.ds,0<=d.1/\0<=d.2)(C8:0<=m.kind)(C9:m.kind<=1099511627776)(C6:0<=m.id)(C7:m.id<=1099511627776)(D2:0<=m.off)(D3:m.off<=1099511627776)(D4:0<=m.tot)(D5:m.tot<=1099511627776)
  (W:m.ds.length<=1000) (hT:m.data.length<=65536) :
  Qh 71 #[m.val a cd] w (Xz (.string ⟨(yP m).toArray⟩) w):=by
 obtain⟨A0,id,B5,B6,ds,T⟩:=m;simp only at hd S C8 C9 C6 C7 D2 D3 D4 D5 W hT ⊢;obtain⟨R,hR⟩:=Qe (yP ⟨A0,id,B5,B6,ds,T⟩);obtain⟨ns,I⟩:∃ns:List Int,ns=[A0,id,B5,B6,ds.length]:=⟨_,rfl⟩;obtain⟨nd,K⟩:=Qe ds.length;rw[<-hR];have HR:Qg (R=qE ns++(qF ds++(Cw.enc T.length++T))):=Qf (by rw[hR,I]; rfl);have C1:Qg (ns=[A0,id,B5,B6,(nd:Int)]):=Qf (by rw[I,K]);have P:=Qf K;have E1:nd<=1000:=Zo
 show Qh 71 #[.agg #[Yi A0,Yi id,Yi B5,Yi B6,.slice a ds.length cd,T]] w _;rw[<-K];obtain⟨HD,B7⟩:=Yj hd S;have B4:ns.length=5:=Zw I;have B9:Qg (∀n∈ns,0<=n/\n<=1099511627776):=Qf (by
  intro n X;rw[I] at X;simp only[XG,List.not_mem_nil,or_false] at X;rcases X with rfl | rfl | rfl | rfl | rfl <;> omega)
 have Q:=Qf B4;clear hR I K hd S W B4;go_enter func71,ntmps71;go_wp2_with fail;refine(vZ _ _).mono ?_;rintro e w' ⟨rfl,rfl⟩;go_wp2_with fail;have C:=Qf (L6 w A0 id B5 B6 a nd cd T);go_loopw [27] (fun i wr=>∃k:Nat,k<=5/\i=Yi k/\Qg (BW w (L8 w A0 id B5 B6 a nd cd T) ((w:Nat)+1) (qE (ns.take k)) wr)) (fun i _=>5-(intOf i).toNat)
 case atStart=>exact⟨0,Zo,rfl,Qf C.o.start⟩
 case round=>
  obtain⟨k,hk,rfl,E⟩:=hrel;obtain⟨w0,Z⟩:=Qe (L8 w A0 id B5 B6 a nd cd T);have B8:=Qf Z;rw[<-Z] at E C;clear Z;have E8:=E.out.bel.size;by_cases D1:k<5
  ·have V:k<ns.length:=Q.o▸D1;obtain⟨n,W⟩:=Qe (ns[k]);have B1:=B9.o n (W▸ak V);have D0:=jo (ns.take k);rw[aA] at D0;have C5:=aG n.toNat;have A7:=Qf (Gv ns k V);rw[<-W] at A7;have E0:wr.cell? ⟨(w:Nat)+1+1+1,k,none⟩=some (Yi n):=by
    rw[Lib.cell_of_heap (E.out.block C.o.arr Zo Zd)];have h1:ns[k]? = some n:=by rw[W]; exact XH V
    rw[C1.o] at h1;rcases(show k=0\/k=1\/k=2\/k=3\/k=4 by omega) with rfl | rfl | rfl | rfl | rfl <;> simp at h1 <;> subst h1 <;> rfl
   clear W;go_wp2_with fail;refine(oL n B1.1 B1.2 _).mono ?_;rintro e x1 ⟨rfl,H⟩;have A2:=Qf (E.out.below H);clear H;go_wp2_with fail;refine(cz A2.o _ Zo).mono ?_;rintro e x2 ⟨rfl,L⟩;rw[<-A7.o,B8.o] at L;go_wp2;go_roundw
   case rel=>exact⟨k+1,Zo,Zg,L⟩
   case measure=>exact Yq
  ·have A1:Qg (ns.take k=ns):=Qf (ag (Zy Q.o));rw[A1.o] at E;have F:=E.out.block C.o.box Zo Zd;have c4:wr.cell? ⟨w,4,none⟩=some (.slice a nd cd):=Zc F;have M:=Qf (jo ns);rw[Q.o] at M;clear F A1;go_wp2_with fail;obtain⟨wq,rfl⟩:∃wq:World,wq=wr:=⟨_,rfl⟩;go_loopw [42] (fun i wr=>∃j:Nat,j<=nd/\i=Yi j/\Qg (BW w w0 ((w:Nat)+1) (qE ns++qF (ds.take j)) wr)) (fun i _=>nd-(intOf i).toNat)
   case atStart=>exact⟨0,Zo,rfl,by simpa[qF] using E⟩
   case round=>
    obtain⟨j,hj,rfl,B⟩:=hrel;have E7:=B.out.bel.size;have A9:=lF (ds.take j);have B0:(qF (ds.take j)).length<=16*nd:=by rw[A9,aA,P.o]; omega
    have E6:=M.o;have Y:=B.out.block C.o.ptr Zo Zd;clear A9 c4;by_cases B3:j<nd
    ·have U:j<ds.length:=P.o▸B3;obtain⟨b0,o0,rfl,F,e1,e2⟩:=(HD.o.below B.out.bel nr) j U;obtain⟨x,hx⟩:=Qe (ds[j].1);obtain⟨y,hy⟩:=Qe (ds[j].2);have N:=B7.o _ (ak U);rw[<-hx,<-hy] at N;obtain⟨D6,D7⟩:=N;rw[<-hx] at e1;rw[<-hy] at e2;have A8:=Qf (Gw ds j U);rw[<-hx,<-hy] at A8;clear hx hy;have HP:=Qf Y;clear Y;go_wp2_with fail;have O:=Qf (B.out.below ((bf wr).alloc nr (.cells #[Yu x,Yu y] 54)));have A6:Qg ((wr.alloc (.cells #[Yu x,Yu y] 54)).heap[(w:Nat)+1+1]? = some (.cells #[.pointer (some ⟨(w:Nat)+1,0,none⟩)] 115 (0,0))):=Qf (O.o.block C.o.ptr Zo Zd);refine(lI (k:=8) O.o x Zo D6 Zt A6.o Zo).mono ?_;rintro e x1 ⟨rfl,D,A4⟩;have B2:x1.heap[(wr:Nat)]? = some (.cells #[Yu x,Yu y] 54 (0,0)):=A4.out (wr:Nat) _ (YL wr _) (fun e=>by have:=XP e; have:=yQ B.out.bld; omega) (fun c f e=>by cases e);have d1:x1.cell? ⟨wr,1,none⟩=some (Yu y):=Zc B2;have A5:=Qf (D.o.block C.o.ptr Zo Zd);have E2:=D.o.bel.size;clear B2 O A6 A4 e1 e2;go_wp2_with fail;refine(lI (k:=8) D.o y Zo D7 (by simp[bY]; omega) A5.o Zo).mono ?_;rintro e x2 ⟨rfl,G,C0⟩;have J:Qg (BW w w0 ((w:Nat)+1) (qE ns++qF (ds.take (j+1))) x2):=Qf (by
      rw[A8.o];have:=G.out;simpa only[ay] using this)
     clear G C0 D d1 A5;go_wp2;go_roundw
     case rel=>exact⟨j+1,Zo,Zg,J⟩
     case measure=>exact Yq
    ·have A3:Qg (ds.take j=ds):=Qf (ag (by rw[<-P.o]; omega));rw[A3.o] at B B0;have F:=B.out.block C.o.box Zo Zd;have c5:wr.cell? ⟨w,5,none⟩=some (.string ⟨T.toArray⟩):=Zc F;have C5:=aG T.length;clear F A3 Y;go_wp2_with fail;refine(BQ T hT _).mono ?_;rintro e x1 ⟨rfl,H⟩;have D:=Qf (B.out.below H);clear H;go_wp2_with fail;refine(cz D.o _ Zt).mono ?_;rintro e x2 ⟨rfl,G⟩;have J:Qg (BW w w0 ((w:Nat)+1) R x2):=Qf (by
      rw[HR.o];have:=G.out;simpa only[ay] using this)
     clear G D;go_wp2_with fail;refine(ic (w:Nat) ((w:Nat)+1) R x2 J.o.bld ?_).mono ?_
     ·intro h0;have h1:=HR.o;rw[h0] at h1;have h2:=congrArg List.length h1;have:=bJ.2 (xu T.length);simp only[af,aK] at h2;omega
     rintro e x3 ⟨rfl,_,C3,_⟩;go_wp2;go_ret;exact⟨rfl,J.o.bel.trans C3⟩
theorem MW(n:Int):0<=IntKind.u64.wrap n:=Zy wrap_u64
theorem AB:∀(l:Qb) (n:Int),0<=n->0<=l.foldl BM n
 | [],_,h=>h
 | c::l,n,_=>AB l _ (MW _)
theorem LH(l:Qb):0<=(iY l).1:=by
 unfold iY;split
 ·decide
 ·exact AB l _ Zd
def O9(m:Msg):Qb:=be 4 (yP m).length++(be 8 (iY (yP m)).1++yP m)
def Msg.why(m:Msg):Int:=Uv m.kind m.id m.off m.tot m.ds.length m.data.length
def Qc(m:Msg):Qb×Int:=if m.why=0 then(O9 m,0) else([],m.why)
theorem zk(h:vM kind off tot nd n=true):1<=kind/\kind<=4/\0<=off/\off<=1099511627776/\0<=tot/\tot<=1099511627776/\nd<=1000/\n<=65536:=by
 unfold vM v2 at h;split at h
 ·simp at h; omega
 ·split at h
  ·simp at h; omega
  ·split at h
   ·simp at h; omega
   ·split at h
    ·simp at h; omega
    ·cases h
theorem Bn(m:Msg)(A:m.ds.length<=1000)(B:m.data.length<=65536):(yP m).length<=100000:=by
 unfold yP;have:=jo [m.kind,m.id,m.off,m.tot,m.ds.length];have C:=aG m.data.length;rw[af,af,af,lF];simp only[az,aK] at this;omega
theorem Aa(k:Int)(w:World):Qh 69 #[Yi k] w fun e w'=>e=.returned (.bool (decide (1<=k/\k<=4)))/\w=w':=by
 by_cases C:1<=k
 ·by_cases D:k<=4
  ·have B:decide (1<=k/\k<=4)=true:=Zt;rw[B];have d1:decide (1<=k)=true:=Zu C;have d2:decide (k<=4)=true:=Zu D;go_enter func69,ntmps69;go_wp2;go_ret;exact⟨rfl,rfl⟩
  ·have B:decide (1<=k/\k<=4)=false:=Zt;rw[B];have d1:decide (1<=k)=true:=Zu C;have d2:decide (k<=4)=false:=Zu D;go_enter func69,ntmps69;go_wp2;go_ret;exact⟨rfl,rfl⟩
 ·have B:decide (1<=k/\k<=4)=false:=Zt;rw[B];have d1:decide (1<=k)=false:=Zu C;go_enter func69,ntmps69;go_wp2;go_ret;exact⟨rfl,rfl⟩
theorem MV(m:Msg)(a:Qa)(cd:Nat)(w:World)(hd:dE w w a m.ds)(A4:∀d∈m.ds,0<=d.1/\0<=d.2)(hn:(m.ds.length:Int)<=140737488355328)(hT:(m.data.length:Int)<=140737488355328):
  Qh 33 #[m.val a cd] w (Xz (.tuple #[.string ⟨(Qc m).1.toArray⟩,Yi (Qc m).2]) w):=by
 obtain⟨R,E,hR⟩:∃R E,Qc m=(R,E):=⟨_,_,rfl⟩;rw[hR];have hV:=fun W (F:0<=m.id) (h1:m.id<=1099511627776) (h2:1<=m.kind) (h3:m.kind<=4)=>vY m.kind m.id m.off m.tot a m.ds.length cd m.data W hT hn F h1 h2 h3
 have L:Qg (m.why=0->0<=m.id->m.id<=1099511627776->∀W,PM w W->Qh 71 #[m.val a cd] W (Xz (.string ⟨(yP m).toArray⟩) W)):=Qf (by
  intro F h1 h2 W hW;have hv:vM m.kind m.off m.tot m.ds.length m.data.length=true:=by
   unfold Msg.why Uv at F;split at F
   ·cases F
   ·split at F
    ·cases F
    ·split at F
     ·cases F
     ·rename_i h; simpa using h
  have K:=zk hv;exact LZ m a cd W ((hd.below hW nr).mono hW.size) A4 Zo Zo h1 h2 Zo Zo Zo Zo Zo Zo)
 obtain⟨bs,O⟩:=Qe (yP m);have I:m.why=0->bs.length<=100000:=by
  intro F;rw[O];have hv:vM m.kind m.off m.tot m.ds.length m.data.length=true:=by
   unfold Msg.why Uv at F;split at F
   ·cases F
   ·split at F
    ·cases F
    ·split at F
     ·cases F
     ·rename_i h; simpa using h
  have K:=zk hv;exact Bn m Zo Zo
 rw[<-O] at L;have C:Qc m=if m.why=0 then(be 4 bs.length++(be 8 (iY bs).1++bs),0) else([],m.why):=Zw O
 have B:m.why=if m.kind<1\/4<m.kind then 9 else if m.id<0\/1099511627776<m.id then 2 else if vM m.kind m.off m.tot m.ds.length m.data.length=false then 1 else 0:=rfl
 rw[hR] at C;obtain⟨A2,id,A5,A8,ds,T⟩:=m;obtain⟨y,hy⟩:=Qe (Msg.why ⟨A2,id,A5,A8,ds,T⟩);rw[<-hy] at L I C B;simp only at hn hT hV L B ⊢;obtain⟨nd,A6⟩:=Qe ds.length;change Qh 33 #[.agg #[Yi A2,Yi id,Yi A5,Yi A8,.slice a ds.length cd,T]] w _;have H:Qg (y=0->0<=id->id<=1099511627776->∀W,PM w W->Qh 71 #[.agg #[Yi A2,Yi id,Yi A5,Yi A8,.slice a ds.length cd,T]] W (Xz (.string ⟨bs.toArray⟩) W)):=L;rw[<-A6] at H hV B hn ⊢;have HV:=Qf hV;generalize B9:vM A2 A5 A8 nd T.length=vv at HV B;have U:=Qf (fun W=>qV bs W);have V:=LH bs;generalize iY bs=dg at U C V;obtain⟨d1,d2⟩:=dg;simp only at U C V;clear hR O hy A6 hd A4 hV L B9;by_cases hk:A2<1\/4<A2
 ·rw[if_pos hk] at B;subst B;have J:Qg (R=[]/\E=9):=Qf (Zu C);have N:decide (1<=A2/\A2<=4)=false:=Zt;have G:=Qf (fun W=>Aa A2 W);rw[N] at G;clear C N I H;go_enter func33,ntmps33;go_wp2_with fail;refine(G.o _).mono ?_;rintro e w' ⟨rfl,rfl⟩;go_wp2;go_ret2;rw[J.o.1,J.o.2];exact⟨rfl,ba w _⟩
 ·rw[if_neg hk] at B;have N:decide (1<=A2/\A2<=4)=true:=Zt;have G:=Qf (fun W=>Aa A2 W);rw[N] at G;clear N;by_cases hi:id<0\/1099511627776<id
  ·rw[if_pos hi] at B;subst B;have J:Qg (R=[]/\E=2):=Qf (Zu C);clear C I H hk;go_enter func33,ntmps33;go_wp2_with fail;refine(G.o _).mono ?_;rintro e w' ⟨rfl,rfl⟩;go_wp2_with fail
   all_goals first
    | (exfalso; omega)
    | (go_ret2; rw[J.o.1,J.o.2]; exact⟨rfl,ba w _⟩)
  ·rw[if_neg hi] at B;have i1:decide (id<0)=false:=Zt;have i2:decide (1099511627776<id)=false:=Zt;have A1:=Qf (fun W=>HV.o W Zo Zo Zo Zo);clear HV;cases vv with
   | false=>
    rw[if_pos rfl] at B;subst B;have J:Qg (R=[]/\E=1):=Qf (Zu C);clear C I H hk hi;go_enter func33,ntmps33;go_wp2_with fail;refine(G.o _).mono ?_;rintro e w' ⟨rfl,rfl⟩;go_wp2_with fail;refine(A1.o _).mono ?_;rintro e w' ⟨rfl,K⟩;have X:=Qf K;clear K;go_wp2;go_ret2;rw[J.o.1,J.o.2];exact⟨rfl,(ba w _).trans (X.o.mono Zs)⟩
   | true=>
    rw[if_neg Zs] at B;subst B;rw[if_pos rfl] at C;have C3:=I rfl;have A0:=Qf (H.o rfl Zo Zo);have J:Qg (R=be 4 bs.length++(be 8 d1++bs)/\E=0):=Qf (Zu C);have C8:IntKind.u64.wrap (bs.length:Int)=(bs.length:Int):=Zy wrap_u64;have C7:∀W,(Instr.index 54 (.agg #[Yu d1,Yu d2]) (Yi 0)).run prog W=.ok (Yu d1) W:=fun W=>Zk
    clear C I H hk hi;go_enter func33,ntmps33;go_wp2_with fail;refine(G.o _).mono ?_;rintro e w' ⟨rfl,rfl⟩;go_wp2_with fail;refine(A1.o _).mono ?_;rintro e x1 ⟨rfl,K⟩;have X:Qg (PM w x1):=Qf ((ba w _).trans (K.mono Zs));have C9:=K.size;have D:=K.block (w:Nat) Zs;have M:=YL w (.cells #[Yi A2,Yi id,Yi A5,Yi A8,.slice a nd cd,T] 73);rw[M] at D;have c0:x1.cell? w=some (Yi A2):=Zc D;have c1:x1.cell? ⟨w,1,none⟩=some (Yi id):=Zc D;have c2:x1.cell? ⟨w,2,none⟩=some (Yi A5):=Zc D;have c3:x1.cell? ⟨w,3,none⟩=some (Yi A8):=Zc D;have c4:x1.cell? ⟨w,4,none⟩=some (.slice a nd cd):=Zc D;have c5:x1.cell? ⟨w,5,none⟩=some (.string ⟨T.toArray⟩):=Zc D;clear K D M;go_wp2_with fail;refine(A0.o _ X.o).mono ?_;rintro e x2 ⟨rfl,K⟩;have Y:Qg (PM w x2):=Qf (XT X.o K);have A7:=Y.o.size;clear K X c0 c1 c2 c3 c4 c5;go_wp2_with fail;refine(vZ _ _).mono ?_;rintro e x3 ⟨rfl,rfl⟩;obtain⟨w0,P⟩:=Qe ((x2.alloc (.cells #[.pointer none,()] 118)).alloc (.cells #[.pointer x2] 115));have B1:Qg (BW w w0 (x2:Nat) [] w0):=Qf (by
     rw[P];refine⟨oZ A7 ?_,(Y.o.alloc A7 _).alloc Zt _,Lib.OthersKept.refl _ _ _⟩;rw[Below.heap_alloc _ _ _ Zs];exact YL _ _)
    have HP:Qg (w0.heap[(x2:Nat)+1]? = some (.cells #[.pointer x2] 115 (0,0))):=Qf (by
     rw[P];have:=YL (x2.alloc (.cells #[.pointer none,()] 118)) (.cells #[.pointer x2] 115)
     rwa[XU] at this)
    rw[XU,<-P];clear P;go_wp2_with fail;refine(lI (k:=4) B1.o bs.length Zo Zo Zs HP.o Zo).mono ?_;rintro e x3 ⟨rfl,Q,_⟩;rw[aY] at Q;go_wp2_with fail;refine(U.o _ Zo).mono ?_;rintro e x4 ⟨rfl,A3⟩;have Z:=Qf (Q.out.below A3);have B2:=Qf (Z.o.block HP.o Zo Zd);clear A3 Q;go_wp2_with fail;refine(lI (k:=8) Z.o d1 Zo V (by simp[bY]) B2.o Zo).mono ?_;rintro e x5 ⟨rfl,B0,_⟩;go_wp2_with fail;refine(cz B0.out bs (by simp[bY]; omega)).mono ?_;rintro e x6 ⟨rfl,S⟩;rw[ay,<-J.o.1] at S;go_wp2_with fail;refine(ic (w:Nat) (x2:Nat) R x6 S.out.bld ?_).mono ?_
    ·rw[J.o.1];intro F;have h2:=congrArg List.length F;simp[bY] at h2
    rintro e x7 ⟨rfl,_,B6,_⟩;go_wp2;go_ret2;rw[J.o.2];exact⟨rfl,S.out.bel.trans B6⟩
theorem RH{tot:Int}:∀{ps:List P} {e:Int},vgo tot e ps=true->ps=[]\/(ps.length:Int)<=tot-e
 | [],_,_=>.inl rfl
 | p::ps,e,h=>by
  rw[vgo] at h;simp only[XF,XJ] at h;obtain⟨⟨⟨⟨C,A⟩,D⟩,E⟩,B⟩:=h;have G:0<p.2.length:=bJ.2 (Zu A);right;rcases RH B with rfl | F
  ·simp only[az,aK]; omega
  ·simp only[az]; omega
theorem QS{p:P}(h:gm id tot (p::ps)=true):vgo tot (-1) (p::ps)=true/\0<=id/\id<=1099511627776/\0<=tot/\tot<=1048576:=by
 unfold gm at h;simp only[List.isEmpty_cons,Bool.false_or,XF,XJ] at h;exact⟨h.2,h.1⟩
theorem P6(h:gm id tot ps=true):(ps.length:Int)<=1048577/\∀p∈ps,p.2.length<=1048576:=by
 cases ps with
 | nil=>simp
 | cons p ps=>
  obtain⟨A,_,_,C,D⟩:=QS h;refine⟨?_,fun q B=>?_⟩
  ·rcases RH A with h | h
   ·cases h
   ·omega
  ·obtain⟨q0,_,q2,_⟩:=ni A q B;simp only[PU] at q2; omega
theorem be_fix4(X:Qb)(h:X.length=4):be 4 (Gf X:Int)=X:=by
 have:=JU X 0;rw[h] at this;exact this
def WG(ds:Qd):Prop:=∀d∈ds,(0<=d.1/\d.1<18446744073709551616)/\(0<=d.2/\d.2<18446744073709551616)
theorem Tf:∀(ns:List Int) (D:Qb),(∀n∈ns,0<=n/\n<=1099511627776)->Li ns.length (qE ns++D)=some (ns,D)
 | [],D,_=>by simp[Li,qE]
 | n::ns,D,h=>by
  have B:=h n (P9 ..);have ih:=Tf ns D (fun x C=>h x (pM _ C));have e:qE (n::ns)++D=Cw.enc n.toNat++(qE ns++D):=by simp[qE]
  have A:=Cw.getI_enc n.toNat Zo (qE ns++D);rw[az,Li,e,A];simp only[ne_eq,not_true_eq_false,if_false,aj,qL,ih,Option.map_some];rw[Int.toNat_of_nonneg B.1]
theorem getN_canon:∀(k:Nat) (l:Qb) (ns:List Int) (r:Qb),Li k l=some (ns,r)->qE ns++r=l/\∀n∈ns,0<=n/\n<=1099511627776
 | 0,l,ns,r,h=>by
  simp only[Li,XY,XC] at h;obtain⟨rfl,rfl⟩:=h;exact⟨rfl,fun n A=>by simp at A⟩
 | k+1,l,ns,r,h=>by
  rw[Li] at h;split at h
  ·cases h
  ·rename_i B;obtain⟨n,u,er,C⟩:∃n u er,Cw.getI l=(n,u,er):=⟨_,_,_,rfl⟩;rw[C] at h B;simp only[ne_eq,Decidable.not_not] at B h;subst B;have J:=bM C;obtain⟨I,K,H⟩:=Cw.getI_canon C;cases A:Li k (l.drop u.toNat) with
   | none=>rw[A] at h; cases h
   | some x=>
    obtain⟨L,r'⟩:=x;rw[A] at h;simp only[Option.map_some,XY,XC] at h;obtain⟨rfl,rfl⟩:=h;obtain⟨F,G⟩:=getN_canon k _ _ _ A;refine⟨?_,fun x E=>?_⟩
    ·have e:qE (n::L)++r'=Cw.enc n.toNat++(qE L++r'):=by simp[qE]
     have D:u.toNat=(Cw.enc n.toNat).length:=Zo;rw[e,F,<-H,D,aQ]
    ·rcases XG.1 E with rfl | E
     ·omega
     ·exact G x E
theorem R6:∀(ds:Qd) (rest:Qb),WG ds->rF ds.length (qF ds++rest)=ds
 | [],_,_=>rfl
 | d::ds,rest,h=>by
  have A:=h d (P9 ..);have ih:=R6 ds rest (fun x B=>h x (pM _ B));have e:qF (d::ds)++rest=be 8 d.1++(be 8 d.2++(qF ds++rest)):=by simp[qF]
  have l1:=bY 8 d.1;have l2:=bY 8 d.2;have t1:(be 8 d.1++(be 8 d.2++(qF ds++rest))).take 8=be 8 d.1:=OG l1 _;have t2:(be 8 d.1++(be 8 d.2++(qF ds++rest))).drop 8=be 8 d.2++(qF ds++rest):=Pj l1 _;have t3:(be 8 d.2++(qF ds++rest)).take 8=be 8 d.2:=OG l2 _;have t4:(be 8 d.1++(be 8 d.2++(qF ds++rest))).drop 16=qF ds++rest:=by
   rw[show(16:Nat)=8+8 from rfl,<-eY,t2,Pj l2]
  rw[az,rF,e,t1,t2,t3,t4,ih,Jg _ A.1.1 A.1.2,Jg _ A.2.1 A.2.2]
theorem getDs_canon:∀(c:Nat) (r:Qb),16*c<=r.length->qF (rF c r)++r.drop (16*c)=r/\WG (rF c r)
 | 0,r,_=>by simp[rF,qF,WG]
 | c+1,r,h=>by
  obtain⟨B,C⟩:=getDs_canon c (r.drop 16) (Zy ah);have e:qF (rF (c+1) r)=be 8 (mJ (r.take 8))++(be 8 (mJ ((r.drop 8).take 8))++qF (rF c (r.drop 16))):=by simp[rF,qF]
  refine⟨?_,fun d A=>?_⟩
  ·rw[e,MF _ Zt,MF _ Zt,ay,ay];rw[eY] at B;rw[show 16*(c+1)=16+16*c by omega,B];rw[show r.drop 16=(r.drop 8).drop 8 by rw[eY],aQ,aQ]
  ·rw[rF] at A;rcases XG.1 A with rfl | A
   ·exact⟨gu _ Zt,gu _ Zt⟩
   ·exact C d A
theorem Sg{m:Msg}(A:m.why=0):0<=m.id/\m.id<=1099511627776/\vM m.kind m.off m.tot m.ds.length m.data.length=true:=by
 unfold Msg.why Uv at A;split at A
 ·cases A
 ·split at A
  ·cases A
  ·split at A
   ·cases A
   ·rename_i C B; exact⟨Zo,Zo,Zu B⟩
theorem VJ{m:Msg}(B:0<=m.id)(C:m.id<=1099511627776)(A:vM m.kind m.off m.tot m.ds.length m.data.length=true):m.why=0:=by
 have D:=zk A;unfold Msg.why Uv;rw[if_neg Zo,if_neg Zo,if_neg (Zn A)]
theorem Vz{m:Msg}(h:m.why=0)(E:WG m.ds):Jw (yP m)=some m:=by
 obtain⟨G,H,D⟩:=Sg h;have I:=zk D;have F:=Tf [m.kind,m.id,m.off,m.tot,m.ds.length] (qF m.ds++(Cw.enc m.data.length++m.data)) (by
  intro n C;simp only[XG,List.not_mem_nil,or_false] at C;rcases C with rfl | rfl | rfl | rfl | rfl <;> omega)
 have B:Li 5 (yP m)=some ([m.kind,m.id,m.off,m.tot,(m.ds.length:Int)],qF m.ds++(Cw.enc m.data.length++m.data)):=F;unfold Jw;rw[B];simp only;rw[if_neg (by rw[af,lF]; omega),aj,R6 _ _ E];have A:(qF m.ds++(Cw.enc m.data.length++m.data)).drop (16*m.ds.length)=(Cw.enc m.data.length++m.data)++[]:=by
  rw[<-lF,qL,bG]
 rw[A];unfold Pk;rw[yx Zo [],bG];simp only;rw[if_neg Zs,D,if_pos rfl]
theorem body_dec{m:Msg}(h:Jw T=some m):yP m=T/\m.why=0/\WG m.ds:=by
 unfold Jw at h;split at h
 ·rename_i L id M N c r I;obtain⟨E,B⟩:=getN_canon 5 T _ _ I;split at h
  ·cases h
  ·rename_i K;have H:=B c Zs;have Qf:=B id Zs;obtain⟨cn,rfl⟩:∃cn:Nat,c=(cn:Int):=⟨c.toNat,Zo⟩;rw[aj] at h;obtain⟨F,G⟩:=getDs_canon cn r Zo;unfold Pk at h;split at h
   ·cases h
   ·rename_i A;obtain⟨x,k,er,D⟩:∃x k er,Cw.getT (r.drop (16*cn))=(x,k,er):=⟨_,_,_,rfl⟩;rw[D] at h A;simp only[ne_eq,not_or,Decidable.not_not] at h A;obtain⟨rfl,rfl⟩:=A;obtain⟨_,_,_,C⟩:=lY D;rw[aj,rC] at C;split at h
    ·rename_i J;cases h;refine⟨?_,VJ Qf.1 Qf.2 J,G⟩;unfold yP;rw[qX]
     show qE [L,id,M,N,(cn:Int)]++(qF (rF cn r)++(Cw.enc x.length++x))=T;rw[<-C,F,E]
    ·cases h
 ·cases h
theorem QP(m:Msg):(O9 m).length=12+(yP m).length:=by
 unfold O9;rw[af,af,bY,bY];omega
theorem Tx(m:Msg)(rest:Qb)(A:(yP m).length<4294967296):Gf ((O9 m++rest).take 4)=(yP m).length/\((O9 m++rest).drop 4).take 8=be 8 (iY (yP m)).1/\((O9 m++rest).drop 12).take (yP m).length=yP m:=by
 have e:O9 m++rest=be 4 (yP m).length++(be 8 (iY (yP m)).1++(yP m++rest)):=by simp[O9]
 have l1:=bY 4 (yP m).length;have l2:=bY 8 (iY (yP m)).1;have t1:(O9 m++rest).take 4=be 4 (yP m).length:=by rw[e,OG l1]
 have t2:(O9 m++rest).drop 4=be 8 (iY (yP m)).1++(yP m++rest):=by rw[e,Pj l1]
 have t3:(be 8 (iY (yP m)).1++(yP m++rest)).take 8=be 8 (iY (yP m)).1:=OG l2 _;have t4:(be 8 (iY (yP m)).1++(yP m++rest)).drop 8=yP m++rest:=Pj l2 _;refine⟨by rw[t1,NC 4 _ Zo],by rw[t2,t3],?_⟩;rw[show(12:Nat)=4+8 from rfl,<-eY,t2,t4,List.take_left]
theorem Q5:∀(l:Qb) (n:Int),n<18446744073709551616->l.foldl BM n<18446744073709551616
 | [],_,h=>h
 | c::l,n,_=>Q5 l _ (by unfold BM; rw[wrap_u64]; omega)
theorem U4(l:Qb):(iY l).1<18446744073709551616:=by
 unfold iY;split
 ·decide
 ·exact Q5 l _ Zd
theorem Vf{m:Msg}(h:m.why=0):(yP m).length<=100000:=by
 have A:=zk (Sg h).2.2;exact Bn m Zo Zo
theorem Vv{m:Msg}(h:m.why=0)(B:WG m.ds)(rest:Qb):pg (O9 m++rest)=some (m,(O9 m).length):=by
 have C:=Vf h;obtain⟨t1,t2,t3⟩:=Tx m rest Zo;have A:=QP m;unfold pg;rw[if_neg (Zy af),t1,if_neg (Zy af),t2,t3,Jg _ (LH _) (U4 _),if_neg Zs,Vz h B,A];rfl
theorem frame_canon{m:Msg}(h:pg s=some (m,u)):s.take u=O9 m/\m.why=0/\WG m.ds:=by
 have I:=Uq h;unfold pg at h;split at h
 ·cases h
 ·split at h
  ·cases h
  ·split at h
   ·cases h
   ·rename_i G H A;simp only[ne_eq,Decidable.not_not] at A;simp only[Option.map_eq_some_iff,XC] at h;obtain⟨m',E,rfl,rfl⟩:=h;obtain⟨B,F,C⟩:=body_dec E;refine⟨?_,F,C⟩;have D:(yP m').length=Gf (s.take 4):=by rw[B,aA,ah]; omega
    unfold O9;rw[D,be_fix4 _ Zt,B,A,MF _ Zt];rw[show 12+Gf (s.take 4)=4+(8+Gf (s.take 4)) by omega,List.take_add,List.take_add,eY]
