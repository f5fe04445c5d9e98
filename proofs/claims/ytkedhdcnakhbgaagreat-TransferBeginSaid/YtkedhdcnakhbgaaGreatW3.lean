/- Joined texts: WireM, WireF, WireDe, WireDc, WireSc, WireScW. -/
import Derived.Test.YtkedhdcnakhbgaaGreatW1
import Derived.Test.YtkedhdcnakhbgaaGreatW2
import Derived.Laws.StructEq
import Derived.ChangeKeysEq
import Derived.Test.YtkedhdcnakhbgaaGreatK1
import Derived.Deep.RegionLaw
import Derived.Deep.RegionHeld3
import Derived.Deep.AppendLies
import Derived.Deep.DeepCutAuto
import Derived.Deep.CutBlock
import Derived.Deep.CutRange
/- wire.valid and the reference's fits and check,for every kind of message. -/
set_option linter.unusedSimpArgs false
set_option maxRecDepth 100000
set_option maxHeartbeats 16000000
namespace Go.Proofs.YtkedhdcnakhbgaaGreat
open Go.RowKit
set_option linter.unusedVariables false
variable {b:Bool}{n0 n1 n2 n3 off tot u:Int}{ns:List Int}{acc:List Msg}{m:Msg}{at_ b10 b2 c cv k n nd:Nat}{av:Qa}{L l r s:Qb}{ds:Qd}{v:Value}{w wr x:World}
def vM(kind off tot:Int)(nd n:Nat):Bool:=
 if kind=1 then decide (nd<=1000/\0<=off/\off<=nd/\tot=0/\n=0)
 else if kind=2 then v2 off tot nd n
 else if kind=3 then decide (1<=tot/\tot<=1048576/\0<=off/\off<=1048576-tot/\nd=0/\n=0)
 else if kind=4 then decide (off=0/\tot=0/\nd=0/\n=0)
 else false
theorem vM1(A:b=true↔(nd<=1000/\0<=off/\off<=nd/\tot=0/\n=0)):b=vM 1 off tot nd n:=by
 unfold vM; rw[if_pos rfl,Bool.eq_iff_iff,A,decide_eq_true_iff]
theorem vM2(A:b=true↔(1<=n/\n<=65536/\1<=tot/\tot<=1048576/\0<=off/\off<=tot-n/\nd=0)):b=vM 2 off tot nd n:=by
 unfold vM v2; rw[if_neg (by decide),if_pos rfl,Bool.eq_iff_iff,A,decide_eq_true_iff]
theorem vM3(A:b=true↔(1<=tot/\tot<=1048576/\0<=off/\off<=1048576-tot/\nd=0/\n=0)):b=vM 3 off tot nd n:=by
 unfold vM; rw[if_neg (by decide),if_neg (by decide),if_pos rfl,Bool.eq_iff_iff,A,decide_eq_true_iff]
theorem vM4(A:b=true↔(off=0/\tot=0/\nd=0/\n=0)):b=vM 4 off tot nd n:=by
 unfold vM; rw[if_neg (by decide),if_neg (by decide),if_neg (by decide),if_pos rfl,Bool.eq_iff_iff,A,decide_eq_true_iff]
theorem fits1(id off tot:Int)(a:Qa)(nd cd:Nat)(T:Qb)(w:World)(hs:(T.length:Int)<=140737488355328)(K:(nd:Int)<=140737488355328):
  Qh 141 #[.agg #[.int .i64 1,.int .i64 id,.int .i64 off,.int .i64 tot,.slice a nd cd,.string ⟨T.toArray⟩]] w fun e w'=>e=.returned (.bool (vM 1 off tot nd T.length))/\PM w w':=by
 by_cases E:T=[]
 ·subst E
  by_cases C:nd=0
  ·subst C
   go_enter Tryz.func141,Tryz.ntmps141;go_wp2
   all_goals
    go_ret;refine⟨cK (vM1 ?_),ba w _⟩
    first | omega | (simp; done) | (simp; omega)
  ·have F:(0:Int)<nd:=by omega
   have G:decide (0<nd)=true:=by simp; omega
   have H:(nd==0)=false:=by simpa using C
   clear C;go_enter Tryz.func141,Tryz.ntmps141;go_wp2
   all_goals
    go_ret;refine⟨cK (vM1 ?_),ba w _⟩
    first | omega | (simp; done) | (simp; omega)
 ·have D:=Qf E
  have I:T.isEmpty=false:=by simpa using E
  have J:1<=T.length:=bJ.2 E;clear E;by_cases C:nd=0
  ·subst C
   go_enter Tryz.func141,Tryz.ntmps141;go_wp2
   all_goals
    go_ret;refine⟨cK (vM1 ?_),ba w _⟩;have B:=D.o
    first | omega | (simp[B]; done) | (simp[B]; omega) | (simp; done) | (simp; omega)
  ·have F:(0:Int)<nd:=by omega
   have G:decide (0<nd)=true:=by simp; omega
   have H:(nd==0)=false:=by simpa using C
   clear C;go_enter Tryz.func141,Tryz.ntmps141;go_wp2
   all_goals
    go_ret;refine⟨cK (vM1 ?_),ba w _⟩;have B:=D.o
    first | omega | (simp[B]; done) | (simp[B]; omega) | (simp; done) | (simp; omega)
theorem fits2(id off tot:Int)(a:Qa)(nd cd:Nat)(T:Qb)(w:World)(hs:(T.length:Int)<=140737488355328)(J:(nd:Int)<=140737488355328):
  Qh 141 #[.agg #[.int .i64 2,.int .i64 id,.int .i64 off,.int .i64 tot,.slice a nd cd,.string ⟨T.toArray⟩]] w fun e w'=>e=.returned (.bool (vM 2 off tot nd T.length))/\PM w w':=by
 by_cases C:T=[]
 ·subst C
  by_cases B:nd=0
  ·subst B
   go_enter Tryz.func141,Tryz.ntmps141;go_wp2
   all_goals
    go_ret;refine⟨cK (vM2 ?_),ba w _⟩
    first | omega | (simp; done) | (simp; omega)
  ·have D:(0:Int)<nd:=by omega
   have E:decide (0<nd)=true:=by simp; omega
   have F:(nd==0)=false:=by simpa using B
   clear B;go_enter Tryz.func141,Tryz.ntmps141;go_wp2
   all_goals
    go_ret;refine⟨cK (vM2 ?_),ba w _⟩
    first | omega | (simp; done) | (simp; omega)
 ·have G:=Qf C
  have H:T.isEmpty=false:=by simpa using C
  have I:1<=T.length:=bJ.2 C;clear C;by_cases B:nd=0
  ·subst B
   go_enter Tryz.func141,Tryz.ntmps141;go_wp2
   all_goals
    go_ret;refine⟨cK (vM2 ?_),ba w _⟩
    first | omega | (simp; done) | (simp; omega)
  ·have D:(0:Int)<nd:=by omega
   have E:decide (0<nd)=true:=by simp; omega
   have F:(nd==0)=false:=by simpa using B
   clear B;go_enter Tryz.func141,Tryz.ntmps141;go_wp2
   all_goals
    go_ret;refine⟨cK (vM2 ?_),ba w _⟩
    first | omega | (simp; done) | (simp; omega)
theorem fits3(id off tot:Int)(a:Qa)(nd cd:Nat)(T:Qb)(w:World)(hs:(T.length:Int)<=140737488355328)(K:(nd:Int)<=140737488355328):
  Qh 141 #[.agg #[.int .i64 3,.int .i64 id,.int .i64 off,.int .i64 tot,.slice a nd cd,.string ⟨T.toArray⟩]] w fun e w'=>e=.returned (.bool (vM 3 off tot nd T.length))/\PM w w':=by
 by_cases E:T=[]
 ·subst E
  by_cases C:nd=0
  ·subst C
   go_enter Tryz.func141,Tryz.ntmps141;go_wp2
   all_goals
    go_ret;refine⟨cK (vM3 ?_),ba w _⟩
    first | omega | (simp; done) | (simp; omega)
  ·have F:(0:Int)<nd:=by omega
   have G:decide (0<nd)=true:=by simp; omega
   have H:(nd==0)=false:=by simpa using C
   clear C;go_enter Tryz.func141,Tryz.ntmps141;go_wp2
   all_goals
    go_ret;refine⟨cK (vM3 ?_),ba w _⟩
    first | omega | (simp; done) | (simp; omega)
 ·have D:=Qf E
  have I:T.isEmpty=false:=by simpa using E
  have J:1<=T.length:=bJ.2 E;clear E;by_cases C:nd=0
  ·subst C
   go_enter Tryz.func141,Tryz.ntmps141;go_wp2
   all_goals
    go_ret;refine⟨cK (vM3 ?_),ba w _⟩;have B:=D.o
    first | omega | (simp[B]; done) | (simp[B]; omega) | (simp; done) | (simp; omega)
  ·have F:(0:Int)<nd:=by omega
   have G:decide (0<nd)=true:=by simp; omega
   have H:(nd==0)=false:=by simpa using C
   clear C;go_enter Tryz.func141,Tryz.ntmps141;go_wp2
   all_goals
    go_ret;refine⟨cK (vM3 ?_),ba w _⟩;have B:=D.o
    first | omega | (simp[B]; done) | (simp[B]; omega) | (simp; done) | (simp; omega)
theorem fits4(id off tot:Int)(a:Qa)(nd cd:Nat)(T:Qb)(w:World)(hs:(T.length:Int)<=140737488355328)(K:(nd:Int)<=140737488355328):
  Qh 141 #[.agg #[.int .i64 4,.int .i64 id,.int .i64 off,.int .i64 tot,.slice a nd cd,.string ⟨T.toArray⟩]] w fun e w'=>e=.returned (.bool (vM 4 off tot nd T.length))/\PM w w':=by
 by_cases E:T=[]
 ·subst E
  by_cases C:nd=0
  ·subst C
   go_enter Tryz.func141,Tryz.ntmps141;go_wp2
   all_goals
    go_ret;refine⟨cK (vM4 ?_),ba w _⟩
    first | omega | (simp; done) | (simp; omega)
  ·have F:(0:Int)<nd:=by omega
   have G:decide (0<nd)=true:=by simp; omega
   have H:(nd==0)=false:=by simpa using C
   clear C;go_enter Tryz.func141,Tryz.ntmps141;go_wp2
   all_goals
    go_ret;refine⟨cK (vM4 ?_),ba w _⟩
    first | omega | (simp; done) | (simp; omega)
 ·have D:=Qf E
  have I:T.isEmpty=false:=by simpa using E
  have J:1<=T.length:=bJ.2 E;clear E;by_cases C:nd=0
  ·subst C
   go_enter Tryz.func141,Tryz.ntmps141;go_wp2
   all_goals
    go_ret;refine⟨cK (vM4 ?_),ba w _⟩;have B:=D.o
    first | omega | (simp[B]; done) | (simp[B]; omega) | (simp; done) | (simp; omega)
  ·have F:(0:Int)<nd:=by omega
   have G:decide (0<nd)=true:=by simp; omega
   have H:(nd==0)=false:=by simpa using C
   clear C;go_enter Tryz.func141,Tryz.ntmps141;go_wp2
   all_goals
    go_ret;refine⟨cK (vM4 ?_),ba w _⟩;have B:=D.o
    first | omega | (simp[B]; done) | (simp[B]; omega) | (simp; done) | (simp; omega)
theorem MU(id off tot:Int)(a:Qa)(nd cd:Nat)(T:Qb)(w:World)(hs:(T.length:Int)<=140737488355328)(M:(nd:Int)<=140737488355328)(I:0<=id)(J:id<=1099511627776):
  Qh 70 #[.agg #[.int .i64 1,.int .i64 id,.int .i64 off,.int .i64 tot,.slice a nd cd,.string ⟨T.toArray⟩]] w fun e w'=>e=.returned (.bool (vM 1 off tot nd T.length))/\PM w w':=by
 by_cases E:T=[]
 ·subst E
  by_cases C:nd=0
  ·subst C
   go_enter Tryz.func70,Tryz.ntmps70;go_wp2
   all_goals
    go_ret;refine⟨cK (vM1 ?_),ba w _⟩
    first | omega | (simp; done) | (simp; omega)
  ·have F:(0:Int)<nd:=by omega
   have G:decide (0<nd)=true:=by simp; omega
   have H:(nd==0)=false:=by simpa using C
   clear C;go_enter Tryz.func70,Tryz.ntmps70;go_wp2
   all_goals
    go_ret;refine⟨cK (vM1 ?_),ba w _⟩
    first | omega | (simp; done) | (simp; omega)
 ·have D:=Qf E
  have K:T.isEmpty=false:=by simpa using E
  have L:1<=T.length:=bJ.2 E;clear E;by_cases C:nd=0
  ·subst C
   go_enter Tryz.func70,Tryz.ntmps70;go_wp2
   all_goals
    go_ret;refine⟨cK (vM1 ?_),ba w _⟩;have B:=D.o
    first | omega | (simp[B]; done) | (simp[B]; omega) | (simp; done) | (simp; omega)
  ·have F:(0:Int)<nd:=by omega
   have G:decide (0<nd)=true:=by simp; omega
   have H:(nd==0)=false:=by simpa using C
   clear C;go_enter Tryz.func70,Tryz.ntmps70;go_wp2
   all_goals
    go_ret;refine⟨cK (vM1 ?_),ba w _⟩;have B:=D.o
    first | omega | (simp[B]; done) | (simp[B]; omega) | (simp; done) | (simp; omega)
theorem MS(id off tot:Int)(a:Qa)(nd cd:Nat)(T:Qb)(w:World)(hs:(T.length:Int)<=140737488355328)(L:(nd:Int)<=140737488355328)(G:0<=id)(H:id<=1099511627776):
  Qh 70 #[.agg #[.int .i64 2,.int .i64 id,.int .i64 off,.int .i64 tot,.slice a nd cd,.string ⟨T.toArray⟩]] w fun e w'=>e=.returned (.bool (vM 2 off tot nd T.length))/\PM w w':=by
 by_cases C:T=[]
 ·subst C
  by_cases B:nd=0
  ·subst B
   go_enter Tryz.func70,Tryz.ntmps70;go_wp2
   all_goals
    go_ret;refine⟨cK (vM2 ?_),ba w _⟩
    first | omega | (simp; done) | (simp; omega)
  ·have D:(0:Int)<nd:=by omega
   have E:decide (0<nd)=true:=by simp; omega
   have F:(nd==0)=false:=by simpa using B
   clear B;go_enter Tryz.func70,Tryz.ntmps70;go_wp2
   all_goals
    go_ret;refine⟨cK (vM2 ?_),ba w _⟩
    first | omega | (simp; done) | (simp; omega)
 ·have I:=Qf C
  have J:T.isEmpty=false:=by simpa using C
  have K:1<=T.length:=bJ.2 C;clear C;by_cases B:nd=0
  ·subst B
   go_enter Tryz.func70,Tryz.ntmps70;go_wp2
   all_goals
    go_ret;refine⟨cK (vM2 ?_),ba w _⟩
    first | omega | (simp; done) | (simp; omega)
  ·have D:(0:Int)<nd:=by omega
   have E:decide (0<nd)=true:=by simp; omega
   have F:(nd==0)=false:=by simpa using B
   clear B;go_enter Tryz.func70,Tryz.ntmps70;go_wp2
   all_goals
    go_ret;refine⟨cK (vM2 ?_),ba w _⟩
    first | omega | (simp; done) | (simp; omega)
theorem MR(id off tot:Int)(a:Qa)(nd cd:Nat)(T:Qb)(w:World)(hs:(T.length:Int)<=140737488355328)(M:(nd:Int)<=140737488355328)(I:0<=id)(J:id<=1099511627776):
  Qh 70 #[.agg #[.int .i64 3,.int .i64 id,.int .i64 off,.int .i64 tot,.slice a nd cd,.string ⟨T.toArray⟩]] w fun e w'=>e=.returned (.bool (vM 3 off tot nd T.length))/\PM w w':=by
 by_cases E:T=[]
 ·subst E
  by_cases C:nd=0
  ·subst C
   go_enter Tryz.func70,Tryz.ntmps70;go_wp2
   all_goals
    go_ret;refine⟨cK (vM3 ?_),ba w _⟩
    first | omega | (simp; done) | (simp; omega)
  ·have F:(0:Int)<nd:=by omega
   have G:decide (0<nd)=true:=by simp; omega
   have H:(nd==0)=false:=by simpa using C
   clear C;go_enter Tryz.func70,Tryz.ntmps70;go_wp2
   all_goals
    go_ret;refine⟨cK (vM3 ?_),ba w _⟩
    first | omega | (simp; done) | (simp; omega)
 ·have D:=Qf E
  have K:T.isEmpty=false:=by simpa using E
  have L:1<=T.length:=bJ.2 E;clear E;by_cases C:nd=0
  ·subst C
   go_enter Tryz.func70,Tryz.ntmps70;go_wp2
   all_goals
    go_ret;refine⟨cK (vM3 ?_),ba w _⟩;have B:=D.o
    first | omega | (simp[B]; done) | (simp[B]; omega) | (simp; done) | (simp; omega)
  ·have F:(0:Int)<nd:=by omega
   have G:decide (0<nd)=true:=by simp; omega
   have H:(nd==0)=false:=by simpa using C
   clear C;go_enter Tryz.func70,Tryz.ntmps70;go_wp2
   all_goals
    go_ret;refine⟨cK (vM3 ?_),ba w _⟩;have B:=D.o
    first | omega | (simp[B]; done) | (simp[B]; omega) | (simp; done) | (simp; omega)
theorem MQ(id off tot:Int)(a:Qa)(nd cd:Nat)(T:Qb)(w:World)(hs:(T.length:Int)<=140737488355328)(M:(nd:Int)<=140737488355328)(I:0<=id)(J:id<=1099511627776):
  Qh 70 #[.agg #[.int .i64 4,.int .i64 id,.int .i64 off,.int .i64 tot,.slice a nd cd,.string ⟨T.toArray⟩]] w fun e w'=>e=.returned (.bool (vM 4 off tot nd T.length))/\PM w w':=by
 by_cases E:T=[]
 ·subst E
  by_cases C:nd=0
  ·subst C
   go_enter Tryz.func70,Tryz.ntmps70;go_wp2
   all_goals
    go_ret;refine⟨cK (vM4 ?_),ba w _⟩
    first | omega | (simp; done) | (simp; omega)
  ·have F:(0:Int)<nd:=by omega
   have G:decide (0<nd)=true:=by simp; omega
   have H:(nd==0)=false:=by simpa using C
   clear C;go_enter Tryz.func70,Tryz.ntmps70;go_wp2
   all_goals
    go_ret;refine⟨cK (vM4 ?_),ba w _⟩
    first | omega | (simp; done) | (simp; omega)
 ·have D:=Qf E
  have K:T.isEmpty=false:=by simpa using E
  have L:1<=T.length:=bJ.2 E;clear E;by_cases C:nd=0
  ·subst C
   go_enter Tryz.func70,Tryz.ntmps70;go_wp2
   all_goals
    go_ret;refine⟨cK (vM4 ?_),ba w _⟩;have B:=D.o
    first | omega | (simp[B]; done) | (simp[B]; omega) | (simp; done) | (simp; omega)
  ·have F:(0:Int)<nd:=by omega
   have G:decide (0<nd)=true:=by simp; omega
   have H:(nd==0)=false:=by simpa using C
   clear C;go_enter Tryz.func70,Tryz.ntmps70;go_wp2
   all_goals
    go_ret;refine⟨cK (vM4 ?_),ba w _⟩;have B:=D.o
    first | omega | (simp[B]; done) | (simp[B]; omega) | (simp; done) | (simp; omega)
theorem fits_any(kind id off tot:Int)(a:Qa)(nd cd:Nat)(T:Qb)(w:World)(hs:(T.length:Int)<=140737488355328)(B:(nd:Int)<=140737488355328)(C:1<=kind)(D:kind<=4):
  Qh 141 #[.agg #[.int .i64 kind,.int .i64 id,.int .i64 off,.int .i64 tot,.slice a nd cd,.string ⟨T.toArray⟩]] w fun e w'=>e=.returned (.bool (vM kind off tot nd T.length))/\PM w w':=by
 obtain rfl | rfl | rfl | rfl:kind=1\/kind=2\/kind=3\/kind=4:=by omega
 ·exact fits1 id off tot a nd cd T w hs B
 ·exact fits2 id off tot a nd cd T w hs B
 ·exact fits3 id off tot a nd cd T w hs B
 ·exact fits4 id off tot a nd cd T w hs B
theorem vY(kind id off tot:Int)(a:Qa)(nd cd:Nat)(T:Qb)(w:World)(hs:(T.length:Int)<=140737488355328)(D:(nd:Int)<=140737488355328)(B:0<=id)(C:id<=1099511627776)(E:1<=kind)(F:kind<=4):
  Qh 70 #[.agg #[.int .i64 kind,.int .i64 id,.int .i64 off,.int .i64 tot,.slice a nd cd,.string ⟨T.toArray⟩]] w fun e w'=>e=.returned (.bool (vM kind off tot nd T.length))/\PM w w':=by
 obtain rfl | rfl | rfl | rfl:kind=1\/kind=2\/kind=3\/kind=4:=by omega
 ·exact MU id off tot a nd cd T w hs D B C
 ·exact MS id off tot a nd cd T w hs D B C
 ·exact MR id off tot a nd cd T w hs D B C
 ·exact MQ id off tot a nd cd T w hs D B C
def whyM(kind id off tot:Int)(nd n:Nat):Int:=
 if kind<1\/4<kind then 9 else if id<0\/1099511627776<id then 2 else if vM kind off tot nd n=false then 1 else 0
theorem wcheck_any(kind id off tot:Int)(a:Qa)(nd cd:Nat)(T:Qb)(w:World)(hs:(T.length:Int)<=140737488355328)(J:(nd:Int)<=140737488355328):
  Qh 86 #[.agg #[.int .i64 kind,.int .i64 id,.int .i64 off,.int .i64 tot,.slice a nd cd,.string ⟨T.toArray⟩]] w fun e w'=>e=.returned (.int .i64 (whyM kind id off tot nd T.length))/\PM w w':=by
 obtain⟨R,B⟩:=Qe (whyM kind id off tot nd T.length);rw[<-B];unfold whyM at B;by_cases I:kind<1\/4<kind
 ·rw[if_pos I] at B
  subst B;go_enter Tryz.func86,Tryz.ntmps86;go_wp2_with fail
  all_goals first
   | (exfalso; omega)
   | (go_ret; exact⟨rfl,ba w _⟩)
 ·rw[if_neg I] at B
  have k1:decide (kind<1)=false:=by simp; omega
  have k2:decide (4<kind)=false:=by simp; omega
  have k3:1<=kind:=by omega
  have k4:kind<=4:=by omega
  clear I;by_cases H:id<0\/1099511627776<id
  ·rw[if_pos H] at B
   subst B;go_enter Tryz.func86,Tryz.ntmps86;go_wp2_with fail
   all_goals first
    | (exfalso; omega)
    | (go_ret; exact⟨rfl,ba w _⟩)
  ·rw[if_neg H] at B
   have i1:decide (id<0)=false:=by simp; omega
   have i2:decide (1099511627776<id)=false:=by simp; omega
   clear H;have F:=Qf (fun w=>fits_any kind id off tot a nd cd T w hs J k3 k4);by_cases C:vM kind off tot nd T.length=false
   ·rw[if_pos C] at B
    rw[C] at F;subst B;clear C k3 k4;go_enter Tryz.func86,Tryz.ntmps86;go_wp2_with fail;refine(F.o _).mono ?_;rintro e w' ⟨rfl,D⟩;have G:=Qf D;clear D;go_wp2_with fail;go_ret;exact⟨rfl,(ba w _).trans (G.o.mono (by simp))⟩
   ·rw[if_neg C] at B
    have E:vM kind off tot nd T.length=true:=by simpa using C
    rw[E] at F;subst B;clear C E k3 k4;go_enter Tryz.func86,Tryz.ntmps86;go_wp2_with fail;refine(F.o _).mono ?_;rintro e w' ⟨rfl,D⟩;have G:=Qf D;clear D;go_wp2_with fail;go_ret;exact⟨rfl,(ba w _).trans (G.o.mono (by simp))⟩
theorem pz(L:Qb)(w:World)(hs:(L.length:Int)<=140737488355328):
  Qh 67 #[.string ⟨L.toArray⟩] w fun e w'=>e=.returned (.int .u64 (mJ L))/\w=w':=by
 go_enter Tryz.func67,Tryz.ntmps67;go_wp2_with fail;go_loop [3,4] (fun n i=>∃(k:Nat) (x:Int),k<=L.length/\i=.int .i64 k/\n=.int .u64 x/\Qg (x=mJ (L.take k))) (fun _ i=>L.length-(intOf i).toNat)
 case atStart=>exact⟨0,0,by omega,rfl,rfl,Qf rfl⟩
 case round=>
  obtain⟨k,x,E,rfl,rfl,D⟩:=hrel;by_cases C:k<L.length
  ·have B:Qg (mJ (L.take (k+1))=mI x L[k]):=Qf (by rw[D.out]; exact gY _ _ _ _ C)
   go_wp2_with fail;go_round
   case rel=>exact⟨k+1,_,by omega,by go_num,rfl,Qf (by rw[B.o]; rfl)⟩
   case measure=>simp[intOf]; omega
  ·have B:Qg (x=mJ L):=Qf (by rw[D.out,ag (by omega)])
   go_wp2_with fail;go_ret;exact⟨by rw[<-B.o]; rfl,rfl⟩
def Li:Nat->Qb->Option (List Int×Qb)
 | 0,l=>some ([],l)
 | k+1,l=>if(Cw.getI l).2.2≠0 then none else(Li k (l.drop (Cw.getI l).2.1.toNat)).map fun r=>((Cw.getI l).1::r.1,r.2)
def rF:Nat->Qb->Qd
 | 0,_=>[]
 | c+1,l=>(mJ (l.take 8),mJ ((l.drop 8).take 8))::rF c (l.drop 16)
def Pk(kind id off tot:Int)(ds:Qd)(l:Qb):Option Msg:=
 if(Cw.getT l).2.2≠0\/(Cw.getT l).2.1≠l.length then none
 else if vM kind off tot ds.length (Cw.getT l).1.length=true then some ⟨kind,id,off,tot,ds,(Cw.getT l).1⟩ else none
def Jw(l:Qb):Option Msg:=
 match Li 5 l with
 | some ([kind,id,off,tot,c],r)=>if 1000<c\/(r.length:Int)<16*c then none else Pk kind id off tot (rF c.toNat r) (r.drop (16*c.toNat))
 | _=>none
def G5(L:Qb)(k:Nat)(ns:List Int)(l:Qb):Prop:=Li 5 L=(Li (5-k) l).map fun r=>(ns++r.1,r.2)
theorem G5.start(L:Qb):G5 L 0 [] L:=by unfold G5; cases Li 5 L <;> rfl
theorem G5.bad(h:G5 L k ns l)(C:k<5){n er:Int}(B:Cw.getI l=(n,u,er))(A:er≠0):Jw L=none:=by
 have:Li 5 L=none:=by
  rw[h,show 5-k=(4-k)+1 by omega,Li,B];simp[A]
 unfold Jw;rw[this]
theorem G5.next(h:G5 L k ns l)(B:k<5){n:Int}(A:Cw.getI l=(n,u,0)):G5 L (k+1) (ns++[n]) (l.drop u.toNat):=by
 unfold G5 at h ⊢;rw[h,show 5-k=(5-(k+1))+1 by omega]
 conv=>lhs; rw[Li,A]
 simp only[ne_eq,not_true_eq_false,if_false,Option.map_map];congr 1;funext r;simp
theorem G5.fin{kind id c:Int}(h:G5 L 5 [kind,id,off,tot,c] l):Jw L=if 1000<c\/(l.length:Int)<16*c then none else Pk kind id off tot (rF c.toNat l) (l.drop (16*c.toNat)):=by
 have A:Li 5 L=some ([kind,id,off,tot,c],l):=h;unfold Jw;rw[A]
def GD(c:Nat)(r:Qb)(j:Nat)(ds:Qd)(l:Qb):Prop:=rF c r=ds++rF (c-j) l/\l=r.drop (16*j)/\ds.length=j
theorem GD.start(c:Nat)(r:Qb):GD c r 0 [] r:=⟨rfl,by simp,rfl⟩
theorem GD.next{j:Nat}(h:GD c r j ds l)(D:j<c):GD c r (j+1) (ds++[(mJ (l.take 8),mJ ((l.drop 8).take 8))]) (l.drop 16):=by
 obtain⟨A,B,C⟩:=h;refine⟨?_,by rw[B,eY,Nat.mul_succ],by simp[C]⟩;rw[A,show c-j=(c-(j+1))+1 by omega,rF];simp
theorem GD.fin(h:GD c r c ds l):rF c r=ds/\r.drop (16*c)=l:=by
 obtain⟨A,B,_⟩:=h;rw[Nat.sub_self] at A;exact⟨by rw[A]; simp[rF],B.symm⟩
theorem yZ(kind id off tot:Int)(a:Qa)(nd cd:Nat)(T:Qb)(w:World)(B:0<=id)(C:id<=1099511627776)(h:kind<1\/4<kind):
  Qh 70 #[.agg #[.int .i64 kind,.int .i64 id,.int .i64 off,.int .i64 tot,.slice a nd cd,.string ⟨T.toArray⟩]] w fun e w'=>e=.returned (.bool (vM kind off tot nd T.length))/\PM w w':=by
 have D:vM kind off tot nd T.length=false:=by
  unfold vM;rw[if_neg (by omega),if_neg (by omega),if_neg (by omega),if_neg (by omega)]
 rw[D];have k1:(kind==1)=false:=by simp; omega
 have k2:(kind==2)=false:=by simp; omega
 have k3:(kind==3)=false:=by simp; omega
 have k4:(kind==4)=false:=by simp; omega
 clear h D;go_enter Tryz.func70,Tryz.ntmps70;go_wp2_with fail;go_ret;exact⟨rfl,ba w _⟩
theorem MP(kind id off tot:Int)(a:Qa)(nd cd:Nat)(T:Qb)(w:World)(hs:(T.length:Int)<=140737488355328)(D:(nd:Int)<=140737488355328)(B:0<=id)(C:id<=1099511627776):
  Qh 70 #[.agg #[.int .i64 kind,.int .i64 id,.int .i64 off,.int .i64 tot,.slice a nd cd,.string ⟨T.toArray⟩]] w fun e w'=>e=.returned (.bool (vM kind off tot nd T.length))/\PM w w':=by
 by_cases h:kind<1\/4<kind
 ·exact yZ kind id off tot a nd cd T w B C h
 ·exact vY kind id off tot a nd cd T w hs D B C (by omega) (by omega)
def m0:Msg:=⟨0,0,0,0,[],[]⟩
def EW(w:World)(r:Option Msg)(e:Ending)(w':World):Prop:=
 ∃a c,e=.returned (.tuple #[(r.getD m0).val a c,.bool r.isSome])/\dE w'.heap.size w' a (r.getD m0).ds/\PM w w'/\(∀ad,a=some ad->w.heap.size<=ad.block)/\(r.getD m0).ds.length<=c
theorem EW.none{w':World}{r:Option Msg}(h:r=none)(A:PM w w'):EW w r (.returned (.tuple #[.agg #[.int .i64 0,.int .i64 0,.int .i64 0,.int .i64 0,.slice none 0 0,.string ⟨#[]⟩],.bool false])) w':=by
 subst h;exact⟨Option.none,0,rfl,dE.nil _ _ _,A,fun ad h=>(by cases h),nr⟩
abbrev decW(w:World)(n0 n1 n2 n3 n4:Int):World:=(w.alloc (.cells #[.int .i64 0,.int .i64 0,.int .i64 0,.int .i64 0,.slice none 0 0,.string ⟨#[]⟩] 73)).alloc (.cells #[.int .i64 n0,.int .i64 n1,.int .i64 n2,.int .i64 n3,.int .i64 n4] 174)
theorem gy(w:World)(n0 n1 n2 n3 n4:Int):PM w (decW w n0 n1 n2 n3 n4):=(ba w _).alloc (by simp) _
def inN(ns:List Int):Prop:=∀n∈ns,0<=n/\n<=1099511627776
theorem own_le'{W:World}{base:Nat}{e:TypeId}{z:Nat}{a:Qa}{xs:List Value}(h:W.ownsRow base e z (.slice a n c) n xs):n<=c:=by
 rcases h.2 with⟨A,rfl⟩ | ⟨g,cap,cur,A,_,_,B,_⟩
 ·exact Nat.zero_le _
 ·cases A; exact B
theorem NI{R:Option Msg}{T:Qb}(F:R=some ⟨n0,n1,n2,n3,ds,T⟩)(D:PM w x)(A:x.ownsRow (w.heap.size+3) 54 2 (.slice av ds.length cv) ds.length (aW ds)):
  EW w R (.returned (.tuple #[.agg #[.int .i64 n0,.int .i64 n1,.int .i64 n2,.int .i64 n3,.slice av ds.length cv,.string ⟨T.toArray⟩],.bool true]))
   ((((((x.setCell ⟨w.heap.size,0,none⟩ (.int .i64 n0)).setCell ⟨w.heap.size,1,none⟩ (.int .i64 n1)).setCell ⟨w.heap.size,2,none⟩ (.int .i64 n2)).setCell ⟨w.heap.size,3,none⟩ (.int .i64 n3)).setCell ⟨w.heap.size,4,none⟩ (.slice av ds.length cv)).setCell ⟨w.heap.size,5,none⟩ (.string ⟨T.toArray⟩)):=by
 have C:∀g,(Value.slice av ds.length cv).ownBlock=some g->g≠w.heap.size:=fun g E=>by have:=(A.lt g E).1; omega
 have k6:x.grownBy ((((((x.setCell ⟨w.heap.size,0,none⟩ (.int .i64 n0)).setCell ⟨w.heap.size,1,none⟩ (.int .i64 n1)).setCell ⟨w.heap.size,2,none⟩ (.int .i64 n2)).setCell ⟨w.heap.size,3,none⟩ (.int .i64 n3)).setCell ⟨w.heap.size,4,none⟩ (.slice av ds.length cv)).setCell ⟨w.heap.size,5,none⟩ (.string ⟨T.toArray⟩)) (some w.heap.size):=
  bu (bu (bu (bu (bu (dN _ _ _ _) (dN _ _ _ _)) (dN _ _ _ _)) (dN _ _ _ _)) (dN _ _ _ _)) (dN _ _ _ _)
 subst F;refine⟨av,cv,rfl,iy (A.kept k6 (.inr (fun e=>C _ e rfl))),D.grown k6 D.size (fun k G=>by cases G; exact nr),fun ad h=>?_,own_le' A⟩;subst h;rcases A.2 with⟨B,_⟩ | ⟨g,cap',cur,B,E,_⟩
 ·cases B
 ·cases B; show w.heap.size<=g; omega
structure DW (b2 b10:Nat) (n0 n1 n2 n3:Int) (wr:World) (v s:Value):Prop where
 c0:wr.cell? ⟨b10,0,none⟩=some (.int .i64 n0)
 c1:wr.cell? ⟨b10,1,none⟩=some (.int .i64 n1)
 c2:wr.cell? ⟨b10,2,none⟩=some (.int .i64 n2)
 c3:wr.cell? ⟨b10,3,none⟩=some (.int .i64 n3)
 c4:wr.cell? ⟨b10,4,none⟩=some v
 c5:wr.cell? ⟨b10,5,none⟩=some s
 f:∀j,wr.frozen? ⟨b10,j,none⟩=false
 z0:wr.cell? ⟨b2,0,none⟩=some (.int .i64 0)
 z1:wr.cell? ⟨b2,1,none⟩=some (.int .i64 0)
 z2:wr.cell? ⟨b2,2,none⟩=some (.int .i64 0)
 z3:wr.cell? ⟨b2,3,none⟩=some (.int .i64 0)
 z4:wr.cell? ⟨b2,4,none⟩=some (.slice none 0 0)
 z5:wr.cell? ⟨b2,5,none⟩=some (.string ⟨#[]⟩)
 g:∀j,wr.frozen? ⟨b2,j,none⟩=false
theorem DW.keep{s:Value}(h:DW b2 b10 n0 n1 n2 n3 wr v s)(k1:∀j,x.cell? ⟨b10,j,none⟩=wr.cell? ⟨b10,j,none⟩/\x.frozen? ⟨b10,j,none⟩=wr.frozen? ⟨b10,j,none⟩)(k2:∀j,x.cell? ⟨b2,j,none⟩=wr.cell? ⟨b2,j,none⟩/\x.frozen? ⟨b2,j,none⟩=wr.frozen? ⟨b2,j,none⟩):DW b2 b10 n0 n1 n2 n3 x v s:=
 ⟨(k1 0).1.trans h.c0,(k1 1).1.trans h.c1,(k1 2).1.trans h.c2,(k1 3).1.trans h.c3,(k1 4).1.trans h.c4,(k1 5).1.trans h.c5,fun j=>(k1 j).2.trans (h.f j),(k2 0).1.trans h.z0,(k2 1).1.trans h.z1,(k2 2).1.trans h.z2,(k2 3).1.trans h.z3,(k2 4).1.trans h.z4,(k2 5).1.trans h.z5,fun j=>(k2 j).2.trans (h.g j)⟩
theorem DW.below{s:Value}(h:DW b2 b10 n0 n1 n2 n3 wr v s)(A:PM wr x)(B:b10<wr.heap.size)(C:b2<wr.heap.size):DW b2 b10 n0 n1 n2 n3 x v s:=
 h.keep (fun j=>⟨A.cell (p:=⟨b10,j,none⟩) B,A.frozen (p:=⟨b10,j,none⟩) B⟩) (fun j=>⟨A.cell (p:=⟨b2,j,none⟩) C,A.frozen (p:=⟨b2,j,none⟩) C⟩)
theorem DW.set4{s:Value}(h:DW b2 b10 n0 n1 n2 n3 wr v s)(A:b2≠b10)(v':Value):DW b2 b10 n0 n1 n2 n3 (wr.setCell ⟨b10,4,none⟩ v') v' s:=by
 have k2:∀j,(wr.setCell ⟨b10,4,none⟩ v').cell? ⟨b2,j,none⟩=wr.cell? ⟨b2,j,none⟩/\(wr.setCell ⟨b10,4,none⟩ v').frozen? ⟨b2,j,none⟩=wr.frozen? ⟨b2,j,none⟩:=fun j=>by
  have B:=Below.heap_setCell wr ⟨b10,4,none⟩ v' b2 A;exact⟨World.cell?_of_block (a:=⟨b2,j,none⟩) B,World.frozen?_of_block (a:=⟨b2,j,none⟩) B⟩
 exact⟨by simp[go_sem,h.c0],by simp[go_sem,h.c1],by simp[go_sem,h.c2],by simp[go_sem,h.c3],by simp[go_sem,h.c4],by simp[go_sem,h.c5],fun j=>by simp[go_sem,h.f],(k2 0).1.trans h.z0,(k2 1).1.trans h.z1,(k2 2).1.trans h.z2,(k2 3).1.trans h.z3,(k2 4).1.trans h.z4,(k2 5).1.trans h.z5,fun j=>(k2 j).2.trans (h.g j)⟩
theorem BU(L:Qb)(w:World)(hL:(L.length:Int)<=140737488355328):
  Qh 68 #[.string ⟨L.toArray⟩] w (EW w (Jw L)):=by
 obtain⟨R,hR⟩:=Qe (Jw L);rw[<-hR];have HR:=Qf hR;clear hR;go_enter Tryz.func68,Tryz.ntmps68;go_upto_block 0 with fail
 go_cut [0] from 5 to 32 (fun s wx=>∃(n0 n1 n2 n3 n4:Int) (l:Qb),s=.string ⟨l.toArray⟩/\wx=decW w n0 n1 n2 n3 n4/\(l.length:Int)<=L.length/\Qg (G5 L 5 [n0,n1,n2,n3,n4] l)/\Qg (inN [n0,n1,n2,n3,n4]))
 case first=>
  go_wp2_with fail;go_loopw [0,14] (fun s i wr=>∃(k:Nat) (n0 n1 n2 n3 n4:Int) (l:Qb),k<=5/\i=.int .i64 k/\s=.string ⟨l.toArray⟩/\wr=decW w n0 n1 n2 n3 n4/\(l.length:Int)<=L.length/\Qg (G5 L k ([n0,n1,n2,n3,n4].take k) l)/\Qg (inN ([n0,n1,n2,n3,n4].take k))) (fun _ i _=>5-(intOf i).toNat)
  case atStart=>exact⟨0,0,0,0,0,0,L,by omega,rfl,rfl,rfl,by omega,Qf (G5.start L),Qf (fun n hn=>by simp at hn)⟩
  case round=>
   obtain⟨k,n0,n1,n2,n3,n4,l,hk,rfl,rfl,rfl,hl,F,K⟩:=hrel;by_cases B8:k<5
   ·rcases(show k=0\/k=1\/k=2\/k=3\/k=4 by omega) with rfl | rfl | rfl | rfl | rfl
    all_goals clear hk B8
    ·obtain⟨n,u,er,E⟩:∃n u er,Cw.getI l=(n,u,er):=⟨_,_,_,rfl⟩
     have G:=Qf (fun X=>dQ (s:=⟨l.toArray⟩) (n:=n) (k:=u) (er:=er) (by simpa using E) X);by_cases I:er=0
     ·subst I
      have Z:=bM E;have C:=Qf (F.out.next (by omega) E);have H:Qg (inN ([n0,n1,n2,n3,n4].take 0++[n])):=Qf (fun x B=>by
       rcases aD.1 B with B | B
       ·exact K.out x B
       ·simp only[aH] at B; subst B; omega)
      obtain⟨u0,rfl⟩:∃u0:Nat,u=(u0:Int):=⟨u.toNat,by omega⟩;rw[aj] at C;have S:u0<=l.length:=by omega
      have Q:=fun W=>jY l u0 S W
      have O:(⟨l.toArray⟩:ByteArray).extract u0 l.length=⟨(l.drop u0).toArray⟩:=by rw[dw,ag (by simp)]
      obtain⟨l',D⟩:∃l',l'=l.drop u0:=⟨_,rfl⟩;have P:(l'.length:Int)<=L.length:=by rw[D,ah]; omega
      rw[<-D] at Q C O;clear D E Z;go_wp2_with fail;refine(G.o _).mono ?_;rintro e w' ⟨rfl,rfl⟩;go_wp2_with fail;go_roundw
      case rel=>exact⟨1,n,n1,n2,n3,n4,l',by omega,rfl,rfl,rfl,P,C,H⟩
      case measure=>simp[intOf]
     ·have M:Qg (R=none):=Qf (by rw[HR.o]; exact F.out.bad (by omega) E I)
      have A2:(er !=0)=true:=by simpa using I
      clear E I;go_wp2_with fail;refine(G.o _).mono ?_;rintro e w' ⟨rfl,rfl⟩;go_wp2_with fail;refine bodyPost_ret (v:=.tuple #[.agg #[.int .i64 0,.int .i64 0,.int .i64 0,.int .i64 0,.slice none 0 0,.string ⟨#[]⟩],.bool false]) (by simp[results,Tryz.results68,go_sem]) rfl (EW.none M.o (gy w n0 n1 n2 n3 n4))
    ·obtain⟨n,u,er,E⟩:∃n u er,Cw.getI l=(n,u,er):=⟨_,_,_,rfl⟩
     have G:=Qf (fun X=>dQ (s:=⟨l.toArray⟩) (n:=n) (k:=u) (er:=er) (by simpa using E) X);by_cases I:er=0
     ·subst I
      have Z:=bM E;have C:=Qf (F.out.next (by omega) E);have H:Qg (inN ([n0,n1,n2,n3,n4].take 1++[n])):=Qf (fun x B=>by
       rcases aD.1 B with B | B
       ·exact K.out x B
       ·simp only[aH] at B; subst B; omega)
      obtain⟨u0,rfl⟩:∃u0:Nat,u=(u0:Int):=⟨u.toNat,by omega⟩;rw[aj] at C;have S:u0<=l.length:=by omega
      have Q:=fun W=>jY l u0 S W
      have O:(⟨l.toArray⟩:ByteArray).extract u0 l.length=⟨(l.drop u0).toArray⟩:=by rw[dw,ag (by simp)]
      obtain⟨l',D⟩:∃l',l'=l.drop u0:=⟨_,rfl⟩;have P:(l'.length:Int)<=L.length:=by rw[D,ah]; omega
      rw[<-D] at Q C O;clear D E Z;go_wp2_with fail;refine(G.o _).mono ?_;rintro e w' ⟨rfl,rfl⟩;go_wp2_with fail;go_roundw
      case rel=>exact⟨2,n0,n,n2,n3,n4,l',by omega,rfl,rfl,rfl,P,C,H⟩
      case measure=>simp[intOf]
     ·have M:Qg (R=none):=Qf (by rw[HR.o]; exact F.out.bad (by omega) E I)
      have A2:(er !=0)=true:=by simpa using I
      clear E I;go_wp2_with fail;refine(G.o _).mono ?_;rintro e w' ⟨rfl,rfl⟩;go_wp2_with fail;refine bodyPost_ret (v:=.tuple #[.agg #[.int .i64 0,.int .i64 0,.int .i64 0,.int .i64 0,.slice none 0 0,.string ⟨#[]⟩],.bool false]) (by simp[results,Tryz.results68,go_sem]) rfl (EW.none M.o (gy w n0 n1 n2 n3 n4))
    ·obtain⟨n,u,er,E⟩:∃n u er,Cw.getI l=(n,u,er):=⟨_,_,_,rfl⟩
     have G:=Qf (fun X=>dQ (s:=⟨l.toArray⟩) (n:=n) (k:=u) (er:=er) (by simpa using E) X);by_cases I:er=0
     ·subst I
      have Z:=bM E;have C:=Qf (F.out.next (by omega) E);have H:Qg (inN ([n0,n1,n2,n3,n4].take 2++[n])):=Qf (fun x B=>by
       rcases aD.1 B with B | B
       ·exact K.out x B
       ·simp only[aH] at B; subst B; omega)
      obtain⟨u0,rfl⟩:∃u0:Nat,u=(u0:Int):=⟨u.toNat,by omega⟩;rw[aj] at C;have S:u0<=l.length:=by omega
      have Q:=fun W=>jY l u0 S W
      have O:(⟨l.toArray⟩:ByteArray).extract u0 l.length=⟨(l.drop u0).toArray⟩:=by rw[dw,ag (by simp)]
      obtain⟨l',D⟩:∃l',l'=l.drop u0:=⟨_,rfl⟩;have P:(l'.length:Int)<=L.length:=by rw[D,ah]; omega
      rw[<-D] at Q C O;clear D E Z;go_wp2_with fail;refine(G.o _).mono ?_;rintro e w' ⟨rfl,rfl⟩;go_wp2_with fail;go_roundw
      case rel=>exact⟨3,n0,n1,n,n3,n4,l',by omega,rfl,rfl,rfl,P,C,H⟩
      case measure=>simp[intOf]
     ·have M:Qg (R=none):=Qf (by rw[HR.o]; exact F.out.bad (by omega) E I)
      have A2:(er !=0)=true:=by simpa using I
      clear E I;go_wp2_with fail;refine(G.o _).mono ?_;rintro e w' ⟨rfl,rfl⟩;go_wp2_with fail;refine bodyPost_ret (v:=.tuple #[.agg #[.int .i64 0,.int .i64 0,.int .i64 0,.int .i64 0,.slice none 0 0,.string ⟨#[]⟩],.bool false]) (by simp[results,Tryz.results68,go_sem]) rfl (EW.none M.o (gy w n0 n1 n2 n3 n4))
    ·obtain⟨n,u,er,E⟩:∃n u er,Cw.getI l=(n,u,er):=⟨_,_,_,rfl⟩
     have G:=Qf (fun X=>dQ (s:=⟨l.toArray⟩) (n:=n) (k:=u) (er:=er) (by simpa using E) X);by_cases I:er=0
     ·subst I
      have Z:=bM E;have C:=Qf (F.out.next (by omega) E);have H:Qg (inN ([n0,n1,n2,n3,n4].take 3++[n])):=Qf (fun x B=>by
       rcases aD.1 B with B | B
       ·exact K.out x B
       ·simp only[aH] at B; subst B; omega)
      obtain⟨u0,rfl⟩:∃u0:Nat,u=(u0:Int):=⟨u.toNat,by omega⟩;rw[aj] at C;have S:u0<=l.length:=by omega
      have Q:=fun W=>jY l u0 S W
      have O:(⟨l.toArray⟩:ByteArray).extract u0 l.length=⟨(l.drop u0).toArray⟩:=by rw[dw,ag (by simp)]
      obtain⟨l',D⟩:∃l',l'=l.drop u0:=⟨_,rfl⟩;have P:(l'.length:Int)<=L.length:=by rw[D,ah]; omega
      rw[<-D] at Q C O;clear D E Z;go_wp2_with fail;refine(G.o _).mono ?_;rintro e w' ⟨rfl,rfl⟩;go_wp2_with fail;go_roundw
      case rel=>exact⟨4,n0,n1,n2,n,n4,l',by omega,rfl,rfl,rfl,P,C,H⟩
      case measure=>simp[intOf]
     ·have M:Qg (R=none):=Qf (by rw[HR.o]; exact F.out.bad (by omega) E I)
      have A2:(er !=0)=true:=by simpa using I
      clear E I;go_wp2_with fail;refine(G.o _).mono ?_;rintro e w' ⟨rfl,rfl⟩;go_wp2_with fail;refine bodyPost_ret (v:=.tuple #[.agg #[.int .i64 0,.int .i64 0,.int .i64 0,.int .i64 0,.slice none 0 0,.string ⟨#[]⟩],.bool false]) (by simp[results,Tryz.results68,go_sem]) rfl (EW.none M.o (gy w n0 n1 n2 n3 n4))
    ·obtain⟨n,u,er,E⟩:∃n u er,Cw.getI l=(n,u,er):=⟨_,_,_,rfl⟩
     have G:=Qf (fun X=>dQ (s:=⟨l.toArray⟩) (n:=n) (k:=u) (er:=er) (by simpa using E) X);by_cases I:er=0
     ·subst I
      have Z:=bM E;have C:=Qf (F.out.next (by omega) E);have H:Qg (inN ([n0,n1,n2,n3,n4].take 4++[n])):=Qf (fun x B=>by
       rcases aD.1 B with B | B
       ·exact K.out x B
       ·simp only[aH] at B; subst B; omega)
      obtain⟨u0,rfl⟩:∃u0:Nat,u=(u0:Int):=⟨u.toNat,by omega⟩;rw[aj] at C;have S:u0<=l.length:=by omega
      have Q:=fun W=>jY l u0 S W
      have O:(⟨l.toArray⟩:ByteArray).extract u0 l.length=⟨(l.drop u0).toArray⟩:=by rw[dw,ag (by simp)]
      obtain⟨l',D⟩:∃l',l'=l.drop u0:=⟨_,rfl⟩;have P:(l'.length:Int)<=L.length:=by rw[D,ah]; omega
      rw[<-D] at Q C O;clear D E Z;go_wp2_with fail;refine(G.o _).mono ?_;rintro e w' ⟨rfl,rfl⟩;go_wp2_with fail;go_roundw
      case rel=>exact⟨5,n0,n1,n2,n3,n,l',by omega,rfl,rfl,rfl,P,C,H⟩
      case measure=>simp[intOf]
     ·have M:Qg (R=none):=Qf (by rw[HR.o]; exact F.out.bad (by omega) E I)
      have A2:(er !=0)=true:=by simpa using I
      clear E I;go_wp2_with fail;refine(G.o _).mono ?_;rintro e w' ⟨rfl,rfl⟩;go_wp2_with fail;refine bodyPost_ret (v:=.tuple #[.agg #[.int .i64 0,.int .i64 0,.int .i64 0,.int .i64 0,.slice none 0 0,.string ⟨#[]⟩],.bool false]) (by simp[results,Tryz.results68,go_sem]) rfl (EW.none M.o (gy w n0 n1 n2 n3 n4))
   ·obtain rfl:k=5:=by omega
    go_wp2_with fail;go_meet
    case rel=>exact⟨n0,n1,n2,n3,n4,l,rfl,rfl,hl,F,K⟩
 case rest=>
  obtain⟨n0,n1,n2,n3,n4,l,rfl,rfl,hl,F,K⟩:=hcut;have A4:=Qf F.out.fin;have F0:=K.out n0 (by simp);have F1:=K.out n1 (by simp);have F2:=K.out n2 (by simp);have F3:=K.out n3 (by simp);have D9:=K.out n4 (by simp);by_cases hq:1000<n4
  ·have M:Qg (R=none):=Qf (by rw[HR.o,A4.o,if_pos (.inl hq)])
   go_wp2_with fail;refine bodyPost_ret (v:=.tuple #[.agg #[.int .i64 0,.int .i64 0,.int .i64 0,.int .i64 0,.slice none 0 0,.string ⟨#[]⟩],.bool false]) (by simp[results,Tryz.results68,go_sem]) rfl (EW.none M.o (gy w n0 n1 n2 n3 n4))
  ·by_cases C8:(l.length:Int)<16*n4
   ·have M:Qg (R=none):=Qf (by rw[HR.o,A4.o,if_pos (.inr C8)])
    go_wp2_with fail;refine bodyPost_ret (v:=.tuple #[.agg #[.int .i64 0,.int .i64 0,.int .i64 0,.int .i64 0,.slice none 0 0,.string ⟨#[]⟩],.bool false]) (by simp[results,Tryz.results68,go_sem]) rfl (EW.none M.o (gy w n0 n1 n2 n3 n4))
   ·obtain⟨c,rfl⟩:∃c:Nat,n4=(c:Int):=⟨n4.toNat,by omega⟩
    have Y:Qg (R=Pk n0 n1 n2 n3 (rF c l) (l.drop (16*c))):=Qf (by rw[HR.o,A4.o,if_neg (by omega),aj]);have F5:c<=1000:=by omega
    have F8:16*c<=l.length:=by omega
    have d1:decide ((1000:Int)<(c:Int))=false:=by simp; omega
    have d2:decide ((l.length:Int)<16*(c:Int))=false:=by simp; omega
    clear hq C8 F K A4 HR D9;obtain⟨i0',hi,D0,E1,E2⟩:=info_parts ul;have D6:=Qf D0;clear D0;go_upto_block 2 with fail
    go_cut [0] from 55 to 71 (fun s wx=>∃(ds:Qd) (v:Value) (l2:Qb),s=.string ⟨l2.toArray⟩/\(l2.length:Int)<=L.length/\wx.ownsRow (w.heap.size+3) 54 2 v ds.length (aW ds)/\DW w.heap.size (w.heap.size+1+1) n0 n1 n2 n3 wx v (.string ⟨#[]⟩)/\PM w wx/\w.heap.size+3<=wx.heap.size/\Qg (rF c l=ds/\l.drop (16*c)=l2)/\ds.length<=1000)
    case first=>
     go_wp2_with fail;go_loopw [0,55] (fun s i wr=>∃(j:Nat) (l2:Qb) (ds:Qd) (v:Value),j<=c/\i=.int .i64 j/\s=.string ⟨l2.toArray⟩/\wr.ownsRow (w.heap.size+3) 54 2 v ds.length (aW ds)/\DW w.heap.size (w.heap.size+1+1) n0 n1 n2 n3 wr v (.string ⟨#[]⟩)/\PM w wr/\w.heap.size+3<=wr.heap.size/\Qg (GD c l j ds l2)) (fun _ i _=>c-(intOf i).toNat)
     case atStart=>exact⟨0,l,[],.slice none 0 0,by omega,rfl,rfl,World.ownsRow_nil _ _ _ _,⟨by simp[go_sem],by simp[go_sem],by simp[go_sem],by simp[go_sem],by simp[go_sem],by simp[go_sem],fun j=>by simp[go_sem],by simp[go_sem],by simp[go_sem],by simp[go_sem],by simp[go_sem],by simp[go_sem],by simp[go_sem],fun j=>by simp[go_sem]⟩,(gy w n0 n1 n2 n3 c).alloc (by simp; omega) _,by simp,Qf (GD.start c l)⟩
     case round=>
      obtain⟨j,l2,ds,v,hj,rfl,rfl,N,A1,U,C9,A5⟩:=hrel;have HO:=Qf N;have A0:=Qf A1;have HB:=Qf U;have B6:ds.length=j:=A5.out.2.2;have C6:l2.length=l.length-16*j:=by rw[A5.out.2.1,ah]
      clear N A1 U;by_cases B8:j<c
      ·have E8:16<=l2.length:=by omega
       have E5:(16:Int)<=(l2.length:Int):=by omega
       have C1:=Qf B6;have C:=Qf (A5.out.next B8);obtain⟨X1,A8⟩:=Qe (l2.take 8);obtain⟨X2,A9⟩:=Qe ((l2.drop 8).take 8);obtain⟨X3,B5⟩:=Qe (l2.drop 16);rw[<-A8,<-A9,<-B5] at C;have G0:∀W,(Instr.slice 9 (.string ⟨l2.toArray⟩) none (some (.int .i64 8)) none).run Tryz.prog W=.ok (.string ⟨X1.toArray⟩) W:=fun W=>by rw[A8]; exact OJ l2 8 (by omega) W
       have G1:∀W,(Instr.slice 9 (.string ⟨l2.toArray⟩) (some (.int .i64 8)) (some (.int .i64 16)) none).run Tryz.prog W=.ok (.string ⟨X2.toArray⟩) W:=fun W=>by rw[A9]; exact DD l2 8 16 (by omega) (by omega) W
       have G2:(⟨l2.toArray⟩:ByteArray).extract 16 l2.length=⟨X3.toArray⟩:=by rw[B5,dw,ag (by simp)]
       have C2:=Qf (fun W=>pz X1 W (by rw[A8]; simp; omega));have C3:=Qf (fun W=>pz X2 W (by rw[A9]; simp; omega));generalize mJ X1=y1 at C2 C;generalize mJ X2=y2 at C3 C;clear A8 A9 B5 C6 B6;have c4:=A0.o.c4;have c4':=fun x=>bP c4 x
       go_wp2_with fail;go_region_law
        (first
        | (refine step_append_lies _ (by rfl) (.tmp 58) (.tmp 66) _ (by rfl) (w.heap.size+3) 54 i0' _ 2 16 Tryz.underlying24 hi D6.o E1 E2 rfl (by omega) _ ds.length (aW ds) (by rfl) (HO.o.alloc _).drew ⟨wr.heap.size,0,none⟩ 1 1 [.int .u64 y1,.int .u64 y2] (by rfl) (by rfl) (World.news_of_block (cs:=#[.int .u64 y1,.int .u64 y2]) (t:=54) (fr:=(0,0)) (heap_alloc_new wr _)) (by simp[Value.oneCell']) (by omega) (by have:=C1.o; unfold maxLen; omega) (by have:=C1.o; omega) (by simp; omega) _ rfl ?_; intro g cap x A3 J C5 C7; (have A7:=(A0.o.below (((bf _).alloc nr (.cells #[.int .u64 y1,.int .u64 y2] 54)).drew) (by omega) (by omega)).keep (fun j=>Mt J (b:=w.heap.size+1+1) (by simp; omega) (fun e=>by have:=(HO.o.lt _ e).1; omega) j) (fun j=>Mt J (b:=w.heap.size) (by simp; omega) (fun e=>by have:=(HO.o.lt _ e).1; omega) j)); (have e4:=A7.c4); (have e5:=A7.f 4))
        | (go_simp; (first | (with_reducible refine(C2.o _).mono ?_) | (with_reducible refine(C3.o _).mono ?_)); rintro e w' ⟨rfl,rfl⟩)
        | fail)
       all_goals
        have D4:Qg (PM w x):=Qf (Below.grown ((HB.o.alloc (by omega) _).drew) J (by simp; omega) (fun k hk=>by have:=(HO.o.lt k hk).1; omega));have E0:w.heap.size+3<=x.heap.size:=by have:=J.size; simp at this; omega
        have C4:=Qf A3;have D5:=Qf A7;clear A3 J C5 C7 A7;go_wp2_with fail;go_roundw
        case rel=>
         refine⟨j+1,X3,ds++[(y1,y2)],.slice (some ⟨g,0,none⟩) (ds.length+1) cap,by omega,by go_num,rfl,?_,D5.o.set4 (by omega) _,D4.o.setCell (by simp; omega) _,by simpa using E0,C⟩;rw[gK,af];exact C4.o.kept (dN _ _ _ _) (.inr (fun e=>by have:=(C4.o.lt _ e).1; omega))
        case measure=>simp[intOf]; omega
      ·obtain rfl:j=c:=by omega
       go_wp2_with fail;go_meet
       case rel=>exact⟨ds,v,l2,rfl,by omega,HO.o,A0.o,HB.o,C9,Qf A5.out.fin,by omega⟩
    case rest=>
     obtain⟨ds,v,l2,rfl,C6,N,A1,U,C9,D2,B6⟩:=hcut;have HO:=Qf N;have A0:=Qf A1;have HB:=Qf U;obtain⟨av,cv,rfl,F6⟩:=aB N;obtain⟨B1,B2⟩:=D2.out;rw[B1,B2] at Y;clear N A1 U B1 B2;obtain⟨T,us,er,hT⟩:∃T us er,Cw.getT l2=(T,us,er):=⟨_,_,_,rfl⟩;have B3:Qg (∀X,Qh 126 #[.string ⟨l2.toArray⟩] X fun e w'=>e=.returned (.tuple #[.string ⟨T.toArray⟩,.int .i64 us,.int .i64 er])/\X=w'):=Qf (fun X=>by
      have:=kD ⟨l2.toArray⟩ X (by rw[bH]; omega);rw[show(⟨l2.toArray⟩:ByteArray).data.toList=l2 by simp,hT] at this;exact this)
     obtain⟨c0,c1,c2,c3,c4,c5,f,z0,z1,z2,z3,z4,z5,g⟩:=A0.o;have f5:=f 5;have g0:=g 0;have g1:=g 1;have g2:=g 2;have g3:=g 3;have g4:=g 4;have g5:=g 5;unfold Pk at Y;rw[hT] at Y;simp only at Y;have D8:(T.length:Int)<=140737488355328:=by
      obtain⟨n,k,er',_,hc⟩:=jM l2;rcases hc with⟨_,V⟩ | ⟨_,_,V⟩ | ⟨_,_,_,V⟩ | ⟨_,_,_,V⟩
      ·rw[hT] at V; simp only[Prod.mk.injEq] at V; rw[V.1]; simp
      ·rw[hT] at V; simp only[Prod.mk.injEq] at V; rw[V.1]; simp
      ·rw[hT] at V; simp only[Prod.mk.injEq] at V; rw[V.1]; simp
      ·rw[hT] at V; simp only[Prod.mk.injEq] at V; rw[V.1]; simp only[aA,ah]; omega
     clear f g hT;by_cases I:er=0
     ·subst I
      by_cases hu:us=l2.length
      ·subst hu
       have u0:((l2.length:Int) !=(l2.length:Int))=false:=by simp
       obtain⟨b,Z⟩:=Qe (vM n0 n2 n3 ds.length T.length);have HV:=Qf (fun X=>MP n0 n1 n2 n3 av ds.length cv T X D8 (by omega) (by omega) (by omega));rw[<-Z] at HV Y;clear Z;go_wp2_with fail;refine(B3.o _).mono ?_;rintro e x ⟨rfl,rfl⟩;go_wp2_with fail;refine(HV.o _).mono ?_;rintro e x ⟨rfl,B⟩;have d0:x.cell? ⟨w.heap.size+1+1,0,none⟩=some (.int .i64 n0):=(B.cell (p:=⟨w.heap.size+1+1,0,none⟩) (by simp; omega)).trans (by simp[go_sem,c0]);have d1:x.cell? ⟨w.heap.size+1+1,1,none⟩=some (.int .i64 n1):=(B.cell (p:=⟨w.heap.size+1+1,1,none⟩) (by simp; omega)).trans (by simp[go_sem,c1]);have d2:x.cell? ⟨w.heap.size+1+1,2,none⟩=some (.int .i64 n2):=(B.cell (p:=⟨w.heap.size+1+1,2,none⟩) (by simp; omega)).trans (by simp[go_sem,c2]);have d3:x.cell? ⟨w.heap.size+1+1,3,none⟩=some (.int .i64 n3):=(B.cell (p:=⟨w.heap.size+1+1,3,none⟩) (by simp; omega)).trans (by simp[go_sem,c3]);have d4:x.cell? ⟨w.heap.size+1+1,4,none⟩=some (.slice av ds.length cv):=(B.cell (p:=⟨w.heap.size+1+1,4,none⟩) (by simp; omega)).trans (by simp[go_sem,c4]);have d5:x.cell? ⟨w.heap.size+1+1,5,none⟩=some (.string ⟨T.toArray⟩):=(B.cell (p:=⟨w.heap.size+1+1,5,none⟩) (by simp; omega)).trans (by simp[go_sem,c5]);have e0:x.cell? ⟨w.heap.size,0,none⟩=some (.int .i64 0):=(B.cell (p:=⟨w.heap.size,0,none⟩) (by simp; omega)).trans (by simp[go_sem,z0]);have e1:x.cell? ⟨w.heap.size,1,none⟩=some (.int .i64 0):=(B.cell (p:=⟨w.heap.size,1,none⟩) (by simp; omega)).trans (by simp[go_sem,z1]);have e2:x.cell? ⟨w.heap.size,2,none⟩=some (.int .i64 0):=(B.cell (p:=⟨w.heap.size,2,none⟩) (by simp; omega)).trans (by simp[go_sem,z2]);have e3:x.cell? ⟨w.heap.size,3,none⟩=some (.int .i64 0):=(B.cell (p:=⟨w.heap.size,3,none⟩) (by simp; omega)).trans (by simp[go_sem,z3]);have e4:x.cell? ⟨w.heap.size,4,none⟩=some (.slice none 0 0):=(B.cell (p:=⟨w.heap.size,4,none⟩) (by simp; omega)).trans (by simp[go_sem,z4]);have e5:x.cell? ⟨w.heap.size,5,none⟩=some (.string ⟨#[]⟩):=(B.cell (p:=⟨w.heap.size,5,none⟩) (by simp; omega)).trans (by simp[go_sem,z5]);have h0:x.frozen? ⟨w.heap.size,0,none⟩=false:=(B.frozen (p:=⟨w.heap.size,0,none⟩) (by simp; omega)).trans (by simp[go_sem,g0]);have h1:x.frozen? ⟨w.heap.size,1,none⟩=false:=(B.frozen (p:=⟨w.heap.size,1,none⟩) (by simp; omega)).trans (by simp[go_sem,g1]);have h2:x.frozen? ⟨w.heap.size,2,none⟩=false:=(B.frozen (p:=⟨w.heap.size,2,none⟩) (by simp; omega)).trans (by simp[go_sem,g2]);have h3:x.frozen? ⟨w.heap.size,3,none⟩=false:=(B.frozen (p:=⟨w.heap.size,3,none⟩) (by simp; omega)).trans (by simp[go_sem,g3]);have h4:x.frozen? ⟨w.heap.size,4,none⟩=false:=(B.frozen (p:=⟨w.heap.size,4,none⟩) (by simp; omega)).trans (by simp[go_sem,g4]);have h5:x.frozen? ⟨w.heap.size,5,none⟩=false:=(B.frozen (p:=⟨w.heap.size,5,none⟩) (by simp; omega)).trans (by simp[go_sem,g5]);have C0:Qg (PM w x):=Qf ((HB.o.setCell (by simp; omega) _).trans (B.mono (by simp; omega)));have D3:Qg (x.ownsRow (w.heap.size+3) 54 2 (.slice av ds.length cv) ds.length (aW ds)):=Qf (by
        have h1:=HO.o.kept (w':=wc.setCell ⟨w.heap.size+1+1,5,none⟩ (.string ⟨T.toArray⟩)) (row:=some (w.heap.size+1+1)) ⟨rfl,rfl,rfl,by simp,fun k _ hk=>Below.heap_setCell _ _ _ k (fun e=>hk (by rw[e]))⟩ (.inr (fun e=>by have:=(HO.o.lt _ e).1; omega));refine h1.kept (row:=none) ⟨B.os,B.tape,B.output,B.size,fun k hk _=>B.block k hk⟩ ?_;cases h2:(Value.slice av ds.length cv).ownBlock with
        | none=>exact .inl rfl
        | some k=>exact .inr (by simp))
       clear B c0 c1 c2 c3 c4 c5 z0 z1 z2 z3 z4 z5 f5 g0 g1 g2 g3 g4 g5;cases b with
       | false=>
        have M:Qg (R=none):=Qf (by rw[Y.o]; simp);clear Y;go_wp2_with fail;refine bodyPost_ret (v:=.tuple #[.agg #[.int .i64 0,.int .i64 0,.int .i64 0,.int .i64 0,.slice none 0 0,.string ⟨#[]⟩],.bool false]) (by simp[results,Tryz.results68,go_sem,e0,e1,e2,e3,e4,e5]) rfl (EW.none M.o ?_);exact(((((C0.o.setCell (by simp) _).setCell (by simp) _).setCell (by simp) _).setCell (by simp) _).setCell (by simp) _).setCell (by simp) _
       | true=>
        have M:Qg (R=some ⟨n0,n1,n2,n3,ds,T⟩):=Qf (by rw[Y.o]; simp);clear Y;go_wp2_with fail;refine bodyPost_ret (v:=.tuple #[.agg #[.int .i64 n0,.int .i64 n1,.int .i64 n2,.int .i64 n3,.slice av ds.length cv,.string ⟨T.toArray⟩],.bool true]) (by simp[results,Tryz.results68,go_sem,e0,e1,e2,e3,e4,e5]) rfl ?_;exact NI M.o C0.o D3.o
      ·have M:Qg (R=none):=Qf (by rw[Y.o,if_pos (.inr hu)])
       have u0:(us !=(l2.length:Int))=true:=by simpa using hu
       clear hu Y;go_wp2_with fail;refine(B3.o _).mono ?_;rintro e x ⟨rfl,rfl⟩;go_wp2_with fail;refine bodyPost_ret (v:=.tuple #[.agg #[.int .i64 0,.int .i64 0,.int .i64 0,.int .i64 0,.slice none 0 0,.string ⟨#[]⟩],.bool false]) (by simp[results,Tryz.results68,go_sem,z0,z1,z2,z3,z4,z5]) rfl (EW.none M.o ?_);exact(((((HB.o.setCell (by simp) _).setCell (by simp) _).setCell (by simp) _).setCell (by simp) _).setCell (by simp) _).setCell (by simp) _
     ·have M:Qg (R=none):=Qf (by rw[Y.o,if_pos (.inl I)])
      have A2:(er !=0)=true:=by simpa using I
      clear I Y;go_wp2_with fail;refine(B3.o _).mono ?_;rintro e x ⟨rfl,rfl⟩;go_wp2_with fail;refine bodyPost_ret (v:=.tuple #[.agg #[.int .i64 0,.int .i64 0,.int .i64 0,.int .i64 0,.slice none 0 0,.string ⟨#[]⟩],.bool false]) (by simp[results,Tryz.results68,go_sem,z0,z1,z2,z3,z4,z5]) rfl (EW.none M.o ?_);exact(((((HB.o.setCell (by simp) _).setCell (by simp) _).setCell (by simp) _).setCell (by simp) _).setCell (by simp) _).setCell (by simp) _
theorem Lm(l:Qb)(h:l.length<=4):Gf l<4294967296:=
 aO (CQ l) (aC (Nat.pow_le_pow_right (by omega) h) (by decide))
def pg(s:Qb):Option (Msg×Nat):=
 if s.length<12 then none
 else if s.length-12<Gf (s.take 4) then none
 else if(iY ((s.drop 12).take (Gf (s.take 4)))).1≠mJ ((s.drop 4).take 8) then none
 else(Jw ((s.drop 12).take (Gf (s.take 4)))).map fun m=>(m,12+Gf (s.take 4))
theorem frameS_len{u:Nat}(h:pg s=some (m,u)):12<=u/\u<=s.length:=by
 unfold pg at h;split at h
 ·simp at h
 ·split at h
  ·simp at h
  ·split at h
   ·simp at h
   ·simp only[Option.map_eq_some_iff,Prod.mk.injEq] at h
    obtain⟨m',_,_,rfl⟩:=h;omega
inductive BG:Qb->List Msg->Nat->Prop
 | stop {s:Qb} (h:pg s=none):BG s [] 0
 | step {s:Qb} {m:Msg} {u:Nat} {l:List Msg} {n:Nat} (h:pg s=some (m,u)) (r:BG (s.drop u) l n):BG s (m::l) (u+n)
theorem BG.one{l l':List Msg}{n':Nat}(h:BG s l n)(A:BG s l' n'):l=l'/\n=n':=by
 induction h generalizing l' n' with
 | stop h=>
  cases A with
  | stop _=>exact⟨rfl,rfl⟩
  | step g _=>rw[h] at g; cases g
 | step h r ih=>
  cases A with
  | stop g=>rw[h] at g; cases g
  | step g r'=>
   rw[h] at g; cases g;obtain⟨rfl,rfl⟩:=ih r';exact⟨rfl,rfl⟩
theorem BG.le{l:List Msg}(h:BG s l n):n<=s.length/\l.length*12<=n:=by
 induction h with
 | stop h=>simp
 | step h r ih=>
  have:=frameS_len h;rw[ah] at ih;rw[az];omega
def SR(s:Qb)(at_:Nat)(acc:List Msg):Prop:=∀l n,BG (s.drop at_) l n->BG s (acc++l) (at_+n)
theorem SR.start(s:Qb):SR s 0 []:=fun l n h=>by
 rw[List.drop_zero] at h;simpa using h
theorem SR.next(h:SR s at_ acc){u:Nat}(A:pg (s.drop at_)=some (m,u)):SR s (at_+u) (acc++[m]):=fun l n hs=>by
 have:=h (m::l) (u+n) (.step A (by rw[eY]; exact hs));rw[ay,aP];exact this
theorem SR.fin(h:SR s at_ acc)(A:pg (s.drop at_)=none):BG s acc at_:=by
 have:=h [] 0 (.stop A);simpa using this
theorem qX:∀(c:Nat) (l:Qb),(rF c l).length=c
 | 0,_=>rfl
 | c+1,l=>by rw[rF,az,qX]
theorem NJ(h:Jw l=some m):m.ds.length<=1000:=by
 unfold Jw at h;split at h
 ·split at h
  ·cases h
  ·rename_i A
   unfold Pk at h;split at h
   ·cases h
   ·split at h
    ·cases h
     rw[qX];omega
    ·cases h
 ·cases h
structure GL (w wr:World) (v:Value) (acc:List MA):Prop where
 own:wr.ownsRow w.heap.size 73 6 v acc.length (fJ acc)
 bel:PM w wr
 cp:∀x∈acc,x.1.ds.length<=x.2.2
 ds:∀x∈acc,dE wr.heap.size wr x.2.1 x.1.ds/\x.1.ds.length<=1000/\(0<x.1.ds.length->∀ad,x.2.1=some ad->v.ownBlock≠some ad.block)
theorem GL.start(w:World):GL w w (.slice none 0 0) []:=⟨World.ownsRow_nil _ _ _ _,bf _,fun x A=>(by simp at A),fun x A=>(by simp at A)⟩
theorem GL.below{acc:List MA}(h:GL w wr v acc)(A:PM wr x):GL w x v acc:=by
 refine⟨h.own.kept (row:=none) ⟨A.os,A.tape,A.output,A.size,fun k E _=>A.block k E⟩ ?_,h.bel.trans (A.mono h.bel.size),h.cp,fun y F=>?_⟩
 ·cases B:v.ownBlock with
  | none=>exact .inl rfl
  | some k=>exact .inr (by simp)
 ·obtain⟨C,B,D⟩:=h.ds y F
  exact⟨(C.below A nr).mono A.size,B,D⟩
theorem GL.snoc{w x x':World}{v:Value}{acc:List MA}{m:Msg}{da:Qa}{dc g cap H:Nat}(h:GL w x v acc)(J:dE x.heap.size x da m.ds)(Q:m.ds.length<=1000)(E:m.ds.length<=dc)
  (L:0<m.ds.length->∀ad,da=some ad->v.ownBlock≠some ad.block)
  (D:x'.ownsRow w.heap.size 73 6 (.slice (some ⟨g,0,none⟩) (acc.length+1) cap) (acc.length+1) (fJ acc++[.int .i64 m.kind,.int .i64 m.id,.int .i64 m.off,.int .i64 m.tot,.slice da m.ds.length dc,.string ⟨m.data.toArray⟩]))
  (K:x.grownBy x' v.ownBlock) (C:v.ownBlock=some g\/g=H) (S:x.heap.size=H):GL w x' (.slice (some ⟨g,0,none⟩) (acc.length+1) cap) (acc++[(m,da,dc)]):=by
 refine⟨?_,h.bel.grown K h.bel.size (fun k P=>(h.own.lt k P).1),fun y B=>by
  rcases aD.1 B with B | B
  ·exact h.cp y B
  ·simp only[aH] at B
   subst B; exact E,fun y B=>?_⟩
 ·rw[af,oQ]; exact D
 ·have A:∀{ds:Qd} {a:Qa},dE x.heap.size x a ds->(0<ds.length->∀ad,a=some ad->v.ownBlock≠some ad.block)->dE x'.heap.size x' a ds/\(0<ds.length->∀ad,a=some ad->(Value.slice (some ⟨g,0,none⟩) (acc.length+1) cap).ownBlock≠some ad.block):=fun {ds a} k1 k2=>by
   refine⟨k1.kept K k2,fun F ad N=>?_⟩;obtain⟨b,off,O,R,_⟩:=k1 0 F;subst N;cases O
   show some g≠some b;rcases C with C | C
   ·rw[<-C]; exact k2 F _ rfl
   ·intro e; cases e; omega
  rcases aD.1 B with B | B
  ·obtain⟨G,M,I⟩:=h.ds y B
   exact⟨(A G I).1,M,(A G I).2⟩
  ·simp only[aH] at B
   subst B;exact⟨(A J L).1,Q,(A J L).2⟩
def MsCap(W:World)(a:Qa)(ms:List Msg):Prop:=
 ∀i (h:i<ms.length),∃b off da cd,a=some ⟨b,off,none⟩/\W.cell? ⟨b,off+i*6+4,none⟩=some (.slice da ms[i].ds.length cd)/\ms[i].ds.length<=cd
def Pv(w:World)(s:Qb)(e:Ending)(w':World):Prop:=
 ∃(ms:List Msg) (n:Nat) (a:Qa) (c:Nat),BG s ms n/\e=.returned (.tuple #[.slice a ms.length c,.int .i64 n])/\GQ w'.heap.size w' a ms/\PM w w'/\ms.length<=c/\(∀m∈ms,m.ds.length<=1000)/\MsCap w' a ms
theorem GL.got{acc:List MA}(h:GL w wr (.slice av acc.length cv) acc)(hs:BG s (acc.map Prod.fst) at_)(E:acc.length<=cv):Pv w s (.returned (.tuple #[.slice av acc.length cv,.int .i64 at_])) wr:=by
 refine⟨acc.map Prod.fst,at_,av,cv,hs,by rw[fC],qR h.own (fun x B=>(h.ds x B).1),h.bel,by rw[fC]; exact E,fun m F=>?_,fun i A=>?_⟩
 ·obtain⟨x,B,rfl⟩:=bV.1 F
  exact(h.ds x B).2.1
 ·rw[fC] at A
  rw[List.getElem_map];rcases h.own.2 with⟨D,G⟩ | ⟨g,cap',cur,D,_,H,_⟩
  ·omega
  ·cases D
   have C:=h.own.cells (g:=g) rfl _ _ (zZ acc i A).2.2.2.2.1;refine⟨g,0,acc[i].2.1,acc[i].2.2,rfl,?_,h.cp _ (ak A)⟩
   rwa[Go.WideShapes.add_plain,<-aP] at C
theorem PD(L:Qb)(w:World)(hL:(L.length:Int)<=1000000000000):
  Qh 32 #[.string ⟨L.toArray⟩] w (Pv w L):=by
 obtain⟨i0,hi,B4,B5,B6⟩:=info_parts IW;have C5:=Qf B4;have C6:=Qf B5;have C7:=Qf B6;clear B4 B5 B6;go_enter Tryz.func32,Tryz.ntmps32;go_wp2_with fail;go_loopw [4,5] (fun v i wr=>∃(at_:Nat) (acc:List MA),i=.int .i64 at_/\at_<=L.length/\acc.length*12<=at_/\Qg (GL w wr v acc)/\Qg (SR L at_ (acc.map Prod.fst))) (fun _ i _=>L.length-(intOf i).toNat)
 case atStart=>exact⟨0,[],rfl,by omega,by simp,Qf (GL.start w),Qf (SR.start L)⟩
 case round=>
  obtain⟨at_,acc,rfl,E3,D5,Q,F⟩:=hrel;by_cases E1:at_+12<=L.length
  ·obtain⟨X4,U⟩:=Qe ((L.drop at_).take 4)
   obtain⟨n,hn⟩:=Qe (Gf X4);have D3:X4.length=4:=by rw[U]; simp; omega
   have E6:n<4294967296:=by rw[hn]; exact Lm X4 (by omega)
   have H4:Qg (∀W,Qh 67 #[.string ⟨X4.toArray⟩] W fun e w'=>e=.returned (.int .u64 (n:Int))/\W=w'):=Qf (fun W=>by
    have:=pz X4 W (by omega)
    rwa[Es X4 (by omega),<-hn] at this)
   have D6:(⟨L.toArray⟩:ByteArray).extract at_ (at_+4)=⟨X4.toArray⟩:=by rw[dw,U,jR]
   have C:Qg (pg (L.drop at_)=if L.length-at_-12<n then none else if(iY ((L.drop (at_+12)).take n)).1≠mJ ((L.drop (at_+4)).take 8) then none else(Jw ((L.drop (at_+12)).take n)).map fun m=>(m,12+n)):=Qf (by
    unfold pg;rw[if_neg (by rw[ah]; omega),<-U,<-hn,ah,eY,eY])
   clear U hn D3;by_cases O:L.length-at_-12<n
   ·have G:=Qf (F.out.fin (by rw[C.o,if_pos O]))
    have B3:(L.length:Int)-at_-12<n:=by omega
    obtain⟨av,cv,rfl,B⟩:=aB Q.out.own;go_wp2_with fail;refine(H4.o _).mono ?_;rintro e x ⟨rfl,rfl⟩;go_wp2_with fail;go_ret2;exact Q.out.got G.o B
   ·have B3:(n:Int)<=(L.length:Int)-at_-12:=by omega
    obtain⟨T,hT⟩:=Qe ((L.drop (at_+12)).take n);obtain⟨X8,V⟩:=Qe ((L.drop (at_+4)).take 8);have C9:T.length=n:=by rw[hT]; simp; omega
    have A7:X8.length=8:=by rw[V]; simp; omega
    have B1:(⟨L.toArray⟩:ByteArray).extract (at_+12) (at_+12+n)=⟨T.toArray⟩:=by rw[dw,hT,jR]
    have sl8:∀W,(Instr.slice 9 (.string ⟨L.toArray⟩) (some (.int .i64 ((at_:Int)+4))) (some (.int .i64 ((at_:Int)+12))) none).run Tryz.prog W=.ok (.string ⟨X8.toArray⟩) W:=fun W=>by
     rw[OI L ((at_:Int)+4) ((at_:Int)+12) (by omega) (by omega) (by omega) W,V];congr 6 <;> omega
    rw[<-hT,<-V] at C;obtain⟨y,hy⟩:=Qe (mJ X8);obtain⟨dg,A4⟩:=Qe (iY T);have H8:Qg (∀W,Qh 67 #[.string ⟨X8.toArray⟩] W fun e w'=>e=.returned (.int .u64 y)/\PM W w'):=Qf (fun W=>by
     refine(pz X8 W (by omega)).mono ?_;rintro e w' ⟨rfl,rfl⟩;exact⟨by rw[hy],bf _⟩)
    have S:Qg (∀W,Qh 50 #[.string ⟨T.toArray⟩] W fun e w'=>e=.returned (.agg #[.int .u64 dg.1,.int .u64 dg.2])/\PM W w'):=Qf (fun W=>by
     rw[A4]; exact qV T W (by omega))
    have J:=Qf (fun W=>BU T W (by omega));rw[<-hy,<-A4] at C;obtain⟨d1,d2⟩:=dg;simp only at S C;have s4:IntKind.i64.wrap ((at_:Int)+4)=(at_:Int)+4:=wrap_i64 (by omega) (by omega);have s12:IntKind.i64.wrap ((at_:Int)+12)=(at_:Int)+12:=wrap_i64 (by omega) (by omega);clear hT V hy A4 A7 C9;have D0:∀W,(Instr.index 54 (.agg #[.int .u64 d1,.int .u64 d2]) (.int .i64 0)).run Tryz.prog W=.ok (.int .u64 d1) W:=fun W=>by kernel_rfl
    have dsz:decide ((L.length:Int)-at_-12<n)=false:=by simp; omega
    by_cases hd:d1=y
    ·subst hd
     have D2:(d1 !=d1)=false:=by simp
     obtain⟨R,hR⟩:=Qe (Jw T);rw[<-hR] at J;have H:Qg (pg (L.drop at_)=R.map fun m=>(m,12+n)):=Qf (by rw[C.o,if_neg O,if_neg (by simp),hR]);have A2:Qg (∀m,R=some m->m.ds.length<=1000):=Qf (fun m hm=>NJ (hR.symm.trans hm));clear C hR O;have E7:=Q.out.bel.size;go_wp2_with fail;refine(H4.o _).mono ?_;rintro e x ⟨rfl,rfl⟩;go_wp2_with fail;have D:=Qf (fun d os=>Calls.regrown_of (w:=wr) (d:=d) (os:=os) (H8.o _));have E:=Qf (fun d os=>Calls.regrown_of (w:=wr) (d:=d) (os:=os) (S.o _));refine wp_region_quiet_below (by kernel_rfl) (by kernel_rfl) ?_
     repeat (any_goals (first | go_big_quiet_step (first | (with_reducible exact D.o _ _) | (with_reducible exact E.o _ _)) | quiet_step (first | (with_reducible exact D.o _ _) | (with_reducible exact E.o _ _))))
     refine wpQuiet_nil ?_;intro w2 P;have I:=Qf (aX P);have A1:=Qf (Q.out.below I.o);have D8:=I.o.size;clear P D E I Q;go_wp2_with fail;refine(J.o _).mono ?_;rintro e x ⟨da,dc,rfl,B0,X,A8,A9⟩;have A0:=Qf B0;have C3:=Qf X;have A5:=Qf A8;have Z:=Qf A9;have K:=Qf (A1.o.below X);have E8:=X.size;clear B0 X A8 A9 J H4 H8 S B1 sl8 D0;cases R with
     | none=>
      have G:=Qf (F.out.fin (by rw[H.o]; rfl));clear H A2 F;obtain⟨av,cv,rfl,B⟩:=aB K.o.own;go_wp2_with fail;go_ret2;exact(K.o.below (ba x _)).got G.o B
     | some m=>
      have A6:=Qf (F.out.next (m:=m) (u:=12+n) (by rw[H.o]; rfl));have B2:=A2.o m rfl;clear H A2 F;obtain⟨kind,id,off,tot,ds,data⟩:=m;simp only[Option.getD_some,Option.isSome_some] at A0 Z B2 ⊢;go_wp2_with (at_builtin; refine wpList_append_lies _ rfl _ _ 67 rfl w.heap.size 73 i0 (.agg #[.int .i64 0,.int .i64 0,.int .i64 0,.int .i64 0,.slice none 0 0,.string ⟨#[]⟩]) 6 72 Tryz.underlying67 hi C5.o C6.o C7.o rfl (by decide) _ _ _ rfl ((K.o.own.alloc _).alloc _) ⟨x.heap.size+1,0,none⟩ 1 1 [.int .i64 kind,.int .i64 id,.int .i64 off,.int .i64 tot,.slice da ds.length dc,.string ⟨data.toArray⟩] rfl rfl ?_ ?_ ?_ ?_ ?_ ?_ _ rfl ?_)
      ·have h0:(x.alloc (.cells #[.int .i64 kind,.int .i64 id,.int .i64 off,.int .i64 tot,.slice da ds.length dc,.string ⟨data.toArray⟩] 73)).heap.size=x.heap.size+1:=by simp
       have h1:=xE (x.alloc (.cells #[.int .i64 kind,.int .i64 id,.int .i64 off,.int .i64 tot,.slice da ds.length dc,.string ⟨data.toArray⟩] 73)) kind id off tot ds.length dc da ⟨data.toArray⟩;rw[h0] at h1;exact h1
      ·intro u hu; simp at hu; rcases hu with rfl | rfl | rfl | rfl | rfl | rfl <;> rfl
      ·decide
      ·unfold maxLen; omega
      ·omega
      ·simp; omega
      ·intro g cap w' N M Y D1
       have C4:Qg (GL w w' (.slice (some ⟨g,0,none⟩) (acc.length+1) cap) (acc++[(⟨kind,id,off,tot,ds,data⟩,da,dc)])):=Qf (by
        have A3:PM x ((x.alloc (.cells #[.int .i64 kind,.int .i64 id,.int .i64 off,.int .i64 tot,.slice da ds.length dc,.string ⟨data.toArray⟩] 73)).alloc (.cells #[.int .i64 kind,.int .i64 id,.int .i64 off,.int .i64 tot,.slice da ds.length dc,.string ⟨data.toArray⟩] 73)):=(ba x _).alloc (by simp) _;exact(K.o.below A3).snoc (m:=⟨kind,id,off,tot,ds,data⟩) ((A0.o.below A3 nr).mono A3.size) B2 Z.o (fun _ ad ha e=>by
         have h1:=(A1.o.own.lt _ e).2;have h2:=A5.o ad ha
         omega) N M Y (by simp))
       clear N M Y D1 K A0 Z C3 A5 A1;go_wp2_with fail;go_roundw
       case rel=>
        refine⟨at_+(12+n),acc++[(⟨kind,id,off,tot,ds,data⟩,da,dc)],by go_num,by omega,by simp; omega,C4,?_⟩;rw[dJ]; exact A6
       case measure=>simp[intOf]; omega
    ·have D2:(d1 !=y)=true:=by simpa using hd
     have G:=Qf (F.out.fin (by rw[C.o,if_neg O,if_pos hd]));clear C hd O;obtain⟨av,cv,rfl,B⟩:=aB Q.out.own;go_wp2_with fail;refine(H4.o _).mono ?_;rintro e x ⟨rfl,rfl⟩;go_wp2_with fail;have D:=Qf (fun d os=>Calls.regrown_of (w:=wr) (d:=d) (os:=os) (H8.o _));have E:=Qf (fun d os=>Calls.regrown_of (w:=wr) (d:=d) (os:=os) (S.o _));refine wp_region_quiet_below (by kernel_rfl) (by kernel_rfl) ?_
     repeat (any_goals (first | go_big_quiet_step (first | (with_reducible exact D.o _ _) | (with_reducible exact E.o _ _)) | quiet_step (first | (with_reducible exact D.o _ _) | (with_reducible exact E.o _ _))))
     refine wpQuiet_nil ?_;intro w2 P;have I:=Qf (aX P);clear P D E;go_wp2_with fail;go_ret2;exact(Q.out.below I.o).got G.o B
  ·have HF:Qg (pg (L.drop at_)=none):=Qf (by unfold pg; rw[if_pos (by rw[ah]; omega)])
   have G:=Qf (F.out.fin HF.o);obtain⟨av,cv,rfl,B⟩:=aB Q.out.own;go_wp2_with fail;go_ret2;exact Q.out.got G.o B
