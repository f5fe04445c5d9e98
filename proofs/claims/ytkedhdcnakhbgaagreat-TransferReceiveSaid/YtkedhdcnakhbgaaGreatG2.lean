/- Lemmas. -/
import Derived.Test.YtkedhdcnakhbgaaGreatG1
import Derived.Deep.RegionHeld3
import Derived.Deep.DrawnRows
import Derived.Sort.Grow
import Derived.Lib.AppendZerosOnto
import Derived.Maps.AppendAt
import Derived.DeepKeys4
import Derived.Maps.OwnSet
import Derived.Maps.Views
import Derived.Test.YtkedhdcnakhbgaaGreatPoSl
import Derived.ProofKit
import Derived.OpenShut
import Derived.ShutString
import Derived.Deep.Slices
import Derived.Deep.Fields
import Derived.Deep.RegionWith
set_option linter.unusedSimpArgs false
set_option maxRecDepth 100000
set_option maxHeartbeats 16000000
namespace Go.Proofs.YtkedhdcnakhbgaaGreat
open Tryz
open Go.RowKit Go.Shelf
set_option linter.unusedVariables false
variable {os:Array Obj}{cs:Array Value}{x x' y y':Int}{d:Int×Int}{M M':Int×Int->Bool}{xs:List Value}{B B' b base c f g h i j k n z:Nat}{row:Option Nat}{a:Qa}{R met op:Qd}{a0 a1 a2 a3 a4 a5 a6 a7 u v:Value}{W W' w w':World}
theorem BK.c1{t:TypeId}(h:BK b #[a0] t W):W.cell? b=some a0:=Zw h.cell
theorem BK.f1{t:TypeId}(h:BK b cs t W):W.frozen? b=false:=h.frozen 0
theorem BK.c2{t:TypeId}(h:BK b #[a0,a1] t W):W.cell? b=some a0/\W.cell? ⟨b,1,none⟩=some a1:=⟨Zw h.cell,Zw h.cell⟩
theorem BK.f2{t:TypeId}(h:BK b cs t W):W.frozen? b=false/\W.frozen? ⟨b,1,none⟩=false:=⟨h.frozen 0,h.frozen 1⟩
theorem BK.c3{t:TypeId}(h:BK b #[a0,a1,a2] t W):W.cell? b=some a0/\W.cell? ⟨b,1,none⟩=some a1/\W.cell? ⟨b,2,none⟩=some a2:=⟨Zw h.cell,Zw h.cell,Zw h.cell⟩
theorem BK.f3{t:TypeId}(h:BK b cs t W):W.frozen? b=false/\W.frozen? ⟨b,1,none⟩=false/\W.frozen? ⟨b,2,none⟩=false:=⟨h.frozen 0,h.frozen 1,h.frozen 2⟩
theorem BK.c4{t:TypeId}(h:BK b #[a0,a1,a2,a3] t W):W.cell? b=some a0/\W.cell? ⟨b,1,none⟩=some a1/\W.cell? ⟨b,2,none⟩=some a2/\W.cell? ⟨b,3,none⟩=some a3:=⟨Zw h.cell,Zw h.cell,Zw h.cell,Zw h.cell⟩
theorem BK.f4{t:TypeId}(h:BK b cs t W):W.frozen? b=false/\W.frozen? ⟨b,1,none⟩=false/\W.frozen? ⟨b,2,none⟩=false/\W.frozen? ⟨b,3,none⟩=false:=⟨h.frozen 0,h.frozen 1,h.frozen 2,h.frozen 3⟩
theorem BK.c5{t:TypeId}(h:BK b #[a0,a1,a2,a3,a4] t W):W.cell? b=some a0/\W.cell? ⟨b,1,none⟩=some a1/\W.cell? ⟨b,2,none⟩=some a2/\W.cell? ⟨b,3,none⟩=some a3/\W.cell? ⟨b,4,none⟩=some a4:=⟨Zw h.cell,Zw h.cell,Zw h.cell,Zw h.cell,Zw h.cell⟩
theorem BK.f5{t:TypeId}(h:BK b cs t W):W.frozen? b=false/\W.frozen? ⟨b,1,none⟩=false/\W.frozen? ⟨b,2,none⟩=false/\W.frozen? ⟨b,3,none⟩=false/\W.frozen? ⟨b,4,none⟩=false:=⟨h.frozen 0,h.frozen 1,h.frozen 2,h.frozen 3,h.frozen 4⟩
theorem BK.c6{t:TypeId}(h:BK b #[a0,a1,a2,a3,a4,a5] t W):W.cell? b=some a0/\W.cell? ⟨b,1,none⟩=some a1/\W.cell? ⟨b,2,none⟩=some a2/\W.cell? ⟨b,3,none⟩=some a3/\W.cell? ⟨b,4,none⟩=some a4/\W.cell? ⟨b,5,none⟩=some a5:=⟨Zw h.cell,Zw h.cell,Zw h.cell,Zw h.cell,Zw h.cell,Zw h.cell⟩
theorem BK.f6{t:TypeId}(h:BK b cs t W):W.frozen? b=false/\W.frozen? ⟨b,1,none⟩=false/\W.frozen? ⟨b,2,none⟩=false/\W.frozen? ⟨b,3,none⟩=false/\W.frozen? ⟨b,4,none⟩=false/\W.frozen? ⟨b,5,none⟩=false:=⟨h.frozen 0,h.frozen 1,h.frozen 2,h.frozen 3,h.frozen 4,h.frozen 5⟩
theorem BK.c7{t:TypeId}(h:BK b #[a0,a1,a2,a3,a4,a5,a6] t W):W.cell? b=some a0/\W.cell? ⟨b,1,none⟩=some a1/\W.cell? ⟨b,2,none⟩=some a2/\W.cell? ⟨b,3,none⟩=some a3/\W.cell? ⟨b,4,none⟩=some a4/\W.cell? ⟨b,5,none⟩=some a5/\W.cell? ⟨b,6,none⟩=some a6:=⟨Zw h.cell,Zw h.cell,Zw h.cell,Zw h.cell,Zw h.cell,Zw h.cell,Zw h.cell⟩
theorem BK.f7{t:TypeId}(h:BK b cs t W):W.frozen? b=false/\W.frozen? ⟨b,1,none⟩=false/\W.frozen? ⟨b,2,none⟩=false/\W.frozen? ⟨b,3,none⟩=false/\W.frozen? ⟨b,4,none⟩=false/\W.frozen? ⟨b,5,none⟩=false/\W.frozen? ⟨b,6,none⟩=false:=⟨h.frozen 0,h.frozen 1,h.frozen 2,h.frozen 3,h.frozen 4,h.frozen 5,h.frozen 6⟩
theorem BK.c8{t:TypeId}(h:BK b #[a0,a1,a2,a3,a4,a5,a6,a7] t W):W.cell? b=some a0/\W.cell? ⟨b,1,none⟩=some a1/\W.cell? ⟨b,2,none⟩=some a2/\W.cell? ⟨b,3,none⟩=some a3/\W.cell? ⟨b,4,none⟩=some a4/\W.cell? ⟨b,5,none⟩=some a5/\W.cell? ⟨b,6,none⟩=some a6/\W.cell? ⟨b,7,none⟩=some a7:=⟨Zw h.cell,Zw h.cell,Zw h.cell,Zw h.cell,Zw h.cell,Zw h.cell,Zw h.cell,Zw h.cell⟩
theorem BK.f8{t:TypeId}(h:BK b cs t W):W.frozen? b=false/\W.frozen? ⟨b,1,none⟩=false/\W.frozen? ⟨b,2,none⟩=false/\W.frozen? ⟨b,3,none⟩=false/\W.frozen? ⟨b,4,none⟩=false/\W.frozen? ⟨b,5,none⟩=false/\W.frozen? ⟨b,6,none⟩=false/\W.frozen? ⟨b,7,none⟩=false:=⟨h.frozen 0,h.frozen 1,h.frozen 2,h.frozen 3,h.frozen 4,h.frozen 5,h.frozen 6,h.frozen 7⟩
theorem BK.c9{a8:Value}{t:TypeId}(h:BK b #[a0,a1,a2,a3,a4,a5,a6,a7,a8] t W):W.cell? b=some a0/\W.cell? ⟨b,1,none⟩=some a1/\W.cell? ⟨b,2,none⟩=some a2/\W.cell? ⟨b,3,none⟩=some a3/\W.cell? ⟨b,4,none⟩=some a4/\W.cell? ⟨b,5,none⟩=some a5/\W.cell? ⟨b,6,none⟩=some a6/\W.cell? ⟨b,7,none⟩=some a7/\W.cell? ⟨b,8,none⟩=some a8:=⟨Zw h.cell,Zw h.cell,Zw h.cell,Zw h.cell,Zw h.cell,Zw h.cell,Zw h.cell,Zw h.cell,Zw h.cell⟩
theorem BK.f9{t:TypeId}(h:BK b cs t W):W.frozen? b=false/\W.frozen? ⟨b,1,none⟩=false/\W.frozen? ⟨b,2,none⟩=false/\W.frozen? ⟨b,3,none⟩=false/\W.frozen? ⟨b,4,none⟩=false/\W.frozen? ⟨b,5,none⟩=false/\W.frozen? ⟨b,6,none⟩=false/\W.frozen? ⟨b,7,none⟩=false/\W.frozen? ⟨b,8,none⟩=false:=⟨h.frozen 0,h.frozen 1,h.frozen 2,h.frozen 3,h.frozen 4,h.frozen 5,h.frozen 6,h.frozen 7,h.frozen 8⟩
def yM(x y:Int):Int:=if x<y then -1 else if y<x then 1 else 0
def eO(a b:Int×Int):Int:=if yM a.1 b.1≠0 then yM a.1 b.1 else yM a.2 b.2
theorem Be(x:Int):yM x x=0:=by simp[yM]
theorem Bc:yM x y=0↔x=y:=by
 unfold yM;split
 ·simp; omega
 ·split
  ·simp; omega
  ·simp; omega
theorem fO(a:Int×Int):eO a a=0:=by simp[eO,Be]
theorem lv{a b:Int×Int}:eO a b=0↔a=b:=by
 unfold eO;by_cases h:yM a.1 b.1=0
 ·rw[if_neg (Zj h),Bc];rw[Bc] at h;constructor
  ·intro A; exact Prod.ext h A
  ·intro A; rw[A]
 ·rw[if_pos h];constructor
  ·intro A; exact absurd A h
  ·intro A; subst A; exact absurd (Be _) h
theorem IR(x:Int)(w:World):Qh 166 #[Yu x] w fun e w'=>e=.returned (.bool false)/\w=w':=by
 have h:(x !=x)=false:=Zs;go_enter func166,ntmps166;go_wp2;go_ret;exact⟨rfl,rfl⟩
theorem EG(x y:Int)(w:World):Qh 110 #[Yu x,Yu y] w fun e w'=>e=.returned (Yi (yM x y))/\w=w':=by
 have C:=Qf IR;obtain⟨R,G⟩:=Qe (yM x y);rw[<-G];have D:Qg (R=if x<y then -1 else if y<x then 1 else 0):=Qf G;clear G;by_cases B:x<y
 ·have F:Qg (R=-1):=Qf (by rw[D.o,if_pos B]);have d1:decide (x<y)=true:=Zu B;clear D B;go_enter func110,ntmps110;go_wp2_with fail;refine(C.o _ _).mono ?_;rintro e w' ⟨rfl,rfl⟩;go_wp2_with fail;refine(C.o _ _).mono ?_;rintro e w' ⟨rfl,rfl⟩;go_wp2;go_ret;exact⟨Zw F.o,rfl⟩
 ·have d1:decide (x<y)=false:=Zu B;by_cases E:y<x
  ·have F:Qg (R=1):=Qf (by rw[D.o,if_neg B,if_pos E]);have d2:decide (y<x)=true:=Zu E;clear D B E;go_enter func110,ntmps110;go_wp2_with fail;refine(C.o _ _).mono ?_;rintro e w' ⟨rfl,rfl⟩;go_wp2_with fail;refine(C.o _ _).mono ?_;rintro e w' ⟨rfl,rfl⟩;go_wp2;go_ret;exact⟨Zw F.o,rfl⟩
  ·have F:Qg (R=0):=Qf (by rw[D.o,if_neg B,if_neg E]);have d2:decide (y<x)=false:=Zu E;clear D B E;go_enter func110,ntmps110;go_wp2_with fail;refine(C.o _ _).mono ?_;rintro e w' ⟨rfl,rfl⟩;go_wp2_with fail;refine(C.o _ _).mono ?_;rintro e w' ⟨rfl,rfl⟩;go_wp2;go_ret;exact⟨Zw F.o,rfl⟩
theorem OO(b c:Nat)(x y:Int)(w:World)(L:w.cell? b=some (Yi x))(M:w.cell? ⟨b,1,none⟩=some (Yi y)):
  Qh 109 #[.slice b 2 c] w fun e w'=>e=.returned (Yi (if x≠0 then x else y))/\w=w':=by
 obtain⟨R,J⟩:=Qe (if x≠0 then x else y);rw[<-J];have D:=Qf J;clear J;go_enter func109,ntmps109;go_wp2;go_loop [8] (fun i=>∃k:Nat,k<=2/\i=Yi k/\Qg ((1<=k->x=0)/\(2<=k->y=0))) (fun i=>2-(intOf i).toNat)
 case atStart=>exact⟨0,Zo,rfl,Qf ⟨Zo,Zo⟩⟩
 case round=>
  obtain⟨k,N,rfl,C⟩:=hrel;by_cases B:k=0
  ·subst B;by_cases E:x=0
   ·have e1:(x !=0)=false:=Zu E;have I:=Qf E;clear E C;go_wp2;go_round
    case rel=>exact⟨1,Zo,Zg,Qf ⟨fun _=>I.o,Zo⟩⟩
    case measure=>simp[intOf]
   ·have e1:(x !=0)=true:=Zu E;have F:Qg (R=x):=Qf (by rw[D.o,if_pos E]);clear E C D;go_wp2;go_ret;exact⟨Zw F.o,rfl⟩
  ·by_cases G:k=1
   ·subst G;have I:=Qf (C.out.1 Zo);by_cases H:y=0
    ·have e1:(y !=0)=false:=Zu H;have K:=Qf H;clear H C B;go_wp2;go_round
     case rel=>exact⟨2,Zo,Zg,Qf ⟨fun _=>I.o,fun _=>K.o⟩⟩
     case measure=>simp[intOf]
    ·have e1:(y !=0)=true:=Zu H;have F:Qg (R=y):=Qf (by rw[D.o,if_neg (Zj I.o)]);clear H C D B;go_wp2;go_ret;exact⟨Zw F.o,rfl⟩
   ·obtain rfl:k=2:=Zo;have F:Qg (R=0):=Qf (by rw[D.o,if_neg (by simp[C.out.1 Zo]),C.out.2 Zo]);clear C D B G;go_wp2;go_ret;exact⟨Zw F.o,rfl⟩
def Tm(w w':World):Prop:=∃q os,w'=Go.Sort.grow (w.drewN q) os
theorem Tm.refl(w:World):Tm w w:=⟨0,#[],Zw Go.Sort.grow_empty⟩
theorem Tm.alloc(h:Tm w w')(o:Obj):Tm w (w'.alloc o):=by
 obtain⟨q,os,rfl⟩:=h;exact⟨q,os++#[o],by rw[Go.Sort.alloc_eq_grow,Go.Sort.grow_grow]⟩
theorem Tm.drew(h:Tm w w'):Tm w w'.drew:=by
 obtain⟨q,os,rfl⟩:=h;exact⟨q+1,os,rfl⟩
theorem Tm.below(h:Tm w w'):PM w w':=by
 obtain⟨q,os,rfl⟩:=h;exact below_regrown w _ os
theorem yN(x y x' y':Int)(w:World):Qh 59 #[.agg #[Yu x,Yu y],.agg #[Yu x',Yu y']] w fun e w'=>e=.returned (Yi (eO (x,y) (x',y')))/\Tm w w':=by
 obtain⟨R,D⟩:=Qe (eO (x,y) (x',y'));rw[<-D];have H:=fun W=>jD x y x' y' W
 cases C:(x==x'&&y==y') with
 | true=>
  have I:Qg (R=0):=Qf (by
   simp only[XF,XS] at C;rw[D,C.1,C.2,fO])
  rw[C] at H;clear C D;go_enter func59,ntmps59;go_wp2;go_ret;exact⟨Zw I.o,((Tm.refl w).alloc _).alloc _⟩
 | false=>
  rw[C] at H;clear C;have B:R=if yM x x'≠0 then yM x x' else yM y y':=D
  obtain⟨E,F⟩:=Yj (fun W=>EG x x' W) (fun W=>EG y y' W);generalize yM x x'=c1 at B E;generalize yM y y'=c2 at B F;have G:=Qf (fun b W J K=>OO b 2 c1 c2 W J K);rw[<-B] at G;clear D B;go_enter func59,ntmps59;go_wp2_with fail;go_region_held3 (fun w'=>w'.cell? w=some (Yu x)/\w'.cell? ⟨w,1,none⟩=some (Yu y)/\w'.cell? ⟨(w:Nat)+1,0,none⟩=some (Yu x')/\w'.cell? ⟨(w:Nat)+1,1,none⟩=some (Yu y')) (go_keep)
   (first | ((with_reducible refine(E.o _).mono ?_); rintro e w' ⟨rfl,rfl⟩) | ((with_reducible refine(F.o _).mono ?_); rintro e w' ⟨rfl,rfl⟩) | ((with_reducible refine(G.o _ _ ?_ ?_).mono ?_); (simp[go_sem]); (simp[go_sem]); rintro e w' ⟨rfl,rfl⟩) | fail)
  all_goals (go_wp2_with fail; go_ret; exact⟨rfl,((((Tm.refl w).alloc _).alloc _).alloc _).drew⟩)
structure Itm where
 d:Int×Int
 data:Qb
deriving DecidableEq
abbrev Itm.val(x:Itm):Value:=.agg #[Yu x.d.1,Yu x.d.2,x.data]
def dP(xs:List Itm):List Value:=xs.flatMap fun x=>[Yu x.d.1,Yu x.d.2,.string ⟨x.data.toArray⟩]
theorem yu(a b:List Itm):dP (a++b)=dP a++dP b:=by simp[dP]
theorem oV(a:List Itm):(dP a).length=a.length*3:=by
 induction a with
 | nil=>rfl
 | cons x a ih=>simp[dP] at ih ⊢; omega
theorem uo:∀(es:List Itm) (i:Nat) (h:i<es.length),(dP es)[i*3]? = some (Yu es[i].d.1)/\(dP es)[i*3+1]? = some (Yu es[i].d.2)/\(dP es)[i*3+2]? = some (.string ⟨es[i].data.toArray⟩)
 | [],i,h=>by simp at h
 | d::ds,0,h=>by simp[dP]
 | d::ds,i+1,h=>by
  have A:i<ds.length:=Zu h;have e:dP (d::ds)=[Yu d.d.1,Yu d.d.2,.string ⟨d.data.toArray⟩]++dP ds:=by simp[dP]
  have g:∀j,(dP (d::ds))[(i+1)*3+j]? = (dP ds)[i*3+j]?:=fun j=>by
   rw[e,YE Zt];congr 1;simp;omega
  have:=uo ds i A;simp only[bK];exact⟨(g 0).trans this.1,(g 1).trans this.2.1,(g 2).trans this.2.2⟩
theorem F9(xs:List Itm):∀v∈dP xs,v.oneCell'=true:=by
 intro v A;simp only[dP,List.mem_flatMap] at A;obtain⟨x,_,A⟩:=A;simp at A;rcases A with rfl | rfl | rfl <;> rfl
def Its(B:Nat)(W:World)(a:Qa)(es:List Itm):Prop:=
 ∀i (h:i<es.length),∃b off,a=some ⟨b,off,none⟩/\b<B/\W.cell? ⟨b,off+i*3,none⟩=some (Yu es[i].d.1)/\W.cell? ⟨b,off+i*3+1,none⟩=some (Yu es[i].d.2)/\W.cell? ⟨b,off+i*3+2,none⟩=some (.string ⟨es[i].data.toArray⟩)
theorem Its.below{es:List Itm}(h:Its B W a es)(A:Below B' W W')(I:B<=B'):Its B W' a es:=by
 intro i H;obtain⟨b,J,G,C,D,E,F⟩:=h i H;exact⟨b,J,G,C,(A.cell (p:=⟨b,J+i*3,none⟩) Zt).trans D,(A.cell (p:=⟨b,J+i*3+1,none⟩) Zt).trans E,(A.cell (p:=⟨b,J+i*3+2,none⟩) Zt).trans F⟩
theorem Its.mono{es:List Itm}(h:Its B W a es)(F:B<=B'):Its B' W a es:=by
 intro i D;obtain⟨b,G,C,E,A⟩:=h i D;exact⟨b,G,C,Zo,A⟩
theorem Its.ahead{es:List Itm}(h:Its W W a es)(A:PM W W'):Its W' W' a es:=(h.below A nr).mono A.size
theorem Its.nil(B:Nat)(W:World)(a:Qa):Its B W a []:=fun i h=>by simp at h
theorem Its.take{es:List Itm}(h:Its B W a es)(k:Nat):Its B W a (es.take k):=by
 intro i F;have A:i<es.length:=by simp at F; omega
 obtain⟨b,G,E,C,D⟩:=h i A;refine⟨b,G,E,C,?_⟩;rw[List.getElem_take];exact D
theorem Ct{cap:Nat}{es:List Itm}(h:w.ownsRow base 56 3 (.slice a es.length cap) es.length (dP es)):Its w w a es:=by
 intro i C;rcases h.2 with⟨A,D⟩ | ⟨g,E,F,A,_,B,_⟩
 ·omega
 ·cases A
  obtain⟨c0,c1,c2⟩:=uo es i C;refine⟨g,0,rfl,(XA.1 B).1,?_,?_,?_⟩
  ·have:=h.cells (g:=g) rfl _ _ c0; rwa[XD] at this
  ·have:=h.cells (g:=g) rfl _ _ c1; rwa[XD,<-aP] at this
  ·have:=h.cells (g:=g) rfl _ _ c2; rwa[XD,<-aP] at this
theorem CJ:(prog.info? 56).map (fun i=>(i.zero,i.size,i.bytes))=some (some (.agg #[Yu 0,Yu 0,Ye]),3,32):=Zk
theorem Jh(x:Itm)(d1 d2:Int)(w:World):Qh 112 #[x.val,.agg #[Yu d1,Yu d2]] w (Xz (Yi (eO x.d (d1,d2))) w):=by
 obtain⟨⟨x1,x2⟩,data⟩:=x;have B:=Qf (fun W=>yN x1 x2 d1 d2 W);simp only[Itm.val];generalize eO (x1,x2) (d1,d2)=R at B ⊢;go_enter func112,ntmps112;go_wp2_with fail;have D:=B.o ((w.alloc (.cells #[Yu x1,Yu x2,data] 56)).alloc (.cells #[Yu d1,Yu d2] 54));refine D.mono ?_;clear D B;rintro e w1 ⟨rfl,C⟩;have E:=Qf C.below;clear C;go_wp2;go_ret;exact⟨rfl,((ba w _).alloc Zs _).trans (E.o.mono Zt)⟩
structure At (xs:List Itm) (d:Int×Int) (k:Nat):Prop where
 le:k<=xs.length
 lo:∀j (h:j<xs.length),j<k->eO xs[j].d d<0
 hi:∀j (h:j<xs.length),k<=j->0<=eO xs[j].d d
def qw(xs:List Itm)(d:Int×Int)(k:Nat):Bool:=match xs[k]? with | some x=>decide (x.d=d) | none=>false
def Asc(xs:List Itm):Prop:=∀i j (hi:i<xs.length) (hj:j<xs.length),i<j->eO xs[i].d xs[j].d<0
def GotF(w:World)(xs:List Itm)(d:Int×Int)(e:Ending)(w':World):Prop:=∃k:Nat,e=.returned (.tuple #[Yi k,.bool (qw xs d k)])/\At xs d k/\PM w w'
theorem xB(x y:Int):(yM x y=-1/\x<y)\/(yM x y=0/\x=y)\/(yM x y=1/\y<x):=by
 unfold yM;split
 ·left; exact⟨rfl,‹_›⟩
 ·split
  ·right; right; exact⟨rfl,‹_›⟩
  ·right; left; exact⟨rfl,Zo⟩
theorem bF(a b:Int×Int):(eO a b=-1/\(a.1<b.1\/(a.1=b.1/\a.2<b.2)))\/(eO a b=0/\a.1=b.1/\a.2=b.2)\/(eO a b=1/\(b.1<a.1\/(a.1=b.1/\b.2<a.2))):=by
 unfold eO;rcases xB a.1 b.1 with h | h | h
 ·rw[if_pos (by rw[h.1]; decide)]; left; exact⟨h.1,.inl h.2⟩
 ·rw[if_neg (by rw[h.1]; decide)];rcases xB a.2 b.2 with g | g | g
  ·left; exact⟨g.1,.inr ⟨h.2,g.2⟩⟩
  ·right; left; exact⟨g.1,h.2,g.2⟩
  ·right; right; exact⟨g.1,.inr ⟨h.2,g.2⟩⟩
 ·rw[if_pos (by rw[h.1]; decide)]; right; right; exact⟨h.1,.inl h.2⟩
theorem qA{a b c:Int×Int}(A:eO a b<0)(B:eO b c<0):eO a c<0:=by
 have g1:=bF a b;have g2:=bF b c;have g3:=bF a c;omega
theorem ve{a b c:Int×Int}(A:eO a b<0)(B:0<=eO a c):0<=eO b c:=by
 have g1:=bF a b;have g2:=bF b c;have g3:=bF a c;omega
theorem iZ{a b:Int×Int}:eO a b=- eO b a:=by
 have g1:=bF a b;have g2:=bF b a;omega
def BS(xs:List Itm)(d:Int×Int)(i j:Nat):Prop:=(∀k (h:k<xs.length),k<i->eO xs[k].d d<0)/\∀k (h:k<xs.length),j<=k->0<=eO xs[k].d d
theorem BS.start(xs:List Itm)(d:Int×Int):BS xs d 0 xs.length:=⟨fun k h A=>Zo,fun k h A=>Zo⟩
theorem BS.left{xs:List Itm}(D:BS xs d i j)(C:Asc xs)(E:h<xs.length)(B:eO xs[h].d d<0):BS xs d (h+1) j:=by
 refine⟨fun k F G=>?_,D.2⟩;rcases gB k h with A | A
 ·exact qA (C k h F E A) B
 ·obtain rfl:k=h:=Zo;exact B
theorem BS.right{xs:List Itm}(D:BS xs d i j)(C:Asc xs)(E:h<xs.length)(B:0<=eO xs[h].d d):BS xs d i h:=by
 refine⟨D.1,fun k F G=>?_⟩;rcases gB h k with A | A
 ·exact ve (C h k E F A) B
 ·obtain rfl:k=h:=Zo;exact B
theorem BS.fin{xs:List Itm}(A:BS xs d i i)(B:i<=xs.length):At xs d i:=⟨B,A.1,A.2⟩
theorem Dn(a:Qa)(xs:List Itm)(c:Nat)(d1 d2:Int)(w:World)(hx:Its w w a xs)(ha:Asc xs)(hn:(xs.length:Int)<=140737488355328):
  Qh 111 #[.slice a xs.length c,.agg #[Yu d1,Yu d2],.func (.func 112) #[] #[]] w (GotF w xs (d1,d2)):=by
 obtain⟨HX,HA,HC⟩:=Yk hx ha (fun(x:Itm) W=>Jh x d1 d2 W);obtain⟨n,F⟩:=Qe xs.length;have P:=Qf F;rw[<-F] at hn ⊢;have HS:Qg (BS xs (d1,d2) 0 n):=Qf (F▸BS.start _ _);clear hx ha F;go_enter func111,ntmps111;go_wp2_with fail;obtain⟨u,T⟩:=Qe (w.alloc (.cells #[Yu d1,Yu d2] 54));have U:(u:Nat)=(w:Nat)+1:=Zn T;have HU:Qg (BK w #[Yu d1,Yu d2] 54 u):=Qf (T▸BK.new _ _ _);have J:Qg (PM w u):=Qf (T▸ba w _);have Y:=Qf U;rw[<-T];clear T U;go_loopw [9,10] (fun i j wr=>∃(ki kj:Nat),i=Yi ki/\j=Yi kj/\ki<=kj/\kj<=n/\Qg (BS xs (d1,d2) ki kj)/\Qg (PM u wr)) (fun i j _=>(intOf j).toNat-(intOf i).toNat)
 case atStart=>exact⟨0,n,rfl,rfl,Zo,Zo,HS,Qf (bf _)⟩
 case round=>
  clear HS;obtain⟨ki,kj,rfl,rfl,B4,B5,V,I⟩:=hrel;have G:=I.out.size;have B9:=Y.o;have hX:Its wr wr a xs:=(HX.o.ahead J.o).ahead I.out;have bk:BK w #[Yu d1,Yu d2] 54 wr:=HU.o.below I.out;have c0:wr.cell? w=some (Yu d1):=Zw bk.cell;have c1:wr.cell? ⟨w,1,none⟩=some (Yu d2):=Zw bk.cell;have R:=Qf hX;clear hX bk;by_cases B7:ki<kj
  ·obtain⟨h,hh⟩:=Qe ((ki+kj)/2);have B1:ki<=h:=Zo;have B2:h<kj:=Zo;have E:h<xs.length:=Zh P.o;have S:((ki:Int)+(kj:Int))/2=(h:Int):=Zo;have X:=Qf S;have B3:(h:Int)<(n:Int):=Zh P.o;obtain⟨b0,o0,rfl,Z,q0,q1,q2⟩:=R.o h E;obtain⟨L,M⟩:=Yj (fun K=>V.out.left HA.o E K) (fun K=>V.out.right HA.o E K);generalize xs[h]=it at q0 q1 q2 L M;have B:=Qf (fun d os=>YJ (w:=wr) (d:=d) (os:=os) (HC.o it _));obtain⟨⟨i1,i2⟩,dt⟩:=it;simp only at q0 q1 q2 L M B;generalize eO (i1,i2) (d1,d2)=cv at L M B;have A0:=fun d os=>YG c0 d os
   have A1:=fun d os=>YG c1 d os
   have A2:=fun d os=>YG q0 d os
   have A3:=fun d os=>YG q1 d os
   have A4:=fun d os=>YG q2 d os
   clear S hh;go_upto_region 5 with(fail)
   rw[X.o];refine YH Zk Zk ?_
   repeat (any_goals (first | go_big_quiet_step (with_reducible exact B.o _ _) | quiet_step (with_reducible exact B.o _ _)))
   refine YI ?_;intro w2 C;have D:=Qf (aX C);have A5:=D.o.size;clear C B A0 A1 A2 A3 A4;by_cases K:cv<0
   ·have H:=Qf (L.o K);have dc:decide (cv<0)=true:=Zu K;clear L M;go_wp2;go_roundw
    case rel=>exact⟨h+1,kj,Zg,rfl,Zo,Zo,H,Qf (I.out.trans (D.o.mono G))⟩
    case measure=>exact Yq
   ·have H:=Qf (M.o Zo);have dc:decide (cv<0)=false:=Zu K;clear L M;go_wp2;go_roundw
    case rel=>exact⟨ki,h,rfl,Zg,Zo,Zo,H,Qf (I.out.trans (D.o.mono G))⟩
    case measure=>exact Yq
  ·obtain rfl:ki=kj:=Zo;have O:Qg (At xs (d1,d2) ki):=Qf (V.out.fin (Zh P.o));by_cases B6:ki<n
   ·have E:ki<xs.length:=Zh P.o;have g0:decide ((ki:Int)<(n:Int))=true:=Zt;have g1:decide (ki<n)=true:=Zt;obtain⟨b0,o0,rfl,Z,q0,q1,q2⟩:=R.o ki E;have N:Qg (qw xs (d1,d2) ki=decide (xs[ki].d=(d1,d2))):=Qf (by unfold qw; rw[XH E]);generalize xs[ki]=it at q0 q1 q2 N;have B:=Qf (fun d os=>YJ (w:=wr) (d:=d) (os:=os) (HC.o it _));obtain⟨⟨i1,i2⟩,dt⟩:=it;simp only at q0 q1 q2 B N;have Q:Qg (qw xs (d1,d2) ki=(eO (i1,i2) (d1,d2)==0)):=Qf (by
     rw[N.o];by_cases h:(i1,i2)=(d1,d2)
     ·rw[XI h,lv.2 h]; rfl
     ·rw[XN h];symm;rw[XK];exact fun h2=>h (lv.1 h2))
    generalize eO (i1,i2) (d1,d2)=cv at B Q;have A0:=fun d os=>YG c0 d os
    have A1:=fun d os=>YG c1 d os
    have A2:=fun d os=>YG q0 d os
    have A3:=fun d os=>YG q1 d os
    have A4:=fun d os=>YG q2 d os
    clear N;go_wp2_with fail;refine YH Zk Zk ?_
    repeat (any_goals (first | go_big_quiet_step (with_reducible exact B.o _ _) | quiet_step (with_reducible exact B.o _ _)))
    refine YI ?_;intro w2 C;have D:=Qf (aX C);clear C B A0 A1 A2 A3 A4;go_wp2;go_ret2;refine⟨ki,Zw Q.o,O.o,?_⟩;exact J.o.trans ((I.out.trans (D.o.mono G)).mono Zo)
   ·have g0:decide ((ki:Int)<(n:Int))=false:=Zt;have g1:decide (ki<n)=false:=Zt;have N:Qg (qw xs (d1,d2) ki=false):=Qf (by unfold qw; rw[List.getElem?_eq_none (Zh P.o)]);go_wp2_with fail;refine YH Zk Zk ?_
    repeat (any_goals (first | go_big_quiet_step (fail) | quiet_step (fail)))
    refine YI ?_;intro w2 C;have D:=Qf (aX C);clear C;go_wp2;go_ret2;refine⟨ki,Zw N.o,O.o,?_⟩;exact J.o.trans ((I.out.trans (D.o.mono G)).mono Zo)
theorem yC(a:Qa)(xs:List Itm)(c:Nat)(d1 d2:Int)(w:World)(C:Its w w a xs)(F:Asc xs)(H:(xs.length:Int)<=140737488355328):
  Qh 60 #[.slice a xs.length c,.agg #[Yu d1,Yu d2]] w (GotF w xs (d1,d2)):=by
 have E:=Qf (fun W (J:PM w W)=>Dn a xs c d1 d2 W (C.ahead J) F H);clear C F;generalize xs.length=n at E H ⊢;go_enter func60,ntmps60;go_wp2_with fail;have C:=E.o (w.alloc (.cells #[Yu d1,Yu d2] 54)) (ba w _);refine C.mono ?_;clear C E;rintro e w1 ⟨k,rfl,B,G⟩;obtain⟨D,I⟩:=Yj B G;clear B G;go_wp2;go_ret2;exact⟨k,rfl,D.o,(ba w _).trans (I.o.mono Zs)⟩
def Src(w:World)(A:Qa)(news:List Value):Prop:=news=[]\/∃ad,A=some ad/\∀j u,news[j]? = some u->w.cell? (ad.add j)=some u
theorem mD{P:Program}(w:World)(base:Nat)(t ty e:TypeId)(i:TypeInfo)(z:Value)(size bytes:Nat)(K:P.underlying t=some (.slice e))(J:P.info? e=some i)(S:i.zero=some z)
  (E:i.size=size) (H:i.bytes=bytes) (L:z.cells.size=size) (F:0<size) (v:Value) (n:Nat) (xs:List Value) (B:w.ownsRow base e size v n xs)
  (A:Qa) (m c:Nat) (news:List Value) (M:news.length=m*size) (hs:Src w A news) (N:∀u∈news,u.oneCell'=true) (G:n+m<=maxLen) (C:(n+m)*bytes<=140737488355328) (D:base<=(w:Nat)) :
  ∃v' w',(Builtin.append_ #[t,t] ty #[v,.slice A m c]).run P w=.ok v' w'/\w'.ownsRow base e size v' (n+m) (xs++news)/\w.grownBy w' v.ownBlock/\(v'.ownBlock=v.ownBlock\/v'.ownBlock=some (w:Nat)):=by
 cases A with
 | some ad=>
  obtain⟨v',w',r1,r2,r3,_,r5⟩:=run_append_own_at (P:=P) w base t ty e i z size bytes K J S E H L F v n xs B ad m c news M (by
   rcases hs with rfl | ⟨T,h,I⟩
   ·intro j u R; simp at R
   ·cases h; exact I) N G C D
  exact⟨v',w',r1,r2,r3,r5⟩
 | none=>
  have Q:news=[]:=by
   rcases hs with h | ⟨ad,h,_⟩
   ·exact h
   ·cases h
  subst Q;have O:m=0:=by
   rcases Nat.eq_zero_or_pos m with h | h
   ·exact h
   ·have:=Nat.mul_pos h F;rw[aK] at M;omega
  subst O;refine⟨v,w,?_,Zu B,⟨rfl,rfl,rfl,nr,fun _ _ _=>rfl⟩,.inl rfl⟩;rcases B.2 with⟨rfl,rfl⟩ | ⟨g,U,V,rfl,_,_,I,_⟩
  ·simp[Builtin.append_,run_underlying K,sizeOf,typeInfo,J,Builtin.lenOf,Builtin.firstCells]
  ·simp[Builtin.append_,run_underlying K,sizeOf,typeInfo,J,Builtin.lenOf,Builtin.firstCells,I,storeCells]
theorem Nv{ys:List Itm}(h:Its B W a ys):Src W a (dP ys):=by
 cases D:ys with
 | nil=>exact .inl rfl
 | cons y ys'=>
  rw[<-D];have E:0<ys.length:=Zn D;obtain⟨b,I,rfl,_⟩:=h 0 E;refine .inr ⟨_,rfl,fun j u A=>?_⟩;have F:j<ys.length*3:=by
   have:=(XO.1 A).1
   rwa[oV] at this
  obtain⟨i,r,C,G,rfl⟩:∃i r,i<ys.length/\r<3/\j=i*3+r:=⟨j/3,j%3,Zo,Zo,Zo⟩;obtain⟨b',H,e,_,c0,c1,c2⟩:=h i C;cases e;obtain⟨d0,d1,d2⟩:=uo ys i C;rw[XD];rcases(by omega:r=0\/r=1\/r=2) with rfl | rfl | rfl
  ·rw[show i*3+0=i*3 from rfl,d0] at A; cases A; exact c0
  ·rw[d1] at A; cases A; rw[<-aP]; exact c1
  ·rw[d2] at A; cases A; rw[<-aP]; exact c2
theorem dL(a:Qd):(aW a).length=a.length*2:=by
 induction a with
 | nil=>rfl
 | cons x a ih=>simp[aW] at ih ⊢; omega
theorem Gp(xs:Qd):∀v∈aW xs,v.oneCell'=true:=by
 intro v A;simp only[aW,List.mem_flatMap] at A;obtain⟨x,_,A⟩:=A;simp at A;rcases A with rfl | rfl <;> rfl
theorem LG{ys:Qd}(h:dE B W a ys):Src W a (aW ys):=by
 cases D:ys with
 | nil=>exact .inl rfl
 | cons y ys'=>
  rw[<-D];have E:0<ys.length:=Zn D;obtain⟨b,I,rfl,_⟩:=h 0 E;refine .inr ⟨_,rfl,fun j u A=>?_⟩;have F:j<ys.length*2:=by
   have:=(XO.1 A).1
   rwa[dL] at this
  obtain⟨i,r,C,G,rfl⟩:∃i r,i<ys.length/\r<2/\j=i*2+r:=⟨j/2,j%2,Zo,Zo,Zo⟩;obtain⟨b',H,e,_,c0,c1⟩:=h i C;cases e;obtain⟨d0,d1⟩:=lu ys i C;rw[XD];rcases(by omega:r=0\/r=1) with rfl | rfl
  ·rw[show i*2+0=i*2 from rfl,d0] at A; cases A; exact c0
  ·rw[d1] at A; cases A; rw[<-aP]; exact c1
theorem GH(W:World)(base:Nat)(ty:TypeId)(v:Value)(xs:List Itm)(C:W.ownsRow base 56 3 v xs.length (dP xs))(a:Qa)(ys:List Itm)(c:Nat)(M:Its W W a ys)
  (G:((xs.length+ys.length:Nat):Int)<=1000000000) (B:base<=(W:Nat)) :
  ∃v' W',(Builtin.append_ #[23,23] ty #[v,.slice a ys.length c]).run prog W=.ok v' W'/\W'.ownsRow base 56 3 v' (xs++ys).length (dP (xs++ys))/\W.grownBy W' v.ownBlock/\(v'.ownBlock=v.ownBlock\/v'.ownBlock=some (W:Nat)):=by
 obtain⟨i0,L,D,E,F⟩:=XR CJ;obtain⟨v',W',H,I,J,K⟩:=mD (P:=prog) W base 23 ty 56 i0 _ 3 32 underlying23 L D E F rfl Zd v xs.length (dP xs) C a ys.length c (dP ys) (oV _) (Nv M) (F9 _) Zm Zo B;exact⟨v',W',H,by rw[yu,af]; exact I,J,K⟩
theorem dM(W:World)(base:Nat)(ty:TypeId)(v:Value)(xs:Qd)(C:W.ownsRow base 54 2 v xs.length (aW xs))(a:Qa)(ys:Qd)(c:Nat)(M:dE W W a ys)
  (G:((xs.length+ys.length:Nat):Int)<=1000000000) (B:base<=(W:Nat)) :
  ∃v' W',(Builtin.append_ #[24,24] ty #[v,.slice a ys.length c]).run prog W=.ok v' W'/\W'.ownsRow base 54 2 v' (xs++ys).length (aW (xs++ys))/\W.grownBy W' v.ownBlock/\(v'.ownBlock=v.ownBlock\/v'.ownBlock=some (W:Nat)):=by
 obtain⟨i0,L,D,E,F⟩:=XR ul;obtain⟨v',W',H,I,J,K⟩:=mD (P:=prog) W base 24 ty 54 i0 _ 2 16 underlying24 L D E F rfl Zd v xs.length (aW xs) C a ys.length c (aW ys) (dL _) (LG M) (Gp _) Zm Zo B;exact⟨v',W',H,by rw[gK,af]; exact I,J,K⟩
theorem gM{x y:World}{e:TypeId}(B:PM w x)(E:x.ownsRow base e z v n xs)(C:x.grownBy y v.ownBlock)(A:(w:Nat)<=base):PM w y:=
 B.grown C B.size (fun k D=>Zh ((E.lt k D).1))
theorem I9(n:Nat)(w:World)(M:1<=n)(N:(n:Int)<=1000000000):
  Qh 184 #[(),Yi n] w fun e w'=>∃g Q,e=.returned (.slice (some ⟨g,0,none⟩) 0 Q)/\w'.ownsRow w 56 3 (.slice (some ⟨g,0,none⟩) 0 Q) 0 []/\PM w w':=by
 obtain⟨i0,J,E,I,B⟩:=XR CJ;obtain⟨G,O,L,K,C,D⟩:∃(G:Nat) (O:Array Value),(∀ty,(Builtin.append_ #[23,3] ty #[(),Yi n]).run prog w=.ok (.slice w n G) (w.drew.alloc (.cells O 56)))/\n<=G/\G<=maxLen/\O.size=G*3:=by
  refine⟨grownCap w (0+n) 0 56,([]:List Value).toArray++Builtin.zeroCells (Value.agg #[Yu 0,Yu 0,Ye]).cells n++Builtin.zeroCells (Value.agg #[Yu 0,Yu 0,Ye]).cells (grownCap w (0+n) 0 56-(0+n)),fun ty=>?_,?_,?_,?_⟩
  ·have:=Lib.run_append_grow_zeros (P:=prog) w 23 3 ty 56 i0 _ .i64 .i64 underlying23 underlying3 J E none 0 0 [] (run_firstCells_none w.drew i0.size 0 0 0) n Zo Zo Zo Zo (Zy B) (growslice_fits Zo (Zy B));rw[aZ] at this ⊢;exact this
  ·have:=grownCap_ge w (0+n) 0 56; omega
  ·exact grownCap_le_maxLen w (0+n) 0 56 Zm
  ·have:=grownCap_ge w (0+n) 0 56;generalize grownCap w (0+n) 0 56=G at this ⊢;rw[aZ] at this ⊢;simp only[Array.size_append,size_zeroCells];simp[Value.cells];omega
 obtain⟨F,H⟩:=Yj D C;unfold maxLen at C;clear E I B J D;go_enter func184,ntmps184;go_wp2_with (at_builtin; refine Lib.wpList_append_run _ rfl _ _ _ _ rfl _ _ rfl rfl _ _ (L _) ?_);go_ret;exact⟨_,_,rfl,XW (w:=w.drew) (base:=(w:Nat)) (size:=3) O G nr H.o F.o,(bf w).drew.alloc nr _⟩
structure SlI where
 a:Qa
 xs:List Itm
 c:Nat
def qH(L:List SlI):List Itm:=L.flatMap (·.xs)
theorem JY{L:List SlI}(h:k<L.length):qH (L.take (k+1))=qH (L.take k)++L[k].xs:=by
 unfold qH;rw[ai h,bg];simp
theorem NZ(L:List SlI)(k:Nat):(qH (L.take k)).length<=(qH L).length:=by
 have h:qH L=qH (L.take k)++qH (L.drop k):=by
  unfold qH;rw[<-bg,aQ]
 rw[h,af];omega
structure Sls (B:Nat) (W:World) (bb:Nat) (L:List SlI):Prop where
 blk:bb<B
 cell:∀i (h:i<L.length),W.cell? ⟨bb,i,none⟩=some (.slice L[i].a L[i].xs.length L[i].c)
 its:∀i (h:i<L.length),Its B W L[i].a L[i].xs
theorem Sls.below{bb:Nat}{L:List SlI}(h:Sls B W bb L)(C:Below B W W'):Sls B W' bb L:=
 ⟨h.blk,fun i A=>(C.cell (p:=⟨bb,i,none⟩) h.blk).trans (h.cell i A),fun i A=>(h.its i A).below C nr⟩
def iF(w:World)(pa:Qa)(ps xs:List Itm)(a:Qa)(c:Nat)(w':World):Prop:=
 Its w' w' a xs/\xs.length<=c/\((a=pa/\xs=ps)\/∀ad,a=some ad->(w:Nat)<=ad.block)/\PM w w'
def GotP(w:World)(pa:Qa)(xs:List Itm)(e:Ending)(w':World):Prop:=∃a c,e=.returned (.slice a xs.length c)/\iF w pa [] xs a c w'
theorem Nf{e:TypeId}(h:W.ownsRow base e z (.slice a n c) n xs):∀ad,a=some ad->base<=ad.block:=by
 intro ad A;subst A;exact(h.lt ad.block rfl).1
theorem Dh(bb cc:Nat)(L:List SlI)(w:World)(hL:Sls (w:Nat) w bb L)(C:1<=(qH L).length)(hn:((qH L).length:Int)<=1000000000)(hl:(L.length:Int)<=1000):
  Qh 140 #[.slice bb L.length cc] w (GotP w none (qH L)):=by
 obtain⟨HL,HG,Z,P⟩:=Yl hL (fun W=>I9 (qH L).length W C hn) (fun k (h:k<L.length)=>JY h) (NZ L);obtain⟨T,hT⟩:=Qe ((qH L).length);rw[<-hT] at HG hn;have M:=Qf hT;obtain⟨n,O⟩:=Qe L.length;have Y:=Qf O;rw[<-O] at hl ⊢;clear hL hT O C;go_enter func140,ntmps140;go_wp2;go_loop [3,11] (fun s i=>∃k t:Nat,k<=n/\i=Yi k/\s=Yi t/\t<=T/\Qg (t=(qH (L.take k)).length)) (fun _ i=>n-(intOf i).toNat)
 case atStart=>exact⟨0,0,Zo,rfl,rfl,Zo,Qf rfl⟩
 case round=>
  obtain⟨k,t,hk,rfl,rfl,ht,X⟩:=hrel;by_cases U:k<n
  ·have C:k<L.length:=Zh Y.o;have c0:=HL.o.cell k C;have E:t+L[k].xs.length<=T:=by
    have a1:=P.o (k+1);have a2:=Z.o k C;rw[a2,af,<-X.out,<-M.o] at a1;exact a1
   have G:Qg (t+L[k].xs.length=(qH (L.take (k+1))).length):=Qf (by rw[Z.o k C,af,<-X.out]);generalize L[k]=S at c0 E G;obtain⟨sa,sx,sc⟩:=S;simp only at c0 E G;generalize sx.length=m at c0 E G;go_wp2;go_round
   case rel=>exact⟨k+1,t+m,Zo,Zg,Zg,Zo,G⟩
   case measure=>exact Yq
  ·obtain rfl:n=k:=Zo;obtain rfl:T=t:=by rw[X.out,M.o,ag (Zh Y.o)]
   clear X U hk ht;go_wp2_with fail;have hx:=HG.o w;refine hx.mono ?_;clear hx HG;rintro e w1 ⟨g,A1,rfl,I,hb⟩;obtain⟨H,K⟩:=Yj I hb;clear I hb;go_wp2;go_loopw [6,27] (fun v i wr=>∃(k:Nat),k<=n/\i=Yi k/\Qg (wr.ownsRow w 56 3 v (qH (L.take k)).length (dP (qH (L.take k))))/\Qg (PM w wr)) (fun _ i _=>n-(intOf i).toNat)
   case atStart=>exact⟨0,Zo,rfl,H,K⟩
   case round=>
    clear H K;obtain⟨k,hk,rfl,H,K⟩:=hrel;have V:=K.o.size;by_cases U:k<n
    ·have C:k<L.length:=Zh Y.o;have N:=HL.o.below K.o;have c0:=N.cell k C;have E:(qH (L.take k)).length+L[k].xs.length<=T:=by
      have a1:=P.o (k+1);have a2:=Z.o k C;rw[a2,af,<-M.o] at a1;exact a1
     obtain⟨av,cv,rfl,D⟩:=aB H.o;obtain⟨v',W',J,F,R,Q⟩:=GH wr (w:Nat) 23 _ _ H.o L[k].a L[k].xs L[k].c ((N.its k C).mono V) Zo V;have A2:Qg (W'.ownsRow w 56 3 v' (qH (L.take (k+1))).length (dP (qH (L.take (k+1))))):=Qf (by rw[Z.o k C]; exact F);have A0:Qg (PM w W'):=Qf (gM K.o H.o R nr);have B:=Qf J;clear J F R Q N E;generalize L[k]=S at c0 B;obtain⟨sa,sx,sc⟩:=S;simp only at c0 B;go_wp2_with (at_builtin; refine Lib.wpList_append_run _ rfl _ _ _ _ rfl _ _ rfl rfl _ _ B.o ?_);go_roundw
     case rel=>exact⟨k+1,Zo,Zg,A2,A0⟩
     case measure=>exact Yq
    ·obtain⟨av,cv,rfl,D⟩:=aB H.o;have hf:qH (L.take k)=qH L:=by rw[ag (Zh Y.o)]
     have HF:Qg (iF w none [] (qH L) av cv wr):=Qf (by
      have h:=H.o;rw[hf] at h D;exact⟨Ct h,D,.inr (Nf h),K.o⟩)
     rw[hf];clear hf H;go_wp2;go_ret;exact⟨av,cv,rfl,HF.o⟩
theorem DI(W:World):(sizeOf (prog.elem 23)).run prog W=.ok 3 W:=by
 obtain⟨i,B,_,C,_⟩:=XR CJ;rw[show prog.elem 23=56 by kernel_rfl];simp[sizeOf,typeInfo,B,C]
theorem Its.add0{ds:List Itm}(h:Its B W a ds):Its B W (a.map (·.add (0*3))) ds:=by
 intro i D;obtain⟨b,E,rfl,A,C⟩:=h i D;exact⟨b,E,by simp[XD],A,C⟩
theorem Its.drop{ds:List Itm}(h:Its B W a ds)(k:Nat):Its B W (a.map (·.add (k*3))) (ds.drop k):=by
 intro i G;have A:k+i<ds.length:=by simp at G; omega
 obtain⟨b,H,rfl,C,D,E,F⟩:=h (k+i) A;refine⟨b,H+k*3,by simp[XD],C,?_⟩;rw[eF];rw[show H+k*3+i*3=H+(k+i)*3 by omega];exact⟨D,E,F⟩
theorem IQ(a:Qa)(n c f:Nat)(h:f<=c):∃(A1:Qa) (c1:Nat),(∀B W ds,Its B W a ds->Its B W A1 (ds.take f))/\∀W,(Instr.slice 23 (.slice a n c) none (some (Yi f)) none).run prog W=.ok (.slice A1 f c1) W:=by
 refine⟨if c=0 then a else a.map (·.add (0*3)),c,fun B W ps C=>?_,fun W=>?_⟩
 ·split
  ·exact C.take f
  ·exact(C.take f).add0
 ·rw[run_slice_h (P:=prog) W 23 a n c Zk .i64 f Zo Zo,DI];simp[sliced,Result.andThen]
theorem IP(a:Qa)(n c f m:Nat)(h:f<=n)(E:n<=c)(C:m=n-f):∃(A1:Qa) (c1:Nat),(∀B W (ds:List Itm),ds.length=n->Its B W a ds->Its B W A1 (ds.drop f))/\∀W,(Instr.slice 23 (.slice a n c) (some (Yi f)) none none).run prog W=.ok (.slice A1 m c1) W:=by
 refine⟨if c=f then a else a.map (·.add (f*3)),c-f,fun B W ps F D=>?_,fun W=>?_⟩
 ·split
  ·rw[dV Zo]; exact Its.nil _ _ _
  ·exact D.drop f
 ·rw[run_slice_l (P:=prog) W 23 a n c Zk .i64 f Zo Zo,DI];subst C;simp[sliced,Result.andThen]
def D5(xs:List Itm)(d:Int×Int):Nat:=(xs.takeWhile fun y=>decide (eO y.d d<0)).length
theorem At.eq:∀{xs:List Itm} {d:Int×Int} {k:Nat},At xs d k->k=D5 xs d
 | [],d,k,h=>by have:=h.le; simp at this; subst this; rfl
 | x::xs,d,k,h=>by
  unfold D5;cases k with
  | zero=>
   have:=h.hi 0 Zs Zo;simp only[aS] at this;rw[List.takeWhile_cons_of_neg Zt];rfl
  | succ k=>
   have A:=h.lo 0 Zs Zo;simp only[aS] at A;rw[List.takeWhile_cons_of_pos (Zu A),az];have:At xs d k:=⟨by have:=h.le; simp at this; omega,fun j B D=>by
    have:=h.lo (j+1) Zt Zo;simpa using this,fun j B C=>by
    have:=h.hi (j+1) Zt Zo;simpa using this⟩
   rw[this.eq];rfl
def Ag(xs:List Itm)(x:Itm):List Itm×Int:=
 match xs[D5 xs x.d]? with
 | some y=>if y.d=x.d then(if y.data=x.data then(xs,0) else([],16)) else(xs.take (D5 xs x.d)++(x::xs.drop (D5 xs x.d)),0)
 | none=>(xs.take (D5 xs x.d)++(x::xs.drop (D5 xs x.d)),0)
theorem Af{xs:List Itm}{x:Itm}(h:At xs x.d k)(A:qw xs x.d k=false):Ag xs x=(xs.take k++(x::xs.drop k),0):=by
 unfold Ag;rw[<-h.eq];unfold qw at A;split
 ·rename_i y B;rw[B] at A;simp only at A;rw[if_neg (Zu A)]
 ·rfl
theorem Ei{xs:List Itm}{x:Itm}(h:At xs x.d k)(A:qw xs x.d k=true):∃C:k<xs.length,xs[k].d=x.d/\Ag xs x=if xs[k].data=x.data then(xs,0) else([],16):=by
 unfold qw at A;cases B:xs[k]? with
 | none=>rw[B] at A; cases A
 | some y=>
  rw[B] at A;simp only[XJ] at A;obtain⟨C,rfl⟩:=XO.1 B;refine⟨C,A,?_⟩;unfold Ag;rw[<-h.eq,B];simp only;rw[if_pos A]
def J7(w:World)(pa:Qa)(ps:List Itm)(r:List Itm×Int)(e:Ending)(w':World):Prop:=∃a c,e=.returned (.tuple #[.slice a r.1.length c,Yi r.2])/\iF w pa ps r.1 a c w'
theorem wY(a:Qa)(xs:List Itm)(c:Nat)(x:Itm)(w:World)(S:Its w w a xs)(ha:Asc xs)(hc:xs.length<=c)(hn:(xs.length:Int)<=100000000):
  Qh 81 #[.slice a xs.length c,x.val] w (J7 w a xs (Ag xs x)):=by
 obtain⟨⟨x1,x2⟩,dt⟩:=x;simp only[Itm.val];have HF:=Qf (fun W (hW:PM w W)=>yC a xs c x1 x2 W (S.ahead hW) ha Zo);obtain⟨n,M⟩:=Qe xs.length;have I:=Qf M;rw[<-M] at HF hn hc ⊢;have HX:=Qf S;clear M S ha;go_enter func81,ntmps81;go_wp2_with fail;have S:=HF.o (w.alloc (.cells #[Yu x1,Yu x2,dt] 56)) (ba w _);refine S.mono ?_;clear S HF;rintro e u ⟨k,rfl,L,hb⟩;have V:=Qf L;have B8:k<=n:=by have:=L.le; have:=I.o; omega
 have F:Qg (BK w #[Yu x1,Yu x2,dt] 56 u):=Qf ((BK.new _ _ _).below hb);have O:Qg (PM w u):=Qf ((ba w _).trans (hb.mono Zs));have D6:(w:Nat)+1<=(u:Nat):=Zu hb.size;have b0:u.cell? w=some (Yu x1):=Zw F.o.cell;have b1:u.cell? ⟨w,1,none⟩=some (Yu x2):=Zw F.o.cell;have b2:u.cell? ⟨w,2,none⟩=some (.string ⟨dt.toArray⟩):=Zw F.o.cell;clear L hb;cases hh:qw xs (x1,x2) k with
 | false=>
  have P:=Qf (Af (x:=⟨(x1,x2),dt⟩) V.o hh);clear hh;obtain⟨A1,c1,A0,D4⟩:=IQ a n c k Zo;obtain⟨m,hm⟩:=Qe (n-k);obtain⟨A2,c2,A3,D5⟩:=IP a n c k m B8 hc hm;obtain⟨T,U,HM⟩:=Yk A0 A3 hm;clear A0 A3 hm;have X:Qg (∀(W:World) (bb cc nb:Nat),PM u W->bb<(W:Nat)->nb<(W:Nat)->W.cell? nb=some (Yu x1)->W.cell? ⟨nb,1,none⟩=some (Yu x2)->W.cell? ⟨nb,2,none⟩=some (.string ⟨dt.toArray⟩)->
    W.cell? bb=some (.slice A1 k c1)->W.cell? ⟨bb,1,none⟩=some (.slice nb 1 1)->W.cell? ⟨bb,2,none⟩=some (.slice A2 m c2)->
    Qh 140 #[.slice bb 3 cc] W (GotP W none (xs.take k++(⟨(x1,x2),dt⟩::xs.drop k)))):=Qf (by
   intro W bb cc nb hW B5 C0 n0 n1 n2 p0 p1 p2;have A4:Its W W a xs:=(HX.o.ahead O.o).ahead hW;have A5:(xs.take k).length=k:=by rw[aA]; have:=I.o; omega
   have A6:(xs.drop k).length=m:=by rw[ah]; have:=I.o; have:=HM.o; omega
   have:=Dh bb cc [⟨A1,xs.take k,c1⟩,⟨some ⟨nb,0,none⟩,[⟨(x1,x2),dt⟩],1⟩,⟨A2,xs.drop k,c2⟩] W ⟨B5,fun i hi=>?_,fun i hi=>?_⟩ (by simp[qH]; omega) (by
    simp only[qH,bR,List.flatMap_nil,bG,af,az,aK,A5,A6];have:=HM.o
    omega) Zs
   ·simpa[qH] using this
   ·rcases(by simp at hi; omega:i=0\/i=1\/i=2) with rfl | rfl | rfl
    ·simp only[aS,A5]; exact p0
    ·exact p1
    ·simp only[bK,aS,A6]; exact p2
   ·rcases(by simp at hi; omega:i=0\/i=1\/i=2) with rfl | rfl | rfl
    ·exact T.o _ _ _ A4
    ·intro j hj;simp only[bK,aS,az,aK] at hj ⊢;obtain rfl:j=0:=Zo;refine⟨nb,0,rfl,C0,?_,?_,?_⟩ <;> simp
     ·exact n0
     ·exact n1
     ·exact n2
    ·exact U.o _ _ _ I.o.symm A4)
  have C9:(0:Int)<=(k:Int):=Zo;have D0:(k:Int)<=(n:Int):=Zo;have D1:(k:Int)<=(c:Int):=Zo;obtain⟨W0,B⟩:=Qe (((u.alloc (.cells #[Yu x1,Yu x2,dt] 56)).alloc (.cells #[.slice A1 k c1,.slice u 1 1,.slice A2 m c2] 23)).drew);have C:Qg (PM u W0):=Qf (B▸((ba u _).alloc (by simp) _).drew);have D:Qg (BK u #[Yu x1,Yu x2,dt] 56 W0):=Qf (B▸(BK.new u _ _).alloc _);have E:Qg (BK ((u:Nat)+1) #[.slice A1 k c1,.slice u 1 1,.slice A2 m c2] 23 W0):=Qf (B▸BK.new2 u _ _ _);have G:=Qf (X.o W0 ((u:Nat)+1) 3 (u:Nat) C.o E.o.lt D.o.lt (Zw D.o.cell) (Zw D.o.cell) (Zw D.o.cell) (Zw E.o.cell) (Zw E.o.cell) (Zw E.o.cell));have H:Qg (∀w4,PM W0 w4->w4.cell? w=some (Yu x1)/\w4.cell? ⟨w,1,none⟩=some (Yu x2)/\w4.cell? ⟨w,2,none⟩=some (.string ⟨dt.toArray⟩)):=Qf (fun w4 h4=>by
   have h5:=(F.o.below C.o).below h4;exact⟨Zw h5.cell,Zw h5.cell,Zw h5.cell⟩)
  have J:Qg (∀(a':Qa) (c':Nat) w4,iF W0 none [] (xs.take k++(⟨(x1,x2),dt⟩::xs.drop k)) a' c' w4->iF w a xs (xs.take k++(⟨(x1,x2),dt⟩::xs.drop k)) a' c' w4):=Qf (fun a' c' w4 h=>by
   have hs:=C.o.size;refine⟨h.1,h.2.1,.inr ?_,O.o.trans ((C.o.trans (h.2.2.2.mono hs)).mono Zo)⟩;rcases h.2.2.1 with h1 | h1
   ·rw[h1.1]; intro ad K; cases K
   ·intro ad K; have:=h1 ad K; omega)
  rw[B] at G H;generalize xs.take k++(⟨(x1,x2),dt⟩::xs.drop k)=R at G J P;have B0:=Qf B;clear X B D E C T U;go_wp2_with fail;go_region_held3 (fun w'=>w'.cell? w=some (Yu x1)/\w'.cell? ⟨w,1,none⟩=some (Yu x2)/\w'.cell? ⟨w,2,none⟩=some (.string ⟨dt.toArray⟩)) (go_keep)
   (((with_reducible refine G.o.mono ?_); rintro e w4 ⟨ra,rc,rfl,N⟩; obtain⟨k0,k1,k2⟩:=H.o _ N.2.2.2; have Y:=Qf N; clear N))
  all_goals
   have Z:=Qf (J.o ra rc w4 (B0.o▸Y.o));clear Y J H G;go_wp2;go_ret2;rw[P.o];exact⟨ra,rc,rfl,Z.o⟩
 | true=>
  obtain⟨hk,C1,Q⟩:=Ei (x:=⟨(x1,x2),dt⟩) V.o hh;obtain⟨p0,o0,rfl,D3,q0,q1,q2⟩:=(HX.o.ahead O.o) k hk;clear hh C1;have C5:(k:Int)<(n:Int):=Zh I.o;generalize xs[k]=y at Q q0 q1 q2;obtain⟨⟨y1,y2⟩,yd⟩:=y;simp only at Q q0 q1 q2;cases he:(yd==dt) with
  | true=>
   have P:Qg (Ag xs ⟨(x1,x2),dt⟩=(xs,0)):=Qf (by rw[Q,if_pos (Zu he)]);clear Q;go_wp2_with fail;go_quiet (fail);go_wp2;go_ret2;rw[P.o];refine⟨_,c,by rw[<-I.o]; rfl,HX.o.ahead ?_,I.o▸hc,.inl ⟨rfl,rfl⟩,?_⟩
   ·exact below_drewN O.o _
   ·exact below_drewN O.o _
  | false=>
   have P:Qg (Ag xs ⟨(x1,x2),dt⟩=([],16)):=Qf (by rw[Q,if_neg (Zu he)]);clear Q;go_wp2_with fail;go_quiet (fail);go_wp2;go_ret2;rw[P.o];exact⟨none,0,rfl,Its.nil _ _ _,nr,.inr (fun ad h=>by cases h),below_drewN O.o _⟩
def I7(xs:List Itm)(d:Int×Int):Bool:=qw xs d (D5 xs d)
def dW(xs:List Itm)(d:Int×Int):Ob×Int:=
 match xs[D5 xs d]? with
 | some y=>if y.d=d then bI y.data else(obZ,8)
 | none=>(obZ,8)
theorem Ao{xs:List Itm}(h:At xs d k)(A:qw xs d k=false):dW xs d=(obZ,8):=by
 unfold dW;rw[<-h.eq];unfold qw at A;split
 ·rename_i y B;rw[B] at A;simp only at A;rw[if_neg (Zu A)]
 ·rfl
theorem yz{xs:List Itm}(h:At xs d k)(A:qw xs d k=true):∃C:k<xs.length,xs[k].d=d/\dW xs d=bI xs[k].data:=by
 unfold qw at A;cases B:xs[k]? with
 | none=>rw[B] at A; cases A
 | some y=>
  rw[B] at A;simp only[XJ] at A;obtain⟨C,rfl⟩:=XO.1 B;refine⟨C,A,?_⟩;unfold dW;rw[<-h.eq,B];simp only;rw[if_pos A]
structure jQ (w:World) (a:Qa) (xs:List Itm) (c:Nat):Prop where
 its:Its w w a xs
 cap:xs.length<=c
 len:(xs.length:Int)<=100000000
 dat:∀x∈xs,(x.data.length:Int)<=140737488355328
theorem jQ.below{xs:List Itm}(h:jQ w a xs c)(A:PM w W):jQ W a xs c:=⟨h.its.ahead A,h.cap,h.len,h.dat⟩
theorem I6(a:Qa)(xs:List Itm)(c:Nat)(d1 d2:Int)(w:World)(F:jQ w a xs c)(H:Asc xs):
  Qh 28 #[.slice a xs.length c,.agg #[Yu d1,Yu d2]] w (Xz (.bool (I7 xs (d1,d2))) w):=by
 have D:=Qf (fun W (L:PM w W)=>yC a xs c d1 d2 W (F.below L).its H (Zh F.len));obtain⟨R,E⟩:=Qe (I7 xs (d1,d2));rw[<-E];have G:=Qf E;generalize xs.length=n at D ⊢;clear F H E;go_enter func28,ntmps28;go_wp2_with fail;have J:=D.o (w.alloc (.cells #[Yu d1,Yu d2] 54)) (ba w _);refine J.mono ?_;clear J D;rintro e u ⟨k,rfl,C,I⟩;have B:Qg (R=qw xs (d1,d2) k):=Qf (by rw[G.o,I7,<-C.eq]);have K:=Qf I;clear C I G;generalize qw xs (d1,d2) k=hv at B ⊢;go_wp2;go_ret;exact⟨Zw B.o,(ba w _).trans (K.o.mono Zs)⟩
theorem yw(a:Qa)(xs:List Itm)(c:Nat)(d1 d2:Int)(w:World)(Q:jQ w a xs c)(Z:Asc xs):
  Qh 27 #[.slice a xs.length c,.agg #[Yu d1,Yu d2]] w (Kq w (dW xs (d1,d2)).1 (dW xs (d1,d2)).2):=by
 have F:=Qf (fun W (hW:PM w W)=>yC a xs c d1 d2 W (Q.below hW).its Z (Zh Q.len));obtain⟨n,I⟩:=Qe xs.length;have X:=Qf I;rw[<-I] at F ⊢;have Y:=Qf Q;clear I Q Z;go_enter func27,ntmps27;go_wp2_with fail;have M:=F.o ((w.alloc (.cells #[Yu d1,Yu d2] 54)).alloc (.cells #[Yi 0,Ye,(),Yu 0,Yu 0,(),Ye,Yi 0,Ye] 59)) ((ba w _).alloc Zs _);refine M.mono ?_;clear M F;rintro e u ⟨k,rfl,G,E⟩;have J:=Qf G;have A5:k<=n:=by have:=G.le; have:=X.o; omega
 have C:Qg (BK ((w:Nat)+1) #[Yi 0,Ye,(),Yu 0,Yu 0,(),Ye,Yi 0,Ye] 59 u):=Qf ((BK.new2 _ _ _ _).below E);have R:Qg (PM w u):=Qf (((ba w _).alloc Zs _).trans (E.mono Zt));have A7:(w:Nat)+2<=(u:Nat):=Zu E.size;clear G E;cases P:qw xs (d1,d2) k with
 | false=>
  have K:=Qf (Ao J.o P);clear P;have r0:u.cell? ⟨(w:Nat)+1,0,none⟩=some (Yi 0):=Zw C.o.cell;have g0:u.frozen? ⟨(w:Nat)+1,0,none⟩=false:=C.o.frozen 0;have r1:u.cell? ⟨(w:Nat)+1,1,none⟩=some (.string ⟨#[]⟩):=Zw C.o.cell;have g1:u.frozen? ⟨(w:Nat)+1,1,none⟩=false:=C.o.frozen 1;have r2:u.cell? ⟨(w:Nat)+1,2,none⟩=some (.slice none 0 0):=Zw C.o.cell;have g2:u.frozen? ⟨(w:Nat)+1,2,none⟩=false:=C.o.frozen 2;have r3:u.cell? ⟨(w:Nat)+1,3,none⟩=some (Yu 0):=Zw C.o.cell;have g3:u.frozen? ⟨(w:Nat)+1,3,none⟩=false:=C.o.frozen 3;have r4:u.cell? ⟨(w:Nat)+1,4,none⟩=some (Yu 0):=Zw C.o.cell;have g4:u.frozen? ⟨(w:Nat)+1,4,none⟩=false:=C.o.frozen 4;have r5:u.cell? ⟨(w:Nat)+1,5,none⟩=some (.slice none 0 0):=Zw C.o.cell;have g5:u.frozen? ⟨(w:Nat)+1,5,none⟩=false:=C.o.frozen 5;have r6:u.cell? ⟨(w:Nat)+1,6,none⟩=some (.string ⟨#[]⟩):=Zw C.o.cell;have g6:u.frozen? ⟨(w:Nat)+1,6,none⟩=false:=C.o.frozen 6;have r7:u.cell? ⟨(w:Nat)+1,7,none⟩=some (Yi 0):=Zw C.o.cell;have g7:u.frozen? ⟨(w:Nat)+1,7,none⟩=false:=C.o.frozen 7;have r8:u.cell? ⟨(w:Nat)+1,8,none⟩=some (.string ⟨#[]⟩):=Zw C.o.cell;have g8:u.frozen? ⟨(w:Nat)+1,8,none⟩=false:=C.o.frozen 8;go_wp2;refine XB (v:=.tuple #[obZ.val none 0 none 0,Yi 8]) (by simp[results,results27,go_sem,obZ,r0,r1,r2,r3,r4,r5,r6,r7,r8]) rfl ?_;rw[K.o];exact⟨none,0,none,0,rfl,dZ.zero _ _,((((((((R.o.setCell Zs _).setCell Zs _).setCell Zs _).setCell Zs _).setCell Zs _).setCell Zs _).setCell Zs _).setCell Zs _).setCell Zs _⟩
 | true=>
  obtain⟨hk,V,O⟩:=yz J.o P;obtain⟨p0,o0,rfl,A6,q0,q1,q2⟩:=(Y.o.its.ahead R.o) k hk;have H:=Y.o.dat _ (ak hk);clear P V;have A1:(k:Int)<(n:Int):=Zh X.o;generalize xs[k]=y at O q0 q1 q2 H;obtain⟨⟨y1,y2⟩,yd⟩:=y;simp only at O q0 q1 q2 H;obtain⟨N,K⟩:=Yj (fun W=>mf yd W H) O;clear O;generalize bI yd=D at N K;obtain⟨o,er⟩:=D;simp only at N K;go_wp2_with fail;have M:=N.o u;refine M.mono ?_;clear M N;rintro e v ⟨ea,ec,pa,pc,rfl,L,E⟩;obtain⟨T,S,B⟩:=Yk L E (C.o.below E);have A8:=E.size;clear L E q0 q1 q2;obtain⟨A3,data,A2,⟨t1,t2⟩,A4,A0,A9,B0⟩:=o;have F:Qg (∀(W:World),v.grownBy W (some ((w:Nat)+1))->PM w W->Kq w (dW xs (d1,d2)).1 (dW xs (d1,d2)).2 (.returned (.tuple #[.agg #[Yi A3,data,.slice ea A2.length ec,Yu t1,Yu t2,.slice pa A4.length pc,A0,Yi A9,B0],Yi er])) W):=Qf (fun W h1 h2=>by
   rw[K.o];exact⟨ea,ec,pa,pc,rfl,(T.o.kept h1 Zo).le Zo,h2⟩)
  simp only[Ob.val];generalize A2.length=ne at F ⊢;generalize A4.length=np at F ⊢;have r0:v.cell? ⟨(w:Nat)+1,0,none⟩=some (Yi 0):=Zw B.o.cell;have g0:v.frozen? ⟨(w:Nat)+1,0,none⟩=false:=B.o.frozen 0;have r1:v.cell? ⟨(w:Nat)+1,1,none⟩=some (.string ⟨#[]⟩):=Zw B.o.cell;have g1:v.frozen? ⟨(w:Nat)+1,1,none⟩=false:=B.o.frozen 1;have r2:v.cell? ⟨(w:Nat)+1,2,none⟩=some (.slice none 0 0):=Zw B.o.cell;have g2:v.frozen? ⟨(w:Nat)+1,2,none⟩=false:=B.o.frozen 2;have r3:v.cell? ⟨(w:Nat)+1,3,none⟩=some (Yu 0):=Zw B.o.cell;have g3:v.frozen? ⟨(w:Nat)+1,3,none⟩=false:=B.o.frozen 3;have r4:v.cell? ⟨(w:Nat)+1,4,none⟩=some (Yu 0):=Zw B.o.cell;have g4:v.frozen? ⟨(w:Nat)+1,4,none⟩=false:=B.o.frozen 4;have r5:v.cell? ⟨(w:Nat)+1,5,none⟩=some (.slice none 0 0):=Zw B.o.cell;have g5:v.frozen? ⟨(w:Nat)+1,5,none⟩=false:=B.o.frozen 5;have r6:v.cell? ⟨(w:Nat)+1,6,none⟩=some (.string ⟨#[]⟩):=Zw B.o.cell;have g6:v.frozen? ⟨(w:Nat)+1,6,none⟩=false:=B.o.frozen 6;have r7:v.cell? ⟨(w:Nat)+1,7,none⟩=some (Yi 0):=Zw B.o.cell;have g7:v.frozen? ⟨(w:Nat)+1,7,none⟩=false:=B.o.frozen 7;have r8:v.cell? ⟨(w:Nat)+1,8,none⟩=some (.string ⟨#[]⟩):=Zw B.o.cell;have g8:v.frozen? ⟨(w:Nat)+1,8,none⟩=false:=B.o.frozen 8;go_wp2;refine XB (v:=.tuple #[.agg #[Yi A3,data,.slice ea ne ec,Yu t1,Yu t2,.slice pa np pc,A0,Yi A9,B0],Yi er]) (by simp[results,results27,go_sem,r0,r1,r2,r3,r4,r5,r6,r7,r8]) rfl ?_;refine F.o _ ?_ ?_
  ·exact(fM (fM (fM (fM (fM (fM (fM (fM (dN _ _ _ _) _ _) _ _) _ _) _ _) _ _) _ _) _ _) _ _)
  ·have U:PM w v:=R.o.trans (S.o.mono Zo);exact((((((((U.setCell Zs _).setCell Zs _).setCell Zs _).setCell Zs _).setCell Zs _).setCell Zs _).setCell Zs _).setCell Zs _).setCell Zs _
def vg(x:Itm):Int:=if(bI x.data).2≠0 then 13 else if iY x.data≠x.d then 15 else 0
theorem pG(x:Itm)(w:World)(H:(x.data.length:Int)<=140737488355328):
  Qh 58 #[x.val] w (Xz (Yi (vg x)) w):=by
 obtain⟨O,F⟩:=Yj (fun W=>mf x.data W H) (fun W=>qV x.data W H);obtain⟨R,C⟩:=Qe (vg x);rw[<-C];unfold vg at C;generalize bI x.data=D at O C;generalize iY x.data=dg at F C;obtain⟨o,er⟩:=D;obtain⟨g1,g2⟩:=dg;obtain⟨⟨x1,x2⟩,dt⟩:=x;simp only at O F C;simp only[Itm.val];clear H;by_cases T:er=0
 ·subst T;rw[if_neg Zs] at C;have P:=Qf C;clear C;go_enter func58,ntmps58;go_wp2_with fail;have H:=O.o (w.alloc (.cells #[Yu x1,Yu x2,dt] 56));refine H.mono ?_;clear H O;rintro e u ⟨ea,ec,pa,pc,rfl,M,I⟩;have V:Qg (BK w #[Yu x1,Yu x2,dt] 56 u):=Qf ((BK.new _ _ _).below I);have U:Qg (PM w u):=Qf ((ba w _).trans (I.mono Zs));have Y:(w:Nat)+1<=(u:Nat):=Zu I.size;clear M I;obtain⟨A4,data,A2,⟨t1,t2⟩,A3,A1,A5,A6⟩:=o;simp only[Ob.val];generalize A2.length=ne;generalize A3.length=np;obtain⟨u2,G⟩:=Qe (u.alloc (.cells #[Yi A4,data,.slice ea ne ec,Yu t1,Yu t2,.slice pa np pc,A1,Yi A5,A6] 59));have B:Qg (BK w #[Yu x1,Yu x2,dt] 56 u2):=Qf (G▸V.o.alloc _);have K:Qg (PM w u2):=Qf (G▸U.o.alloc (by omega) _);have S:(w:Nat)<=(u2:Nat):=K.o.size;have b0:u2.cell? w=some (Yu x1):=Zw B.o.cell;have b1:u2.cell? ⟨w,1,none⟩=some (Yu x2):=Zw B.o.cell;have b2:u2.cell? ⟨w,2,none⟩=some (.string ⟨dt.toArray⟩):=Zw B.o.cell;have c0:=fun d os=>YG b0 d os
  have c1:=fun d os=>YG b1 d os
  have c2:=fun d os=>YG b2 d os
  have Q:=Qf G;clear G;have N:=Qf (fun d os=>YJ (w:=u2) (d:=d) (os:=os) (F.o _));have Z:=fun W=>nI g1 g2 x1 x2 W
  cases J:(g1==x1&&g2==x2) with
  | true=>
   rw[J] at Z;have X:Qg (R=0):=Qf (by
    simp only[XF,XS] at J;rw[P.o,if_neg];simp[J.1,J.2])
   clear J P;go_wp2_with fail;rw[<-Q.o];refine YH Zk Zk ?_
   repeat (any_goals (first | go_big_quiet_step (with_reducible exact N.o _ _) | quiet_step (with_reducible exact N.o _ _)))
   refine YI ?_;intro w2 E;have L:=Qf (aX E);clear E N c0 c1 c2;go_wp2;go_ret;exact⟨Zw X.o,K.o.trans (L.o.mono S)⟩
  | false=>
   rw[J] at Z;have X:Qg (R=15):=Qf (by
    rw[P.o,if_pos];intro h;simp only[XC] at h;simp[h.1,h.2] at J)
   clear J P;go_wp2_with fail;rw[<-Q.o];refine YH Zk Zk ?_
   repeat (any_goals (first | go_big_quiet_step (with_reducible exact N.o _ _) | quiet_step (with_reducible exact N.o _ _)))
   refine YI ?_;intro w2 E;have L:=Qf (aX E);clear E N c0 c1 c2;go_wp2;go_ret;exact⟨Zw X.o,K.o.trans (L.o.mono S)⟩
 ·rw[if_pos T] at C;have P:=Qf C;have A0:(er !=0)=true:=Zu T;clear C T F;go_enter func58,ntmps58;go_wp2_with fail;have H:=O.o (w.alloc (.cells #[Yu x1,Yu x2,dt] 56));refine H.mono ?_;clear H O;rintro e u ⟨ea,ec,pa,pc,rfl,M,I⟩;have U:Qg (PM w u):=Qf ((ba w _).trans (I.mono Zs));have Y:(w:Nat)+1<=(u:Nat):=Zu I.size;clear M I;obtain⟨A4,data,A2,⟨t1,t2⟩,A3,A1,A5,A6⟩:=o;simp only[Ob.val];generalize A2.length=ne;generalize A3.length=np;go_wp2;go_ret;exact⟨Zw P.o,U.o.alloc Zo _⟩
def WX(xs:List Itm)(o:Ob):List Itm×(Int×Int)×Int:=
 if(aR o).2≠0 then([],(0,0),(aR o).2)
 else if(Ag xs ⟨iY (aR o).1,(aR o).1⟩).2≠0 then([],(0,0),(Ag xs ⟨iY (aR o).1,(aR o).1⟩).2)
 else((Ag xs ⟨iY (aR o).1,(aR o).1⟩).1,iY (aR o).1,0)
def MK(w:World)(pa:Qa)(ps:List Itm)(r:List Itm×(Int×Int)×Int)(e:Ending)(w':World):Prop:=∃a c,e=.returned (.tuple #[.slice a r.1.length c,.agg #[Yu r.2.1.1,Yu r.2.1.2],Yi r.2.2])/\iF w pa ps r.1 a c w'
theorem iF.none(pa:Qa)(ps:List Itm)(h:PM w w'):iF w pa ps [] Option.none 0 w':=⟨Its.nil _ _ _,nr,.inr (fun ad h=>by cases h),h⟩
theorem CX(o:Ob):(aR o).1.length<=65536:=by
 unfold aR;split
 ·simp
 ·split
  ·simp
  ·simp only; omega
theorem Its.set{xs:List Itm}(h:Its B W a xs)(H:∀ad,a=some ad->0<xs.length->ad.block≠c)(j:Nat)(v:Value):Its B (W.setCell ⟨c,j,none⟩ v) a xs:=by
 intro i I;obtain⟨b,J,rfl,C,E,F,G⟩:=h i I;have D:b≠c:=H _ rfl Zo;have A:=Below.heap_setCell W ⟨c,j,none⟩ v b D;exact⟨b,J,rfl,C,(XM (a:=⟨b,J+i*3,none⟩) A).trans E,(XM (a:=⟨b,J+i*3+1,none⟩) A).trans F,(XM (a:=⟨b,J+i*3+2,none⟩) A).trans G⟩
theorem UT(a:Qa)(xs:List Itm)(c:Nat)(o:Ob)(ea:Qa)(ec:Nat)(pa:Qa)(pc:Nat)(w:World)(hp:jQ w a xs c)(ha:Asc xs)(ho:Dw w o ea ec pa pc):
  Qh 39 #[.slice a xs.length c,o.val ea ec pa pc] w (MK w a xs (WX xs o)):=by
 have U:=Qf (fun W (hW:PM w W)=>iP o ea ec pa pc W (ho.below hW));have A6:=CX o;obtain⟨R,F⟩:=Qe (WX xs o);rw[<-F];unfold WX at F;generalize aR o=r at U A6 F;obtain⟨T,er⟩:=r;simp only at U A6 F;have J:=Qf (fun W=>qV T W Zo);generalize B5:iY T=dg at J F;clear B5;obtain⟨g1,g2⟩:=dg;simp only at J;have V:=Qf (fun W (hW:PM w W)=>wY a xs c ⟨(g1,g2),T⟩ W (hp.below hW).its ha hp.cap hp.len);simp only[Itm.val] at V;generalize Ag xs ⟨(g1,g2),T⟩=I at V F;obtain⟨ys,ei⟩:=I;simp only at V F;obtain⟨A9,data,A7,⟨t1,t2⟩,B0,A1,B4,B9⟩:=o;simp only[Ob.val] at U ⊢;have HP:=Qf hp.its;clear ho hp ha;obtain⟨n,Z⟩:=Qe xs.length;have HN:=Qf Z;rw[<-Z] at V ⊢;clear Z;generalize A7.length=ne at U ⊢;generalize B0.length=np at U ⊢;obtain⟨u0,E⟩:=Qe ((w.alloc (.cells #[Yi A9,data,.slice ea ne ec,Yu t1,Yu t2,.slice pa np pc,A1,Yi B4,B9] 59)).alloc (.cells #[Yu 0,Yu 0] 54));have L:Qg (PM w u0):=Qf (E▸(ba w _).alloc (by simp) _);have X:Qg (BK ((w:Nat)+1) #[Yu 0,Yu 0] 54 u0):=Qf (E▸BK.new2 _ _ _ _);have B7:(w:Nat)+2<=(u0:Nat):=Zn E;have G:Qg (Qh 80 _ _ _):=Qf (U.o u0 L.o);rw[E] at G;have O:=Qf E;clear U;by_cases he:er=0
 ·subst he;rw[if_neg Zs] at F;have HR:=Qf F;clear F E;go_enter func39,ntmps39;go_wp2_with fail;have K:=G.o;refine K.mono ?_;clear K G;rintro e u1 ⟨rfl,C⟩;rw[<-O.o] at C;have M:Qg (PM w u1):=Qf (L.o.trans (C.mono Zo));have D:=Qf (X.o.below C);have B8:(w:Nat)+2<=(u1:Nat):=Zh C.size;clear C O L X B7;go_wp2_with fail;have K:=J.o u1;refine K.mono ?_;clear K J;rintro e u2 ⟨rfl,C⟩;have B1:Qg (PM w u2):=Qf (M.o.trans (C.mono Zo));have B3:=Qf (D.o.below C);have C8:(w:Nat)+2<=(u2:Nat):=Zh C.size;clear C M D B8;have Q:Qg (PM w (u2.alloc (.cells #[Yu g1,Yu g2] 54))):=Qf (B1.o.alloc Zo _);have A5:Qg (BK ((w:Nat)+1) #[Yu 0,Yu 0] 54 (u2.alloc (.cells #[Yu g1,Yu g2] 54))):=Qf (B3.o.alloc _);have A4:Qg (BK u2 #[Yu g1,Yu g2] 54 (u2.alloc (.cells #[Yu g1,Yu g2] 54))):=Qf (BK.new _ _ _);go_wp2_with fail;have K:=V.o _ Q.o;refine K.mono ?_;clear K V;rintro e u4 ⟨ra,rc,rfl,A0⟩;have N:=Qf A0;have C:=A0.2.2.2;obtain⟨H,S⟩:=Yj (A5.o.below C) (A4.o.below C);have A3:Qg (PM w u4):=Qf (Q.o.trans (C.mono Zt));have c0:u4.cell? ⟨(w:Nat)+1,0,none⟩=some (Yu 0):=Zw H.o.cell;have c1:u4.cell? ⟨(w:Nat)+1,1,none⟩=some (Yu 0):=Zw H.o.cell;have f0:u4.frozen? ⟨(w:Nat)+1,0,none⟩=false:=H.o.frozen 0;have f1:u4.frozen? ⟨(w:Nat)+1,1,none⟩=false:=H.o.frozen 1;have k0:u4.cell? u2=some (Yu g1):=Zw S.o.cell;have k1:u4.cell? ⟨u2,1,none⟩=some (Yu g2):=Zw S.o.cell;have B6:(u2:Nat)≠(w:Nat)+1:=Zo;clear A0 C Q A5 A4 H S;by_cases hi:ei=0
  ·subst hi;have Y:Qg (R=(ys,(g1,g2),0)):=Qf (by rw[HR.o,if_neg Zs]);have B2:Qg (∀W,(∀B,Its B u4 ra ys->Its B W ra ys)->(W:Nat)=(u4:Nat)->PM w W->MK w a xs R (.returned (.tuple #[.slice ra ys.length rc,.agg #[Yu g1,Yu g2],Yi 0])) W):=Qf (fun W h1 h2 h3=>by
    rw[Y.o];refine⟨ra,rc,rfl,h2▸h1 _ N.o.1,N.o.2.1,?_,h3⟩;rcases N.o.2.2.1 with h | h
    ·exact .inl h
    ·exact .inr (fun ad P=>by have:=h ad P; simp at this; omega))
   have A2:Qg (∀ad,ra=some ad->0<ys.length->ad.block≠(w:Nat)+1):=Qf (fun ad P A8=>by
    rcases N.o.2.2.1 with h | h
    ·have h0:0<xs.length:=by rw[<-h.2]; exact A8
     obtain⟨b,C1,C,C7,_⟩:=HP.o 0 h0;rw[<-h.1,P] at C;cases C;simp only;omega
    ·have:=h ad P; simp at this; omega)
   clear HR;go_wp2;go_region
   all_goals go_wp2_with fail
   refine XB (v:=.tuple #[.slice ra ys.length rc,.agg #[Yu g1,Yu g2],Yi 0]) (by simp[results,results39,go_sem,c0,c1]) rfl ?_;exact B2.o _ (fun B h=>(h.set A2.o _ _).set A2.o _ _) Zs ((A3.o.setCell Zs _).setCell Zs _).drew
  ·have Y:Qg (R=([],(0,0),ei)):=Qf (by rw[HR.o,if_pos hi]);have C0:(ei !=0)=true:=Zu hi;clear HR hi;go_wp2;refine XB (v:=.tuple #[(),.agg #[Yu 0,Yu 0],Yi ei]) (by simp[results,results39,go_sem,c0,c1]) rfl ?_;rw[Y.o];exact⟨none,0,rfl,iF.none _ _ ((A3.o.setCell Zs _).setCell Zs _)⟩
 ·rw[if_pos he] at F;have HR:=Qf F;have B6:(er !=0)=true:=Zu he;clear F he J V E;go_enter func39,ntmps39;go_wp2_with fail;have K:=G.o;refine K.mono ?_;clear K G;rintro e u1 ⟨rfl,C⟩;rw[<-O.o] at C;have M:Qg (PM w u1):=Qf (L.o.trans (C.mono Zo));have D:=Qf (X.o.below C);have c0:u1.cell? ⟨(w:Nat)+1,0,none⟩=some (Yu 0):=Zw D.o.cell;have c1:u1.cell? ⟨(w:Nat)+1,1,none⟩=some (Yu 0):=Zw D.o.cell;have f0:u1.frozen? ⟨(w:Nat)+1,0,none⟩=false:=D.o.frozen 0;have f1:u1.frozen? ⟨(w:Nat)+1,1,none⟩=false:=D.o.frozen 1;clear C O;go_wp2;refine XB (v:=.tuple #[(),.agg #[Yu 0,Yu 0],Yi er]) (by simp[results,results39,go_sem,c0,c1]) rfl ?_;rw[HR.o];exact⟨none,0,rfl,iF.none _ _ ((M.o.setCell Zs _).setCell Zs _)⟩
def rJ(xs:List Itm)(x:Itm):List Itm×Int:=if vg x≠0 then([],vg x) else Ag xs x
theorem N7(a:Qa)(xs:List Itm)(c:Nat)(d1 d2:Int)(T:Qb)(w:World)(S:jQ w a xs c)(Z:Asc xs)(hT:(T.length:Int)<=140737488355328):
  Qh 203 #[.slice a xs.length c,.agg #[Yu d1,Yu d2],T] w (J7 w a xs (rJ xs ⟨(d1,d2),T⟩)):=by
 obtain⟨P,M⟩:=Yj (fun W=>pG ⟨(d1,d2),T⟩ W hT) (fun W (hW:PM w W)=>wY a xs c ⟨(d1,d2),T⟩ W (S.below hW).its Z S.cap S.len);simp only[Itm.val] at P M;obtain⟨R,E⟩:=Qe (rJ xs ⟨(d1,d2),T⟩);rw[<-E];unfold rJ at E;generalize vg ⟨(d1,d2),T⟩=er at P E;generalize Ag xs ⟨(d1,d2),T⟩=I at M E;obtain⟨ys,ei⟩:=I;clear S Z;obtain⟨n,O⟩:=Qe xs.length;rw[<-O] at M ⊢;clear O;obtain⟨u0,B⟩:=Qe ((w.alloc (.cells #[Yu d1,Yu d2] 54)).alloc (.cells #[Yu d1,Yu d2,T] 56));have K:Qg (PM w u0):=Qf (B▸(ba w _).alloc (by simp) _);have N:Qg (BK ((w:Nat)+1) #[Yu d1,Yu d2,T] 56 u0):=Qf (B▸BK.new2 _ _ _ _);have Y:(w:Nat)+2<=(u0:Nat):=Zn B;have C:=Qf (P.o u0);rw[B] at C;have G:=Qf B;clear P B;by_cases Q:er=0
 ·subst Q;rw[if_neg Zs] at E;have V:=Qf E;clear E;go_enter func203,ntmps203;go_wp2_with fail;have J:=C.o;refine J.mono ?_;clear J C;rintro e u1 ⟨rfl,H⟩;rw[<-G.o] at H;have F:Qg (PM w u1):=Qf (K.o.trans (H.mono Zo));have L:=Qf (N.o.below H);have A3:(w:Nat)+2<=(u1:Nat):=Zh H.size;have c0:u1.cell? ⟨(w:Nat)+1,0,none⟩=some (Yu d1):=Zw L.o.cell;have c1:u1.cell? ⟨(w:Nat)+1,1,none⟩=some (Yu d2):=Zw L.o.cell;have c2:u1.cell? ⟨(w:Nat)+1,2,none⟩=some (.string ⟨T.toArray⟩):=Zw L.o.cell;clear H G K N Y;go_wp2_with fail;have J:=M.o u1 F.o;refine J.mono ?_;clear J M;rintro e u2 ⟨ra,rc,rfl,D⟩;have U:Qg (iF w a xs ys ra rc u2):=Qf ⟨D.1,D.2.1,by
   rcases D.2.2.1 with h | h
   ·exact .inl h
   ·exact .inr (fun ad X=>Zh (h ad X)),F.o.trans (D.2.2.2.mono Zo)⟩
  clear D;go_wp2;go_ret2;rw[V.o];exact⟨ra,rc,rfl,U.o⟩
 ·rw[if_pos Q] at E;have V:=Qf E;have A2:(er !=0)=true:=Zu Q;clear E Q M;go_enter func203,ntmps203;go_wp2_with fail;have J:=C.o;refine J.mono ?_;clear J C;rintro e u1 ⟨rfl,H⟩;rw[<-G.o] at H;have F:Qg (PM w u1):=Qf (K.o.trans (H.mono Zo));clear H G;go_wp2;go_ret2;rw[V.o];exact⟨none,0,rfl,iF.none _ _ F.o⟩
def vO:Option (Int×Int)->Int×Int->Bool
 | none,_=>false
 | some q,d=>decide (eO d q<=0)
def vR:Option (Int×Int)->List Itm->Int
 | _,[]=>0
 | p,x::r=>if vg x≠0 then vg x else if vO p x.d=true then 10 else vR (some x.d) r
def mV(xs:List Itm):Int:=vR none xs
def mG(xs:List Itm):Nat->Option (Int×Int)
 | 0=>none
 | k+1=>(xs[k]?).map (·.d)
def CR(xs:List Itm)(k:Nat):Prop:=mV xs=vR (mG xs k) (xs.drop k)
theorem CR.start(xs:List Itm):CR xs 0:=rfl
theorem CR.step{xs:List Itm}(h:CR xs k)(A:k<xs.length):mV xs=if vg xs[k]≠0 then vg xs[k] else if vO (mG xs k) xs[k].d=true then 10 else vR (mG xs (k+1)) (xs.drop (k+1)):=by
 unfold CR at h;have e:mG xs (k+1)=some xs[k].d:=by rw[mG,XH A]; rfl
 rw[h,aN A,vR,e]
theorem CR.fin{xs:List Itm}(h:CR xs k)(A:xs.length<=k):mV xs=0:=by
 unfold CR at h;rw[h,dV A];cases mG xs k <;> rfl
theorem K7:laidOutB prog=true:=Zk
theorem rowD:(54:TypeId)<prog.types.size:=of_decide_eq_true Zk
theorem wideD:(match prog.underlying 54 with | some (.array _ _) | some (.struct _)=>true | _=>false)=true:=by rw[underlying54]
theorem Ki:Maps.Keyed prog 54:=Maps.Keyed.of_law (deep_law_laid K7 (m:=2) Zo rowD Zk wideD)
theorem keyTD:prog.keyType 54=true:=Zk
theorem VW:prog.cellsOf 54=2:=Zk
theorem OC:∃m,prog.types.size+1=m+2:=⟨prog.types.size-1,by have:=of_decide_eq_true (p:=1<=prog.types.size) Zk; omega⟩
abbrev PH(d:Int×Int):Value:=.agg #[Yu d.1,Yu d.2]
noncomputable def Ef(d:Int×Int):Lit:=(keyOf prog 54 (PH d)).getD .nil
theorem VK(h:Ku x):(Lit.int .u64 x).wf=true:=by
 unfold Ku at h;simp[Lit.wf,IntKind.min,IntKind.max,IntKind.signed,IntKind.bits];omega
theorem fK(h:OkD d):keyOf prog 54 (PH d)=some (Ef d):=by
 have:∃l,keyOf prog 54 (PH d)=some l:=by
  obtain⟨m,C⟩:=OC;unfold keyOf;rw[underlying54];simp only[keyTD,Value.formed,underlying54,VW,C];simp[Program.keyLits,underlying54,underlying52,VW,sP,VK h.1,VK h.2,Value.cells,List.range_succ]
 obtain⟨l,B⟩:=this;unfold Ef;rw[B]; rfl
theorem su{d':Int×Int}(h:OkD d)(B:OkD d')(e:Ef d=Ef d'):d=d':=by
 have C:=fK h;have A:=fK B;rw[<-e] at A;have:=Ki.inj C A;injection this with this
 injection this with this
 simp at this;exact Prod.ext this.1 this.2
def pO(b n:Nat)(M:Int×Int->Bool)(W:World):Prop:=
 ∃D:DataW Unit,W.ownsMap prog 54 (plainElem prog 4) b n D/\∀d,OkD d->D.atKey (Ef d) (.lit (.bool false))=.lit (.bool (M d))
theorem pO.made(W:World):pO (W:Nat) 0 (fun _=>false) (W.alloc (.map #[] 0)):=⟨.map [],World.ownsMap_made _ _ _ _,fun d _=>WideAt.atKey_none _ (fun p A=>by simp at A)⟩
theorem pO.lt(h:pO b n M W):b<(W:Nat):=by obtain⟨D,A,_⟩:=h; exact A.lt
theorem pO.kept(h:pO b n M W)(E:W.grownBy W' row)(A:some b≠row):pO b n M W':=by obtain⟨D,B,C⟩:=h; exact⟨D,B.kept E A,C⟩
theorem pO.alloc(h:pO b n M W)(o:Obj):pO b n M (W.alloc o):=by obtain⟨D,A,B⟩:=h; exact⟨D,A.alloc o,B⟩
theorem pO.below(h:pO b n M W)(A:PM W W'):pO b n M W':=h.kept (row:=none) ⟨A.os,A.tape,A.output,A.size,fun k B _=>A.block k B⟩ Zs
theorem Dy(W:World):(zeroValue 4).run prog W=.ok (.bool false) W:=Zk
theorem oN{z:DataW Unit×List MemPlace}(h:plainElem prog 4 v=some z):∃a,v=.bool a/\z=(.lit (.bool a),[]):=by
 unfold plainElem at h;rw[underlying4] at h;cases v <;> simp at h
 exact⟨_,rfl,h.symm⟩
theorem pO.look(h:pO b n M W)(E:OkD (x,y)):(Instr.lookup 105 (.map (some b)) (.agg #[Yu x,Yu y]) false).run prog W=.ok (.bool (M (x,y))) W:=by
 obtain⟨D,F,G⟩:=h;obtain⟨v,ps,C,I⟩:=F.lookup Ki underlying105 (Dy W) (plainElem_bool (H:=Unit) underlying4 false) (fK E);obtain⟨a,rfl,B⟩:=oN I;rw[G _ E] at B;simp only[XC] at B;injection B.1 with B
 injection B with B
 rw[C,B]
theorem pO.put(h:pO b n M W)(E:OkD (x,y))(K:(n:Int)<=1000000000):
  ∃W',(Instr.mapUpdate 105 (.map (some b)) (.agg #[Yu x,Yu y]) (.bool true)).run prog W=.ok () W'/\pO b (n+1) (fun d=>M d||decide (d=(x,y))) W'/\W.grownBy W' (some b):=by
 obtain⟨D,F,G⟩:=h;obtain⟨W',C,J,I⟩:=F.update Ki underlying105 Zm (fK E) (plainElem_bool (H:=Unit) underlying4 true);refine⟨W',C,⟨_,J,fun d B=>?_⟩,I⟩;by_cases e:d=(x,y)
 ·subst e;rw[Maps.atKey_put_same F.isMap (Ki.key (fK E))];simp
 ·rw[Maps.atKey_put_other (fun h=>e (su B E h)),G _ B];simp[e]
theorem Mi:OkD (0,0):=⟨⟨Zd,Zd⟩,Zd,Zd⟩
def gG(o:Ob):Qd:=if(aR o).2≠0 then[] else o.ents.map (·.d)++(if o.kind=3 then o.tree::o.pars else[])
def Oa(w:World)(ds:Qd)(e:Ending)(w':World):Prop:=∃a c,e=.returned (.slice a ds.length c)/\w'.ownsRow w 54 2 (.slice a ds.length c) ds.length (aW ds)/\PM w w'
theorem ym(es:List Ent)(k:Nat)(h:k<es.length):(es.take (k+1)).map (·.d)=(es.take k).map (·.d)++[es[k].d]:=by
 rw[ai h,dJ]; rfl
theorem gz{xs:Qd}(B:W.ownsRow base 54 2 v xs.length (aW xs))(d1 d2:Int)(E:(xs.length:Int)<=100000000)(C:base<=(W:Nat)):
  ∃v' W',(Builtin.append_ #[24,24] 24 #[v,.slice W 1 1]).run prog (W.alloc (.cells #[Yu d1,Yu d2] 54))=.ok v' W'/\W'.ownsRow base 54 2 v' (xs++[(d1,d2)]).length (aW (xs++[(d1,d2)]))/\(W.alloc (.cells #[Yu d1,Yu d2] 54)).grownBy W' v.ownBlock/\(v'.ownBlock=v.ownBlock\/v'.ownBlock=some ((W:Nat)+1)):=by
 have h:=dM (W.alloc (.cells #[Yu d1,Yu d2] 54)) base 24 v xs (B.alloc _) (some ⟨W,0,none⟩) [(d1,d2)] 1 (fun i F=>by
  obtain rfl:i=0:=by simp at F; omega
  have D:=BK.new W #[Yu d1,Yu d2] 54;exact⟨_,0,rfl,D.lt,by rw[dG,D.cell]; rfl,by rw[dG,D.cell]; rfl⟩) Zt Zt
 simpa using h
theorem Iz(o:Ob)(ea:Qa)(ec:Nat)(pa:Qa)(pc:Nat)(w:World)(h:Dw w o ea ec pa pc)(K:ObB o):
  Qh 63 #[o.val ea ec pa pc] w (Oa w (gG o)):=by
 have HC:=Qf (fun W (hW:PM w W)=>wQ o ea ec pa pc W (h.below hW));obtain⟨R,U⟩:=Qe (gG o);rw[<-U];unfold gG at U;generalize (aR o).2=er at HC U;have B8:=K.elen;have C0:=K.plen;obtain⟨B0,B5⟩:=Yj h.ents h.pars;clear h K;obtain⟨A8,data,A0,⟨t1,t2⟩,B1,A9,C3,C5⟩:=o;simp only[Ob.val] at HC U B8 C0 B0 B5 ⊢;obtain⟨ne,B⟩:=Qe A0.length;obtain⟨np,A7⟩:=Qe B1.length;rw[<-B] at HC B8 ⊢;rw[<-A7] at HC C0 ⊢;obtain⟨X,B3⟩:=Yj B A7;clear B A7;obtain⟨cs,A6⟩:∃cs:Array Value,cs=#[Yi A8,data,.slice ea ne ec,Yu t1,Yu t2,.slice pa np pc,A9,Yi C3,C5]:=⟨_,rfl⟩;have HX:=Qf (HC.o (w.alloc (.cells #[Yi A8,data,.slice ea ne ec,Yu t1,Yu t2,.slice pa np pc,A9,Yi C3,C5] 59)) (ba w _));have B2:Qg (BK w cs 59 (w.alloc (.cells #[Yi A8,data,.slice ea ne ec,Yu t1,Yu t2,.slice pa np pc,A9,Yi C3,C5] 59))):=Qf (A6▸BK.new _ _ _);have H:=Qf A6;clear A6 HC;by_cases he:er=0
 ·subst he;rw[if_neg Zs] at U;have HR:=Qf U;clear U;go_enter func63,ntmps63;go_wp2_with fail;have hx:=HX.o;refine hx.mono ?_;clear hx HX;rintro e u ⟨rfl,K⟩;have A3:Qg (BK w cs 59 u):=Qf (B2.o.below K);have V:Qg (PM w u):=Qf ((ba w _).trans (K.mono Zs));have C1:(w:Nat)+1<=(u:Nat):=Zu K.size;have c2:u.cell? ⟨w,2,none⟩=some (.slice ea ne ec):=by rw[A3.o.cell,H.o]; rfl
  clear K B2;go_wp2;go_loopw [3,12] (fun v i wr=>∃k:Nat,k<=ne/\i=Yi k/\(w:Nat)+1<=(wr:Nat)/\Qg (wr.ownsRow ((w:Nat)+1) 54 2 v ((A0.take k).map (·.d)).length (aW ((A0.take k).map (·.d))))/\Qg (PM w wr)/\Qg (BK w cs 59 wr)) (fun _ i _=>ne-(intOf i).toNat)
  case atStart=>exact⟨0,Zo,rfl,C1,Qf (XE _ _ _ _),V,A3⟩
  case round=>
   clear A3 V c2 C1;obtain⟨k,hk,rfl,D7,T,HB,HK⟩:=hrel;have N:((A0.take k).map (·.d)).length=k:=by rw[fC,aA]; have:=X.o; omega
   obtain⟨av,cv,rfl,L⟩:=aB T.out;by_cases D6:k<ne
   ·have h1:k<A0.length:=Zh X.o;obtain⟨b0,o0,rfl,D5,q0,q1,q2,q3⟩:=(B0.o.below HB.out nr) k h1;have A4:=Qf (ym A0 k h1);generalize A0[k]=en at q0 q1 q2 q3 A4;obtain⟨nm,C7,d1,d2⟩:=en;simp only at q0 q1 q2 q3 A4;obtain⟨u1,G⟩:=Qe (wr.alloc (.cells #[nm,.bool C7,Yu d1,Yu d2] 164));have D1:(u1:Nat)=(wr:Nat)+1:=Zn G;have B4:Qg (u1.ownsRow ((w:Nat)+1) 54 2 _ _ _):=Qf (G▸T.out.alloc _);have C:Qg (PM w u1):=Qf (G▸HB.out.alloc (by omega) _);have I:Qg (BK w cs 59 u1):=Qf (G▸HK.out.alloc _);obtain⟨v',W',Q,O,Y,B7⟩:=gz B4.o d1 d2 Zo Zo;have B:(Value.slice av ((A0.take k).map (·.d)).length cv).ownBlock≠some (w:Nat):=fun hh=>Zh ((T.out.lt _ hh).1)
    have D:Qg (W'.ownsRow ((w:Nat)+1) 54 2 v' ((A0.take (k+1)).map (·.d)).length (aW ((A0.take (k+1)).map (·.d)))):=Qf (A4.o▸O);have A2:Qg (PM w W'):=Qf ((C.o.alloc Zo _).grown Y Zt (fun j hj=>Zh ((T.out.lt _ hj).1)));have C8:Qg (BK w cs 59 W'):=Qf ((I.o.alloc _).grow Y (fun j hj e=>B (by rw[hj,e])));have C2:(w:Nat)+1<=(W':Nat):=by have:=Y.size; simp at this; omega
    rw[D1,G] at Q;have A1:=Qf Q;clear Q O Y B7 G B4 C I N B;generalize ((A0.take k).map (·.d)).length=m at A1 L ⊢;go_wp2_with (at_builtin; refine Lib.wpList_append_run _ rfl _ _ _ _ rfl _ _ rfl rfl _ _ A1.o ?_);go_roundw
    case rel=>exact⟨k+1,Zo,Zg,C2,D,A2,C8⟩
    case measure=>exact Yq
   ·have M:A0.take k=A0:=ag (Zh X.o);rw[M] at T L N ⊢;clear M;have c0:wr.cell? w=some (Yi A8):=by rw[HK.out.cell,H.o]; rfl
    by_cases h3:A8=3
    ·subst h3;rw[if_pos rfl] at HR;have c3:wr.cell? ⟨w,3,none⟩=some (Yu t1):=by rw[HK.out.cell,H.o]; rfl
     have c4:wr.cell? ⟨w,4,none⟩=some (Yu t2):=by rw[HK.out.cell,H.o]; rfl
     obtain⟨v1,W1,S,E,Z,_⟩:=gz T.out t1 t2 Zo Zo;have B:(Value.slice av (A0.map (·.d)).length cv).ownBlock≠some (w:Nat):=fun hh=>Zh ((T.out.lt _ hh).1)
     have C:Qg (PM w W1):=Qf ((HB.out.alloc Zo _).grown Z Zt (fun j hj=>Zh ((T.out.lt _ hj).1)));have I:Qg (BK w cs 59 W1):=Qf ((HK.out.alloc _).grow Z (fun j hj e=>B (by rw[hj,e])));have D3:(w:Nat)+1<=(W1:Nat):=by have:=Z.size; simp at this; omega
     have c5:W1.cell? ⟨w,5,none⟩=some (.slice pa np pc):=by rw[I.o.cell,H.o]; rfl
     obtain⟨v2,W2,F,P,B9,_⟩:=dM W1 ((w:Nat)+1) 24 v1 _ E pa B1 pc ((B5.o.below C.o nr).mono C.o.size) (by simp; have:=B3.o; have:=X.o; simp at N; omega) Zo;have A2:Qg (PM w W2):=Qf (C.o.grown B9 C.o.size (fun j hj=>Zh ((E.lt _ hj).1)));rw[<-B3.o] at F;obtain⟨J,A5,D⟩:=Yk S F P;clear S F E P Z B9 I C N;have B6:R=A0.map (·.d)++[(t1,t2)]++B1:=Zn HR.o;have C9:=Qf B6;clear B6;generalize (A0.map (·.d)).length=m at J L ⊢;have C4:True:=trivial;go_wp2_with (at_builtin; first | (have _t:=C4; refine Lib.wpList_append_run _ rfl _ _ _ _ rfl _ _ rfl rfl _ _ J.o ?_; clear _t C4) | (refine Lib.wpList_append_run _ rfl _ _ _ _ rfl _ _ rfl rfl _ _ A5.o ?_));obtain⟨a2,C6,rfl,_⟩:=aB D.o;go_ret;rw[C9.o];exact⟨a2,C6,rfl,mP D.o Zo,A2.o⟩
    ·rw[if_neg h3,bG] at HR;have e3:(A8==3)=false:=Zu h3;clear h3 N;have D:=Qf T.out;rw[<-HR.o] at D ⊢;clear T;go_wp2;go_ret;exact⟨av,cv,rfl,mP D.o Zo,HB.out⟩
 ·rw[if_pos he] at U;have HR:=Qf U;have B:(er !=0)=true:=Zu he;clear U he;go_enter func63,ntmps63;go_wp2_with fail;have hx:=HX.o;refine hx.mono ?_;clear hx HX;rintro e u ⟨rfl,K⟩;have V:Qg (PM w u):=Qf ((ba w _).trans (K.mono Zs));clear K;go_wp2;go_ret;rw[HR.o];exact⟨none,0,rfl,XE _ _ _ _,V.o⟩
theorem Gs(a:Qa)(ds:Qd)(c:Nat)(w:World)(h:dE w w a ds)(L:(ds.length:Int)<=1000000):
  Qh 62 #[.slice a ds.length c] w (Oa w ds):=by
 cases a with
 | none=>
  have I:ds=[]:=by
   cases ds with
   | nil=>rfl
   | cons x xs=>
    obtain⟨b,M,e,_⟩:=h 0 Zs;cases e
  subst I;clear h;have K:∀W,(binOp .eql 24 (.slice none 0 c) (.slice none 0 0)).run prog W=.ok (.bool true) W:=fun W=>by
   simp only[binOp];simp[Op.equal,Op.maxDepth,Lib.run_equalIn_slice_nil W 9999 24 54 none 0 c 0 0 underlying24]
  go_enter func62,ntmps62;go_wp2;go_ret;exact⟨none,0,rfl,XE _ _ _ _,bf _⟩
 | some ad=>
  obtain⟨v',W',B,C,G,_⟩:=dM (w.alloc (.cells #[] 54)) (w:Nat) 24 (.slice w 0 0) [] (XW (size:=2) w #[] 0 nr Zd rfl) (some ad) ds c ((h.below (ba w _) nr).mono Zs) Zt Zs;have F:=Qf C;have H:Qg (PM w W'):=Qf ((ba w _).grown G Zs (fun k J=>by simp[Value.ownBlock] at J; omega));obtain⟨n,E⟩:=Qe ds.length;rw[<-E] at B ⊢;have D:=Qf B;clear B C G E h;have K:∀W,(binOp .eql 24 (.slice (some ad) n c) (.slice none 0 0)).run prog W=.ok (.bool false) W:=fun W=>by
   simp only[binOp];simp[Op.equal,Op.maxDepth,Lib.run_equalIn_slice_nil W 9999 24 54 (some ad) n c 0 0 underlying24]
  go_enter func62,ntmps62;go_wp2_with (at_builtin; refine Lib.wpList_append_run _ rfl _ _ _ _ rfl _ _ rfl rfl _ _ D.o ?_);obtain⟨a2,c2,rfl,_⟩:=aB F.o;go_ret;exact⟨a2,c2,rfl,F.o,H.o⟩
theorem AO{α:Type}{l m:List α}(B:l.length=m.length)(k:Nat)(h:l.take k=m.take k)(A:l.length<=k):l=m:=by
 rwa[ag A,ag Zo] at h
open Go.RowKit Go.Shelf Go.Sort
def NG(d:Int×Int):List Value:=[Yu d.1,Yu d.2]
def kV(ds:Qd):Qd:=ds.mergeSort fun x y=>!(ltOf eO) y x
theorem lJ(ds:Qd):(kV ds).Perm ds:=List.mergeSort_perm _ _
theorem swoD:SWO (ltOf eO) where
 irrefl x:=by unfold ltOf; rw[fO]; rfl
 trans x y z h1 h2:=by unfold ltOf at *; simp only[XJ] at *; exact qA h1 h2
 ntrans x y z h1 h2:=by
  unfold ltOf at *
  simp only[XL] at *
  have g1:=bF x y;have g2:=bF y z;have g3:=bF x z;omega
theorem totD:∀x y,ltOf eO x y=false->ltOf eO y x=false->x=y:=by
 intro x y A B;unfold ltOf at *
 simp only[XL] at *
 have g1:=bF x y;have g2:=bF y x;exact Prod.ext Zo Zo
theorem LQ(blk off size:Nat)(w:World):CmpLays prog 59 #[] NG 2 eO blk off size w:=
 fun _ _ _ _ x y=>yN x.1 x.2 y.1 y.2 _
theorem uK(ds:Qd):flatK NG 2 ds.toArray=(aW ds).toArray:=by
 apply Array.ext
 ·simp[dL]
 ·intro t B E;have F:t<ds.length*2:=Zu B;have C:=get_flatK NG 2 ds.toArray t (Zu F);rw[getElem!_pos _ t B] at C;rw[C];have D:t/2<ds.length:=Zo;have e:(ds.toArray)[t/2]! = ds[t/2]:=by rw[getElem!_pos _ _ (Zu D)]; simp
  rw[e];obtain⟨d0,d1⟩:=lu ds (t/2) D;have A:(aW ds)[t]? = some ((aW ds).toArray[t]):=by
   have:t<(aW ds).length:=Zu E;rw[XH this]; simp
  generalize (aW ds).toArray[t]=z at A ⊢;rcases(by omega:t%2=0\/t%2=1) with h | h
  ·rw[h];rw[show t=t/2*2 by omega,d0] at A;rw[<-XP A];rfl
  ·rw[h];rw[show t=t/2*2+1 by omega,d1] at A;rw[<-XP A];rfl
theorem kU(ds:Qd):(kV ds).length=ds.length:=(lJ ds).length_eq
theorem Aj{n:Nat}{os:Array Obj}{cur:Array Value}{e:TypeId}{fr:Nat×Nat}(F:Array Value)(A:w.heap[g]? = some (.cells cur e fr)):
  (grow (putRow id (Go.Sort.ahead w n) g 0 F) os).heap[g]? = some (.cells (putCells id 0 F cur) e fr):=by
 have B:g<(w:Nat):=(XA.1 A).1;rw[heap_grow_old _ _ (Zu B)];simp[putRow,mapBlock,Go.Sort.ahead,XQ,A,onCells]
theorem uw(F:Array Value):w.grownBy (grow (putRow id (Go.Sort.ahead w n) g 0 F) os) (some g):=by
 refine⟨rfl,rfl,rfl,Zs,fun k B A=>?_⟩;rw[heap_grow_old _ _ (Zu B)];have:g≠k:=fun e=>A (by rw[e])
 simp[putRow,mapBlock,Go.Sort.ahead,XQ,this]
theorem vK(cur:Array Value)(F:List Value)(h:F.length<=cur.size):(putCells id 0 F.toArray cur).toList.take F.length=F:=by
 apply List.ext_getElem?;intro j;by_cases A:j<F.length
 ·rw[List.getElem?_take_of_lt A,Array.getElem?_toList];simp[putCells,A,show j<cur.size by omega]
 ·rw[List.getElem?_take_eq_none Zo,List.getElem?_eq_none Zo]
theorem zq(a:Qa)(ds:Qd)(c:Nat)(w:World)(Q:w.ownsRow base 54 2 (.slice a ds.length c) ds.length (aW ds))(W:(ds.length:Int)<=1000000000):
  Qh 64 #[.slice a ds.length c,.func (.func 59) #[] #[]] w fun e w'=>e=.returned (.tuple #[])/\w'.ownsRow base 54 2 (.slice a ds.length c) ds.length (aW (kV ds))/\w.grownBy w' (Value.slice a ds.length c).ownBlock:=by
 rcases Q.2 with⟨N,S⟩ | ⟨g,Z,Y,N,C,L,B,J,I,G⟩
 ·have U:ds=[]:=aU S;subst U;have:=AnyF.slices_SortFunc_none sortD a c (.func (.func 59) #[] #[]) w;refine Calls.mono this fun e w' ⟨M,K⟩=>⟨M,?_,?_⟩
  ·rw[K,show kV []=[] by simp[kV]]; exact Q
  ·rw[K]; exact⟨rfl,rfl,rfl,nr,fun _ _ _=>rfl⟩
 ·cases N
  have eg:∀X w,(callFunc 59 X).run prog w=.ok (.enter 59 X) w:=enters_of func59 Zk rfl;have T:HoldsK NG 2 w g 0 ds.toArray:=by
   unfold HoldsK;rw[uK];intro j P;have E:j<(aW ds).length:=Zu P;refine⟨?_,YK L _⟩;rw[Lib.cell_of_heap L,aZ];have O:(Y.toList.take (ds.length*2))[j]? = (aW ds)[j]?:=Zx G;rw[List.getElem?_take_of_lt (by rw[dL] at E; exact E),Array.getElem?_toList] at O;rw[O,XH E,getElem!_pos _ j P];simp
  have H:=AnyQ.slices_SortFunc_total sortD 2 isAgg54 sizeOf54 NG (fun _=>rfl) (fun x v R=>by simp[NG] at R; rcases R with rfl | rfl <;> rfl) eO swoD 59 #[] g 0 c ds.toArray w eg (LQ g 0 _ w) T (XA.1 L).1 Zt totD;have D:Qh 64 #[.slice g ds.length c,.func (.func 59) #[] #[]] w _:=H;refine D.mono fun e w' ⟨M,n,os,K⟩=>⟨M,?_,?_⟩
  ·rw[K];unfold sortWorldK putRowK;have V:=kU ds;change (grow (putRow id (Go.Sort.ahead w n) g 0 (flatK NG 2 (kV ds).toArray)) os).ownsRow _ _ _ _ _ _;rw[uK];have F:(aW (kV ds)).length=ds.length*2:=by rw[dL,V]
   exact⟨F,.inr ⟨g,c,_,rfl,C,Aj _ L,B,J,by simp[putCells,I],by rw[<-F]; exact vK Y _ (by rw[F,I]; exact pK _ B)⟩⟩
  ·rw[K];unfold sortWorldK putRowK;exact uw _
def fI(xs:List Itm):Nat->Qd->Qd->Qd->Qd->Qd×Qd
 | 0,_,_,R,M=>(R,M)
 | f+1,op,met,R,M=>
  match op.getLast? with
  | none=>(R,M)
  | some d=>
   if d∈met then fI xs f op.dropLast met R M
   else if(dW xs d).2≠0 then fI xs f op.dropLast (d::met) R (M++[d])
   else fI xs f (op.dropLast++(gG (dW xs d).1).filter fun l=>!decide (l∈d::met)) (d::met) (R++[d]) M
def jC(xs:List Itm)(roots:Qd):Nat:=1000*xs.length+roots.length
def dh(xs:List Itm)(roots:Qd):Qd×Qd:=
 (kV (fI xs (jC xs roots) roots [(0,0)] [] []).1,kV (fI xs (jC xs roots) roots [(0,0)] [] []).2)
theorem wE(xs:List Itm)(f:Nat)(met R M:Qd):fI xs f [] met R M=(R,M):=by
 cases f <;> rfl
theorem wF{xs:List Itm}{M:Qd}(h:d∈met):fI xs (f+1) (op++[d]) met R M=fI xs f op met R M:=by
 rw[fI]; simp[h]
theorem tN{xs:List Itm}{M:Qd}(h:d∉met)(A:(dW xs d).2≠0):fI xs (f+1) (op++[d]) met R M=fI xs f op (d::met) R (M++[d]):=by
 rw[fI]; simp[h,A]
theorem wG{xs:List Itm}{M:Qd}(h:d∉met)(A:(dW xs d).2=0):fI xs (f+1) (op++[d]) met R M=fI xs f (op++(gG (dW xs d).1).filter fun l=>!decide (l∈d::met)) (d::met) (R++[d]) M:=by
 rw[fI]; simp[h,A]
def mea(xs:List Itm)(op met:Qd):Nat:=1000*xs.countP (fun x=>!decide (x.d∈met))+op.length
theorem A9(xs:List Itm)(met:Qd)(d:Int×Int):xs.countP (fun x=>!decide (x.d∈d::met))<=xs.countP (fun x=>!decide (x.d∈met)):=by
 refine List.countP_mono_left (fun x _ h=>?_);simp at h ⊢;exact h.2
theorem JE{xs:List Itm}{x:Itm}(A:x∈xs)(C:x.d∉met):xs.countP (fun y=>!decide (y.d∈x.d::met))+1<=xs.countP (fun y=>!decide (y.d∈met)):=by
 induction xs with
 | nil=>simp at A
 | cons y ys ih=>
  rw[List.countP_cons,List.countP_cons];rcases XG.1 A with rfl | A
  ·have:=A9 ys met x.d;simp[C] at this ⊢;omega
  ·have D:=ih A;have:(if(!decide (y.d∈x.d::met))=true then 1 else 0)<=(if(!decide (y.d∈met))=true then 1 else 0):=by
    by_cases B:y.d∈met
    ·simp[B]
    ·simp[B]; split <;> omega
   omega
theorem oW{xs:List Itm}(h:(dW xs d).2=0):∃x∈xs,x.d=d/\bI x.data=dW xs d:=by
 unfold dW at h ⊢;split at h
 ·rename_i y B;split at h
  ·rename_i A;exact⟨y,List.mem_of_getElem? B,A,Zj A⟩
  ·simp at h
 ·simp at h
theorem rZ(o:Ob):(gG o).length<=200:=by
 unfold gG;split
 ·simp
 ·rename_i E;have h:=fA (kG (Zu E));have A:=h.1;have F:=eP A;by_cases C:o.kind=1\/o.kind=4
  ·rw[mh A C]; simp[obZ]; split <;> simp <;> omega
  ·by_cases D:o.kind=2
   ·have:=(nL (jO A D).2).1;rw[if_neg Zo]; simp; exact this
   ·have B:o.kind=3:=Zo;have G:=(kJ (iC A B).2).1;rw[(iC A B).1]; simp; omega
theorem Ec{xs:List Itm}(h:(dW xs d).2=0):∀l∈gG (dW xs d).1,OkD l:=by
 obtain⟨x,_,_,E⟩:=oW h;have G:bI x.data=((dW xs d).1,0):=by rw[E,<-h]
 have C:=(kI G).2;intro l B;unfold gG at B;split at B
 ·simp at B
 ·rcases aD.1 B with A | A
  ·obtain⟨e,F,rfl⟩:=bV.1 A;exact C.2.2 e F
  ·split at A
   ·rcases XG.1 A with rfl | D
    ·exact C.1
    ·exact C.2.1 l D
   ·simp at A
theorem qm(xs:List Itm)(op met:Qd)(d:Int×Int):mea xs op met+1=mea xs (op++[d]) met:=by
 unfold mea; simp; omega
theorem yh(xs:List Itm)(op met:Qd)(d:Int×Int):mea xs op (d::met)+1<=mea xs (op++[d]) met:=by
 have:=A9 xs met d;unfold mea; rw[af]; simp only[az,aK]; omega
theorem yj{xs:List Itm}{ls:Qd}(A:d∉met)(h:(dW xs d).2=0)(C:ls.length<=200):mea xs (op++ls) (d::met)+1<=mea xs (op++[d]) met:=by
 obtain⟨x,B,rfl,_⟩:=oW h;have:=JE B A;unfold mea; rw[af,af]; simp only[az,aK]; omega
theorem zY(xs:List Itm)(roots:Qd):mea xs roots [(0,0)]<=jC xs roots:=by
 have:xs.countP (fun x=>!decide (x.d∈[((0:Int),(0:Int))]))<=xs.length:=List.countP_le_length;unfold mea jC;omega
def QH(u v:Value):Prop:=∀k,u.ownBlock=some k->v.ownBlock≠some k
theorem QH.symm(h:QH u v):QH v u:=fun k A B=>h k B A
theorem QH.nil(v:Value):QH (.slice none 0 0) v:=fun k h=>by simp[Value.ownBlock] at h
theorem gF{e:TypeId}(h:W.ownsRow base e z u n xs)(A:QH u v)(B:W.grownBy W' v.ownBlock):W'.ownsRow base e z u n xs:=
 h.kept B (by
  cases C:u.ownBlock with
  | none=>exact .inl rfl
  | some k=>exact .inr (fun e=>A k C e.symm))
theorem ig{e:TypeId}{v':Value}{N:Nat}(h:W.ownsRow base e z u n xs)(C:QH u v)(A:v'.ownBlock=v.ownBlock\/v'.ownBlock=some N)(D:(W:Nat)<=N):QH u v':=by
 intro k B;rcases A with e | e
 ·rw[e]; exact C k B
 ·rw[e];intro e2;have:=(h.lt k B).2;have:=XP e2;omega
structure fB (w W:World) (M:Int×Int->Bool) (nm:Nat) (vo vr vm:Value) (op R Ms:Qd):Prop where
 mp:pO (w:Nat) nm M W
 oo:W.ownsRow ((w:Nat)+1) 54 2 vo op.length (aW op)
 orr:W.ownsRow ((w:Nat)+1) 54 2 vr R.length (aW R)
 om:W.ownsRow ((w:Nat)+1) 54 2 vm Ms.length (aW Ms)
 a1:QH vo vr
 a2:QH vo vm
 a3:QH vr vm
 bel:PM w W
section
variable {w W W':World} {M:Int×Int->Bool} {nm:Nat} {vo vr vm v':Value} {op R Ms:Qd}
theorem fB.lt(h:fB w W M nm vo vr vm op R Ms):(w:Nat)+1<=(W:Nat):=h.mp.lt
theorem fB.below(h:fB w W M nm vo vr vm op R Ms)(A:PM W W'):fB w W' M nm vo vr vm op R Ms:=
 ⟨h.mp.below A,PO h.oo A,PO h.orr A,PO h.om A,h.a1,h.a2,h.a3,h.bel.trans (A.mono (Zh h.lt))⟩
theorem fB.alloc(h:fB w W M nm vo vr vm op R Ms)(o:Obj):fB w (W.alloc o) M nm vo vr vm op R Ms:=h.below (ba _ _)
theorem fB.put(h:fB w W M nm vo vr vm op R Ms)(B:pO (w:Nat) (nm+1) M' W')(A:W.grownBy W' (some (w:Nat))):fB w W' M' (nm+1) vo vr vm op R Ms:=
 ⟨B,bD h.oo A Zo,bD h.orr A Zo,bD h.om A Zo,h.a1,h.a2,h.a3,bE h.bel A nr⟩
theorem lS{e:TypeId}(h:W.ownsRow base e z v n xs)(A:b<base):some b≠v.ownBlock:=fun e1=>Zh ((h.lt b e1.symm).1)
theorem fB.bel'{e:TypeId}(h:PM w W)(C:W.ownsRow base e z vo n xs)(D:(w:Nat)<=base)(A:W.grownBy W' vo.ownBlock):PM w W':=h.grown A h.size (fun k B=>Zh ((C.lt k B).1))
theorem fB.pushO(h:fB w W M nm vo vr vm op R Ms){op':Qd}(B:W'.ownsRow ((w:Nat)+1) 54 2 v' op'.length (aW op'))(C:W.grownBy W' vo.ownBlock)(A:v'.ownBlock=vo.ownBlock\/v'.ownBlock=some (W:Nat)):fB w W' M nm v' vr vm op' R Ms:=
 ⟨h.mp.kept C (lS h.oo Zo),B,gF h.orr h.a1.symm C,gF h.om h.a2.symm C,(ig h.orr h.a1.symm A nr).symm,(ig h.om h.a2.symm A nr).symm,h.a3,fB.bel' h.bel h.oo Zo C⟩
theorem fB.pushR(h:fB w W M nm vo vr vm op R Ms){R':Qd}(B:W'.ownsRow ((w:Nat)+1) 54 2 v' R'.length (aW R'))(C:W.grownBy W' vr.ownBlock)(A:v'.ownBlock=vr.ownBlock\/v'.ownBlock=some (W:Nat)):fB w W' M nm vo v' vm op R' Ms:=
 ⟨h.mp.kept C (lS h.orr Zo),gF h.oo h.a1 C,B,gF h.om h.a3.symm C,ig h.oo h.a1 A nr,h.a2,(ig h.om h.a3.symm A nr).symm,fB.bel' h.bel h.orr Zo C⟩
theorem fB.pushM(h:fB w W M nm vo vr vm op R Ms){M':Qd}(B:W'.ownsRow ((w:Nat)+1) 54 2 v' M'.length (aW M'))(C:W.grownBy W' vm.ownBlock)(A:v'.ownBlock=vm.ownBlock\/v'.ownBlock=some (W:Nat)):fB w W' M nm vo vr v' op R M':=
 ⟨h.mp.kept C (lS h.om Zo),gF h.oo h.a2 C,gF h.orr h.a3 C,B,h.a1,ig h.oo h.a2 A nr,ig h.orr h.a3 A nr,fB.bel' h.bel h.om Zo C⟩
theorem fB.pop{d1 d2:Int}(h:fB w W M nm vo vr vm (op++[(d1,d2)]) R Ms):∃g c,vo=.slice (some ⟨g,0,none⟩) (op.length+1) c/\op.length+1<=c/\W.cell? ⟨g,op.length*2,none⟩=some (Yu d1)/\W.cell? ⟨g,op.length*2+1,none⟩=some (Yu d2)/\
  fB w W M nm (.slice g op.length c) vr vm op R Ms:=by
 have H:=h.oo;rcases H.2 with⟨F,J⟩ | ⟨g,c,L,F,D,K,B,E,G,A⟩
 ·simp at J
 ·rw[af,aI] at F B A;subst F;have C:=lu (op++[(d1,d2)]) op.length Zs;simp only[qK nr,Nat.sub_self,aS] at C;refine⟨g,c,rfl,B,?_,?_,⟨h.mp,?_,h.orr,h.om,h.a1,h.a2,h.a3,h.bel⟩⟩
  ·have:=H.cells (g:=g) rfl _ _ C.1; rwa[XD,aZ] at this
  ·have:=H.cells (g:=g) rfl _ _ C.2; rwa[XD,aZ] at this
  ·refine⟨dL op,.inr ⟨g,c,L,rfl,D,K,Zo,E,G,?_⟩⟩;have I:(L.toList.take ((op.length+1)*2)).take (op.length*2)=aW op:=by
    rw[A,gK,<-dL op,List.take_left]
   rw[List.take_take,mM Zo] at I;exact I
end
theorem LF(g n c f:Nat)(h:f<=c)(B:0<c)(W:World):(Instr.slice 24 (.slice g n c) none (some (Yi f)) none).run prog W=.ok (.slice g f c) W:=by
 rw[run_slice_h (P:=prog) W 24 (some ⟨g,0,none⟩) n c Zk .i64 f Zo Zo,DJ];simp[sliced,Result.andThen,XD]
def Pw(w:World)(r:Qd×Qd)(e:Ending)(w':World):Prop:=
 ∃a c a' c',e=.returned (.tuple #[.slice a r.1.length c,.slice a' r.2.length c'])/\w'.ownsRow w 54 2 (.slice a r.1.length c) r.1.length (aW r.1)/\w'.ownsRow w 54 2 (.slice a' r.2.length c') r.2.length (aW r.2)/\PM w w'
theorem pO.eq(h:pO b n M W)(e:∀d,M d=M' d):pO b n M' W:=by
 have:M=M':=funext e;rw[<-this]; exact h
theorem OP(met:Qd)(e d:Int×Int):(decide (d∈met)||decide (d=e))=decide (d∈e::met):=by
 by_cases A:d=e <;> by_cases B:d∈met <;> simp[A,B]
theorem dZ.keptR{o:Ob}{ea:Qa}{ec:Nat}{pa:Qa}{pc:Nat}(h:dZ base W o ea ec pa pc)(A:W.grownBy W' row)(B:∀k,row=some k->k<base):dZ base W' o ea ec pa pc:=by
 cases row with
 | none=>exact h.below ⟨A.os,A.tape,A.output,A.size,fun k C=>A.block k C Zs⟩
 | some b=>exact h.kept A (B b rfl)
structure RL (xs:List Itm) (roots:Qd) (w wr:World) (k:Nat) (vo vr vm:Value) (op R Ms met:Qd) (nm:Nat):Prop where
 st:fB w wr (fun d=>decide (d∈met)) nm vo vr vm op R Ms
 eq:fI xs (jC xs roots) roots [(0,0)] [] []=fI xs k op met R Ms
 me:mea xs op met<=k
 nk:nm+k<=jC xs roots+1
 rk:R.length+Ms.length+k<=jC xs roots
 ok:∀d∈op,OkD d
theorem rG{α:Type}(F:α->Bool)(ls:List α)(j:Nat)(h:j<ls.length):(ls.take (j+1)).filter F=(ls.take j).filter F++(if F ls[j] then[ls[j]] else[]):=by
 rw[ai h,vX];congr 1;by_cases A:F ls[j]=true <;> simp[A]
def RX(xs:List Itm)(roots:Qd)(w:World)(k:Nat)(vr vm vo:Value)(wr:World):Prop:=∃op R Ms met nm,RL xs roots w wr k vo vr vm op R Ms met nm
theorem zH(a:Qa)(xs:List Itm)(c:Nat)(ra:Qa)(roots:Qd)(rc:Nat)(w:World)(hp:jQ w a xs c)(ha:Asc xs)(hr:dE w w ra roots)(H7:∀d∈roots,OkD d)(J6:(xs.length:Int)<=5000)(J5:(roots.length:Int)<=10000):
  Qh 29 #[.slice a xs.length c,.slice ra roots.length rc] w (Pw w (dh xs roots)):=by
 obtain⟨HG,F7⟩:=Yj (fun d1 d2 W (hW:PM w W)=>yw a xs c d1 d2 W (hp.below hW) ha) (fun W (hW:PM w W)=>Gs ra roots rc W ((hr.below hW nr).mono hW.size) Zo);have L1:((jC xs roots:Nat):Int)<=5100000:=by unfold jC; omega
 have I5:=Qf H7;obtain⟨W1,C5,C0,Y⟩:=(pO.made w).put Mi Zo;have G1:=Qf (C0.eq (M':=fun d=>decide (d∈[((0:Int),(0:Int))])) (fun d=>Zs));have A5:Qg (PM w W1):=Qf (bE (ba w _) Y nr);have J7:(w:Nat)+1<=(W1:Nat):=Zu Y.size;have D5:=C5;have J3:=@run_makeMap prog;have E4:=Qf (F7.o W1 A5.o);obtain⟨n,hn⟩:=Qe xs.length;obtain⟨rn,H9⟩:=Qe roots.length;rw[<-hn] at HG ⊢;rw[<-H9] at E4 ⊢;clear hp ha hr H7 C0 Y F7 D5 hn H9 J6 J5;go_enter func29,ntmps29;go_wp2_with fail;have hx:=E4.o;refine hx.mono ?_;clear hx E4 C5;rintro e W2 ⟨oa,oc,rfl,C4,V⟩;have Q:Qg (RX xs roots w (jC xs roots) (.slice none 0 0) (.slice none 0 0) (.slice oa roots.length oc) W2):=Qf
  ⟨roots,[],[],[(0,0)],1,⟨⟨G1.o.below V,mP C4 Zo,XE _ _ _ _,XE _ _ _ _,(QH.nil _).symm,(QH.nil _).symm,QH.nil _,A5.o.trans (V.mono Zo)⟩,rfl,zY xs roots,Zo,Zs,I5.o⟩⟩
 clear C4 V G1 A5 J7 J3 W1;go_wp2_with fail;go_loopg [6,7,9] (jC xs roots) (fun k vr vm vo wr=>Qg (RX xs roots w k vr vm vo wr))
 case atStart=>exact Q
 case round=>
  clear Q;obtain⟨op,R,Ms,A3,nm,H0⟩:=hrel.out;have C:=Qf H0;clear H0 hrel;rcases iI op with D4 | ⟨C7,d,D4⟩
  ·subst D4;have HE:Qg (dh xs roots=(kV R,kV Ms)):=Qf (by unfold dh; rw[C.o.eq,wE]);have L2:=C.o.rk;obtain⟨ao,co,rfl,_⟩:=aB C.o.st.oo;obtain⟨ar,cr,rfl,_⟩:=aB C.o.st.orr;obtain⟨am,cm,rfl,_⟩:=aB C.o.st.om;have G7:=Qf (zq ar R cr wr C.o.st.orr Zo);go_wp2_with fail;have hx:=G7.o;refine hx.mono ?_;clear hx G7;rintro e x1 ⟨rfl,H4,Y⟩;have C3:=gF C.o.st.om C.o.st.a3.symm Y;obtain⟨G8,G3⟩:=Yj (zq am Ms cm x1 C3 Zo) H4;have A5:Qg (PM w x1):=Qf (fB.bel' C.o.st.bel C.o.st.orr Zo Y);have G6:=Qf C3;clear H4 Y C3;go_wp2_with fail;have hx:=G8.o;refine hx.mono ?_;clear hx G8;rintro e x2 ⟨rfl,H5,F0⟩;obtain⟨G4,D7⟩:=Yj H5 (gF G3.o C.o.st.a3 F0);have F6:Qg (PM w x2):=Qf (fB.bel' A5.o G6.o Zo F0);clear H5 F0;have l1:=kU R;have l2:=kU Ms;have HF:Qg (Pw w (kV R,kV Ms) (.returned (.tuple #[.slice ar R.length cr,.slice am Ms.length cm])) x2):=Qf ⟨ar,cr,am,cm,by rw[l1,l2],by rw[l1]; exact mP D7.o Zo,by rw[l2]; exact mP G4.o Zo,F6.o⟩;clear l1 l2 G3 G4 D7 A5 F6 G6 C;go_wp2;go_ret2;rw[HE.o];exact HF.o
  ·rw[iJ] at D4;subst D4;obtain⟨d1,d2⟩:=d;obtain⟨gk,rfl⟩:∃f,gk=f+1:=⟨gk-1,by
    have h1:=C.o.me;have h2:=qm xs C7 A3 (d1,d2)
    omega⟩
   have E1:OkD (d1,d2):=C.o.ok _ Zs;have B6:Qg (∀d∈C7,OkD d):=Qf (fun d hd=>C.o.ok d (Zj hd));obtain⟨g,co,I1,I7,q0,q1,C6⟩:=C.o.st.pop;have L0:mea xs C7 A3+1<=gk+1:=by have h1:=C.o.me; have h2:=qm xs C7 A3 (d1,d2); omega
   have L6:=C.o.nk;have J4:=C.o.rk;obtain⟨E5,G2⟩:=Yj C.o.eq C.o.me;obtain⟨m,hm⟩:=Qe C7.length;rw[<-hm] at I1 I7 q0 q1 C6;subst I1;obtain⟨ar,cr,rfl,_⟩:=aB C6.orr;obtain⟨am,cm,rfl,_⟩:=aB C6.om;have E9:=Qf C6;have L4:m<=5100000:=by
    have:C7.length<=mea xs C7 A3:=by unfold mea; omega
    omega
   have H8:=fun W=>LF g (m+1) co m Zo Zo W
   have K5:((m:Int)+1-1)=(m:Int):=Zo;have L7:=E9.o.lt;obtain⟨u0,X⟩:=Qe (wr.alloc (.cells #[Yu d1,Yu d2] 54));have T:Qg (fB w u0 (fun d=>decide (d∈A3)) nm (.slice g m co) (.slice ar R.length cr) (.slice am Ms.length cm) C7 R Ms):=Qf (X▸E9.o.alloc _);have F8:Qg (BK wr #[Yu d1,Yu d2] 54 u0):=Qf (X▸BK.new _ _ _);have A7:=T.o.mp.look E1;have HM:=Qf hm;clear C6 hm C;by_cases O:(d1,d2)∈A3
   ·rw[XI O,X] at A7;have Q:Qg (RX xs roots w gk (.slice ar R.length cr) (.slice am Ms.length cm) (.slice g m co) (wr.alloc (.cells #[Yu d1,Yu d2] 54))):=Qf (by
     rw[<-X];exact⟨C7,R,Ms,A3,nm,T.o,by rw[E5.o,wF O],Zo,Zo,Zo,B6.o⟩)
    clear X O;go_wp2_with fail;go_roundg gk
    case measure=>omega
    case rel=>exact Q
   ·obtain⟨u1,I0,E0,F1⟩:=T.o.mp.put E1 Zo;have C1:=E0.eq (M':=fun d=>decide (d∈(d1,d2)::A3)) (fun d=>OP A3 (d1,d2) d);have A1:=Qf (T.o.put C1 F1);have A9:Qg (BK wr #[Yu d1,Yu d2] 54 u1):=Qf (F8.o.grow1 F1 Zo);have C8:=Qf (HG.o d1 d2 u1 A1.o.bel);rw[XN O,X] at A7;rw[X] at I0;have E7:=Qf O;clear E0 C1 F1 X O T F8 E9;have b0:u1.cell? wr=some (Yu d1):=Zw A9.o.cell;have b1:u1.cell? ⟨wr,1,none⟩=some (Yu d2):=Zw A9.o.cell;obtain⟨B0,B8,B7,B3⟩:=Yl (fun h=>Ec (xs:=xs) (d:=(d1,d2)) h) (fun h=>tN (xs:=xs) (f:=gk) (op:=C7) (R:=R) (M:=Ms) E7.o h) (fun h=>wG (xs:=xs) (f:=gk) (op:=C7) (R:=R) (M:=Ms) E7.o h) (fun(ls:Qd) h hl=>yj (xs:=xs) (op:=C7) (ls:=ls) E7.o h hl);generalize dW xs (d1,d2)=OE at C8 B0 B8 B7 B3;obtain⟨o,er⟩:=OE;simp only at C8 B0 B8 B7 B3;go_wp2_with fail;have hx:=C8.o;refine hx.mono ?_;clear hx C8 A7 I0 H8 q0 q1;rintro e u2 ⟨ea,ec,pa,pc,rfl,H6,V⟩;obtain⟨D8,C9⟩:=Yj (A1.o.below V) (A9.o.below V);have L9:=V.size;have G5:=Qf H6;have L3:=A9.o.lt;obtain⟨I4,data,G9,⟨t1,t2⟩,I3,F4,I8,J0⟩:=o;simp only[Ob.val];obtain⟨u3,S⟩:=Qe (u2.alloc (.cells #[Yi I4,data,.slice ea G9.length ec,Yu t1,Yu t2,.slice pa I3.length pc,F4,Yi I8,J0] 59));have I:Qg (fB w u3 _ _ _ _ _ _ _ _):=Qf (S▸D8.o.alloc _);have F9:Qg (BK wr #[Yu d1,Yu d2] 54 u3):=Qf (S▸C9.o.alloc _);have E6:Qg (BK u2 #[Yi I4,data,.slice ea G9.length ec,Yu t1,Yu t2,.slice pa I3.length pc,F4,Yi I8,J0] 59 u3):=Qf (S▸BK.new _ _ _);have B4:Qg (dZ (u1:Nat) u3 _ _ _ _ _):=Qf (S▸G5.o.below (ba _ _));have I2:(u3:Nat)=(u2:Nat)+1:=Zn S;have k0:u2.cell? wr=some (Yu d1):=Zw C9.o.cell;have k1:u2.cell? ⟨wr,1,none⟩=some (Yu d2):=Zw C9.o.cell;have p0:=fun z=>bP k0 z
    have p1:=fun z=>bP k1 z
    clear H6 V A9 C9 D8 G5 b0 b1;by_cases he:er=0
    ·subst he;obtain⟨v',u4,G,E,K,H⟩:=gz I.o.orr d1 d2 Zo (Zh I.o.lt);have J:=Qf ((I.o.alloc (.cells #[Yu d1,Yu d2] 54)).pushR E K (Zu H));have F3:∀k,(Value.slice ar R.length cr).ownBlock=some k->k<(u1:Nat):=fun k hk=>(A1.o.orr.lt k hk).2
     have F:Qg (BK u2 #[Yi I4,data,.slice ea G9.length ec,Yu t1,Yu t2,.slice pa I3.length pc,F4,Yi I8,J0] 59 u4):=Qf ((E6.o.alloc _).grow K (fun k hk e=>Zh (F3 k hk)));have B5:=Qf ((B4.o.below ((bf _).alloc nr (.cells #[Yu d1,Yu d2] 54))).keptR K F3);have A6:=Qf (Iz _ ea ec pa pc u4 B5.o.inn B5.o.bb);have H3:=rZ ⟨I4,data,G9,(t1,t2),I3,F4,I8,J0⟩;obtain⟨B1,Z,D6⟩:=Yk (B0.o rfl) (B7.o rfl) (fun(ls:Qd) hl=>B3.o ls rfl hl);rw[I2,S] at G;have D:=Qf G;simp only[Ob.val] at A6;generalize gG ⟨I4,data,G9,(t1,t2),I3,F4,I8,J0⟩=ls at A6 H3 B1 Z;clear G E K H S I F9 E6 B4 B8 B7 B3 B0 B5 F3 A1;generalize G9.length=ne at D A6 F ⊢;generalize I3.length=np at D A6 F ⊢;have o0:u4.cell? u2=some (Yi I4):=Zw F.o.cell;have o1:u4.cell? ⟨u2,1,none⟩=some (.string ⟨data.toArray⟩):=Zw F.o.cell;have o2:u4.cell? ⟨u2,2,none⟩=some (.slice ea ne ec):=Zw F.o.cell;have o3:u4.cell? ⟨u2,3,none⟩=some (Yu t1):=Zw F.o.cell;have o4:u4.cell? ⟨u2,4,none⟩=some (Yu t2):=Zw F.o.cell;have o5:u4.cell? ⟨u2,5,none⟩=some (.slice pa np pc):=Zw F.o.cell;have o6:u4.cell? ⟨u2,6,none⟩=some (.string ⟨F4.toArray⟩):=Zw F.o.cell;have o7:u4.cell? ⟨u2,7,none⟩=some (Yi I8):=Zw F.o.cell;have o8:u4.cell? ⟨u2,8,none⟩=some (.string ⟨J0.toArray⟩):=Zw F.o.cell;have E8:Qg (R.length+1=(R++[(d1,d2)]).length):=Qf Zs;generalize I6:R++[(d1,d2)]=R' at J Z E8;clear I6;generalize R.length=nR at D J4 E8 ⊢;obtain⟨J1,J2,rfl,_⟩:=aB J.o.orr;go_wp2_with (at_builtin; refine Lib.wpList_append_run _ rfl _ _ _ _ rfl _ _ rfl rfl _ _ D.o ?_);have hx:=A6.o;refine hx.mono ?_;clear hx A6 D p0 p1 k0 k1;rintro e u5 ⟨la,lc,rfl,C2,H1⟩;obtain⟨D9,D0⟩:=Yj (J.o.below H1) C2;have E3:Qg (QH (.slice g m co) (.slice la ls.length lc)):=Qf (fun k h1 h2=>by have:=(J.o.oo.lt k h1).2; have:=(C2.lt k h2).1; omega);obtain⟨B,hB⟩:=Qe (u4:Nat);rw[<-hB] at D0;obtain⟨nl,F2⟩:=Qe ls.length;rw[<-F2] at H3 D0 E3 ⊢;have D1:=Qf F2;clear C2 H1 o0 o1 o2 o3 o4 o5 o6 o7 o8 F J hB F2;go_wp2;go_loopw [9,58] (fun v i wx=>∃j:Nat,j<=nl/\i=Yi j/\Qg (fB w wx (fun d=>decide (d∈(d1,d2)::A3)) (nm+1) v (.slice J1 R'.length J2) (.slice am Ms.length cm) (C7++(ls.take j).filter fun l=>!decide (l∈(d1,d2)::A3)) R' Ms)/\Qg (wx.ownsRow B 54 2 (.slice la nl lc) nl (aW ls))/\Qg (QH v (.slice la nl lc))) (fun _ i _=>nl-(intOf i).toNat)
     case atStart=>exact⟨0,Zo,rfl,Zu D9,D0,E3⟩
     case round=>
      clear D9 D0 E3;obtain⟨j,hj,rfl,U,B2,A4⟩:=hrel;have D3:(C7++(ls.take j).filter fun l=>!decide (l∈(d1,d2)::A3)).length<=5200000:=by
       rw[af];have h1:=List.length_filter_le (fun l=>!decide (l∈(d1,d2)::A3)) (ls.take j);have h2:(ls.take j).length<=j:=List.length_take_le _ _;have h3:=HM.o;omega
      obtain⟨av,cv,rfl,D2⟩:=aB U.out.oo;by_cases I9:j<nl
      ·have h1:j<ls.length:=D1.o▸I9;have H2:dE wr wr la ls:=kr D1.o B2.out;obtain⟨b0,o0,rfl,K9,q0,q1⟩:=H2 j h1;have A8:=Qf (rG (fun l=>!decide (l∈(d1,d2)::A3)) ls j h1);have E2:=B1.o _ (ak h1);generalize ls[j]=lk at q0 q1 A8 E2;obtain⟨l1,l2⟩:=lk;simp only at q0 q1;obtain⟨L,A0⟩:=Yj (U.out.alloc (.cells #[Yu l1,Yu l2] 54)) (B2.out.alloc (.cells #[Yu l1,Yu l2] 54));have A7:=L.o.mp.look E2;have L8:=U.out.lt;have K1:(j:Int)<(nl:Int):=Zo;clear H2;by_cases P:(l1,l2)∈(d1,d2)::A3
       ·rw[XI P] at A7;have hF:(C7++(ls.take j).filter fun l=>!decide (l∈(d1,d2)::A3))=C7++(ls.take (j+1)).filter fun l=>!decide (l∈(d1,d2)::A3):=by rw[A8.o,if_neg (Zj P),bG]
        have A2:Qg (fB w (wr.alloc (.cells #[Yu l1,Yu l2] 54)) (fun d=>decide (d∈(d1,d2)::A3)) (nm+1) (.slice av (C7++(ls.take j).filter fun l=>!decide (l∈(d1,d2)::A3)).length cv) (.slice J1 R'.length J2) (.slice am Ms.length cm) (C7++(ls.take (j+1)).filter fun l=>!decide (l∈(d1,d2)::A3)) R' Ms):=Qf (hF▸L.o);clear L A8 P hF U B2;generalize (C7++(ls.take j).filter fun l=>!decide (l∈(d1,d2)::A3)).length=nf at A2 A4 D2 D3 ⊢;go_wp2;go_roundw
        case rel=>exact⟨j+1,Zo,Zg,A2,A0,A4⟩
        case measure=>exact Yq
       ·rw[XN P] at A7;obtain⟨v2,x2,G,E,K,H⟩:=gz L.o.oo l1 l2 Zo Zt;have hF:(C7++(ls.take j).filter fun l=>!decide (l∈(d1,d2)::A3))++[(l1,l2)]=C7++(ls.take (j+1)).filter fun l=>!decide (l∈(d1,d2)::A3):=by rw[A8.o,if_pos (by simp only[Bool.not_eq_true',XL]; exact P),ay]
        rw[hF] at E;obtain⟨A2,G0⟩:=Yj ((L.o.alloc (.cells #[Yu l1,Yu l2] 54)).pushO E K (Zu H)) (gF (A0.o.alloc _) A4.out.symm K);have F5:=Qf (ig (N:=(wr:Nat)+1+1) (A0.o.alloc (.cells #[Yu l1,Yu l2] 54)) A4.out.symm (Zu H) Zs).symm;rw[show(wr.alloc (.cells #[Yu l1,Yu l2] 54)).heap.size=(wr:Nat)+1 by simp] at G;have D:=Qf G;clear G E K H hF L A0 A8 P U B2 A4;generalize (C7++(ls.take j).filter fun l=>!decide (l∈(d1,d2)::A3)).length=nf at D D2 D3 ⊢;go_wp2_with (at_builtin; refine Lib.wpList_append_run _ rfl _ _ _ _ rfl _ _ rfl rfl _ _ D.o ?_);go_roundw
        case rel=>exact⟨j+1,Zo,Zg,A2,G0,F5⟩
        case measure=>exact Yq
      ·have B9:ls.take j=ls:=ag (by rw[<-D1.o]; omega);rw[B9] at U D2 D3 ⊢;have Q:Qg (RX xs roots w gk (.slice J1 R'.length J2) (.slice am Ms.length cm) (.slice av (C7++ls.filter fun l=>!decide (l∈(d1,d2)::A3)).length cv) wr):=Qf
        ⟨_,R',Ms,(d1,d2)::A3,nm+1,U.out,E5.o▸Z.o,by
         have h1:=D6.o (ls.filter fun l=>!decide (l∈(d1,d2)::A3)) (by have:=List.length_filter_le (fun l=>!decide (l∈(d1,d2)::A3)) ls; have:=D1.o; omega);have h2:=G2.o
         omega,Zo,Zh E8.o,fun d hd=>by
         rcases aD.1 hd with h | h
         ·exact B6.o d h
         ·exact B1.o d (QJ.1 h).1⟩
       clear U B2 A4 B9 Z D6;generalize (C7++ls.filter fun l=>!decide (l∈(d1,d2)::A3)).length=nf at Q D2 D3 ⊢;go_wp2_with fail;go_roundg gk
       case measure=>omega
       case rel=>exact Q
    ·have L5:(er !=0)=true:=Zu he;obtain⟨v',u4,G,E,K,H⟩:=gz I.o.om d1 d2 Zo (Zh I.o.lt);have J:=Qf ((I.o.alloc (.cells #[Yu d1,Yu d2] 54)).pushM E K (Zu H));have Q:Qg (RX xs roots w gk (.slice ar R.length cr) v' (.slice g m co) u4):=Qf
      ⟨C7,R,Ms++[(d1,d2)],(d1,d2)::A3,nm+1,J.o,E5.o▸B8.o he,by have h1:=yh xs C7 A3 (d1,d2); have h2:=G2.o; omega,Zo,Zt,B6.o⟩
     rw[I2,S] at G;have D:=Qf G;clear G E K H S he J I F9 E6 B4 B8 B7 B3 B0;generalize G9.length=ne at D ⊢;generalize I3.length=np at D ⊢;generalize Ms.length=nM at D ⊢;go_wp2_with (at_builtin; refine Lib.wpList_append_run _ rfl _ _ _ _ rfl _ _ rfl rfl _ _ D.o ?_);go_roundg gk
     case measure=>omega
     case rel=>exact Q
theorem TG(x:Int):Ku (IntKind.u64.wrap x):=by
 rw[wrap_u64];unfold Ku;omega
theorem Wz(op:BinOp)(x y:Int):Ku (bits op .u64 x y):=by
 unfold bits;exact TG _
theorem Ty{f:Int->UInt8->Int}(A:∀x c,Ku (f x c)):∀(l:Qb) (x:Int),Ku x->Ku (l.foldl f x)
 | [],_,h=>h
 | c::l,x,_=>by rw[fE]; exact Ty A l _ (A x c)
theorem TE(l:Qb):OkD (iY l):=by
 unfold iY;split
 ·exact⟨⟨Zd,Zd⟩,Zd,Zd⟩
 ·exact⟨Ty (fun x c=>TG _) l _ ⟨Zd,Zd⟩,Ty (fun x c=>Wz _ _ _) l _ ⟨Zd,Zd⟩⟩
open Go.ChangeShapes Go.WideShapes Go.ChangeAt Go.RowKit Go.Deep
section
variable {H:Type} {enc:TypeId×Value->H} {W:World}
end
theorem NF(d:Nat)(x y x' y':Int)(W:World):(Op.equalIn (d+2) 54 (.agg #[Yu x,Yu y]) (.agg #[Yu x',Yu y'])).run prog W=.ok (x==x'&&y==y') W:=by
 obtain⟨i0,B,_,hs,_⟩:=XR CG;have h:=run_equalIn_array W (d+1) #[Yu x,Yu y] #[Yu x',Yu y'] underlying54 B;rw[sP,show List.range 2=[0,1] from rfl] at h;rw[h];have p0:∀(a b:Int) (V:World),(Go.part 52 #[Yu a,Yu b] (0*1)).run prog V=.ok (Yu a) V:=fun a b V=>run_part_plain V lM rfl
 have p1:∀(a b:Int) (V:World),(Go.part 52 #[Yu a,Yu b] (1*1)).run prog V=.ok (Yu b) V:=fun a b V=>run_part_plain V lM rfl
 have q:∀(a b:Int) (V:World),(Op.equalIn (d+1) 52 (Yu a) (Yu b)).run prog V=.ok (a==b) V:=fun a b V=>run_equalIn_int V d _ _ _ a b underlying52
 simp only[Op.eqItems,Sem.run_bind,p0,q,Result.andThen_ok];have E:∀(a b:Int) (V:World),(Go.part 52 #[Yu a,Yu b] 1).run prog V=.ok (Yu b) V:=p1;by_cases C:x=x' <;> by_cases D:y=y' <;> simp[C,D,E,q]
theorem Nl(x1 x2 y1 y2:Int)(s t:ByteArray)(W:World):(binOp .neq 56 (.agg #[Yu x1,Yu x2,.string s]) (.agg #[Yu y1,Yu y2,.string t])).run prog W=.ok (.bool (!((x1==y1&&x2==y2)&&s.toList==t.toList))) W:=by
 rw[run_neq_struct,run_equalIn_struct W 9999 56 _ _ Zk Zk];have B : (prog.fieldsOf 56).toList=[{ name := "Digest", type:=54, offset:=0, embedded:=false, tag := "", pkgPath := "", byteOffset:=0 }, { name := "Data", type:=9, offset:=2, embedded:=false, tag := "", pkgPath := "", byteOffset:=16 }]:=by kernel_rfl
 rw[B];have p0:∀(a b:Int) (r:ByteArray) (V:World),(Go.part 54 #[Yu a,Yu b,.string r] 0).run prog V=.ok (.agg #[Yu a,Yu b]) V:=fun a b r V=>Zk
 have p2:∀(a b:Int) (r:ByteArray) (V:World),(Go.part 9 #[Yu a,Yu b,.string r] 2).run prog V=.ok (.string r) V:=fun a b r V=>Zk
 have q0:=fun V=>NF 9997 x1 x2 y1 y2 V
 have q1:=fun V=>run_equalIn_string (P:=prog) V 9998 9 s t underlying9
 simp only[Op.eqFields,Sem.run_bind,Sem.run_ite,p0,p2,q0,q1,Result.andThen_ok];cases C:(x1==y1&&x2==y2) <;> cases D:(s.toList==t.toList) <;> simp
theorem PE(a b:Qa)(ds es:List Itm)(c c':Nat)(w:World)(h:Its w w a ds)(V:Its w w b es)(hn:(ds.length:Int)<=1000000000)(T:(es.length:Int)<=1000000000):
  Qh 20 #[.slice a ds.length c,.slice b es.length c'] w (Xz (.bool (decide (ds=es))) w):=by
 obtain⟨R,S⟩:∃R,R=decide (ds=es):=⟨_,rfl⟩;rw[<-S];obtain⟨P,H,Z⟩:=Yk S h V;obtain⟨n,E⟩:=Qe ds.length;obtain⟨m,D⟩:=Qe es.length;rw[<-E] at hn ⊢;rw[<-D] at T ⊢;obtain⟨M,O⟩:=Yj E D;clear h V E D S;by_cases B:n=m
 ·subst B;have e1:((n:Int) !=(n:Int))=false:=Zs;go_enter func20,ntmps20;go_wp2;go_loopw [5] (fun i wr=>∃k:Nat,k<=n/\i=Yi k/\Qg (PM w wr)/\Qg (ds.take k=es.take k)) (fun i _=>n-(intOf i).toNat)
  case atStart=>exact⟨0,Zo,rfl,Qf (bf _),Qf rfl⟩
  case round=>
   obtain⟨k,hk,rfl,F,N⟩:=hrel;have A4:=F.out.size;by_cases A2:k<n
   ·have X:k<ds.length:=Zh M.o;have Y:k<es.length:=Zh O.o;obtain⟨b0,o0,rfl,A0,q0,q1,q2⟩:=(H.o.below F.out nr) k X;obtain⟨b1,o1,rfl,A1,r0,r1,r2⟩:=(Z.o.below F.out nr) k Y;obtain⟨J,G⟩:=Yj (fun(h:ds[k]=es[k])=>qO N.out X Y h) (fun(h:ds[k]≠es[k]) (e:ds=es)=>h (by subst e; rfl));generalize ds[k]=x at q0 q1 q2 J G;generalize es[k]=y at r0 r1 r2 J G;obtain⟨⟨x1,x2⟩,xd⟩:=x;obtain⟨⟨y1,y2⟩,yd⟩:=y;simp only at q0 q1 q2 r0 r1 r2;have U:=fun W=>Nl x1 x2 y1 y2 ⟨xd.toArray⟩ ⟨yd.toArray⟩ W
    have K:(xd:ByteArray).toList=xd:=by rw[Lib.toList_data]
    have L:(yd:ByteArray).toList=yd:=by rw[Lib.toList_data]
    rw[K,L] at U;clear K L;cases C:((x1==y1&&x2==y2)&&xd==yd) with
    | true=>
     rw[C] at U;have Q:=Qf (J.o (by
      simp only[XF,XS] at C;rw[C.1.1,C.1.2,C.2]))
     clear C J G N;go_wp2_with fail;go_quiet (fail);go_wp2;go_roundw
     case rel=>exact⟨k+1,Zo,Zg,Qf (below_drewN F.out _),Q⟩
     case measure=>exact Yq
    | false=>
     rw[C] at U;have I:Qg (R=false):=Qf (by
      rw[P.o];refine XN (G.o ?_);intro h;simp only[Itm.mk.injEq,XC] at h;simp[h.1.1,h.1.2,h.2] at C)
     clear C J G N;go_wp2_with fail;go_quiet (fail);go_wp2;go_ret;exact⟨Zw I.o,below_drewN F.out _⟩
   ·have I:Qg (R=true):=Qf (by
     rw[P.o];exact XI (AO (by rw[<-M.o,<-O.o]) k N.out (by rw[<-M.o]; omega)))
    go_wp2;go_ret;exact⟨Zw I.o,F.out⟩
 ·have e1:((n:Int) !=(m:Int))=true:=Zt;have e2:(n !=m)=true:=Zu B;have I:Qg (R=false):=Qf (by
   rw[P.o];refine XN (fun e=>B ?_);rw[M.o,O.o,e])
  clear B;go_enter func20,ntmps20;go_wp2;go_ret;exact⟨Zw I.o,bf _⟩
theorem yU{α:Type}{p:α->Bool}{l:List α}(h:k<l.length)(A:(l.take k).any p=false)(B:p l[k]=false):(l.take (k+1)).any p=false:=by
 rw[ai h,List.any_append,A];simp[B]
def OU(xs:List Itm)(l:Qd):List Itm:=xs.filter fun x=>decide (x.d∈l)
open Go.RowKit
theorem Hu(L:Qb)(w:World)(hs:(L.length:Int)<=140737488355328):
  Qh 76 #[L] w (Xz (.agg #[Yu (iY L).1,Yu (iY L).2]) w):=by
 have I:Qg (iY L=if L.foldl BM 14695981039346656037=0/\L.foldl CY 14695981039346656037=0 then(0,1) else(L.foldl BM 14695981039346656037,L.foldl CY 14695981039346656037)):=Qf rfl;obtain⟨R1,R2,Q⟩:∃R1 R2,iY L=(R1,R2):=⟨_,_,rfl⟩;rw[Q] at I ⊢;clear Q;obtain⟨f,E⟩:∃f:Qb->Int,f=fun l=>l.foldl BM 14695981039346656037:=⟨_,rfl⟩
 obtain⟨g,F⟩:∃g:Qb->Int,g=fun l=>l.foldl CY 14695981039346656037:=⟨_,rfl⟩
 have R:Qg (∀k (h:k<L.length),f (L.take (k+1))=BM (f (L.take k)) L[k]):=Qf (fun k h=>E▸gY _ _ _ _ h);have S:Qg (∀k (h:k<L.length),g (L.take (k+1))=CY (g (L.take k)) L[k]):=Qf (fun k h=>F▸gY _ _ _ _ h);have J:Qg (f (L.take 0)=14695981039346656037):=Qf (Zw E);have K:Qg (g (L.take 0)=14695981039346656037):=Qf (Zw F);have B:Qg ((R1,R2)=if f L=0/\g L=0 then(0,1) else(f L,g L)):=Qf (by rw[E,F]; exact I.o);clear E F I;go_enter func76,ntmps76;go_wp2;go_loop [3,4,5] (fun n m i=>∃(k:Nat) (x y:Int),k<=L.length/\i=Yi k/\n=Yu x/\m=Yu y/\Qg (x=f (L.take k))/\Qg (y=g (L.take k))) (fun _ _ i=>L.length-(intOf i).toNat)
 case atStart=>exact⟨0,_,_,Zo,rfl,rfl,rfl,Qf J.o.symm,Qf K.o.symm⟩
 case round=>
  obtain⟨k,x,y,V,rfl,rfl,rfl,O,P⟩:=hrel;by_cases D:k<L.length
  ·have N:Qg (f (L.take (k+1))=BM x L[k]):=Qf (O.out▸R.o k D);have M:Qg (g (L.take (k+1))=CY y L[k]):=Qf (P.out▸S.o k D);go_wp2;go_round
   case rel=>exact⟨k+1,_,_,Zo,Zg,rfl,rfl,Qf (Zw N.o),Qf (Zw M.o)⟩
   case measure=>exact Yq
  ·have N:Qg (f L=x):=Qf (by rw[O.out,ag Zo]);have M:Qg (g L=y):=Qf (by rw[P.out,ag Zo]);rw[N.o,M.o] at B;by_cases G:x=0
   ·subst G;by_cases H:y=0
    ·subst H;have C:Qg (R1=0/\R2=1):=Qf (Zu B.o);go_wp2;refine XB (v:=.agg #[Yu 0,Yu 1]) (by simp[results,results76,go_sem]) rfl ⟨by rw[C.o.1,C.o.2],?_⟩;exact ba w _
    ·have C:Qg (R1=0/\R2=y):=Qf (by simpa[H] using B.o);have U:(y==0)=false:=Zu H;clear H;go_wp2;refine XB (v:=.agg #[Yu 0,Yu y]) (by simp[results,results76,go_sem]) rfl ⟨by rw[C.o.1,C.o.2],?_⟩;exact ba w _
   ·have C:Qg (R1=x/\R2=y):=Qf (by simpa[G] using B.o);have T:(x==0)=false:=Zu G;clear G;go_wp2;refine XB (v:=.agg #[Yu x,Yu y]) (by simp[results,results76,go_sem]) rfl ⟨by rw[C.o.1,C.o.2],?_⟩;exact ba w _
def Cr(xs:List Itm):Bool:=decide (40<xs.length)||xs.any fun x=>decide (500<x.data.length)
theorem Ol(a:Qa)(xs:List Itm)(c:Nat)(w:World)(h:Its w w a xs)(V:(xs.length:Int)<=9223372036854775807)(Q:∀x∈xs,(x.data.length:Int)<=9223372036854775807):
  Qh 36 #[.slice a xs.length c] w fun e w'=>e=.returned (.bool (Cr xs))/\w=w':=by
 obtain⟨R,C⟩:=Qe (Cr xs);rw[<-C];unfold Cr at C;obtain⟨H,T⟩:=Yj h Q;obtain⟨n,N⟩:=Qe xs.length;rw[<-N] at C V ⊢;have O:=Qf N;clear h Q N;by_cases F:(40:Int)<(n:Int)
 ·have d1:decide ((40:Int)<(n:Int))=true:=Zu F;have D:Qg (R=true):=Qf (by rw[C,XI (show 40<n by omega)]; simp);clear C;go_enter func36,ntmps36;go_wp2;go_ret;exact⟨Zw D.o,rfl⟩
 ·have d1:decide ((40:Int)<(n:Int))=false:=Zu F;have b1:decide (40<n)=false:=Zt;have P:Qg (R=xs.any fun x=>decide (500<x.data.length)):=Qf (by rw[C,b1,Bool.false_or]);clear C b1;go_enter func36,ntmps36;go_wp2;go_loop [3] (fun i=>∃k:Nat,k<=n/\i=Yi k/\Qg ((xs.take k).any (fun x=>decide (500<x.data.length))=false)) (fun i=>n-(intOf i).toNat)
  case atStart=>exact⟨0,Zo,rfl,Qf rfl⟩
  case round=>
   obtain⟨k,X,rfl,K⟩:=hrel;by_cases W:k<n
   ·have J:k<xs.length:=Zh O.o;obtain⟨b0,o0,rfl,U,q0,q1,q2⟩:=H.o k J;have G:=T.o _ (ak J);have B:=Qf (fun M=>yU (p:=fun x:Itm=>decide (500<x.data.length)) J K.out M);have E:Qg (500<xs[k].data.length->R=true):=Qf (fun M=>by rw[P.o,List.any_eq_true]; exact⟨_,ak J,Zu M⟩);generalize xs[k]=x at q2 G B E;obtain⟨xd,dt⟩:=x;simp only at q2 G B E;clear q0 q1;have S:(k:Int)<(n:Int):=Zo;by_cases I:(500:Int)<(dt.length:Int)
    ·have d2:decide ((500:Int)<(dt.length:Int))=true:=Zu I;have D:Qg (R=true):=Qf (E.o Zo);clear B E;go_wp2;go_ret;exact⟨Zw D.o,rfl⟩
    ·have d2:decide ((500:Int)<(dt.length:Int))=false:=Zu I;have L:=Qf (B.o Zt);clear B E K;go_wp2;go_round
     case rel=>exact⟨k+1,Zo,Zg,L⟩
     case measure=>exact Yq
   ·have D:Qg (R=false):=Qf (by rw[P.o,<-ag (l:=xs) (i:=k) (Zh O.o)]; exact K.out);go_wp2;go_ret;exact⟨Zw D.o,rfl⟩
theorem NS(h:x<x'):eO (x,y) (x',y')=-1:=by
 have:=bF (x,y) (x',y');simp only at this;omega
theorem NT(h:x'<x):eO (x,y) (x',y')=1:=by
 have:=bF (x,y) (x',y');simp only at this;omega
theorem FB(x y x' y':Int)(w:World):Qh 77 #[.agg #[Yu x,Yu y],.agg #[Yu x',Yu y']] w (Xz (Yi (eO (x,y) (x',y'))) w):=by
 obtain⟨R,K⟩:=Qe (eO (x,y) (x',y'));rw[<-K];have E:=Qf K;clear K;go_enter func77,ntmps77;go_wp2;go_loopw [5] (fun i wr=>∃k q:Nat,k<=2/\i=Yi k/\wr=((w.alloc (.cells #[Yu x,Yu y] 54)).alloc (.cells #[Yu x',Yu y'] 54)).drewN q/\Qg ((1<=k->x=x')/\(2<=k->y=y'))) (fun i _=>2-(intOf i).toNat)
 case atStart=>exact⟨0,0,Zo,rfl,rfl,Qf ⟨Zo,Zo⟩⟩
 case round=>
  obtain⟨k,q,L,rfl,rfl,D⟩:=hrel;by_cases C:k=0
  ·subst C;by_cases B:x<x'
   ·have d1:decide (x<x')=true:=Zu B;have G:Qg (R=-1):=Qf (by rw[E.o,NS B]);clear B D E;go_wp2_with fail;go_quiet (fail);go_wp2;go_ret;exact⟨Zw G.o,below_drewN (below_drewN ((ba w _).alloc Zs _) _) _⟩
   ·have d1:decide (x<x')=false:=Zu B;by_cases F:x'<x
    ·have d2:decide (x'<x)=true:=Zu F;have G:Qg (R=1):=Qf (by rw[E.o,NT F]);clear B F D E;go_wp2_with fail;go_quiet (fail);go_wp2_with fail;go_quiet (fail);go_wp2;go_ret;exact⟨Zw G.o,below_drewN (below_drewN (below_drewN ((ba w _).alloc Zs _) _) _) _⟩
    ·have d2:decide (x'<x)=false:=Zu F;have I:Qg (x=x'):=Qf Zo;clear B F D;go_wp2_with fail;go_quiet (fail);go_wp2_with fail;go_quiet (fail);go_wp2;go_roundw
     case rel=>exact⟨1,_,Zo,Zg,by first | rfl | (simp only[World.drewN_drewN]; rfl),Qf ⟨fun _=>I.o,Zo⟩⟩
     case measure=>simp[intOf]
  ·by_cases H:k=1
   ·subst H;have J:=Qf (D.out.1 Zo);by_cases B:y<y'
    ·have d1:decide (y<y')=true:=Zu B;have G:Qg (R=-1):=Qf (by
      rw[E.o];have:=bF (x,y) (x',y');have:=J.o;simp only at *
      omega)
     clear B D E C;go_wp2_with fail;go_quiet (fail);go_wp2;go_ret;exact⟨Zw G.o,below_drewN (below_drewN ((ba w _).alloc Zs _) _) _⟩
    ·have d1:decide (y<y')=false:=Zu B;by_cases F:y'<y
     ·have d2:decide (y'<y)=true:=Zu F;have G:Qg (R=1):=Qf (by
       rw[E.o];have:=bF (x,y) (x',y');have:=J.o;simp only at *
       omega)
      clear B F D E C;go_wp2_with fail;go_quiet (fail);go_wp2_with fail;go_quiet (fail);go_wp2;go_ret;exact⟨Zw G.o,below_drewN (below_drewN (below_drewN ((ba w _).alloc Zs _) _) _) _⟩
     ·have d2:decide (y'<y)=false:=Zu F;have I:Qg (y=y'):=Qf Zo;clear B F D C;go_wp2_with fail;go_quiet (fail);go_wp2_with fail;go_quiet (fail);go_wp2;go_roundw
      case rel=>exact⟨2,_,Zo,Zg,by first | rfl | (simp only[World.drewN_drewN]; rfl),Qf ⟨fun _=>J.o,fun _=>I.o⟩⟩
      case measure=>simp[intOf]
   ·obtain rfl:k=2:=Zo;have G:Qg (R=0):=Qf (by rw[E.o,D.out.1 Zo,D.out.2 Zo,fO]);clear D E C H;go_wp2;go_ret;exact⟨Zw G.o,below_drewN ((ba w _).alloc Zs _) _⟩
