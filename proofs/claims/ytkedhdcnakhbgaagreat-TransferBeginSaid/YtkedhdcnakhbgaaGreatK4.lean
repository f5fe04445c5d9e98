/- Joined texts: PoCm, PoIt, PoFd, PoAp, PoCc, PoIn, PoGe, PoPu, PoCk. -/
import Derived.Test.YtkedhdcnakhbgaaGreatK3
import Derived.Deep.RegionHeld3
import Derived.Deep.DrawnRows
import Derived.Sort.Grow
import Derived.Lib.AppendZerosOnto
import Derived.Maps.AppendAt
/- digest.Compare. -/
set_option linter.unusedSimpArgs false
set_option maxRecDepth 100000
set_option maxHeartbeats 16000000
namespace Go.Proofs.YtkedhdcnakhbgaaGreat
open Go.RowKit Go.Shelf
set_option linter.unusedVariables false
variable {cs:Array Value}{d:Int×Int}{xs:List Value}{B B' b base c h i j k n z:Nat}{a:Qa}{a0 a1 a2 a3 a4 a5 a6 a7:Value}{W W' w w':World}
theorem BK.c1{t:TypeId}(h:BK b #[a0] t W):W.cell? ⟨b,0,none⟩=some a0:=by rw[h.cell]; rfl
theorem BK.f1{t:TypeId}(h:BK b cs t W):W.frozen? ⟨b,0,none⟩=false:=h.frozen 0
theorem BK.c2{t:TypeId}(h:BK b #[a0,a1] t W):W.cell? ⟨b,0,none⟩=some a0/\W.cell? ⟨b,1,none⟩=some a1:=⟨by rw[h.cell]; rfl,by rw[h.cell]; rfl⟩
theorem BK.f2{t:TypeId}(h:BK b cs t W):W.frozen? ⟨b,0,none⟩=false/\W.frozen? ⟨b,1,none⟩=false:=⟨h.frozen 0,h.frozen 1⟩
theorem BK.c3{t:TypeId}(h:BK b #[a0,a1,a2] t W):W.cell? ⟨b,0,none⟩=some a0/\W.cell? ⟨b,1,none⟩=some a1/\W.cell? ⟨b,2,none⟩=some a2:=⟨by rw[h.cell]; rfl,by rw[h.cell]; rfl,by rw[h.cell]; rfl⟩
theorem BK.f3{t:TypeId}(h:BK b cs t W):W.frozen? ⟨b,0,none⟩=false/\W.frozen? ⟨b,1,none⟩=false/\W.frozen? ⟨b,2,none⟩=false:=⟨h.frozen 0,h.frozen 1,h.frozen 2⟩
theorem BK.c4{t:TypeId}(h:BK b #[a0,a1,a2,a3] t W):W.cell? ⟨b,0,none⟩=some a0/\W.cell? ⟨b,1,none⟩=some a1/\W.cell? ⟨b,2,none⟩=some a2/\W.cell? ⟨b,3,none⟩=some a3:=⟨by rw[h.cell]; rfl,by rw[h.cell]; rfl,by rw[h.cell]; rfl,by rw[h.cell]; rfl⟩
theorem BK.f4{t:TypeId}(h:BK b cs t W):W.frozen? ⟨b,0,none⟩=false/\W.frozen? ⟨b,1,none⟩=false/\W.frozen? ⟨b,2,none⟩=false/\W.frozen? ⟨b,3,none⟩=false:=⟨h.frozen 0,h.frozen 1,h.frozen 2,h.frozen 3⟩
theorem BK.c5{t:TypeId}(h:BK b #[a0,a1,a2,a3,a4] t W):W.cell? ⟨b,0,none⟩=some a0/\W.cell? ⟨b,1,none⟩=some a1/\W.cell? ⟨b,2,none⟩=some a2/\W.cell? ⟨b,3,none⟩=some a3/\W.cell? ⟨b,4,none⟩=some a4:=⟨by rw[h.cell]; rfl,by rw[h.cell]; rfl,by rw[h.cell]; rfl,by rw[h.cell]; rfl,by rw[h.cell]; rfl⟩
theorem BK.f5{t:TypeId}(h:BK b cs t W):W.frozen? ⟨b,0,none⟩=false/\W.frozen? ⟨b,1,none⟩=false/\W.frozen? ⟨b,2,none⟩=false/\W.frozen? ⟨b,3,none⟩=false/\W.frozen? ⟨b,4,none⟩=false:=⟨h.frozen 0,h.frozen 1,h.frozen 2,h.frozen 3,h.frozen 4⟩
theorem BK.c6{t:TypeId}(h:BK b #[a0,a1,a2,a3,a4,a5] t W):W.cell? ⟨b,0,none⟩=some a0/\W.cell? ⟨b,1,none⟩=some a1/\W.cell? ⟨b,2,none⟩=some a2/\W.cell? ⟨b,3,none⟩=some a3/\W.cell? ⟨b,4,none⟩=some a4/\W.cell? ⟨b,5,none⟩=some a5:=⟨by rw[h.cell]; rfl,by rw[h.cell]; rfl,by rw[h.cell]; rfl,by rw[h.cell]; rfl,by rw[h.cell]; rfl,by rw[h.cell]; rfl⟩
theorem BK.f6{t:TypeId}(h:BK b cs t W):W.frozen? ⟨b,0,none⟩=false/\W.frozen? ⟨b,1,none⟩=false/\W.frozen? ⟨b,2,none⟩=false/\W.frozen? ⟨b,3,none⟩=false/\W.frozen? ⟨b,4,none⟩=false/\W.frozen? ⟨b,5,none⟩=false:=⟨h.frozen 0,h.frozen 1,h.frozen 2,h.frozen 3,h.frozen 4,h.frozen 5⟩
theorem BK.c7{t:TypeId}(h:BK b #[a0,a1,a2,a3,a4,a5,a6] t W):W.cell? ⟨b,0,none⟩=some a0/\W.cell? ⟨b,1,none⟩=some a1/\W.cell? ⟨b,2,none⟩=some a2/\W.cell? ⟨b,3,none⟩=some a3/\W.cell? ⟨b,4,none⟩=some a4/\W.cell? ⟨b,5,none⟩=some a5/\W.cell? ⟨b,6,none⟩=some a6:=⟨by rw[h.cell]; rfl,by rw[h.cell]; rfl,by rw[h.cell]; rfl,by rw[h.cell]; rfl,by rw[h.cell]; rfl,by rw[h.cell]; rfl,by rw[h.cell]; rfl⟩
theorem BK.f7{t:TypeId}(h:BK b cs t W):W.frozen? ⟨b,0,none⟩=false/\W.frozen? ⟨b,1,none⟩=false/\W.frozen? ⟨b,2,none⟩=false/\W.frozen? ⟨b,3,none⟩=false/\W.frozen? ⟨b,4,none⟩=false/\W.frozen? ⟨b,5,none⟩=false/\W.frozen? ⟨b,6,none⟩=false:=⟨h.frozen 0,h.frozen 1,h.frozen 2,h.frozen 3,h.frozen 4,h.frozen 5,h.frozen 6⟩
theorem BK.c8{t:TypeId}(h:BK b #[a0,a1,a2,a3,a4,a5,a6,a7] t W):W.cell? ⟨b,0,none⟩=some a0/\W.cell? ⟨b,1,none⟩=some a1/\W.cell? ⟨b,2,none⟩=some a2/\W.cell? ⟨b,3,none⟩=some a3/\W.cell? ⟨b,4,none⟩=some a4/\W.cell? ⟨b,5,none⟩=some a5/\W.cell? ⟨b,6,none⟩=some a6/\W.cell? ⟨b,7,none⟩=some a7:=⟨by rw[h.cell]; rfl,by rw[h.cell]; rfl,by rw[h.cell]; rfl,by rw[h.cell]; rfl,by rw[h.cell]; rfl,by rw[h.cell]; rfl,by rw[h.cell]; rfl,by rw[h.cell]; rfl⟩
theorem BK.f8{t:TypeId}(h:BK b cs t W):W.frozen? ⟨b,0,none⟩=false/\W.frozen? ⟨b,1,none⟩=false/\W.frozen? ⟨b,2,none⟩=false/\W.frozen? ⟨b,3,none⟩=false/\W.frozen? ⟨b,4,none⟩=false/\W.frozen? ⟨b,5,none⟩=false/\W.frozen? ⟨b,6,none⟩=false/\W.frozen? ⟨b,7,none⟩=false:=⟨h.frozen 0,h.frozen 1,h.frozen 2,h.frozen 3,h.frozen 4,h.frozen 5,h.frozen 6,h.frozen 7⟩
theorem BK.c9{a8:Value}{t:TypeId}(h:BK b #[a0,a1,a2,a3,a4,a5,a6,a7,a8] t W):W.cell? ⟨b,0,none⟩=some a0/\W.cell? ⟨b,1,none⟩=some a1/\W.cell? ⟨b,2,none⟩=some a2/\W.cell? ⟨b,3,none⟩=some a3/\W.cell? ⟨b,4,none⟩=some a4/\W.cell? ⟨b,5,none⟩=some a5/\W.cell? ⟨b,6,none⟩=some a6/\W.cell? ⟨b,7,none⟩=some a7/\W.cell? ⟨b,8,none⟩=some a8:=⟨by rw[h.cell]; rfl,by rw[h.cell]; rfl,by rw[h.cell]; rfl,by rw[h.cell]; rfl,by rw[h.cell]; rfl,by rw[h.cell]; rfl,by rw[h.cell]; rfl,by rw[h.cell]; rfl,by rw[h.cell]; rfl⟩
theorem BK.f9{t:TypeId}(h:BK b cs t W):W.frozen? ⟨b,0,none⟩=false/\W.frozen? ⟨b,1,none⟩=false/\W.frozen? ⟨b,2,none⟩=false/\W.frozen? ⟨b,3,none⟩=false/\W.frozen? ⟨b,4,none⟩=false/\W.frozen? ⟨b,5,none⟩=false/\W.frozen? ⟨b,6,none⟩=false/\W.frozen? ⟨b,7,none⟩=false/\W.frozen? ⟨b,8,none⟩=false:=⟨h.frozen 0,h.frozen 1,h.frozen 2,h.frozen 3,h.frozen 4,h.frozen 5,h.frozen 6,h.frozen 7,h.frozen 8⟩
def yM(x y:Int):Int:=if x<y then -1 else if y<x then 1 else 0
def eO(a b:Int×Int):Int:=if yM a.1 b.1≠0 then yM a.1 b.1 else yM a.2 b.2
theorem Be(x:Int):yM x x=0:=by simp[yM]
theorem Bc{x y:Int}:yM x y=0↔x=y:=by
 unfold yM;split
 ·simp; omega
 ·split
  ·simp; omega
  ·simp; omega
theorem fO(a:Int×Int):eO a a=0:=by simp[eO,Be]
theorem lv{a b:Int×Int}:eO a b=0↔a=b:=by
 unfold eO;by_cases h:yM a.1 b.1=0
 ·rw[if_neg (by simp[h]),Bc]
  rw[Bc] at h;constructor
  ·intro A; exact Prod.ext h A
  ·intro A; rw[A]
 ·rw[if_pos h]
  constructor
  ·intro A; exact absurd A h
  ·intro A; subst A; exact absurd (Be _) h
theorem IR(x:Int)(w:World):Qh 166 #[.int .u64 x] w fun e w'=>e=.returned (.bool false)/\w=w':=by
 have h:(x !=x)=false:=by simp
 go_enter Tryz.func166,Tryz.ntmps166;go_wp2_with fail;go_ret;exact⟨rfl,rfl⟩
theorem EG(x y:Int)(w:World):Qh 110 #[.int .u64 x,.int .u64 y] w fun e w'=>e=.returned (.int .i64 (yM x y))/\w=w':=by
 have C:=Qf IR;obtain⟨R,G⟩:=Qe (yM x y);rw[<-G];have D:Qg (R=if x<y then -1 else if y<x then 1 else 0):=Qf G;clear G;by_cases B:x<y
 ·have F:Qg (R=-1):=Qf (by rw[D.o,if_pos B])
  have d1:decide (x<y)=true:=by simpa using B
  clear D B;go_enter Tryz.func110,Tryz.ntmps110;go_wp2_with fail
  refine(C.o _ _).mono ?_;rintro e w' ⟨rfl,rfl⟩
  go_wp2_with fail
  refine(C.o _ _).mono ?_;rintro e w' ⟨rfl,rfl⟩
  go_wp2_with fail;go_ret;exact⟨by rw[F.o]; rfl,rfl⟩
 ·have d1:decide (x<y)=false:=by simpa using B
  by_cases E:y<x
  ·have F:Qg (R=1):=Qf (by rw[D.o,if_neg B,if_pos E])
   have d2:decide (y<x)=true:=by simpa using E
   clear D B E;go_enter Tryz.func110,Tryz.ntmps110;go_wp2_with fail
   refine(C.o _ _).mono ?_;rintro e w' ⟨rfl,rfl⟩
   go_wp2_with fail
   refine(C.o _ _).mono ?_;rintro e w' ⟨rfl,rfl⟩
   go_wp2_with fail;go_ret;exact⟨by rw[F.o]; rfl,rfl⟩
  ·have F:Qg (R=0):=Qf (by rw[D.o,if_neg B,if_neg E])
   have d2:decide (y<x)=false:=by simpa using E
   clear D B E;go_enter Tryz.func110,Tryz.ntmps110;go_wp2_with fail
   refine(C.o _ _).mono ?_;rintro e w' ⟨rfl,rfl⟩
   go_wp2_with fail
   refine(C.o _ _).mono ?_;rintro e w' ⟨rfl,rfl⟩
   go_wp2_with fail;go_ret;exact⟨by rw[F.o]; rfl,rfl⟩
theorem OO(b c:Nat)(x y:Int)(w:World)(L:w.cell? ⟨b,0,none⟩=some (.int .i64 x))(M:w.cell? ⟨b,1,none⟩=some (.int .i64 y)):
  Qh 109 #[.slice (some ⟨b,0,none⟩) 2 c] w fun e w'=>e=.returned (.int .i64 (if x≠0 then x else y))/\w=w':=by
 obtain⟨R,J⟩:=Qe (if x≠0 then x else y);rw[<-J];have D:=Qf J;clear J;go_enter Tryz.func109,Tryz.ntmps109;go_wp2_with fail;go_loop [8] (fun i=>∃k:Nat,k<=2/\i=.int .i64 k/\Qg ((1<=k->x=0)/\(2<=k->y=0))) (fun i=>2-(intOf i).toNat)
 case atStart=>exact⟨0,by omega,rfl,Qf ⟨by omega,by omega⟩⟩
 case round=>
  obtain⟨k,N,rfl,C⟩:=hrel;by_cases B:k=0
  ·subst B
   by_cases E:x=0
   ·have e1:(x !=0)=false:=by simpa using E
    have I:=Qf E;clear E C;go_wp2_with fail;go_round
    case rel=>exact⟨1,by omega,by go_num,Qf ⟨fun _=>I.o,by omega⟩⟩
    case measure=>simp[intOf]
   ·have e1:(x !=0)=true:=by simpa using E
    have F:Qg (R=x):=Qf (by rw[D.o,if_pos E]);clear E C D;go_wp2_with fail;go_ret;exact⟨by rw[F.o]; rfl,rfl⟩
  ·by_cases G:k=1
   ·subst G
    have I:=Qf (C.out.1 (by omega));by_cases H:y=0
    ·have e1:(y !=0)=false:=by simpa using H
     have K:=Qf H;clear H C B;go_wp2_with fail;go_round
     case rel=>exact⟨2,by omega,by go_num,Qf ⟨fun _=>I.o,fun _=>K.o⟩⟩
     case measure=>simp[intOf]
    ·have e1:(y !=0)=true:=by simpa using H
     have F:Qg (R=y):=Qf (by rw[D.o,if_neg (by simp[I.o])]);clear H C D B;go_wp2_with fail;go_ret;exact⟨by rw[F.o]; rfl,rfl⟩
   ·obtain rfl:k=2:=by omega
    have F:Qg (R=0):=Qf (by rw[D.o,if_neg (by simp[C.out.1 (by omega)]),C.out.2 (by omega)]);clear C D B G;go_wp2_with fail;go_ret;exact⟨by rw[F.o]; rfl,rfl⟩
def Laid(w w':World):Prop:=∃q os,w'=Go.Sort.grow (w.drewN q) os
theorem Laid.refl(w:World):Laid w w:=⟨0,#[],by rw[Go.Sort.grow_empty]; rfl⟩
theorem Laid.alloc(h:Laid w w')(o:Obj):Laid w (w'.alloc o):=by
 obtain⟨q,os,rfl⟩:=h;exact⟨q,os++#[o],by rw[Go.Sort.alloc_eq_grow,Go.Sort.grow_grow]⟩
theorem Laid.drew(h:Laid w w'):Laid w w'.drew:=by
 obtain⟨q,os,rfl⟩:=h;exact⟨q+1,os,rfl⟩
theorem Laid.below(h:Laid w w'):PM w w':=by
 obtain⟨q,os,rfl⟩:=h;exact below_regrown w _ os
theorem yN(x y x' y':Int)(w:World):Qh 59 #[.agg #[.int .u64 x,.int .u64 y],.agg #[.int .u64 x',.int .u64 y']] w fun e w'=>e=.returned (.int .i64 (eO (x,y) (x',y')))/\Laid w w':=by
 obtain⟨R,D⟩:=Qe (eO (x,y) (x',y'));rw[<-D];have H:=fun W=>jD x y x' y' W
 cases C:(x==x'&&y==y') with
 | true=>
  have I:Qg (R=0):=Qf (by
   simp only[Bool.and_eq_true,beq_iff_eq] at C;rw[D,C.1,C.2,fO])
  rw[C] at H;clear C D;go_enter Tryz.func59,Tryz.ntmps59;go_wp2_with fail;go_ret;exact⟨by rw[I.o]; rfl,((Laid.refl w).alloc _).alloc _⟩
 | false=>
  rw[C] at H;clear C;have B:R=if yM x x'≠0 then yM x x' else yM y y':=D
  have E:=Qf (fun W=>EG x x' W);have F:=Qf (fun W=>EG y y' W);generalize yM x x'=c1 at B E;generalize yM y y'=c2 at B F;have G:=Qf (fun b W J K=>OO b 2 c1 c2 W J K);rw[<-B] at G;clear D B;go_enter Tryz.func59,Tryz.ntmps59;go_wp2_with fail;go_region_held3 (fun w'=>w'.cell? ⟨w.heap.size,0,none⟩=some (.int .u64 x)/\w'.cell? ⟨w.heap.size,1,none⟩=some (.int .u64 y)/\w'.cell? ⟨w.heap.size+1,0,none⟩=some (.int .u64 x')/\w'.cell? ⟨w.heap.size+1,1,none⟩=some (.int .u64 y')) (go_keep)
   (first | ((with_reducible refine(E.o _).mono ?_); rintro e w' ⟨rfl,rfl⟩) | ((with_reducible refine(F.o _).mono ?_); rintro e w' ⟨rfl,rfl⟩) | ((with_reducible refine(G.o _ _ ?_ ?_).mono ?_); (simp[go_sem]); (simp[go_sem]); rintro e w' ⟨rfl,rfl⟩) | fail)
  all_goals (go_wp2_with fail; go_ret; exact⟨rfl,((((Laid.refl w).alloc _).alloc _).alloc _).drew⟩)
structure Itm where
 d:Int×Int
 data:Qb
deriving DecidableEq
abbrev Itm.val(x:Itm):Value:=.agg #[.int .u64 x.d.1,.int .u64 x.d.2,.string ⟨x.data.toArray⟩]
def dP(xs:List Itm):List Value:=xs.flatMap fun x=>[.int .u64 x.d.1,.int .u64 x.d.2,.string ⟨x.data.toArray⟩]
theorem yu(a b:List Itm):dP (a++b)=dP a++dP b:=by simp[dP]
theorem oV(a:List Itm):(dP a).length=a.length*3:=by
 induction a with
 | nil=>rfl
 | cons x a ih=>simp[dP] at ih ⊢; omega
theorem uo:∀(es:List Itm) (i:Nat) (h:i<es.length),(dP es)[i*3]? = some (.int .u64 es[i].d.1)/\(dP es)[i*3+1]? = some (.int .u64 es[i].d.2)/\(dP es)[i*3+2]? = some (.string ⟨es[i].data.toArray⟩)
 | [],i,h=>by simp at h
 | d::ds,0,h=>by simp[dP]
 | d::ds,i+1,h=>by
  have A:i<ds.length:=by simpa using h
  have e:dP (d::ds)=[.int .u64 d.d.1,.int .u64 d.d.2,.string ⟨d.data.toArray⟩]++dP ds:=by simp[dP]
  have g:∀j,(dP (d::ds))[(i+1)*3+j]? = (dP ds)[i*3+j]?:=fun j=>by
   rw[e,List.getElem?_append_right (by simp; omega)];congr 1;simp;omega
  have:=uo ds i A;simp only[bK];exact⟨(g 0).trans this.1,(g 1).trans this.2.1,(g 2).trans this.2.2⟩
theorem F9(xs:List Itm):∀v∈dP xs,v.oneCell'=true:=by
 intro v A;simp only[dP,List.mem_flatMap] at A;obtain⟨x,_,A⟩:=A;simp at A;rcases A with rfl | rfl | rfl <;> rfl
def Its(B:Nat)(W:World)(a:Qa)(es:List Itm):Prop:=
 ∀i (h:i<es.length),∃b off,a=some ⟨b,off,none⟩/\b<B/\W.cell? ⟨b,off+i*3,none⟩=some (.int .u64 es[i].d.1)/\W.cell? ⟨b,off+i*3+1,none⟩=some (.int .u64 es[i].d.2)/\W.cell? ⟨b,off+i*3+2,none⟩=some (.string ⟨es[i].data.toArray⟩)
theorem Its.below{es:List Itm}(h:Its B W a es)(A:Below B' W W')(I:B<=B'):Its B W' a es:=by
 intro i H;obtain⟨b,off,G,C,D,E,F⟩:=h i H;exact⟨b,off,G,C,(A.cell (p:=⟨b,off+i*3,none⟩) (by simp; omega)).trans D,(A.cell (p:=⟨b,off+i*3+1,none⟩) (by simp; omega)).trans E,(A.cell (p:=⟨b,off+i*3+2,none⟩) (by simp; omega)).trans F⟩
theorem Its.mono{es:List Itm}(h:Its B W a es)(F:B<=B'):Its B' W a es:=by
 intro i D;obtain⟨b,off,C,E,A⟩:=h i D;exact⟨b,off,C,by omega,A⟩
theorem Its.ahead{es:List Itm}(h:Its W.heap.size W a es)(A:PM W W'):Its W'.heap.size W' a es:=(h.below A nr).mono A.size
theorem Its.nil(B:Nat)(W:World)(a:Qa):Its B W a []:=fun i h=>by simp at h
theorem Its.take{es:List Itm}(h:Its B W a es)(k:Nat):Its B W a (es.take k):=by
 intro i F;have A:i<es.length:=by simp at F; omega
 obtain⟨b,off,E,C,D⟩:=h i A;refine⟨b,off,E,C,?_⟩;rw[List.getElem_take];exact D
theorem Ct{cap:Nat}{es:List Itm}(h:w.ownsRow base 56 3 (.slice a es.length cap) es.length (dP es)):Its w.heap.size w a es:=by
 intro i C;rcases h.2 with⟨A,D⟩ | ⟨g,cap',cur,A,_,B,_⟩
 ·omega
 ·cases A
  obtain⟨c0,c1,c2⟩:=uo es i C;refine⟨g,0,rfl,(Array.getElem?_eq_some_iff.1 B).1,?_,?_,?_⟩
  ·have:=h.cells (g:=g) rfl _ _ c0; rwa[Go.WideShapes.add_plain] at this
  ·have:=h.cells (g:=g) rfl _ _ c1; rwa[Go.WideShapes.add_plain,<-aP] at this
  ·have:=h.cells (g:=g) rfl _ _ c2; rwa[Go.WideShapes.add_plain,<-aP] at this
theorem CJ:(Tryz.prog.info? 56).map (fun i=>(i.zero,i.size,i.bytes))=some (some (.agg #[.int .u64 0,.int .u64 0,.string ⟨#[]⟩]),3,32):=by kernel_rfl
theorem Jh(x:Itm)(d1 d2:Int)(w:World):Qh 112 #[x.val,.agg #[.int .u64 d1,.int .u64 d2]] w fun e w'=>e=.returned (.int .i64 (eO x.d (d1,d2)))/\PM w w':=by
 obtain⟨⟨x1,x2⟩,data⟩:=x;have B:=Qf (fun W=>yN x1 x2 d1 d2 W);simp only[Itm.val];generalize eO (x1,x2) (d1,d2)=R at B ⊢;go_enter Tryz.func112,Tryz.ntmps112;go_wp2_with fail;have D:=B.o ((w.alloc (.cells #[.int .u64 x1,.int .u64 x2,.string ⟨data.toArray⟩] 56)).alloc (.cells #[.int .u64 d1,.int .u64 d2] 54))
 refine D.mono ?_;clear D B
 rintro e w1 ⟨rfl,C⟩;have E:=Qf C.below;clear C;go_wp2_with fail;go_ret;exact⟨rfl,((ba w _).alloc (by simp) _).trans (E.o.mono (by simp; omega))⟩
structure At (xs:List Itm) (d:Int×Int) (k:Nat):Prop where
 le:k<=xs.length
 lo:∀j (h:j<xs.length),j<k->eO xs[j].d d<0
 hi:∀j (h:j<xs.length),k<=j->0<=eO xs[j].d d
def qw(xs:List Itm)(d:Int×Int)(k:Nat):Bool:=match xs[k]? with | some x=>decide (x.d=d) | none=>false
def Asc(xs:List Itm):Prop:=∀i j (hi:i<xs.length) (hj:j<xs.length),i<j->eO xs[i].d xs[j].d<0
def GotF(w:World)(xs:List Itm)(d:Int×Int)(e:Ending)(w':World):Prop:=∃k:Nat,e=.returned (.tuple #[.int .i64 k,.bool (qw xs d k)])/\At xs d k/\PM w w'
theorem xB(x y:Int):(yM x y=-1/\x<y)\/(yM x y=0/\x=y)\/(yM x y=1/\y<x):=by
 unfold yM;split
 ·left; exact⟨rfl,‹_›⟩
 ·split
  ·right; right; exact⟨rfl,‹_›⟩
  ·right; left; exact⟨rfl,by omega⟩
theorem bF(a b:Int×Int):(eO a b=-1/\(a.1<b.1\/(a.1=b.1/\a.2<b.2)))\/(eO a b=0/\a.1=b.1/\a.2=b.2)\/(eO a b=1/\(b.1<a.1\/(a.1=b.1/\b.2<a.2))):=by
 unfold eO;rcases xB a.1 b.1 with h | h | h
 ·rw[if_pos (by rw[h.1]; decide)]; left; exact⟨h.1,.inl h.2⟩
 ·rw[if_neg (by rw[h.1]; decide)]
  rcases xB a.2 b.2 with g | g | g
  ·left; exact⟨g.1,.inr ⟨h.2,g.2⟩⟩
  ·right; left; exact⟨g.1,h.2,g.2⟩
  ·right; right; exact⟨g.1,.inr ⟨h.2,g.2⟩⟩
 ·rw[if_pos (by rw[h.1]; decide)]; right; right; exact⟨h.1,.inl h.2⟩
theorem qA{a b c:Int×Int}(A:eO a b<0)(B:eO b c<0):eO a c<0:=by
 have g1:=bF a b;have g2:=bF b c;have g3:=bF a c;omega
theorem ve{a b c:Int×Int}(A:eO a b<0)(B:0<=eO a c):0<=eO b c:=by
 have g1:=bF a b;have g2:=bF b c;have g3:=bF a c;omega
theorem iZ{a b:Int×Int}:eO a b=- eO b a:=by
 have g1:=bF a b;have g2:=bF b a;omega
def BS(xs:List Itm)(d:Int×Int)(i j:Nat):Prop:=(∀k (h:k<xs.length),k<i->eO xs[k].d d<0)/\∀k (h:k<xs.length),j<=k->0<=eO xs[k].d d
theorem BS.start(xs:List Itm)(d:Int×Int):BS xs d 0 xs.length:=⟨fun k h A=>by omega,fun k h A=>by omega⟩
theorem BS.left{xs:List Itm}(D:BS xs d i j)(C:Asc xs)(E:h<xs.length)(B:eO xs[h].d d<0):BS xs d (h+1) j:=by
 refine⟨fun k F G=>?_,D.2⟩;rcases gB k h with A | A
 ·exact qA (C k h F E A) B
 ·obtain rfl:k=h:=by omega
  exact B
theorem BS.right{xs:List Itm}(D:BS xs d i j)(C:Asc xs)(E:h<xs.length)(B:0<=eO xs[h].d d):BS xs d i h:=by
 refine⟨D.1,fun k F G=>?_⟩;rcases gB h k with A | A
 ·exact ve (C h k E F A) B
 ·obtain rfl:k=h:=by omega
  exact B
theorem BS.fin{xs:List Itm}(A:BS xs d i i)(B:i<=xs.length):At xs d i:=⟨B,A.1,A.2⟩
theorem Dn(a:Qa)(xs:List Itm)(c:Nat)(d1 d2:Int)(w:World)(hx:Its w.heap.size w a xs)(ha:Asc xs)(hn:(xs.length:Int)<=140737488355328):
  Qh 111 #[.slice a xs.length c,.agg #[.int .u64 d1,.int .u64 d2],.func (.func 112) #[] #[]] w (GotF w xs (d1,d2)):=by
 have HX:=Qf hx;have HA:=Qf ha;have HC:=Qf (fun(x:Itm) W=>Jh x d1 d2 W);obtain⟨n,F⟩:=Qe xs.length;have P:=Qf F;rw[<-F] at hn ⊢;have HS:Qg (BS xs (d1,d2) 0 n):=Qf (by rw[F]; exact BS.start _ _);clear hx ha F;go_enter Tryz.func111,Tryz.ntmps111;go_wp2_with fail;obtain⟨u,T⟩:=Qe (w.alloc (.cells #[.int .u64 d1,.int .u64 d2] 54));have U:u.heap.size=w.heap.size+1:=by rw[T]; simp
 have HU:Qg (BK w.heap.size #[.int .u64 d1,.int .u64 d2] 54 u):=Qf (by rw[T]; exact BK.new _ _ _);have J:Qg (PM w u):=Qf (by rw[T]; exact ba w _);have Y:=Qf U;rw[<-T];clear T U;go_loopw [9,10] (fun i j wr=>∃(ki kj:Nat),i=.int .i64 ki/\j=.int .i64 kj/\ki<=kj/\kj<=n/\Qg (BS xs (d1,d2) ki kj)/\Qg (PM u wr)) (fun i j _=>(intOf j).toNat-(intOf i).toNat)
 case atStart=>exact⟨0,n,rfl,rfl,by omega,by omega,HS,Qf (bf _)⟩
 case round=>
  clear HS;obtain⟨ki,kj,rfl,rfl,B4,B5,V,I⟩:=hrel;have G:=I.out.size;have B9:=Y.o;have hX:Its wr.heap.size wr a xs:=(HX.o.ahead J.o).ahead I.out;have bk:BK w.heap.size #[.int .u64 d1,.int .u64 d2] 54 wr:=HU.o.below I.out;have c0:wr.cell? ⟨w.heap.size,0,none⟩=some (.int .u64 d1):=by rw[bk.cell]; rfl
  have c1:wr.cell? ⟨w.heap.size,1,none⟩=some (.int .u64 d2):=by rw[bk.cell]; rfl
  have R:=Qf hX;clear hX bk;by_cases B7:ki<kj
  ·obtain⟨h,hh⟩:=Qe ((ki+kj)/2)
   have B1:ki<=h:=by omega
   have B2:h<kj:=by omega
   have E:h<xs.length:=by have:=P.o; omega
   have S:((ki:Int)+(kj:Int))/2=(h:Int):=by omega
   have X:=Qf S;have B3:(h:Int)<(n:Int):=by have:=P.o; omega
   obtain⟨b0,o0,rfl,Z,q0,q1,q2⟩:=R.o h E;have L:=Qf (fun K=>V.out.left HA.o E K);have M:=Qf (fun K=>V.out.right HA.o E K);generalize xs[h]=it at q0 q1 q2 L M;have B:=Qf (fun d os=>Calls.regrown_of (w:=wr) (d:=d) (os:=os) (HC.o it _));obtain⟨⟨i1,i2⟩,dt⟩:=it;simp only at q0 q1 q2 L M B;generalize eO (i1,i2) (d1,d2)=cv at L M B;have c0':=fun d os=>cell_regrown c0 d os
   have c1':=fun d os=>cell_regrown c1 d os
   have q0':=fun d os=>cell_regrown q0 d os
   have q1':=fun d os=>cell_regrown q1 d os
   have q2':=fun d os=>cell_regrown q2 d os
   clear S hh;go_upto_region 5 with(fail)
   rw[X.o];refine wp_region_quiet_below (by kernel_rfl) (by kernel_rfl) ?_
   repeat (any_goals (first | go_big_quiet_step (with_reducible exact B.o _ _) | quiet_step (with_reducible exact B.o _ _)))
   refine wpQuiet_nil ?_;intro w2 C;have D:=Qf (aX C);have A5:=D.o.size;clear C B c0' c1' q0' q1' q2';by_cases K:cv<0
   ·have H:=Qf (L.o K)
    have dc:decide (cv<0)=true:=by simpa using K
    clear L M;go_wp2_with fail;go_roundw
    case rel=>exact⟨h+1,kj,by go_num,rfl,by omega,by omega,H,Qf (I.out.trans (D.o.mono G))⟩
    case measure=>simp[intOf]; omega
   ·have H:=Qf (M.o (by omega))
    have dc:decide (cv<0)=false:=by simpa using K
    clear L M;go_wp2_with fail;go_roundw
    case rel=>exact⟨ki,h,rfl,by go_num,by omega,by omega,H,Qf (I.out.trans (D.o.mono G))⟩
    case measure=>simp[intOf]; omega
  ·obtain rfl:ki=kj:=by omega
   have O:Qg (At xs (d1,d2) ki):=Qf (V.out.fin (by have:=P.o; omega));by_cases B6:ki<n
   ·have E:ki<xs.length:=by have:=P.o; omega
    have g0:decide ((ki:Int)<(n:Int))=true:=by simp; omega
    have g1:decide (ki<n)=true:=by simp; omega
    obtain⟨b0,o0,rfl,Z,q0,q1,q2⟩:=R.o ki E;have N:Qg (qw xs (d1,d2) ki=decide (xs[ki].d=(d1,d2))):=Qf (by unfold qw; rw[List.getElem?_eq_getElem E]);generalize xs[ki]=it at q0 q1 q2 N;have B:=Qf (fun d os=>Calls.regrown_of (w:=wr) (d:=d) (os:=os) (HC.o it _));obtain⟨⟨i1,i2⟩,dt⟩:=it;simp only at q0 q1 q2 B N;have Q:Qg (qw xs (d1,d2) ki=(eO (i1,i2) (d1,d2)==0)):=Qf (by
     rw[N.o];by_cases h:(i1,i2)=(d1,d2)
     ·rw[decide_eq_true h,lv.2 h]; rfl
     ·rw[decide_eq_false h]
      symm;rw[beq_eq_false_iff_ne];exact fun h2=>h (lv.1 h2))
    generalize eO (i1,i2) (d1,d2)=cv at B Q;have c0':=fun d os=>cell_regrown c0 d os
    have c1':=fun d os=>cell_regrown c1 d os
    have q0':=fun d os=>cell_regrown q0 d os
    have q1':=fun d os=>cell_regrown q1 d os
    have q2':=fun d os=>cell_regrown q2 d os
    clear N;go_wp2_with fail;refine wp_region_quiet_below (by kernel_rfl) (by kernel_rfl) ?_
    repeat (any_goals (first | go_big_quiet_step (with_reducible exact B.o _ _) | quiet_step (with_reducible exact B.o _ _)))
    refine wpQuiet_nil ?_;intro w2 C;have D:=Qf (aX C);clear C B c0' c1' q0' q1' q2';go_wp2_with fail;go_ret2;refine⟨ki,by rw[Q.o]; rfl,O.o,?_⟩;exact J.o.trans ((I.out.trans (D.o.mono G)).mono (by omega))
   ·have g0:decide ((ki:Int)<(n:Int))=false:=by simp; omega
    have g1:decide (ki<n)=false:=by simp; omega
    have N:Qg (qw xs (d1,d2) ki=false):=Qf (by unfold qw; rw[List.getElem?_eq_none (by have:=P.o; omega)]);go_wp2_with fail;refine wp_region_quiet_below (by kernel_rfl) (by kernel_rfl) ?_
    repeat (any_goals (first | go_big_quiet_step (fail) | quiet_step (fail)))
    refine wpQuiet_nil ?_;intro w2 C;have D:=Qf (aX C);clear C;go_wp2_with fail;go_ret2;refine⟨ki,by rw[N.o]; rfl,O.o,?_⟩;exact J.o.trans ((I.out.trans (D.o.mono G)).mono (by omega))
theorem yC(a:Qa)(xs:List Itm)(c:Nat)(d1 d2:Int)(w:World)(C:Its w.heap.size w a xs)(F:Asc xs)(H:(xs.length:Int)<=140737488355328):
  Qh 60 #[.slice a xs.length c,.agg #[.int .u64 d1,.int .u64 d2]] w (GotF w xs (d1,d2)):=by
 have E:=Qf (fun W (J:PM w W)=>Dn a xs c d1 d2 W (C.ahead J) F H);clear C F;generalize xs.length=n at E H ⊢;go_enter Tryz.func60,Tryz.ntmps60;go_wp2_with fail;have C:=E.o (w.alloc (.cells #[.int .u64 d1,.int .u64 d2] 54)) (ba w _)
 refine C.mono ?_;clear C E
 rintro e w1 ⟨k,rfl,B,G⟩;have D:=Qf B;have I:=Qf G;clear B G;go_wp2_with fail;go_ret2;exact⟨k,rfl,D.o,(ba w _).trans (I.o.mono (by simp))⟩
def Src(w:World)(A:Qa)(news:List Value):Prop:=news=[]\/∃ad,A=some ad/\∀j u,news[j]? = some u->w.cell? (ad.add j)=some u
theorem mD{P:Program}(w:World)(base:Nat)(t ty e:TypeId)(i:TypeInfo)(z:Value)(size bytes:Nat)(K:P.underlying t=some (.slice e))(J:P.info? e=some i)(S:i.zero=some z)
  (E:i.size=size) (H:i.bytes=bytes) (L:z.cells.size=size) (F:0<size) (v:Value) (n:Nat) (xs:List Value) (B:w.ownsRow base e size v n xs)
  (A:Qa) (m c:Nat) (news:List Value) (M:news.length=m*size) (hs:Src w A news) (N:∀u∈news,u.oneCell'=true) (G:n+m<=maxLen) (C:(n+m)*bytes<=140737488355328) (D:base<=w.heap.size) :
  ∃v' w',(Builtin.append_ #[t,t] ty #[v,.slice A m c]).run P w=.ok v' w'/\w'.ownsRow base e size v' (n+m) (xs++news)/\w.grownBy w' v.ownBlock/\(v'.ownBlock=v.ownBlock\/v'.ownBlock=some w.heap.size):=by
 cases A with
 | some ad=>
  obtain⟨v',w',r1,r2,r3,_,r5⟩:=run_append_own_at (P:=P) w base t ty e i z size bytes K J S E H L F v n xs B ad m c news M (by
   rcases hs with rfl | ⟨ad',h,I⟩
   ·intro j u R; simp at R
   ·cases h; exact I) N G C D
  exact⟨v',w',r1,r2,r3,r5⟩
 | none=>
  have Q:news=[]:=by
   rcases hs with h | ⟨ad,h,_⟩
   ·exact h
   ·cases h
  subst Q;have O:m=0:=by
   rcases Nat.eq_zero_or_pos m with h | h
   ·exact h
   ·have:=Nat.mul_pos h F
    rw[aK] at M;omega
  subst O;refine⟨v,w,?_,by simpa using B,⟨rfl,rfl,rfl,nr,fun _ _ _=>rfl⟩,.inl rfl⟩;rcases B.2 with⟨rfl,rfl⟩ | ⟨g,cap,cur,rfl,_,_,I,_⟩
  ·simp[Builtin.append_,run_underlying K,sizeOf,typeInfo,J,Builtin.lenOf,Builtin.firstCells]
  ·simp[Builtin.append_,run_underlying K,sizeOf,typeInfo,J,Builtin.lenOf,Builtin.firstCells,I,storeCells]
theorem Nv{ys:List Itm}(h:Its B W a ys):Src W a (dP ys):=by
 cases D:ys with
 | nil=>exact .inl rfl
 | cons y ys'=>
  rw[<-D];have E:0<ys.length:=by rw[D]; simp
  obtain⟨b,off,rfl,_⟩:=h 0 E;refine .inr ⟨_,rfl,fun j u A=>?_⟩;have F:j<ys.length*3:=by
   have:=(List.getElem?_eq_some_iff.1 A).1
   rwa[oV] at this
  obtain⟨i,r,C,G,rfl⟩:∃i r,i<ys.length/\r<3/\j=i*3+r:=⟨j/3,j%3,by omega,by omega,by omega⟩;obtain⟨b',off',e,_,c0,c1,c2⟩:=h i C;cases e;obtain⟨d0,d1,d2⟩:=uo ys i C;rw[Go.WideShapes.add_plain];rcases(by omega:r=0\/r=1\/r=2) with rfl | rfl | rfl
  ·rw[show i*3+0=i*3 from rfl,d0] at A; cases A; exact c0
  ·rw[d1] at A; cases A; rw[<-aP]; exact c1
  ·rw[d2] at A; cases A; rw[<-aP]; exact c2
theorem dL(a:Qd):(aW a).length=a.length*2:=by
 induction a with
 | nil=>rfl
 | cons x a ih=>simp[aW] at ih ⊢; omega
theorem Gp(xs:Qd):∀v∈aW xs,v.oneCell'=true:=by
 intro v A;simp only[aW,List.mem_flatMap] at A;obtain⟨x,_,A⟩:=A;simp at A;rcases A with rfl | rfl <;> rfl
theorem LG{ys:Qd}(h:dE B W a ys):Src W a (aW ys):=by
 cases D:ys with
 | nil=>exact .inl rfl
 | cons y ys'=>
  rw[<-D];have E:0<ys.length:=by rw[D]; simp
  obtain⟨b,off,rfl,_⟩:=h 0 E;refine .inr ⟨_,rfl,fun j u A=>?_⟩;have F:j<ys.length*2:=by
   have:=(List.getElem?_eq_some_iff.1 A).1
   rwa[dL] at this
  obtain⟨i,r,C,G,rfl⟩:∃i r,i<ys.length/\r<2/\j=i*2+r:=⟨j/2,j%2,by omega,by omega,by omega⟩;obtain⟨b',off',e,_,c0,c1⟩:=h i C;cases e;obtain⟨d0,d1⟩:=lu ys i C;rw[Go.WideShapes.add_plain];rcases(by omega:r=0\/r=1) with rfl | rfl
  ·rw[show i*2+0=i*2 from rfl,d0] at A; cases A; exact c0
  ·rw[d1] at A; cases A; rw[<-aP]; exact c1
theorem GH(W:World)(base:Nat)(ty:TypeId)(v:Value)(xs:List Itm)(C:W.ownsRow base 56 3 v xs.length (dP xs))(a:Qa)(ys:List Itm)(c:Nat)(M:Its W.heap.size W a ys)
  (G:((xs.length+ys.length:Nat):Int)<=1000000000) (B:base<=W.heap.size) :
  ∃v' W',(Builtin.append_ #[23,23] ty #[v,.slice a ys.length c]).run Tryz.prog W=.ok v' W'/\W'.ownsRow base 56 3 v' (xs++ys).length (dP (xs++ys))/\W.grownBy W' v.ownBlock/\(v'.ownBlock=v.ownBlock\/v'.ownBlock=some W.heap.size):=by
 obtain⟨i0,L,D,E,F⟩:=info_parts CJ;obtain⟨v',W',H,I,J,K⟩:=mD (P:=Tryz.prog) W base 23 ty 56 i0 _ 3 32 Tryz.underlying23 L D E F rfl (by decide) v xs.length (dP xs) C a ys.length c (dP ys) (oV _) (Nv M) (F9 _) (by unfold maxLen; omega) (by omega) B;exact⟨v',W',H,by rw[yu,af]; exact I,J,K⟩
theorem dM(W:World)(base:Nat)(ty:TypeId)(v:Value)(xs:Qd)(C:W.ownsRow base 54 2 v xs.length (aW xs))(a:Qa)(ys:Qd)(c:Nat)(M:dE W.heap.size W a ys)
  (G:((xs.length+ys.length:Nat):Int)<=1000000000) (B:base<=W.heap.size) :
  ∃v' W',(Builtin.append_ #[24,24] ty #[v,.slice a ys.length c]).run Tryz.prog W=.ok v' W'/\W'.ownsRow base 54 2 v' (xs++ys).length (aW (xs++ys))/\W.grownBy W' v.ownBlock/\(v'.ownBlock=v.ownBlock\/v'.ownBlock=some W.heap.size):=by
 obtain⟨i0,L,D,E,F⟩:=info_parts ul;obtain⟨v',W',H,I,J,K⟩:=mD (P:=Tryz.prog) W base 24 ty 54 i0 _ 2 16 Tryz.underlying24 L D E F rfl (by decide) v xs.length (aW xs) C a ys.length c (aW ys) (dL _) (LG M) (Gp _) (by unfold maxLen; omega) (by omega) B;exact⟨v',W',H,by rw[gK,af]; exact I,J,K⟩
theorem gM{x y:World}{e:TypeId}{v:Value}(B:PM w x)(E:x.ownsRow base e z v n xs)(C:x.grownBy y v.ownBlock)(A:w.heap.size<=base):PM w y:=
 B.grown C B.size (fun k D=>by have:=(E.lt k D).1; omega)
theorem I9(n:Nat)(w:World)(M:1<=n)(N:(n:Int)<=1000000000):
  Qh 184 #[.slice none 0 0,.int .i64 n] w fun e w'=>∃g cap,e=.returned (.slice (some ⟨g,0,none⟩) 0 cap)/\w'.ownsRow w.heap.size 56 3 (.slice (some ⟨g,0,none⟩) 0 cap) 0 []/\PM w w':=by
 obtain⟨i0,J,E,I,B⟩:=info_parts CJ;obtain⟨G,cur,L,K,C,D⟩:∃(G:Nat) (cur:Array Value),(∀ty,(Builtin.append_ #[23,3] ty #[.slice none 0 0,.int .i64 n]).run Tryz.prog w=.ok (.slice (some ⟨w.heap.size,0,none⟩) n G) (w.drew.alloc (.cells cur 56)))/\n<=G/\G<=maxLen/\cur.size=G*3:=by
  refine⟨grownCap w (0+n) 0 56,([]:List Value).toArray++Builtin.zeroCells (Value.agg #[.int .u64 0,.int .u64 0,.string ⟨#[]⟩]).cells n++Builtin.zeroCells (Value.agg #[.int .u64 0,.int .u64 0,.string ⟨#[]⟩]).cells (grownCap w (0+n) 0 56-(0+n)),fun ty=>?_,?_,?_,?_⟩
  ·have:=Lib.run_append_grow_zeros (P:=Tryz.prog) w 23 3 ty 56 i0 _ .i64 .i64 Tryz.underlying23 Tryz.underlying3 J E none 0 0 [] (run_firstCells_none w.drew i0.size 0 0 0) n (by omega) (by omega) (by omega) (by omega) (by rw[B]; omega) (growslice_fits (by omega) (by rw[B]; omega))
   rw[aZ] at this ⊢;exact this
  ·have:=grownCap_ge w (0+n) 0 56; omega
  ·exact grownCap_le_maxLen w (0+n) 0 56 (by unfold maxLen; omega)
  ·have:=grownCap_ge w (0+n) 0 56
   generalize grownCap w (0+n) 0 56=G at this ⊢;rw[aZ] at this ⊢;simp only[Array.size_append,size_zeroCells];simp[Value.cells];omega
 have F:=Qf D;have H:=Qf C;unfold maxLen at C;clear E I B J D;go_enter Tryz.func184,Tryz.ntmps184;go_wp2_with (at_builtin; refine Lib.wpList_append_run _ rfl _ _ _ _ rfl _ _ rfl rfl _ _ (L _) ?_);go_ret;exact⟨_,_,rfl,World.ownsRow_made (w:=w.drew) (base:=w.heap.size) (size:=3) cur G nr H.o F.o,(bf w).drew.alloc nr _⟩
structure SlI where
 a:Qa
 xs:List Itm
 c:Nat
def qH(L:List SlI):List Itm:=L.flatMap (·.xs)
theorem JY{L:List SlI}(h:k<L.length):qH (L.take (k+1))=qH (L.take k)++L[k].xs:=by
 unfold qH;rw[ai h,bg];simp
theorem NZ(L:List SlI)(k:Nat):(qH (L.take k)).length<=(qH L).length:=by
 have h:qH L=qH (L.take k)++qH (L.drop k):=by
  unfold qH;rw[<-bg,aQ]
 rw[h,af];omega
structure Sls (B:Nat) (W:World) (bb:Nat) (L:List SlI):Prop where
 blk:bb<B
 cell:∀i (h:i<L.length),W.cell? ⟨bb,i,none⟩=some (.slice L[i].a L[i].xs.length L[i].c)
 its:∀i (h:i<L.length),Its B W L[i].a L[i].xs
theorem Sls.below{bb:Nat}{L:List SlI}(h:Sls B W bb L)(C:Below B W W'):Sls B W' bb L:=
 ⟨h.blk,fun i A=>(C.cell (p:=⟨bb,i,none⟩) h.blk).trans (h.cell i A),fun i A=>(h.its i A).below C nr⟩
def iF(w:World)(pa:Qa)(ps xs:List Itm)(a:Qa)(c:Nat)(w':World):Prop:=
 Its w'.heap.size w' a xs/\xs.length<=c/\((a=pa/\xs=ps)\/∀ad,a=some ad->w.heap.size<=ad.block)/\PM w w'
def GotP(w:World)(pa:Qa)(xs:List Itm)(e:Ending)(w':World):Prop:=∃a c,e=.returned (.slice a xs.length c)/\iF w pa [] xs a c w'
theorem Nf{e:TypeId}(h:W.ownsRow base e z (.slice a n c) n xs):∀ad,a=some ad->base<=ad.block:=by
 intro ad A;subst A;exact(h.lt ad.block rfl).1
theorem Dh(bb cc:Nat)(L:List SlI)(w:World)(hL:Sls w.heap.size w bb L)(C:1<=(qH L).length)(hn:((qH L).length:Int)<=1000000000)(hl:(L.length:Int)<=1000):
  Qh 140 #[.slice (some ⟨bb,0,none⟩) L.length cc] w (GotP w none (qH L)):=by
 have HL:=Qf hL;have HG:=Qf (fun W=>I9 (qH L).length W C hn);have Z:=Qf (fun k (h:k<L.length)=>JY h);have P:=Qf (NZ L);obtain⟨T,hT⟩:=Qe ((qH L).length);rw[<-hT] at HG hn;have M:=Qf hT;obtain⟨n,O⟩:=Qe L.length;have Y:=Qf O;rw[<-O] at hl ⊢;clear hL hT O C;go_enter Tryz.func140,Tryz.ntmps140;go_wp2_with fail;go_loop [3,11] (fun s i=>∃k t:Nat,k<=n/\i=.int .i64 k/\s=.int .i64 t/\t<=T/\Qg (t=(qH (L.take k)).length)) (fun _ i=>n-(intOf i).toNat)
 case atStart=>exact⟨0,0,by omega,rfl,rfl,by omega,Qf rfl⟩
 case round=>
  obtain⟨k,t,hk,rfl,rfl,ht,X⟩:=hrel;by_cases U:k<n
  ·have C:k<L.length:=by have:=Y.o; omega
   have c0:=HL.o.cell k C;have E:t+L[k].xs.length<=T:=by
    have a1:=P.o (k+1);have a2:=Z.o k C;rw[a2,af,<-X.out,<-M.o] at a1;exact a1
   have G:Qg (t+L[k].xs.length=(qH (L.take (k+1))).length):=Qf (by rw[Z.o k C,af,<-X.out]);generalize L[k]=S at c0 E G;obtain⟨sa,sx,sc⟩:=S;simp only at c0 E G;generalize sx.length=m at c0 E G;go_wp2_with fail;go_round
   case rel=>exact⟨k+1,t+m,by omega,by go_num,by go_num,by omega,G⟩
   case measure=>simp[intOf]; omega
  ·obtain rfl:n=k:=by omega
   obtain rfl:T=t:=by rw[X.out,M.o,ag (by have:=Y.o; omega)]
   clear X U hk ht;go_wp2_with fail;have hx:=HG.o w
   refine hx.mono ?_;clear hx HG
   rintro e w1 ⟨g,cap,rfl,I,hb⟩;have H:=Qf I;have K:=Qf hb;clear I hb;go_wp2_with fail;go_loopw [6,27] (fun v i wr=>∃(k:Nat),k<=n/\i=.int .i64 k/\Qg (wr.ownsRow w.heap.size 56 3 v (qH (L.take k)).length (dP (qH (L.take k))))/\Qg (PM w wr)) (fun _ i _=>n-(intOf i).toNat)
   case atStart=>exact⟨0,by omega,rfl,H,K⟩
   case round=>
    clear H K;obtain⟨k,hk,rfl,H,K⟩:=hrel;have V:=K.o.size;by_cases U:k<n
    ·have C:k<L.length:=by have:=Y.o; omega
     have N:=HL.o.below K.o;have c0:=N.cell k C;have E:(qH (L.take k)).length+L[k].xs.length<=T:=by
      have a1:=P.o (k+1);have a2:=Z.o k C;rw[a2,af,<-M.o] at a1;exact a1
     obtain⟨av,cv,rfl,D⟩:=aB H.o;obtain⟨v',W',J,F,R,Q⟩:=GH wr w.heap.size 23 _ _ H.o L[k].a L[k].xs L[k].c ((N.its k C).mono V) (by omega) V;have A2:Qg (W'.ownsRow w.heap.size 56 3 v' (qH (L.take (k+1))).length (dP (qH (L.take (k+1))))):=Qf (by rw[Z.o k C]; exact F);have A0:Qg (PM w W'):=Qf (gM K.o H.o R nr);have B:=Qf J;clear J F R Q N E;generalize L[k]=S at c0 B;obtain⟨sa,sx,sc⟩:=S;simp only at c0 B;go_wp2_with (at_builtin; refine Lib.wpList_append_run _ rfl _ _ _ _ rfl _ _ rfl rfl _ _ B.o ?_);go_roundw
     case rel=>exact⟨k+1,by omega,by go_num,A2,A0⟩
     case measure=>simp[intOf]; omega
    ·obtain⟨av,cv,rfl,D⟩:=aB H.o
     have hf:qH (L.take k)=qH L:=by rw[ag (by have:=Y.o; omega)]
     have HF:Qg (iF w none [] (qH L) av cv wr):=Qf (by
      have h:=H.o;rw[hf] at h D;exact⟨Ct h,D,.inr (Nf h),K.o⟩)
     rw[hf];clear hf H;go_wp2_with fail;go_ret;exact⟨av,cv,rfl,HF.o⟩
theorem DI(W:World):(sizeOf (Tryz.prog.elem 23)).run Tryz.prog W=.ok 3 W:=by
 obtain⟨i,B,_,C,_⟩:=info_parts CJ;rw[show Tryz.prog.elem 23=56 by kernel_rfl];simp[sizeOf,typeInfo,B,C]
theorem Its.add0{ds:List Itm}(h:Its B W a ds):Its B W (a.map (·.add (0*3))) ds:=by
 intro i D;obtain⟨b,off,rfl,A,C⟩:=h i D;exact⟨b,off,by simp[Go.WideShapes.add_plain],A,C⟩
theorem Its.drop{ds:List Itm}(h:Its B W a ds)(k:Nat):Its B W (a.map (·.add (k*3))) (ds.drop k):=by
 intro i G;have A:k+i<ds.length:=by simp at G; omega
 obtain⟨b,off,rfl,C,D,E,F⟩:=h (k+i) A;refine⟨b,off+k*3,by simp[Go.WideShapes.add_plain],C,?_⟩;rw[eF];rw[show off+k*3+i*3=off+(k+i)*3 by omega];exact⟨D,E,F⟩
theorem IQ(a:Qa)(n c f:Nat)(h:f<=c):∃(A1:Qa) (c1:Nat),(∀B W ds,Its B W a ds->Its B W A1 (ds.take f))/\∀W,(Instr.slice 23 (.slice a n c) none (some (.int .i64 f)) none).run Tryz.prog W=.ok (.slice A1 f c1) W:=by
 refine⟨if c=0 then a else a.map (·.add (0*3)),c,fun B W ps C=>?_,fun W=>?_⟩
 ·split
  ·exact C.take f
  ·exact(C.take f).add0
 ·rw[run_slice_h (P:=Tryz.prog) W 23 a n c (by kernel_rfl) .i64 f (by omega) (by omega),DI]
  simp[sliced,Result.andThen]
theorem IP(a:Qa)(n c f m:Nat)(h:f<=n)(E:n<=c)(C:m=n-f):∃(A1:Qa) (c1:Nat),(∀B W (ds:List Itm),ds.length=n->Its B W a ds->Its B W A1 (ds.drop f))/\∀W,(Instr.slice 23 (.slice a n c) (some (.int .i64 f)) none none).run Tryz.prog W=.ok (.slice A1 m c1) W:=by
 refine⟨if c=f then a else a.map (·.add (f*3)),c-f,fun B W ps F D=>?_,fun W=>?_⟩
 ·split
  ·rw[dV (by omega)]; exact Its.nil _ _ _
  ·exact D.drop f
 ·rw[run_slice_l (P:=Tryz.prog) W 23 a n c (by kernel_rfl) .i64 f (by omega) (by omega),DI]
  subst C;simp[sliced,Result.andThen]
def D5(xs:List Itm)(d:Int×Int):Nat:=(xs.takeWhile fun y=>decide (eO y.d d<0)).length
theorem At.eq:∀{xs:List Itm} {d:Int×Int} {k:Nat},At xs d k->k=D5 xs d
 | [],d,k,h=>by have:=h.le; simp at this; subst this; rfl
 | x::xs,d,k,h=>by
  unfold D5;cases k with
  | zero=>
   have:=h.hi 0 (by simp) (by omega);simp only[aS] at this;rw[List.takeWhile_cons_of_neg (by simp; omega)];rfl
  | succ k=>
   have A:=h.lo 0 (by simp) (by omega);simp only[aS] at A;rw[List.takeWhile_cons_of_pos (by simpa using A),az];have:At xs d k:=⟨by have:=h.le; simp at this; omega,fun j B D=>by
    have:=h.lo (j+1) (by simp; omega) (by omega);simpa using this,fun j B C=>by
    have:=h.hi (j+1) (by simp; omega) (by omega);simpa using this⟩
   rw[this.eq];rfl
def Ag(xs:List Itm)(x:Itm):List Itm×Int:=
 match xs[D5 xs x.d]? with
 | some y=>if y.d=x.d then(if y.data=x.data then(xs,0) else([],16)) else(xs.take (D5 xs x.d)++(x::xs.drop (D5 xs x.d)),0)
 | none=>(xs.take (D5 xs x.d)++(x::xs.drop (D5 xs x.d)),0)
theorem Af{xs:List Itm}{x:Itm}(h:At xs x.d k)(A:qw xs x.d k=false):Ag xs x=(xs.take k++(x::xs.drop k),0):=by
 unfold Ag;rw[<-h.eq];unfold qw at A;split
 ·rename_i y B
  rw[B] at A;simp only at A;rw[if_neg (by simpa using A)]
 ·rfl
theorem Ei{xs:List Itm}{x:Itm}(h:At xs x.d k)(A:qw xs x.d k=true):∃C:k<xs.length,xs[k].d=x.d/\Ag xs x=if xs[k].data=x.data then(xs,0) else([],16):=by
 unfold qw at A;cases B:xs[k]? with
 | none=>rw[B] at A; cases A
 | some y=>
  rw[B] at A;simp only[decide_eq_true_eq] at A;obtain⟨C,rfl⟩:=List.getElem?_eq_some_iff.1 B;refine⟨C,A,?_⟩;unfold Ag;rw[<-h.eq,B];simp only;rw[if_pos A]
def J7(w:World)(pa:Qa)(ps:List Itm)(r:List Itm×Int)(e:Ending)(w':World):Prop:=∃a c,e=.returned (.tuple #[.slice a r.1.length c,.int .i64 r.2])/\iF w pa ps r.1 a c w'
theorem wY(a:Qa)(xs:List Itm)(c:Nat)(x:Itm)(w:World)(S:Its w.heap.size w a xs)(ha:Asc xs)(hc:xs.length<=c)(hn:(xs.length:Int)<=100000000):
  Qh 81 #[.slice a xs.length c,x.val] w (J7 w a xs (Ag xs x)):=by
 obtain⟨⟨x1,x2⟩,dt⟩:=x;simp only[Itm.val];have HF:=Qf (fun W (hW:PM w W)=>yC a xs c x1 x2 W (S.ahead hW) ha (by omega));obtain⟨n,M⟩:=Qe xs.length;have I:=Qf M;rw[<-M] at HF hn hc ⊢;have HX:=Qf S;clear M S ha;go_enter Tryz.func81,Tryz.ntmps81;go_wp2_with fail;have S:=HF.o (w.alloc (.cells #[.int .u64 x1,.int .u64 x2,.string ⟨dt.toArray⟩] 56)) (ba w _)
 refine S.mono ?_;clear S HF
 rintro e u ⟨k,rfl,L,hb⟩;have V:=Qf L;have B8:k<=n:=by have:=L.le; have:=I.o; omega
 have F:Qg (BK w.heap.size #[.int .u64 x1,.int .u64 x2,.string ⟨dt.toArray⟩] 56 u):=Qf ((BK.new _ _ _).below hb);have O:Qg (PM w u):=Qf ((ba w _).trans (hb.mono (by simp)));have D6:w.heap.size+1<=u.heap.size:=by have:=hb.size; simpa using this
 have b0:u.cell? ⟨w.heap.size,0,none⟩=some (.int .u64 x1):=by rw[F.o.cell]; rfl
 have b1:u.cell? ⟨w.heap.size,1,none⟩=some (.int .u64 x2):=by rw[F.o.cell]; rfl
 have b2:u.cell? ⟨w.heap.size,2,none⟩=some (.string ⟨dt.toArray⟩):=by rw[F.o.cell]; rfl
 clear L hb;cases hh:qw xs (x1,x2) k with
 | false=>
  have P:=Qf (Af (x:=⟨(x1,x2),dt⟩) V.o hh);clear hh;obtain⟨A1,c1,A0,D4⟩:=IQ a n c k (by omega);obtain⟨m,hm⟩:=Qe (n-k);obtain⟨A2,c2,A3,D5⟩:=IP a n c k m B8 hc hm;have T:=Qf A0;have U:=Qf A3;have HM:=Qf hm;clear A0 A3 hm;have X:Qg (∀(W:World) (bb cc nb:Nat),PM u W->bb<W.heap.size->nb<W.heap.size->W.cell? ⟨nb,0,none⟩=some (.int .u64 x1)->W.cell? ⟨nb,1,none⟩=some (.int .u64 x2)->W.cell? ⟨nb,2,none⟩=some (.string ⟨dt.toArray⟩)->
    W.cell? ⟨bb,0,none⟩=some (.slice A1 k c1)->W.cell? ⟨bb,1,none⟩=some (.slice (some ⟨nb,0,none⟩) 1 1)->W.cell? ⟨bb,2,none⟩=some (.slice A2 m c2)->
    Qh 140 #[.slice (some ⟨bb,0,none⟩) 3 cc] W (GotP W none (xs.take k++(⟨(x1,x2),dt⟩::xs.drop k)))):=Qf (by
   intro W bb cc nb hW B5 C0 n0 n1 n2 p0 p1 p2;have A4:Its W.heap.size W a xs:=(HX.o.ahead O.o).ahead hW;have A5:(xs.take k).length=k:=by rw[aA]; have:=I.o; omega
   have A6:(xs.drop k).length=m:=by rw[ah]; have:=I.o; have:=HM.o; omega
   have:=Dh bb cc [⟨A1,xs.take k,c1⟩,⟨some ⟨nb,0,none⟩,[⟨(x1,x2),dt⟩],1⟩,⟨A2,xs.drop k,c2⟩] W ⟨B5,fun i hi=>?_,fun i hi=>?_⟩ (by simp[qH]; omega) (by
    simp only[qH,bR,List.flatMap_nil,bG,af,az,aK,A5,A6];have:=HM.o
    omega) (by simp)
   ·simpa[qH] using this
   ·rcases(by simp at hi; omega:i=0\/i=1\/i=2) with rfl | rfl | rfl
    ·simp only[aS,A5]; exact p0
    ·exact p1
    ·simp only[bK,aS,A6]; exact p2
   ·rcases(by simp at hi; omega:i=0\/i=1\/i=2) with rfl | rfl | rfl
    ·exact T.o _ _ _ A4
    ·intro j hj
     simp only[bK,aS,az,aK] at hj ⊢;obtain rfl:j=0:=by omega
     refine⟨nb,0,rfl,C0,?_,?_,?_⟩ <;> simp
     ·exact n0
     ·exact n1
     ·exact n2
    ·exact U.o _ _ _ I.o.symm A4)
  have C9:(0:Int)<=(k:Int):=by omega
  have D0:(k:Int)<=(n:Int):=by omega
  have D1:(k:Int)<=(c:Int):=by omega
  obtain⟨W0,B⟩:=Qe (((u.alloc (.cells #[.int .u64 x1,.int .u64 x2,.string ⟨dt.toArray⟩] 56)).alloc (.cells #[.slice A1 k c1,.slice (some ⟨u.heap.size,0,none⟩) 1 1,.slice A2 m c2] 23)).drew);have C:Qg (PM u W0):=Qf (by rw[B]; exact((ba u _).alloc (by simp) _).drew);have D:Qg (BK u.heap.size #[.int .u64 x1,.int .u64 x2,.string ⟨dt.toArray⟩] 56 W0):=Qf (by rw[B]; exact(BK.new u _ _).alloc _);have E:Qg (BK (u.heap.size+1) #[.slice A1 k c1,.slice (some ⟨u.heap.size,0,none⟩) 1 1,.slice A2 m c2] 23 W0):=Qf (by rw[B]; exact BK.new2 u _ _ _);have G:=Qf (X.o W0 (u.heap.size+1) 3 u.heap.size C.o E.o.lt D.o.lt (by rw[D.o.cell]; rfl) (by rw[D.o.cell]; rfl) (by rw[D.o.cell]; rfl) (by rw[E.o.cell]; rfl) (by rw[E.o.cell]; rfl) (by rw[E.o.cell]; rfl));have H:Qg (∀w4,PM W0 w4->w4.cell? ⟨w.heap.size,0,none⟩=some (.int .u64 x1)/\w4.cell? ⟨w.heap.size,1,none⟩=some (.int .u64 x2)/\w4.cell? ⟨w.heap.size,2,none⟩=some (.string ⟨dt.toArray⟩)):=Qf (fun w4 h4=>by
   have h5:=(F.o.below C.o).below h4;exact⟨by rw[h5.cell]; rfl,by rw[h5.cell]; rfl,by rw[h5.cell]; rfl⟩)
  have J:Qg (∀(a':Qa) (c':Nat) w4,iF W0 none [] (xs.take k++(⟨(x1,x2),dt⟩::xs.drop k)) a' c' w4->iF w a xs (xs.take k++(⟨(x1,x2),dt⟩::xs.drop k)) a' c' w4):=Qf (fun a' c' w4 h=>by
   have hs:=C.o.size;refine⟨h.1,h.2.1,.inr ?_,O.o.trans ((C.o.trans (h.2.2.2.mono hs)).mono (by omega))⟩;rcases h.2.2.1 with h1 | h1
   ·rw[h1.1]; intro ad K; cases K
   ·intro ad K; have:=h1 ad K; omega)
  rw[B] at G H;generalize xs.take k++(⟨(x1,x2),dt⟩::xs.drop k)=R at G J P;have B0:=Qf B;clear X B D E C T U;go_wp2_with fail;go_region_held3 (fun w'=>w'.cell? ⟨w.heap.size,0,none⟩=some (.int .u64 x1)/\w'.cell? ⟨w.heap.size,1,none⟩=some (.int .u64 x2)/\w'.cell? ⟨w.heap.size,2,none⟩=some (.string ⟨dt.toArray⟩)) (go_keep)
   (((with_reducible refine G.o.mono ?_); rintro e w4 ⟨ra,rc,rfl,N⟩; obtain⟨k0,k1,k2⟩:=H.o _ N.2.2.2; have Y:=Qf N; clear N))
  all_goals
   have Z:=Qf (J.o ra rc w4 (by rw[B0.o]; exact Y.o));clear Y J H G;go_wp2_with fail;go_ret2;rw[P.o];exact⟨ra,rc,rfl,Z.o⟩
 | true=>
  obtain⟨hk,C1,Q⟩:=Ei (x:=⟨(x1,x2),dt⟩) V.o hh;obtain⟨p0,o0,rfl,D3,q0,q1,q2⟩:=(HX.o.ahead O.o) k hk;clear hh C1;have C5:(k:Int)<(n:Int):=by have:=I.o; omega
  generalize xs[k]=y at Q q0 q1 q2;obtain⟨⟨y1,y2⟩,yd⟩:=y;simp only at Q q0 q1 q2;cases he:(yd==dt) with
  | true=>
   have P:Qg (Ag xs ⟨(x1,x2),dt⟩=(xs,0)):=Qf (by rw[Q,if_pos (by simpa using he)]);clear Q;go_wp2_with fail;go_quiet (fail);go_wp2_with fail;go_ret2;rw[P.o];refine⟨_,c,by rw[<-I.o]; rfl,HX.o.ahead ?_,by rw[<-I.o]; exact hc,.inl ⟨rfl,rfl⟩,?_⟩
   ·exact below_drewN O.o _
   ·exact below_drewN O.o _
  | false=>
   have P:Qg (Ag xs ⟨(x1,x2),dt⟩=([],16)):=Qf (by rw[Q,if_neg (by simpa using he)]);clear Q;go_wp2_with fail;go_quiet (fail);go_wp2_with fail;go_ret2;rw[P.o];exact⟨none,0,rfl,Its.nil _ _ _,nr,.inr (fun ad h=>by cases h),below_drewN O.o _⟩
def I7(xs:List Itm)(d:Int×Int):Bool:=qw xs d (D5 xs d)
def dW(xs:List Itm)(d:Int×Int):Ob×Int:=
 match xs[D5 xs d]? with
 | some y=>if y.d=d then bI y.data else(obZ,8)
 | none=>(obZ,8)
theorem Ao{xs:List Itm}(h:At xs d k)(A:qw xs d k=false):dW xs d=(obZ,8):=by
 unfold dW;rw[<-h.eq];unfold qw at A;split
 ·rename_i y B
  rw[B] at A;simp only at A;rw[if_neg (by simpa using A)]
 ·rfl
theorem yz{xs:List Itm}(h:At xs d k)(A:qw xs d k=true):∃C:k<xs.length,xs[k].d=d/\dW xs d=bI xs[k].data:=by
 unfold qw at A;cases B:xs[k]? with
 | none=>rw[B] at A; cases A
 | some y=>
  rw[B] at A;simp only[decide_eq_true_eq] at A;obtain⟨C,rfl⟩:=List.getElem?_eq_some_iff.1 B;refine⟨C,A,?_⟩;unfold dW;rw[<-h.eq,B];simp only;rw[if_pos A]
structure jQ (w:World) (a:Qa) (xs:List Itm) (c:Nat):Prop where
 its:Its w.heap.size w a xs
 cap:xs.length<=c
 len:(xs.length:Int)<=100000000
 dat:∀x∈xs,(x.data.length:Int)<=140737488355328
theorem jQ.below{xs:List Itm}(h:jQ w a xs c)(A:PM w W):jQ W a xs c:=⟨h.its.ahead A,h.cap,h.len,h.dat⟩
theorem I6(a:Qa)(xs:List Itm)(c:Nat)(d1 d2:Int)(w:World)(F:jQ w a xs c)(H:Asc xs):
  Qh 28 #[.slice a xs.length c,.agg #[.int .u64 d1,.int .u64 d2]] w fun e w'=>e=.returned (.bool (I7 xs (d1,d2)))/\PM w w':=by
 have D:=Qf (fun W (L:PM w W)=>yC a xs c d1 d2 W (F.below L).its H (by have:=F.len; omega));obtain⟨R,E⟩:=Qe (I7 xs (d1,d2));rw[<-E];have G:=Qf E;generalize xs.length=n at D ⊢;clear F H E;go_enter Tryz.func28,Tryz.ntmps28;go_wp2_with fail;have J:=D.o (w.alloc (.cells #[.int .u64 d1,.int .u64 d2] 54)) (ba w _)
 refine J.mono ?_;clear J D
 rintro e u ⟨k,rfl,C,I⟩;have B:Qg (R=qw xs (d1,d2) k):=Qf (by rw[G.o,I7,<-C.eq]);have K:=Qf I;clear C I G;generalize qw xs (d1,d2) k=hv at B ⊢;go_wp2_with fail;go_ret;exact⟨by rw[B.o]; rfl,(ba w _).trans (K.o.mono (by simp))⟩
theorem yw(a:Qa)(xs:List Itm)(c:Nat)(d1 d2:Int)(w:World)(Q:jQ w a xs c)(Z:Asc xs):
  Qh 27 #[.slice a xs.length c,.agg #[.int .u64 d1,.int .u64 d2]] w (Kq w (dW xs (d1,d2)).1 (dW xs (d1,d2)).2):=by
 have F:=Qf (fun W (hW:PM w W)=>yC a xs c d1 d2 W (Q.below hW).its Z (by have:=Q.len; omega));obtain⟨n,I⟩:=Qe xs.length;have X:=Qf I;rw[<-I] at F ⊢;have Y:=Qf Q;clear I Q Z;go_enter Tryz.func27,Tryz.ntmps27;go_wp2_with fail;have M:=F.o ((w.alloc (.cells #[.int .u64 d1,.int .u64 d2] 54)).alloc (.cells #[.int .i64 0,.string ⟨#[]⟩,.slice none 0 0,.int .u64 0,.int .u64 0,.slice none 0 0,.string ⟨#[]⟩,.int .i64 0,.string ⟨#[]⟩] 59)) ((ba w _).alloc (by simp) _)
 refine M.mono ?_;clear M F
 rintro e u ⟨k,rfl,G,E⟩;have J:=Qf G;have A5:k<=n:=by have:=G.le; have:=X.o; omega
 have C:Qg (BK (w.heap.size+1) #[.int .i64 0,.string ⟨#[]⟩,.slice none 0 0,.int .u64 0,.int .u64 0,.slice none 0 0,.string ⟨#[]⟩,.int .i64 0,.string ⟨#[]⟩] 59 u):=Qf ((BK.new2 _ _ _ _).below E);have R:Qg (PM w u):=Qf (((ba w _).alloc (by simp) _).trans (E.mono (by simp; omega)));have A7:w.heap.size+2<=u.heap.size:=by have:=E.size; simpa using this
 clear G E;cases P:qw xs (d1,d2) k with
 | false=>
  have K:=Qf (Ao J.o P);clear P;have r0:u.cell? ⟨w.heap.size+1,0,none⟩=some (.int .i64 0):=by rw[C.o.cell]; rfl
  have g0:u.frozen? ⟨w.heap.size+1,0,none⟩=false:=C.o.frozen 0;have r1:u.cell? ⟨w.heap.size+1,1,none⟩=some (.string ⟨#[]⟩):=by rw[C.o.cell]; rfl
  have g1:u.frozen? ⟨w.heap.size+1,1,none⟩=false:=C.o.frozen 1;have r2:u.cell? ⟨w.heap.size+1,2,none⟩=some (.slice none 0 0):=by rw[C.o.cell]; rfl
  have g2:u.frozen? ⟨w.heap.size+1,2,none⟩=false:=C.o.frozen 2;have r3:u.cell? ⟨w.heap.size+1,3,none⟩=some (.int .u64 0):=by rw[C.o.cell]; rfl
  have g3:u.frozen? ⟨w.heap.size+1,3,none⟩=false:=C.o.frozen 3;have r4:u.cell? ⟨w.heap.size+1,4,none⟩=some (.int .u64 0):=by rw[C.o.cell]; rfl
  have g4:u.frozen? ⟨w.heap.size+1,4,none⟩=false:=C.o.frozen 4;have r5:u.cell? ⟨w.heap.size+1,5,none⟩=some (.slice none 0 0):=by rw[C.o.cell]; rfl
  have g5:u.frozen? ⟨w.heap.size+1,5,none⟩=false:=C.o.frozen 5;have r6:u.cell? ⟨w.heap.size+1,6,none⟩=some (.string ⟨#[]⟩):=by rw[C.o.cell]; rfl
  have g6:u.frozen? ⟨w.heap.size+1,6,none⟩=false:=C.o.frozen 6;have r7:u.cell? ⟨w.heap.size+1,7,none⟩=some (.int .i64 0):=by rw[C.o.cell]; rfl
  have g7:u.frozen? ⟨w.heap.size+1,7,none⟩=false:=C.o.frozen 7;have r8:u.cell? ⟨w.heap.size+1,8,none⟩=some (.string ⟨#[]⟩):=by rw[C.o.cell]; rfl
  have g8:u.frozen? ⟨w.heap.size+1,8,none⟩=false:=C.o.frozen 8;go_wp2_with fail;refine bodyPost_ret (v:=.tuple #[obZ.val none 0 none 0,.int .i64 8]) (by simp[results,Tryz.results27,go_sem,obZ,r0,r1,r2,r3,r4,r5,r6,r7,r8]) rfl ?_;rw[K.o];exact⟨none,0,none,0,rfl,dZ.zero _ _,((((((((R.o.setCell (by simp) _).setCell (by simp) _).setCell (by simp) _).setCell (by simp) _).setCell (by simp) _).setCell (by simp) _).setCell (by simp) _).setCell (by simp) _).setCell (by simp) _⟩
 | true=>
  obtain⟨hk,V,O⟩:=yz J.o P;obtain⟨p0,o0,rfl,A6,q0,q1,q2⟩:=(Y.o.its.ahead R.o) k hk;have H:=Y.o.dat _ (ak hk);clear P V;have A1:(k:Int)<(n:Int):=by have:=X.o; omega
  generalize xs[k]=y at O q0 q1 q2 H;obtain⟨⟨y1,y2⟩,yd⟩:=y;simp only at O q0 q1 q2 H;have N:=Qf (fun W=>mf yd W H);have K:=Qf O;clear O;generalize bI yd=D at N K;obtain⟨o,er⟩:=D;simp only at N K;go_wp2_with fail;have M:=N.o u
  refine M.mono ?_;clear M N
  rintro e v ⟨ea,ec,pa,pc,rfl,L,E⟩;have T:=Qf L;have S:=Qf E;have B:=Qf (C.o.below E);have A8:=E.size;clear L E q0 q1 q2;obtain⟨kind,data,ents,⟨t1,t2⟩,pars,author,time,msg⟩:=o;have F:Qg (∀(W:World),v.grownBy W (some (w.heap.size+1))->PM w W->Kq w (dW xs (d1,d2)).1 (dW xs (d1,d2)).2 (.returned (.tuple #[.agg #[.int .i64 kind,.string ⟨data.toArray⟩,.slice ea ents.length ec,.int .u64 t1,.int .u64 t2,.slice pa pars.length pc,.string ⟨author.toArray⟩,.int .i64 time,.string ⟨msg.toArray⟩],.int .i64 er])) W):=Qf (fun W h1 h2=>by
   rw[K.o];exact⟨ea,ec,pa,pc,rfl,(T.o.kept h1 (by omega)).le (by omega),h2⟩)
  simp only[Ob.val];generalize ents.length=ne at F ⊢;generalize pars.length=np at F ⊢;have r0:v.cell? ⟨w.heap.size+1,0,none⟩=some (.int .i64 0):=by rw[B.o.cell]; rfl
  have g0:v.frozen? ⟨w.heap.size+1,0,none⟩=false:=B.o.frozen 0;have r1:v.cell? ⟨w.heap.size+1,1,none⟩=some (.string ⟨#[]⟩):=by rw[B.o.cell]; rfl
  have g1:v.frozen? ⟨w.heap.size+1,1,none⟩=false:=B.o.frozen 1;have r2:v.cell? ⟨w.heap.size+1,2,none⟩=some (.slice none 0 0):=by rw[B.o.cell]; rfl
  have g2:v.frozen? ⟨w.heap.size+1,2,none⟩=false:=B.o.frozen 2;have r3:v.cell? ⟨w.heap.size+1,3,none⟩=some (.int .u64 0):=by rw[B.o.cell]; rfl
  have g3:v.frozen? ⟨w.heap.size+1,3,none⟩=false:=B.o.frozen 3;have r4:v.cell? ⟨w.heap.size+1,4,none⟩=some (.int .u64 0):=by rw[B.o.cell]; rfl
  have g4:v.frozen? ⟨w.heap.size+1,4,none⟩=false:=B.o.frozen 4;have r5:v.cell? ⟨w.heap.size+1,5,none⟩=some (.slice none 0 0):=by rw[B.o.cell]; rfl
  have g5:v.frozen? ⟨w.heap.size+1,5,none⟩=false:=B.o.frozen 5;have r6:v.cell? ⟨w.heap.size+1,6,none⟩=some (.string ⟨#[]⟩):=by rw[B.o.cell]; rfl
  have g6:v.frozen? ⟨w.heap.size+1,6,none⟩=false:=B.o.frozen 6;have r7:v.cell? ⟨w.heap.size+1,7,none⟩=some (.int .i64 0):=by rw[B.o.cell]; rfl
  have g7:v.frozen? ⟨w.heap.size+1,7,none⟩=false:=B.o.frozen 7;have r8:v.cell? ⟨w.heap.size+1,8,none⟩=some (.string ⟨#[]⟩):=by rw[B.o.cell]; rfl
  have g8:v.frozen? ⟨w.heap.size+1,8,none⟩=false:=B.o.frozen 8;go_wp2_with fail;refine bodyPost_ret (v:=.tuple #[.agg #[.int .i64 kind,.string ⟨data.toArray⟩,.slice ea ne ec,.int .u64 t1,.int .u64 t2,.slice pa np pc,.string ⟨author.toArray⟩,.int .i64 time,.string ⟨msg.toArray⟩],.int .i64 er]) (by simp[results,Tryz.results27,go_sem,r0,r1,r2,r3,r4,r5,r6,r7,r8]) rfl ?_;refine F.o _ ?_ ?_
  ·exact(fM (fM (fM (fM (fM (fM (fM (fM (dN _ _ _ _) _ _) _ _) _ _) _ _) _ _) _ _) _ _) _ _)
  ·have U:PM w v:=R.o.trans (S.o.mono (by omega))
   exact((((((((U.setCell (by simp) _).setCell (by simp) _).setCell (by simp) _).setCell (by simp) _).setCell (by simp) _).setCell (by simp) _).setCell (by simp) _).setCell (by simp) _).setCell (by simp) _
def vg(x:Itm):Int:=if(bI x.data).2≠0 then 13 else if iY x.data≠x.d then 15 else 0
theorem pG(x:Itm)(w:World)(H:(x.data.length:Int)<=140737488355328):
  Qh 58 #[x.val] w fun e w'=>e=.returned (.int .i64 (vg x))/\PM w w':=by
 have O:=Qf (fun W=>mf x.data W H);have F:=Qf (fun W=>qV x.data W H);obtain⟨R,C⟩:=Qe (vg x);rw[<-C];unfold vg at C;generalize bI x.data=D at O C;generalize iY x.data=dg at F C;obtain⟨o,er⟩:=D;obtain⟨g1,g2⟩:=dg;obtain⟨⟨x1,x2⟩,dt⟩:=x;simp only at O F C;simp only[Itm.val];clear H;by_cases T:er=0
 ·subst T
  rw[if_neg (by simp)] at C;have P:=Qf C;clear C;go_enter Tryz.func58,Tryz.ntmps58;go_wp2_with fail;have H:=O.o (w.alloc (.cells #[.int .u64 x1,.int .u64 x2,.string ⟨dt.toArray⟩] 56))
  refine H.mono ?_;clear H O
  rintro e u ⟨ea,ec,pa,pc,rfl,M,I⟩;have V:Qg (BK w.heap.size #[.int .u64 x1,.int .u64 x2,.string ⟨dt.toArray⟩] 56 u):=Qf ((BK.new _ _ _).below I);have U:Qg (PM w u):=Qf ((ba w _).trans (I.mono (by simp)));have Y:w.heap.size+1<=u.heap.size:=by have:=I.size; simpa using this
  clear M I;obtain⟨kind,data,ents,⟨t1,t2⟩,pars,author,time,msg⟩:=o;simp only[Ob.val];generalize ents.length=ne;generalize pars.length=np;obtain⟨u2,G⟩:=Qe (u.alloc (.cells #[.int .i64 kind,.string ⟨data.toArray⟩,.slice ea ne ec,.int .u64 t1,.int .u64 t2,.slice pa np pc,.string ⟨author.toArray⟩,.int .i64 time,.string ⟨msg.toArray⟩] 59));have B:Qg (BK w.heap.size #[.int .u64 x1,.int .u64 x2,.string ⟨dt.toArray⟩] 56 u2):=Qf (by rw[G]; exact V.o.alloc _);have K:Qg (PM w u2):=Qf (by rw[G]; exact U.o.alloc (by omega) _);have S:w.heap.size<=u2.heap.size:=K.o.size;have b0:u2.cell? ⟨w.heap.size,0,none⟩=some (.int .u64 x1):=by rw[B.o.cell]; rfl
  have b1:u2.cell? ⟨w.heap.size,1,none⟩=some (.int .u64 x2):=by rw[B.o.cell]; rfl
  have b2:u2.cell? ⟨w.heap.size,2,none⟩=some (.string ⟨dt.toArray⟩):=by rw[B.o.cell]; rfl
  have c0:=fun d os=>cell_regrown b0 d os
  have c1:=fun d os=>cell_regrown b1 d os
  have c2:=fun d os=>cell_regrown b2 d os
  have Q:=Qf G;clear G;have N:=Qf (fun d os=>Calls.regrown_of (w:=u2) (d:=d) (os:=os) (F.o _));have Z:=fun W=>nI g1 g2 x1 x2 W
  cases J:(g1==x1&&g2==x2) with
  | true=>
   rw[J] at Z;have X:Qg (R=0):=Qf (by
    simp only[Bool.and_eq_true,beq_iff_eq] at J;rw[P.o,if_neg];simp[J.1,J.2])
   clear J P;go_wp2_with fail;rw[<-Q.o];refine wp_region_quiet_below (by kernel_rfl) (by kernel_rfl) ?_
   repeat (any_goals (first | go_big_quiet_step (with_reducible exact N.o _ _) | quiet_step (with_reducible exact N.o _ _)))
   refine wpQuiet_nil ?_;intro w2 E;have L:=Qf (aX E);clear E N c0 c1 c2;go_wp2_with fail;go_ret;exact⟨by rw[X.o]; rfl,K.o.trans (L.o.mono S)⟩
  | false=>
   rw[J] at Z;have X:Qg (R=15):=Qf (by
    rw[P.o,if_pos];intro h;simp only[Prod.mk.injEq] at h;simp[h.1,h.2] at J)
   clear J P;go_wp2_with fail;rw[<-Q.o];refine wp_region_quiet_below (by kernel_rfl) (by kernel_rfl) ?_
   repeat (any_goals (first | go_big_quiet_step (with_reducible exact N.o _ _) | quiet_step (with_reducible exact N.o _ _)))
   refine wpQuiet_nil ?_;intro w2 E;have L:=Qf (aX E);clear E N c0 c1 c2;go_wp2_with fail;go_ret;exact⟨by rw[X.o]; rfl,K.o.trans (L.o.mono S)⟩
 ·rw[if_pos T] at C
  have P:=Qf C;have A0:(er !=0)=true:=by simpa using T
  clear C T F;go_enter Tryz.func58,Tryz.ntmps58;go_wp2_with fail;have H:=O.o (w.alloc (.cells #[.int .u64 x1,.int .u64 x2,.string ⟨dt.toArray⟩] 56))
  refine H.mono ?_;clear H O
  rintro e u ⟨ea,ec,pa,pc,rfl,M,I⟩;have U:Qg (PM w u):=Qf ((ba w _).trans (I.mono (by simp)));have Y:w.heap.size+1<=u.heap.size:=by have:=I.size; simpa using this
  clear M I;obtain⟨kind,data,ents,⟨t1,t2⟩,pars,author,time,msg⟩:=o;simp only[Ob.val];generalize ents.length=ne;generalize pars.length=np;go_wp2_with fail;go_ret;exact⟨by rw[P.o]; rfl,U.o.alloc (by omega) _⟩
def putS(xs:List Itm)(o:Ob):List Itm×(Int×Int)×Int:=
 if(aR o).2≠0 then([],(0,0),(aR o).2)
 else if(Ag xs ⟨iY (aR o).1,(aR o).1⟩).2≠0 then([],(0,0),(Ag xs ⟨iY (aR o).1,(aR o).1⟩).2)
 else((Ag xs ⟨iY (aR o).1,(aR o).1⟩).1,iY (aR o).1,0)
def MK(w:World)(pa:Qa)(ps:List Itm)(r:List Itm×(Int×Int)×Int)(e:Ending)(w':World):Prop:=∃a c,e=.returned (.tuple #[.slice a r.1.length c,.agg #[.int .u64 r.2.1.1,.int .u64 r.2.1.2],.int .i64 r.2.2])/\iF w pa ps r.1 a c w'
theorem iF.none(pa:Qa)(ps:List Itm)(h:PM w w'):iF w pa ps [] Option.none 0 w':=⟨Its.nil _ _ _,nr,.inr (fun ad h=>by cases h),h⟩
theorem CX(o:Ob):(aR o).1.length<=65536:=by
 unfold aR;split
 ·simp
 ·split
  ·simp
  ·simp only; omega
theorem Its.set{xs:List Itm}(h:Its B W a xs)(H:∀ad,a=some ad->0<xs.length->ad.block≠c)(j:Nat)(v:Value):Its B (W.setCell ⟨c,j,none⟩ v) a xs:=by
 intro i I;obtain⟨b,off,rfl,C,E,F,G⟩:=h i I;have D:b≠c:=H _ rfl (by omega);have A:=Below.heap_setCell W ⟨c,j,none⟩ v b D;exact⟨b,off,rfl,C,(World.cell?_of_block (a:=⟨b,off+i*3,none⟩) A).trans E,(World.cell?_of_block (a:=⟨b,off+i*3+1,none⟩) A).trans F,(World.cell?_of_block (a:=⟨b,off+i*3+2,none⟩) A).trans G⟩
theorem put_any(a:Qa)(xs:List Itm)(c:Nat)(o:Ob)(ea:Qa)(ec:Nat)(pa:Qa)(pc:Nat)(w:World)(hp:jQ w a xs c)(ha:Asc xs)(ho:Dw w o ea ec pa pc):
  Qh 39 #[.slice a xs.length c,o.val ea ec pa pc] w (MK w a xs (putS xs o)):=by
 have U:=Qf (fun W (hW:PM w W)=>iP o ea ec pa pc W (ho.below hW));have A6:=CX o;obtain⟨R,F⟩:=Qe (putS xs o);rw[<-F];unfold putS at F;generalize aR o=r at U A6 F;obtain⟨T,er⟩:=r;simp only at U A6 F;have J:=Qf (fun W=>qV T W (by omega));generalize B5:iY T=dg at J F;clear B5;obtain⟨g1,g2⟩:=dg;simp only at J;have V:=Qf (fun W (hW:PM w W)=>wY a xs c ⟨(g1,g2),T⟩ W (hp.below hW).its ha hp.cap hp.len);simp only[Itm.val] at V;generalize Ag xs ⟨(g1,g2),T⟩=I at V F;obtain⟨ys,ei⟩:=I;simp only at V F;obtain⟨kind,data,ents,⟨t1,t2⟩,pars,author,time,msg⟩:=o;simp only[Ob.val] at U ⊢;have HP:=Qf hp.its;clear ho hp ha;obtain⟨n,Z⟩:=Qe xs.length;have HN:=Qf Z;rw[<-Z] at V ⊢;clear Z;generalize ents.length=ne at U ⊢;generalize pars.length=np at U ⊢;obtain⟨u0,E⟩:=Qe ((w.alloc (.cells #[.int .i64 kind,.string ⟨data.toArray⟩,.slice ea ne ec,.int .u64 t1,.int .u64 t2,.slice pa np pc,.string ⟨author.toArray⟩,.int .i64 time,.string ⟨msg.toArray⟩] 59)).alloc (.cells #[.int .u64 0,.int .u64 0] 54));have L:Qg (PM w u0):=Qf (by rw[E]; exact(ba w _).alloc (by simp) _);have X:Qg (BK (w.heap.size+1) #[.int .u64 0,.int .u64 0] 54 u0):=Qf (by rw[E]; exact BK.new2 _ _ _ _);have B7:w.heap.size+2<=u0.heap.size:=by rw[E]; simp
 have G:Qg (Qh 80 _ _ _):=Qf (U.o u0 L.o);rw[E] at G;have O:=Qf E;clear U;by_cases he:er=0
 ·subst he
  rw[if_neg (by simp)] at F;have HR:=Qf F;clear F E;go_enter Tryz.func39,Tryz.ntmps39;go_wp2_with fail;have K:=G.o
  refine K.mono ?_;clear K G
  rintro e u1 ⟨rfl,C⟩;rw[<-O.o] at C;have M:Qg (PM w u1):=Qf (L.o.trans (C.mono (by omega)));have D:=Qf (X.o.below C);have B8:w.heap.size+2<=u1.heap.size:=by have:=C.size; omega
  clear C O L X B7;go_wp2_with fail;have K:=J.o u1
  refine K.mono ?_;clear K J
  rintro e u2 ⟨rfl,C⟩;have B1:Qg (PM w u2):=Qf (M.o.trans (C.mono (by omega)));have B3:=Qf (D.o.below C);have C8:w.heap.size+2<=u2.heap.size:=by have:=C.size; omega
  clear C M D B8;have Q:Qg (PM w (u2.alloc (.cells #[.int .u64 g1,.int .u64 g2] 54))):=Qf (B1.o.alloc (by omega) _);have A5:Qg (BK (w.heap.size+1) #[.int .u64 0,.int .u64 0] 54 (u2.alloc (.cells #[.int .u64 g1,.int .u64 g2] 54))):=Qf (B3.o.alloc _);have A4:Qg (BK u2.heap.size #[.int .u64 g1,.int .u64 g2] 54 (u2.alloc (.cells #[.int .u64 g1,.int .u64 g2] 54))):=Qf (BK.new _ _ _);go_wp2_with fail;have K:=V.o _ Q.o
  refine K.mono ?_;clear K V
  rintro e u4 ⟨ra,rc,rfl,A0⟩;have N:=Qf A0;have C:=A0.2.2.2;have H:=Qf (A5.o.below C);have S:=Qf (A4.o.below C);have A3:Qg (PM w u4):=Qf (Q.o.trans (C.mono (by simp; omega)));have c0:u4.cell? ⟨w.heap.size+1,0,none⟩=some (.int .u64 0):=by rw[H.o.cell]; rfl
  have c1:u4.cell? ⟨w.heap.size+1,1,none⟩=some (.int .u64 0):=by rw[H.o.cell]; rfl
  have f0:u4.frozen? ⟨w.heap.size+1,0,none⟩=false:=H.o.frozen 0;have f1:u4.frozen? ⟨w.heap.size+1,1,none⟩=false:=H.o.frozen 1;have k0:u4.cell? ⟨u2.heap.size,0,none⟩=some (.int .u64 g1):=by rw[S.o.cell]; rfl
  have k1:u4.cell? ⟨u2.heap.size,1,none⟩=some (.int .u64 g2):=by rw[S.o.cell]; rfl
  have B6:u2.heap.size≠w.heap.size+1:=by omega
  clear A0 C Q A5 A4 H S;by_cases hi:ei=0
  ·subst hi
   have Y:Qg (R=(ys,(g1,g2),0)):=Qf (by rw[HR.o,if_neg (by simp)]);have B2:Qg (∀W,(∀B,Its B u4 ra ys->Its B W ra ys)->W.heap.size=u4.heap.size->PM w W->MK w a xs R (.returned (.tuple #[.slice ra ys.length rc,.agg #[.int .u64 g1,.int .u64 g2],.int .i64 0])) W):=Qf (fun W h1 h2 h3=>by
    rw[Y.o];refine⟨ra,rc,rfl,by rw[h2]; exact h1 _ N.o.1,N.o.2.1,?_,h3⟩;rcases N.o.2.2.1 with h | h
    ·exact .inl h
    ·exact .inr (fun ad P=>by have:=h ad P; simp at this; omega))
   have A2:Qg (∀ad,ra=some ad->0<ys.length->ad.block≠w.heap.size+1):=Qf (fun ad P A8=>by
    rcases N.o.2.2.1 with h | h
    ·have h0:0<xs.length:=by rw[<-h.2]; exact A8
     obtain⟨b,off,C,C7,_⟩:=HP.o 0 h0;rw[<-h.1,P] at C;cases C;simp only;omega
    ·have:=h ad P; simp at this; omega)
   clear HR;go_wp2_with fail;go_region
   all_goals go_wp2_with fail
   refine bodyPost_ret (v:=.tuple #[.slice ra ys.length rc,.agg #[.int .u64 g1,.int .u64 g2],.int .i64 0]) (by simp[results,Tryz.results39,go_sem,c0,c1]) rfl ?_;exact B2.o _ (fun B h=>(h.set A2.o _ _).set A2.o _ _) (by simp) ((A3.o.setCell (by simp) _).setCell (by simp) _).drew
  ·have Y:Qg (R=([],(0,0),ei)):=Qf (by rw[HR.o,if_pos hi])
   have C0:(ei !=0)=true:=by simpa using hi
   clear HR hi;go_wp2_with fail;refine bodyPost_ret (v:=.tuple #[.slice none 0 0,.agg #[.int .u64 0,.int .u64 0],.int .i64 ei]) (by simp[results,Tryz.results39,go_sem,c0,c1]) rfl ?_;rw[Y.o];exact⟨none,0,rfl,iF.none _ _ ((A3.o.setCell (by simp) _).setCell (by simp) _)⟩
 ·rw[if_pos he] at F
  have HR:=Qf F;have B6:(er !=0)=true:=by simpa using he
  clear F he J V E;go_enter Tryz.func39,Tryz.ntmps39;go_wp2_with fail;have K:=G.o
  refine K.mono ?_;clear K G
  rintro e u1 ⟨rfl,C⟩;rw[<-O.o] at C;have M:Qg (PM w u1):=Qf (L.o.trans (C.mono (by omega)));have D:=Qf (X.o.below C);have c0:u1.cell? ⟨w.heap.size+1,0,none⟩=some (.int .u64 0):=by rw[D.o.cell]; rfl
  have c1:u1.cell? ⟨w.heap.size+1,1,none⟩=some (.int .u64 0):=by rw[D.o.cell]; rfl
  have f0:u1.frozen? ⟨w.heap.size+1,0,none⟩=false:=D.o.frozen 0;have f1:u1.frozen? ⟨w.heap.size+1,1,none⟩=false:=D.o.frozen 1;clear C O;go_wp2_with fail;refine bodyPost_ret (v:=.tuple #[.slice none 0 0,.agg #[.int .u64 0,.int .u64 0],.int .i64 er]) (by simp[results,Tryz.results39,go_sem,c0,c1]) rfl ?_;rw[HR.o];exact⟨none,0,rfl,iF.none _ _ ((M.o.setCell (by simp) _).setCell (by simp) _)⟩
def rJ(xs:List Itm)(x:Itm):List Itm×Int:=if vg x≠0 then([],vg x) else Ag xs x
theorem N7(a:Qa)(xs:List Itm)(c:Nat)(d1 d2:Int)(T:Qb)(w:World)(S:jQ w a xs c)(Z:Asc xs)(hT:(T.length:Int)<=140737488355328):
  Qh 203 #[.slice a xs.length c,.agg #[.int .u64 d1,.int .u64 d2],.string ⟨T.toArray⟩] w (J7 w a xs (rJ xs ⟨(d1,d2),T⟩)):=by
 have P:=Qf (fun W=>pG ⟨(d1,d2),T⟩ W hT);have M:=Qf (fun W (hW:PM w W)=>wY a xs c ⟨(d1,d2),T⟩ W (S.below hW).its Z S.cap S.len);simp only[Itm.val] at P M;obtain⟨R,E⟩:=Qe (rJ xs ⟨(d1,d2),T⟩);rw[<-E];unfold rJ at E;generalize vg ⟨(d1,d2),T⟩=er at P E;generalize Ag xs ⟨(d1,d2),T⟩=I at M E;obtain⟨ys,ei⟩:=I;clear S Z;obtain⟨n,O⟩:=Qe xs.length;rw[<-O] at M ⊢;clear O;obtain⟨u0,B⟩:=Qe ((w.alloc (.cells #[.int .u64 d1,.int .u64 d2] 54)).alloc (.cells #[.int .u64 d1,.int .u64 d2,.string ⟨T.toArray⟩] 56));have K:Qg (PM w u0):=Qf (by rw[B]; exact(ba w _).alloc (by simp) _);have N:Qg (BK (w.heap.size+1) #[.int .u64 d1,.int .u64 d2,.string ⟨T.toArray⟩] 56 u0):=Qf (by rw[B]; exact BK.new2 _ _ _ _);have Y:w.heap.size+2<=u0.heap.size:=by rw[B]; simp
 have C:=Qf (P.o u0);rw[B] at C;have G:=Qf B;clear P B;by_cases Q:er=0
 ·subst Q
  rw[if_neg (by simp)] at E;have V:=Qf E;clear E;go_enter Tryz.func203,Tryz.ntmps203;go_wp2_with fail;have J:=C.o
  refine J.mono ?_;clear J C
  rintro e u1 ⟨rfl,H⟩;rw[<-G.o] at H;have F:Qg (PM w u1):=Qf (K.o.trans (H.mono (by omega)));have L:=Qf (N.o.below H);have A3:w.heap.size+2<=u1.heap.size:=by have:=H.size; omega
  have c0:u1.cell? ⟨w.heap.size+1,0,none⟩=some (.int .u64 d1):=by rw[L.o.cell]; rfl
  have c1:u1.cell? ⟨w.heap.size+1,1,none⟩=some (.int .u64 d2):=by rw[L.o.cell]; rfl
  have c2:u1.cell? ⟨w.heap.size+1,2,none⟩=some (.string ⟨T.toArray⟩):=by rw[L.o.cell]; rfl
  clear H G K N Y;go_wp2_with fail;have J:=M.o u1 F.o
  refine J.mono ?_;clear J M
  rintro e u2 ⟨ra,rc,rfl,D⟩;have U:Qg (iF w a xs ys ra rc u2):=Qf ⟨D.1,D.2.1,by
   rcases D.2.2.1 with h | h
   ·exact .inl h
   ·exact .inr (fun ad X=>by have:=h ad X; omega),F.o.trans (D.2.2.2.mono (by omega))⟩
  clear D;go_wp2_with fail;go_ret2;rw[V.o];exact⟨ra,rc,rfl,U.o⟩
 ·rw[if_pos Q] at E
  have V:=Qf E;have A2:(er !=0)=true:=by simpa using Q
  clear E Q M;go_enter Tryz.func203,Tryz.ntmps203;go_wp2_with fail;have J:=C.o
  refine J.mono ?_;clear J C
  rintro e u1 ⟨rfl,H⟩;rw[<-G.o] at H;have F:Qg (PM w u1):=Qf (K.o.trans (H.mono (by omega)));clear H G;go_wp2_with fail;go_ret2;rw[V.o];exact⟨none,0,rfl,iF.none _ _ F.o⟩
def vO:Option (Int×Int)->Int×Int->Bool
 | none,_=>false
 | some q,d=>decide (eO d q<=0)
def vR:Option (Int×Int)->List Itm->Int
 | _,[]=>0
 | p,x::r=>if vg x≠0 then vg x else if vO p x.d=true then 10 else vR (some x.d) r
def mV(xs:List Itm):Int:=vR none xs
def mG(xs:List Itm):Nat->Option (Int×Int)
 | 0=>none
 | k+1=>(xs[k]?).map (·.d)
def CR(xs:List Itm)(k:Nat):Prop:=mV xs=vR (mG xs k) (xs.drop k)
theorem CR.start(xs:List Itm):CR xs 0:=rfl
theorem CR.step{xs:List Itm}(h:CR xs k)(A:k<xs.length):mV xs=if vg xs[k]≠0 then vg xs[k] else if vO (mG xs k) xs[k].d=true then 10 else vR (mG xs (k+1)) (xs.drop (k+1)):=by
 unfold CR at h;have e:mG xs (k+1)=some xs[k].d:=by rw[mG,List.getElem?_eq_getElem A]; rfl
 rw[h,aN A,vR,e]
theorem CR.fin{xs:List Itm}(h:CR xs k)(A:xs.length<=k):mV xs=0:=by
 unfold CR at h;rw[h,dV A];cases mG xs k <;> rfl
