/- Joined texts: ObRd, ObRg, ObRe, ObRp, ObDl, ObRl, ObCx, ObDe. -/
import Derived.Test.YtkedhdcnakhbgaaGreatK2
import Derived.Test.YtkedhdcnakhbgaaGreatK1
/- object.reader's methods. -/
set_option linter.unusedSimpArgs false
set_option maxRecDepth 100000
set_option maxHeartbeats 16000000
namespace Go.Proofs.YtkedhdcnakhbgaaGreat
open Go.RowKit Go.Shelf
set_option linter.unusedVariables false
variable {cs:Array Value}{e:Ent}{er u:Int}{d:Int×Int}{xs:List Value}{b base base' c ec m n pc z:Nat}{r:Option Nat}{a ea pa:Qa}{l l' s:Qb}{v:Value}{W W' w x:World}
abbrev RS:=Qb×Bool
def dO(r:RS):Int×RS:=((Cw.getI r.1).1,(r.1.drop (Cw.getI r.1).2.1.toNat,r.2||(Cw.getI r.1).2.2 !=0))
def iN(r:RS):Qb×RS:=((Cw.getT r.1).1,(r.1.drop (Cw.getT r.1).2.1.toNat,r.2||(Cw.getT r.1).2.2 !=0))
def iH(r:RS):(Int×Int)×RS:=if r.1.length<16 then((0,0),(r.1,true)) else((mJ (r.1.take 8),mJ ((r.1.drop 8).take 8)),(r.1.drop 16,r.2))
def RD(b:Nat)(r:RS)(W:World):Prop:=W.heap[b]? = some (.cells #[.string ⟨r.1.toArray⟩,.bool r.2] 160 (0,0))
theorem gH{n:Int}(h:Cw.getI l=(n,u,er)):0<=n/\n<=1099511627776/\0<=u/\u<=l.length:=by
 by_cases C:er=0
 ·subst C
  have:=bM h;omega
 ·have D:(Cw.getGo 6 0 0 1 l).2.2≠0:=by
   have:Cw.getGo 6 0 0 1 l=(n,u,er):=h;rw[this]; exact C
  have A:Cw.getGo 6 0 0 1 l=(n,u,er):=h;rcases Aq 6 0 0 1 l D with B | B
  ·rw[B] at A; simp only[Prod.mk.injEq] at A; omega
  ·rw[B] at A; simp only[Prod.mk.injEq] at A; omega
theorem lZ{x:Qb}(h:Cw.getT l=(x,u,er)):0<=u/\u<=l.length/\x.length<=65536:=by
 obtain⟨n,k,er',B,C⟩:=jM l;have D:=gH B;rcases C with⟨_,A⟩ | ⟨_,_,A⟩ | ⟨_,_,_,A⟩ | ⟨_,_,_,A⟩
 ·rw[h] at A; simp only[Prod.mk.injEq] at A; rw[A.1,A.2.1]; simp
 ·rw[h] at A; simp only[Prod.mk.injEq] at A; rw[A.1,A.2.1]; simp
 ·rw[h] at A; simp only[Prod.mk.injEq] at A; rw[A.1,A.2.1]; simp
 ·rw[h] at A; simp only[Prod.mk.injEq] at A; rw[A.1,A.2.1]; simp only[aA,ah]; omega
theorem wH{bad bad':Bool}(h:RD b (l,bad) W):RD b (l',bad') ((W.setCell ⟨b,1,none⟩ (.bool bad')).setCell ⟨b,0,none⟩ (.string ⟨l'.toArray⟩)):=by
 unfold RD at h ⊢;simp[World.setCell,Array.getElem?_modify,h]
theorem iV(b:Nat)(r:RS)(w:World)(h:RD b r w)(I:(r.1.length:Int)<=140737488355328):
  Qh 113 #[.pointer (some ⟨b,0,none⟩)] w fun e w'=>e=.returned (.int .i64 (dO r).1)/\Qg (RD b (dO r).2 w')/\Qg (w.grownBy w' (some b)):=by
 obtain⟨l,bad⟩:=r;obtain⟨n,u,er,C⟩:∃n u er,Cw.getI l=(n,u,er):=⟨_,_,_,rfl⟩;have B:=Qf (fun X=>dQ (s:=⟨l.toArray⟩) (n:=n) (k:=u) (er:=er) (by simpa using C) X);have J:=gH C;have E:dO (l,bad)=(n,(l.drop u.toNat,bad||er !=0)):=by unfold dO; rw[C]
 obtain⟨u0,rfl⟩:∃u0:Nat,u=(u0:Int):=⟨u.toNat,by omega⟩;rw[aj] at E;have H:u0<=l.length:=by omega
 have G:=fun W=>jY l u0 H W
 have F:(⟨l.toArray⟩:ByteArray).extract u0 l.length=⟨(l.drop u0).toArray⟩:=by rw[dw,ag (by simp)]
 rw[E];generalize l.drop u0=l' at G F ⊢;have D:=Qf h;have c0:w.cell? ⟨b,0,none⟩=some (.string ⟨l.toArray⟩):=by rw[Lib.cell_of_heap h]; rfl
 have c1:w.cell? ⟨b,1,none⟩=some (.bool bad):=by rw[Lib.cell_of_heap h]; rfl
 have f0:w.frozen? ⟨b,0,none⟩=false:=Lib.frozen_of_heap h 0;have f1:w.frozen? ⟨b,1,none⟩=false:=Lib.frozen_of_heap h 1;simp only at I;clear C E h;cases bad with
 | true=>
  go_enter Tryz.func113,Tryz.ntmps113;go_wp2_with fail;refine(B.o _).mono ?_;rintro e w' ⟨rfl,rfl⟩;go_wp2_with fail;go_ret;exact⟨rfl,Qf (wH D.o),Qf (bu (dN _ _ _ _) (dN _ _ _ _))⟩
 | false=>
  cases K:(er !=0) with
  | true=>
   go_enter Tryz.func113,Tryz.ntmps113;go_wp2_with fail;refine(B.o _).mono ?_;rintro e w' ⟨rfl,rfl⟩;go_wp2_with fail;go_ret;exact⟨rfl,Qf (wH D.o),Qf (bu (dN _ _ _ _) (dN _ _ _ _))⟩
  | false=>
   go_enter Tryz.func113,Tryz.ntmps113;go_wp2_with fail;refine(B.o _).mono ?_;rintro e w' ⟨rfl,rfl⟩;go_wp2_with fail;go_ret;exact⟨rfl,Qf (wH D.o),Qf (bu (dN _ _ _ _) (dN _ _ _ _))⟩
theorem iU(b:Nat)(r:RS)(w:World)(h:RD b r w)(I:(r.1.length:Int)<=140737488355328):
  Qh 114 #[.pointer (some ⟨b,0,none⟩)] w fun e w'=>e=.returned (.string ⟨(iN r).1.toArray⟩)/\Qg (RD b (iN r).2 w')/\Qg (w.grownBy w' (some b)):=by
 obtain⟨l,bad⟩:=r;obtain⟨n,u,er,C⟩:∃n u er,Cw.getT l=(n,u,er):=⟨_,_,_,rfl⟩;have B:Qg (∀X,Qh 126 #[.string ⟨l.toArray⟩] X fun e w'=>e=.returned (.tuple #[.string ⟨n.toArray⟩,.int .i64 u,.int .i64 er])/\X=w'):=Qf (fun X=>by
  have:=kD ⟨l.toArray⟩ X (by rw[bH]; exact I);rw[show(⟨l.toArray⟩:ByteArray).data.toList=l by simp,C] at this;exact this)
 have J:=lZ C;have E:iN (l,bad)=(n,(l.drop u.toNat,bad||er !=0)):=by unfold iN; rw[C]
 obtain⟨u0,rfl⟩:∃u0:Nat,u=(u0:Int):=⟨u.toNat,by omega⟩;rw[aj] at E;have H:u0<=l.length:=by omega
 have G:=fun W=>jY l u0 H W
 have F:(⟨l.toArray⟩:ByteArray).extract u0 l.length=⟨(l.drop u0).toArray⟩:=by rw[dw,ag (by simp)]
 rw[E];generalize l.drop u0=l' at G F ⊢;have D:=Qf h;have c0:w.cell? ⟨b,0,none⟩=some (.string ⟨l.toArray⟩):=by rw[Lib.cell_of_heap h]; rfl
 have c1:w.cell? ⟨b,1,none⟩=some (.bool bad):=by rw[Lib.cell_of_heap h]; rfl
 have f0:w.frozen? ⟨b,0,none⟩=false:=Lib.frozen_of_heap h 0;have f1:w.frozen? ⟨b,1,none⟩=false:=Lib.frozen_of_heap h 1;simp only at I;clear C E h;cases bad with
 | true=>
  go_enter Tryz.func114,Tryz.ntmps114;go_wp2_with fail;refine(B.o _).mono ?_;rintro e w' ⟨rfl,rfl⟩;go_wp2_with fail;go_ret;exact⟨rfl,Qf (wH D.o),Qf (bu (dN _ _ _ _) (dN _ _ _ _))⟩
 | false=>
  cases K:(er !=0) with
  | true=>
   go_enter Tryz.func114,Tryz.ntmps114;go_wp2_with fail;refine(B.o _).mono ?_;rintro e w' ⟨rfl,rfl⟩;go_wp2_with fail;go_ret;exact⟨rfl,Qf (wH D.o),Qf (bu (dN _ _ _ _) (dN _ _ _ _))⟩
  | false=>
   go_enter Tryz.func114,Tryz.ntmps114;go_wp2_with fail;refine(B.o _).mono ?_;rintro e w' ⟨rfl,rfl⟩;go_wp2_with fail;go_ret;exact⟨rfl,Qf (wH D.o),Qf (bu (dN _ _ _ _) (dN _ _ _ _))⟩
def sJ(l:Qb)(k:Nat):Int×Int:=(mJ ((l.take 8).take k),mJ (((l.drop 8).take 8).take (k-8)))
theorem uV(l:Qb):sJ l 0=(0,0):=by simp[sJ,mJ]
theorem uW(l:Qb):sJ l 16=(mJ (l.take 8),mJ ((l.drop 8).take 8)):=by
 simp[sJ,List.take_take]
theorem C8(l:Qb)(k:Nat)(C:16<=l.length)(B:k<8):sJ l (k+1)=(mI (sJ l k).1 (l[k]'(by omega)),(sJ l k).2):=by
 have A:k<(l.take 8).length:=by rw[aA]; omega
 have e1:mJ ((l.take 8).take (k+1))=mI (mJ ((l.take 8).take k)) ((l.take 8)[k]):=gY mI 0 (l.take 8) k A;have e2:k+1-8=0:=by omega
 have e3:k-8=0:=by omega
 simp only[sJ,e1,e2,e3,List.getElem_take]
theorem C9(l:Qb)(k:Nat)(D:16<=l.length)(C:8<=k)(B:k<16):sJ l (k+1)=((sJ l k).1,mI (sJ l k).2 (l[k]'(by omega))):=by
 have A:k-8<((l.drop 8).take 8).length:=by rw[aA,ah]; omega
 have e1:mJ (((l.drop 8).take 8).take (k-8+1))=mI (mJ (((l.drop 8).take 8).take (k-8))) (((l.drop 8).take 8)[k-8]):=gY mI 0 _ _ A;have e2:k+1-8=k-8+1:=by omega
 have e3:(l.take 8).take (k+1)=(l.take 8).take k:=by
  rw[List.take_take,List.take_take,Nat.min_eq_right (by omega),Nat.min_eq_right (by omega)]
 simp only[sJ,e1,e2,e3,List.getElem_take,eF];congr 3;congr 1;omega
theorem fH{t:TypeId}{fz:Nat×Nat}(h:W.heap[b]? = some (.cells cs t fz))(j:Nat)(v:Value):(W.setCell ⟨b,j,none⟩ v).heap[b]? = some (.cells (cs.setIfInBounds j v) t fz):=by
 simp[World.setCell,Array.getElem?_modify,h]
theorem nC(b:Nat)(r:RS)(w:World)(h:RD b r w)(hl:(r.1.length:Int)<=140737488355328):
  Qh 117 #[.pointer (some ⟨b,0,none⟩)] w fun e w'=>e=.returned (.agg #[.int .u64 (iH r).1.1,.int .u64 (iH r).1.2])/\Qg (RD b (iH r).2 w')/\Qg (w.grownBy w' (some b)):=by
 obtain⟨l,bad⟩:=r;have B:b<w.heap.size:=(Array.getElem?_eq_some_iff.1 h).1;simp only at hl;have S:=Qf h;have c0:w.cell? ⟨b,0,none⟩=some (.string ⟨l.toArray⟩):=by rw[Lib.cell_of_heap h]; rfl
 have f0:w.frozen? ⟨b,0,none⟩=false:=Lib.frozen_of_heap h 0;have f1:w.frozen? ⟨b,1,none⟩=false:=Lib.frozen_of_heap h 1;have c1:w.cell? ⟨b,1,none⟩=some (.bool bad):=by rw[Lib.cell_of_heap h]; rfl
 clear h;by_cases Y:(l.length:Int)<16
 ·have K:Qg (iH (l,bad)=((0,0),(l,true))):=Qf (by unfold iH; rw[if_pos (by simp only; omega)])
  rw[K.o];go_enter Tryz.func117,Tryz.ntmps117;go_wp2_with fail;refine bodyPost_ret (v:=.agg #[.int .u64 0,.int .u64 0]) (by simp[results,Tryz.results117,go_sem]) rfl ⟨rfl,Qf ?_,Qf ?_⟩
  ·have hs:b<(w.setCell ⟨b,1,none⟩ (.bool true)).heap.size:=by simpa using B
   unfold RD;rw[Below.heap_alloc _ _ _ (by simp; omega),Below.heap_alloc _ _ _ hs];have:=S.o;unfold RD at this;simp[World.setCell,Array.getElem?_modify,this]
  ·exact bu (bu (dN _ _ _ _) (World.grownBy_alloc _ _ _)) (World.grownBy_alloc _ _ _)
 ·have T:(16:Int)<=l.length:=by omega
  have K:Qg (iH (l,bad)=(sJ l 16,(l.drop 16,bad))):=Qf (by unfold iH; rw[if_neg (by simp only; omega),uW]);rw[K.o];go_enter Tryz.func117,Tryz.ntmps117;go_wp2_with fail;go_loopw [15] (fun i wr=>∃(k:Nat) (x y:Int),k<=16/\i=.int .i64 k/\Qg (PM w wr)/\Qg (wr.heap[w.heap.size]? = some (.cells #[.int .u64 0,.int .u64 0] 54 (0,0)))/\Qg (wr.heap[w.heap.size+1]? = some (.cells #[.int .u64 x,.int .u64 y] 54 (0,0)))/\Qg (sJ l k=(x,y))) (fun i _=>16-(intOf i).toNat)
  case atStart=>
   refine⟨0,0,0,by omega,rfl,Qf ((ba w _).alloc (by simp) _),Qf ?_,Qf ?_,Qf (uV l)⟩
   ·rw[Below.heap_alloc _ _ _ (by simp)]; exact World.alloc_heap_new _ _
   ·have:=World.alloc_heap_new (w.alloc (.cells #[.int .u64 0,.int .u64 0] 54)) (.cells #[.int .u64 0,.int .u64 0] 54)
    rwa[World.size_alloc] at this
  case round=>
   obtain⟨k,x,y,U,rfl,E,G,F,I⟩:=hrel;have g0:wr.cell? ⟨b,0,none⟩=some (.string ⟨l.toArray⟩):=(E.out.cell (p:=⟨b,0,none⟩) B).trans c0;have g1:wr.cell? ⟨w.heap.size+1,0,none⟩=some (.int .u64 x):=by rw[Lib.cell_of_heap F.out]; rfl
   have g2:wr.cell? ⟨w.heap.size+1,1,none⟩=some (.int .u64 y):=by rw[Lib.cell_of_heap F.out]; rfl
   have z1:wr.frozen? ⟨w.heap.size+1,0,none⟩=false:=Lib.frozen_of_heap F.out 0;have z2:wr.frozen? ⟨w.heap.size+1,1,none⟩=false:=Lib.frozen_of_heap F.out 1;by_cases O:k<16
   ·have Z:k<l.length:=by omega
    by_cases N:k<8
    ·have J:Qg (sJ l (k+1)=(mI x l[k],y)):=Qf (by rw[C8 l k (by omega) N,I.out])
     have P:(k:Int).tdiv 8=0:=by rw[iG (by omega)]; omega
     have Q:(k:Int)/8=0:=by omega
     have dk:decide ((k:Int)<16)=true:=by simp; omega
     go_wp2_with fail;go_region;go_wp2_with fail;go_roundw
     case rel=>
      refine⟨k+1,_,_,by omega,by go_num,Qf (E.out.setCell (p:=⟨w.heap.size+1,0,none⟩) (by simp) _).drew,Qf ?_,Qf ?_,Qf J.o⟩
      ·exact(Below.heap_setCell _ _ _ _ (by simp)).trans G.out
      ·exact fH F.out _ _
     case measure=>simp[intOf]; omega
    ·have J:Qg (sJ l (k+1)=(x,mI y l[k])):=Qf (by rw[C9 l k (by omega) (by omega) O,I.out])
     have P:(k:Int).tdiv 8=1:=by rw[iG (by omega)]; omega
     have Q:(k:Int)/8=1:=by omega
     have dk:decide ((k:Int)<16)=true:=by simp; omega
     go_wp2_with fail;go_region;go_wp2_with fail;go_roundw
     case rel=>
      refine⟨k+1,_,_,by omega,by go_num,Qf (E.out.setCell (p:=⟨w.heap.size+1,1,none⟩) (by simp) _).drew,Qf ?_,Qf ?_,Qf J.o⟩
      ·exact(Below.heap_setCell _ _ _ _ (by simp)).trans G.out
      ·exact fH F.out _ _
     case measure=>simp[intOf]; omega
   ·obtain rfl:k=16:=by omega
    have g3:wr.frozen? ⟨b,0,none⟩=false:=(E.out.frozen (p:=⟨b,0,none⟩) B).trans f0;have y0:wr.cell? ⟨w.heap.size,0,none⟩=some (.int .u64 0):=by rw[Lib.cell_of_heap G.out]; rfl
    have y1:wr.cell? ⟨w.heap.size,1,none⟩=some (.int .u64 0):=by rw[Lib.cell_of_heap G.out]; rfl
    have y2:wr.frozen? ⟨w.heap.size,0,none⟩=false:=Lib.frozen_of_heap G.out 0;have y3:wr.frozen? ⟨w.heap.size,1,none⟩=false:=Lib.frozen_of_heap G.out 1;have C:w.heap.size≠b:=by omega
    have V:w.heap.size+1≠b:=by omega
    have M:(⟨l.toArray⟩:ByteArray).extract 16 l.length=⟨(l.drop 16).toArray⟩:=by rw[dw,ag (by simp)]
    have R:=fun W=>jY l 16 (by omega) W
    obtain⟨l',D⟩:∃l',l'=l.drop 16:=⟨_,rfl⟩;rw[<-D] at M R;have X:=Qf D;clear D;go_wp2_with fail;refine bodyPost_ret (v:=.agg #[.int .u64 x,.int .u64 y]) (by simp[results,Tryz.results117,go_sem,y0,y1]) rfl ⟨by rw[I.out],Qf ?_,Qf ?_⟩
    ·rw[<-X.o]
     have L:=(E.out.block b B).trans S.o;exact(Below.heap_setCell _ _ _ _ (fun e=>C e.symm)).trans ((Below.heap_setCell _ _ _ _ (fun e=>C e.symm)).trans (fH L _ _))
    ·have H:=E.out
     exact⟨H.os,H.tape,H.output,by simpa using H.size,fun k U hr=>(Below.heap_setCell _ _ _ _ (by simp; omega)).trans ((Below.heap_setCell _ _ _ _ (by simp; omega)).trans ((Below.heap_setCell _ _ _ _ (fun e=>hr (by rw[e]))).trans (H.block k U)))⟩
def nW(r:RS):Ent×RS:=
 (⟨(iN r).1,(dO (iN r).2).1==1,(iH ((dO (iN r).2).2.1,(dO (iN r).2).2.2||decide (1<(dO (iN r).2).1))).1⟩,(iH ((dO (iN r).2).2.1,(dO (iN r).2).2.2||decide (1<(dO (iN r).2).1))).2)
theorem RD.alloc{r:RS}(h:RD b r W)(o:Obj):RD b r (W.alloc o):=(Below.heap_alloc _ _ _ (Array.getElem?_eq_some_iff.1 h).1).trans h
theorem RD.lt{r:RS}(h:RD b r W):b<W.heap.size:=(Array.getElem?_eq_some_iff.1 h).1
theorem xO(r:RS):(iN r).2.1.length<=r.1.length:=by unfold iN; simp
theorem oI(r:RS):(dO r).2.1.length<=r.1.length:=by unfold dO; simp
theorem Em(h:w.grownBy x r)(C:w.heap.size<=c)(j:Nat)(v:Value):w.grownBy (x.setCell ⟨c,j,none⟩ v) r:=
 ⟨h.os,h.tape,h.output,by have:=h.size; simpa using this,fun k A B=>(Below.heap_setCell _ _ _ _ (by simp; omega)).trans (h.block k A B)⟩
theorem fM(h:w.grownBy x (some b))(j:Nat)(v:Value):w.grownBy (x.setCell ⟨b,j,none⟩ v) (some b):=bu h (dN _ _ _ _)
theorem qY(h:w.grownBy x r)(o:Obj):w.grownBy (x.alloc o) r:=bu h (World.grownBy_alloc _ _ _)
theorem O5(w:World)(r:Option Nat):w.grownBy w r:=⟨rfl,rfl,rfl,nr,fun _ _ _=>rfl⟩
theorem RD.set{r:RS}(h:RD b r W)(A:c≠b)(j:Nat)(v:Value):RD b r (W.setCell ⟨c,j,none⟩ v):=(Below.heap_setCell _ _ _ _ (by simp; omega)).trans h
theorem Fy(b:Nat)(r:RS)(w:World)(h:RD b r w)(hl:(r.1.length:Int)<=140737488355328):
  Qh 116 #[.pointer (some ⟨b,0,none⟩)] w fun e w'=>e=.returned (.agg #[.string ⟨(nW r).1.name.toArray⟩,.bool (nW r).1.dir,.int .u64 (nW r).1.d.1,.int .u64 (nW r).1.d.2])/\Qg (RD b (nW r).2 w')/\Qg (w.grownBy w' (some b)):=by
 have U:=xO r;have G:=oI (iN r).2;have A2:=h.lt;have H:Qg (nW r=(⟨(iN r).1,(dO (iN r).2).1==1,(iH ((dO (iN r).2).2.1,(dO (iN r).2).2.2||decide (1<(dO (iN r).2).1))).1⟩,(iH ((dO (iN r).2).2.1,(dO (iN r).2).2.2||decide (1<(dO (iN r).2).1))).2)):=Qf rfl;have Z:=Qf (fun W T=>iU b r W T hl);generalize iN r=s1 at H Z U G;obtain⟨s,r1⟩:=s1;simp only at H Z U G;have Y:=Qf (fun W T=>iV b r1 W T (by omega));generalize dO r1=s2 at H Y G;obtain⟨n,r2⟩:=s2;simp only at H Y G;obtain⟨l2,bad2⟩:=r2;simp only at H G;have Q:=Qf (fun W T=>nC b (l2,bad2||decide (1<n)) W T (by simp only; omega));generalize iH (l2,bad2||decide (1<n))=s3 at H Q;obtain⟨⟨d1,d2⟩,r3⟩:=s3;simp only at H Q;rw[H.o];have HH:=Qf h;clear h H;go_enter Tryz.func116,Tryz.ntmps116;go_wp2_with fail;refine(Z.o _ (HH.o.alloc _)).mono ?_;rintro e x1 ⟨rfl,R,J⟩;go_wp2_with fail;refine(Y.o _ (R.out.alloc _)).mono ?_;rintro e x2 ⟨rfl,L,F⟩;have A0:w.heap.size<x1.heap.size:=by have:=J.out.size; simp at this; omega
 have P:=L.out;have K:x2.heap[x1.heap.size]? = some (.cells #[.string ⟨s.toArray⟩,.bool false,.int .u64 0,.int .u64 0] 164 (0,0)):=(F.out.block _ (by simp) (fun e=>by have:=Option.some.inj e; have:=R.out.lt; omega)).trans (World.alloc_heap_new _ _);have c1:x2.cell? ⟨b,1,none⟩=some (.bool bad2):=by rw[Lib.cell_of_heap P]; rfl
 have f1:x2.frozen? ⟨b,1,none⟩=false:=Lib.frozen_of_heap P 1;have k1:x2.cell? ⟨x1.heap.size,1,none⟩=some (.bool false):=by rw[Lib.cell_of_heap K]; rfl
 have k2:x2.frozen? ⟨x1.heap.size,1,none⟩=false:=Lib.frozen_of_heap K 1;have E:x1.heap.size≠b:=by omega
 have I:=Qf K;have S:Qg (x2.heap[w.heap.size]? = some (.cells #[.string ⟨#[]⟩,.bool false,.int .u64 0,.int .u64 0] 164 (0,0))):=Qf ((F.out.block _ (by simp; omega) (fun e=>by have:=Option.some.inj e; omega)).trans ((Below.heap_alloc _ _ _ A0).trans ((J.out.block _ (by simp) (fun e=>by have:=Option.some.inj e; omega)).trans (World.alloc_heap_new _ _))));clear P K;cases bad2 with
 | true=>
  have M:Qg (RD b (l2,true) (x2.setCell ⟨b,1,none⟩ (.bool true))):=Qf (fH L.out 1 _);have N:Qg (RD b (l2,true) ((x2.setCell ⟨b,1,none⟩ (.bool true)).setCell ⟨x1.heap.size,1,none⟩ (.bool (n==1)))):=Qf ((Below.heap_setCell _ _ _ _ (by simp; omega)).trans M.o);go_wp2_with fail;have X:=Q.o _ N.o
  refine X.mono ?_;clear X
  rintro e x3 ⟨rfl,O,D⟩;have C:x3.heap[x1.heap.size]? = some (.cells #[.string ⟨s.toArray⟩,.bool (n==1),.int .u64 0,.int .u64 0] 164 (0,0)):=(D.out.block _ (by have:=(Array.getElem?_eq_some_iff.1 I.o).1; simpa using this) (fun e=>E (Option.some.inj e))).trans (fH ((Below.heap_setCell _ _ _ _ (by simpa using E)).trans I.o) 1 _);have m0:x3.cell? ⟨x1.heap.size,0,none⟩=some (.string ⟨s.toArray⟩):=by rw[Lib.cell_of_heap C]; rfl
  have m1:x3.cell? ⟨x1.heap.size,1,none⟩=some (.bool (n==1)):=by rw[Lib.cell_of_heap C]; rfl
  have m2:x3.cell? ⟨x1.heap.size,2,none⟩=some (.int .u64 0):=by rw[Lib.cell_of_heap C]; rfl
  have m3:x3.cell? ⟨x1.heap.size,3,none⟩=some (.int .u64 0):=by rw[Lib.cell_of_heap C]; rfl
  have p2:x3.frozen? ⟨x1.heap.size,2,none⟩=false:=Lib.frozen_of_heap C 2;have p3:x3.frozen? ⟨x1.heap.size,3,none⟩=false:=Lib.frozen_of_heap C 3;have B:x3.heap[w.heap.size]? = some (.cells #[.string ⟨#[]⟩,.bool false,.int .u64 0,.int .u64 0] 164 (0,0)):=(D.out.block _ (by have:=F.out.size; simp at this; simp; omega) (fun e=>by have:=Option.some.inj e; omega)).trans ((Below.heap_setCell _ _ _ _ (by simp; omega)).trans ((Below.heap_setCell _ _ _ _ (by simp; omega)).trans S.o));have o0:x3.cell? ⟨w.heap.size,0,none⟩=some (.string ⟨#[]⟩):=by rw[Lib.cell_of_heap B]; rfl
  have o1:x3.cell? ⟨w.heap.size,1,none⟩=some (.bool false):=by rw[Lib.cell_of_heap B]; rfl
  have o2:x3.cell? ⟨w.heap.size,2,none⟩=some (.int .u64 0):=by rw[Lib.cell_of_heap B]; rfl
  have o3:x3.cell? ⟨w.heap.size,3,none⟩=some (.int .u64 0):=by rw[Lib.cell_of_heap B]; rfl
  have q0:x3.frozen? ⟨w.heap.size,0,none⟩=false:=Lib.frozen_of_heap B 0;have q1:x3.frozen? ⟨w.heap.size,1,none⟩=false:=Lib.frozen_of_heap B 1;have q2:x3.frozen? ⟨w.heap.size,2,none⟩=false:=Lib.frozen_of_heap B 2;have q3:x3.frozen? ⟨w.heap.size,3,none⟩=false:=Lib.frozen_of_heap B 3;have V:x1.heap.size≠w.heap.size:=by omega
  clear C B c1 f1 k1 k2;go_wp2_with fail;refine bodyPost_ret (v:=.agg #[.string ⟨s.toArray⟩,.bool (n==1),.int .u64 d1,.int .u64 d2]) (by simp[results,Tryz.results116,go_sem,o0,o1,o2,o3]) rfl ⟨rfl,Qf ?_,Qf ?_⟩
  ·exact(((((O.out.set (by omega) _ _).set (by omega) _ _).set (by omega) _ _).set (by omega) _ _).set (by omega) _ _).set (by omega) _ _
  ·exact Em (Em (Em (Em (Em (Em (bu (Em (fM (bu (qY (bu (qY (O5 w _) _) J.out) _) F.out) _ _) (by omega) _ _) D.out) (by omega) _ _) (by omega) _ _) (by omega) _ _) (by omega) _ _) (by omega) _ _) (by omega) _ _
 | false=>
  simp only[Bool.false_or] at Q;have M:Qg (RD b (l2,decide (1<n)) (x2.setCell ⟨b,1,none⟩ (.bool (decide (1<n))))):=Qf (fH L.out 1 _);have N:Qg (RD b (l2,decide (1<n)) ((x2.setCell ⟨b,1,none⟩ (.bool (decide (1<n)))).setCell ⟨x1.heap.size,1,none⟩ (.bool (n==1)))):=Qf ((Below.heap_setCell _ _ _ _ (by simp; omega)).trans M.o);go_wp2_with fail;have X:=Q.o _ N.o
  refine X.mono ?_;clear X
  rintro e x3 ⟨rfl,O,D⟩;have C:x3.heap[x1.heap.size]? = some (.cells #[.string ⟨s.toArray⟩,.bool (n==1),.int .u64 0,.int .u64 0] 164 (0,0)):=(D.out.block _ (by have:=(Array.getElem?_eq_some_iff.1 I.o).1; simpa using this) (fun e=>E (Option.some.inj e))).trans (fH ((Below.heap_setCell _ _ _ _ (by simpa using E)).trans I.o) 1 _);have m0:x3.cell? ⟨x1.heap.size,0,none⟩=some (.string ⟨s.toArray⟩):=by rw[Lib.cell_of_heap C]; rfl
  have m1:x3.cell? ⟨x1.heap.size,1,none⟩=some (.bool (n==1)):=by rw[Lib.cell_of_heap C]; rfl
  have m2:x3.cell? ⟨x1.heap.size,2,none⟩=some (.int .u64 0):=by rw[Lib.cell_of_heap C]; rfl
  have m3:x3.cell? ⟨x1.heap.size,3,none⟩=some (.int .u64 0):=by rw[Lib.cell_of_heap C]; rfl
  have p2:x3.frozen? ⟨x1.heap.size,2,none⟩=false:=Lib.frozen_of_heap C 2;have p3:x3.frozen? ⟨x1.heap.size,3,none⟩=false:=Lib.frozen_of_heap C 3;have B:x3.heap[w.heap.size]? = some (.cells #[.string ⟨#[]⟩,.bool false,.int .u64 0,.int .u64 0] 164 (0,0)):=(D.out.block _ (by have:=F.out.size; simp at this; simp; omega) (fun e=>by have:=Option.some.inj e; omega)).trans ((Below.heap_setCell _ _ _ _ (by simp; omega)).trans ((Below.heap_setCell _ _ _ _ (by simp; omega)).trans S.o));have o0:x3.cell? ⟨w.heap.size,0,none⟩=some (.string ⟨#[]⟩):=by rw[Lib.cell_of_heap B]; rfl
  have o1:x3.cell? ⟨w.heap.size,1,none⟩=some (.bool false):=by rw[Lib.cell_of_heap B]; rfl
  have o2:x3.cell? ⟨w.heap.size,2,none⟩=some (.int .u64 0):=by rw[Lib.cell_of_heap B]; rfl
  have o3:x3.cell? ⟨w.heap.size,3,none⟩=some (.int .u64 0):=by rw[Lib.cell_of_heap B]; rfl
  have q0:x3.frozen? ⟨w.heap.size,0,none⟩=false:=Lib.frozen_of_heap B 0;have q1:x3.frozen? ⟨w.heap.size,1,none⟩=false:=Lib.frozen_of_heap B 1;have q2:x3.frozen? ⟨w.heap.size,2,none⟩=false:=Lib.frozen_of_heap B 2;have q3:x3.frozen? ⟨w.heap.size,3,none⟩=false:=Lib.frozen_of_heap B 3;have V:x1.heap.size≠w.heap.size:=by omega
  clear C B c1 f1 k1 k2;go_wp2_with fail;refine bodyPost_ret (v:=.agg #[.string ⟨s.toArray⟩,.bool (n==1),.int .u64 d1,.int .u64 d2]) (by simp[results,Tryz.results116,go_sem,o0,o1,o2,o3]) rfl ⟨rfl,Qf ?_,Qf ?_⟩
  ·exact(((((O.out.set (by omega) _ _).set (by omega) _ _).set (by omega) _ _).set (by omega) _ _).set (by omega) _ _).set (by omega) _ _
  ·exact Em (Em (Em (Em (Em (Em (bu (Em (fM (bu (qY (bu (qY (O5 w _) _) J.out) _) F.out) _ _) (by omega) _ _) D.out) (by omega) _ _) (by omega) _ _) (by omega) _ _) (by omega) _ _) (by omega) _ _) (by omega) _ _
def dH{α:Type}(get:RS->α×RS):Nat->RS->List α×RS
 | 0,r=>([],r)
 | n+1,r=>if r.2=true then([],r) else((get r).1::(dH get n (get r).2).1,(dH get n (get r).2).2)
def pY(most:Int)(r:RS):Int×RS:=((dO r).1,((dO r).2.1,(dO r).2.2||decide (most<(dO r).1)))
def fU{α:Type}(get:RS->α×RS)(most:Int)(r:RS):List α×RS:=dH get (pY most r).1.toNat (pY most r).2
def obZ:Ob:=⟨0,[],[],(0,0),[],[],0,[]⟩
def FE(r:RS):Ob×RS:=
 (⟨3,[],[],(iH r).1,(fU iH 8 (iH r).2).1,(iN (fU iH 8 (iH r).2).2).1,(dO (iN (fU iH 8 (iH r).2).2).2).1,(iN (dO (iN (fU iH 8 (iH r).2).2).2).2).1⟩,
  (iN (dO (iN (fU iH 8 (iH r).2).2).2).2).2)
def kX(s:Qb):Ob×RS:=
 if(dO (s,false)).1=1\/(dO (s,false)).1=4 then({ obZ with kind:=(dO (s,false)).1,data:=(iN (dO (s,false)).2).1 },(iN (dO (s,false)).2).2)
 else if(dO (s,false)).1=2 then({ obZ with kind:=2,ents:=(fU nW 200 (dO (s,false)).2).1 },(fU nW 200 (dO (s,false)).2).2)
 else if(dO (s,false)).1=3 then FE (dO (s,false)).2
 else({ obZ with kind:=(dO (s,false)).1 },(dO (s,false)).2)
def bI(s:Qb):Ob×Int:=if(kX s).2.2=true\/(kX s).2.1≠[]\/(aR (kX s).1).2≠0 then(obZ,13) else((kX s).1,0)
def Ku(x:Int):Prop:=0<=x/\x<18446744073709551616
def OkD(d:Int×Int):Prop:=Ku d.1/\Ku d.2
def OkO(o:Ob):Prop:=OkD o.tree/\(∀d∈o.pars,OkD d)/\∀e∈o.ents,OkD e.d
theorem jI{b:Bool}{n:Int}(h:dO (l,b)=(n,(l',false))):b=false/\l=Cw.enc n.toNat++l'/\0<=n/\n<=1099511627776:=by
 obtain⟨m,u,er,A⟩:∃m u er,Cw.getI l=(m,u,er):=⟨_,_,_,rfl⟩;unfold dO at h;simp only[A,Prod.mk.injEq,Bool.or_eq_false_iff,bne_eq_false_iff_eq] at h;obtain⟨rfl,rfl,rfl,rfl⟩:=h;have C:=bM A;obtain⟨B,D,E⟩:=Cw.getI_canon A;refine⟨rfl,?_,B,C.2.1⟩;rw[D,aj]
 conv=>lhs; rw[<-aQ (Cw.enc m.toNat).length l]
 rw[E]
theorem rU(h:n<=1099511627776)(l:Qb):dO (Cw.enc n++l,false)=((n:Int),(l,false)):=by
 unfold dO;rw[Cw.getI_enc n h l];simp
theorem oH{b:Bool}{x:Qb}(h:iN (l,b)=(x,(l',false))):b=false/\l=fF x++l'/\x.length<=65536:=by
 obtain⟨m,u,er,A⟩:∃m u er,Cw.getT l=(m,u,er):=⟨_,_,_,rfl⟩;unfold iN at h;simp only[A,Prod.mk.injEq,Bool.or_eq_false_iff,bne_eq_false_iff_eq] at h;obtain⟨rfl,rfl,rfl,rfl⟩:=h;obtain⟨D,E,C,B⟩:=lY A;refine⟨rfl,?_,C⟩;unfold fF
 conv=>lhs; rw[<-aQ u.toNat l]
 rw[B]
theorem rT{x:Qb}(h:x.length<=65536)(l:Qb):iN (fF x++l,false)=(x,(l,false)):=by
 unfold iN fF;rw[yx h l];simp only[aj,qL];simp
theorem tV{b:Bool}(h:iH (l,b)=(d,(l',false))):b=false/\l=beD d++l'/\OkD d:=by
 unfold iH at h;simp only at h;split at h
 ·simp at h
 ·rename_i C
  simp only[Prod.mk.injEq] at h;obtain⟨rfl,rfl,rfl⟩:=h;have A:(l.take 8).length=8:=by rw[aA]; omega
  have B:((l.drop 8).take 8).length=8:=by rw[aA,ah]; omega
  refine⟨rfl,?_,gu _ (by omega),gu _ (by omega)⟩;unfold beD;simp only;rw[MF _ A,MF _ B,show l.drop 16=(l.drop 8).drop 8 by rw[eY],ay,aQ,aQ]
theorem xQ(h:OkD d)(l:Qb):iH (beD d++l,false)=(d,(l,false)):=by
 obtain⟨d1,d2⟩:=d;unfold iH;have A:(be 8 d1).length=8:=bY 8 d1;have C:(be 8 d2).length=8:=bY 8 d2;have B:=bX (d1,d2);rw[if_neg (by simp only[af,B]; omega)];have e1:(beD (d1,d2)++l).take 8=be 8 d1:=by unfold beD; rw[ay]; exact OG A _
 have e2:(beD (d1,d2)++l).drop 8=be 8 d2++l:=by unfold beD; rw[ay]; exact Pj A _
 have e3:(beD (d1,d2)++l).drop 16=l:=Pj B _;simp only[e1,e2,e3,OG C];rw[Jg d1 h.1.1 h.1.2,Jg d2 h.2.1 h.2.2]
theorem Ia{b:Bool}(h:nW (l,b)=(e,(l',false))):b=false/\l=ru e++l'/\OkD e.d:=by
 unfold nW at h;obtain⟨s,l1,b1,hs⟩:∃s l1 b1,iN (l,b)=(s,(l1,b1)):=⟨_,_,_,rfl⟩;obtain⟨n,l2,b2,C⟩:∃n l2 b2,dO (l1,b1)=(n,(l2,b2)):=⟨_,_,_,rfl⟩;simp only[hs,C] at h;obtain⟨d,l3,b3,B⟩:∃d l3 b3,iH (l2,b2||decide (1<n))=(d,(l3,b3)):=⟨_,_,_,rfl⟩;simp only[B,Prod.mk.injEq] at h;obtain⟨rfl,rfl,rfl⟩:=h;obtain⟨A,rfl,F⟩:=tV B;simp only[Bool.or_eq_false_iff,decide_eq_false_iff_not] at A;obtain⟨rfl,E⟩:=A;obtain⟨rfl,rfl,G,_⟩:=jI C;obtain⟨rfl,rfl,_⟩:=oH hs;refine⟨rfl,?_,F⟩;have:vG (n==1)=n.toNat:=by
  unfold vG;by_cases D:n=1
  ·subst D; rfl
  ·have:n=0:=by omega
   subst this; rfl
 simp[ru,this,ay]
theorem KH(A:e.name.length<=65536)(h:OkD e.d)(l:Qb):nW (ru e++l,false)=(e,(l,false)):=by
 obtain⟨nm,dir,d⟩:=e;unfold nW ru;simp only at A h ⊢;rw[ay,rT A];simp only;rw[ay,rU (by cases dir <;> simp[vG])];simp only;have e1:(false||decide (1<((vG dir:Nat):Int)))=false:=by cases dir <;> simp[vG]
 have e2:(((vG dir:Nat):Int)==1)=dir:=by cases dir <;> rfl
 rw[e1,xQ h,e2]
theorem wK{α:Type}{get:RS->α×RS}{enc:α->Qb}{ok:α->Prop}(B:∀{l l':Qb} {b:Bool} {x:α},get (l,b)=(x,(l',false))->b=false/\l=enc x++l'/\ok x):
  ∀(n:Nat) {l l':Qb} {b:Bool} {xs:List α},dH get n (l,b)=(xs,(l',false))->b=false/\l=xs.flatMap enc++l'/\xs.length=n/\∀x∈xs,ok x
 | 0,l,l',b,xs,h=>by
  simp only[dH,Prod.mk.injEq] at h;obtain⟨rfl,rfl,rfl⟩:=h;simp
 | n+1,l,l',b,xs,h=>by
  rw[dH] at h;cases b with
  | true=>simp at h
  | false=>
   simp only[Bool.false_eq_true,if_false] at h;obtain⟨x,l1,b1,C⟩:∃x l1 b1,get (l,false)=(x,(l1,b1)):=⟨_,_,_,rfl⟩;obtain⟨ys,l2,b2,A⟩:∃ys l2 b2,dH get n (l1,b1)=(ys,(l2,b2)):=⟨_,_,_,rfl⟩;simp only[C,A,Prod.mk.injEq] at h;obtain⟨rfl,rfl,rfl⟩:=h;obtain⟨rfl,rfl,D,E⟩:=wK B n A;obtain⟨_,rfl,F⟩:=B C;refine⟨rfl,by simp,by simp[D],fun y A=>?_⟩;rcases List.mem_cons.1 A with rfl | A
   ·exact F
   ·exact E y A
theorem tT{α:Type}{get:RS->α×RS}{enc:α->Qb}:∀(xs:List α) (l:Qb),(∀x∈xs,∀l',get (enc x++l',false)=(x,(l',false)))->dH get xs.length (xs.flatMap enc++l,false)=(xs,(l,false))
 | [],l,_=>by simp[dH]
 | x::xs,l,A=>by
  rw[az,dH,if_neg (by simp),bR,ay,A x (by simp)];simp only;rw[tT xs l (fun y B=>A y (by simp[B]))]
theorem wJ{α:Type}{get:RS->α×RS}{enc:α->Qb}{ok:α->Prop}(C:∀{l l':Qb} {b:Bool} {x:α},get (l,b)=(x,(l',false))->b=false/\l=enc x++l'/\ok x)
  {most:Int} {l l':Qb} {b:Bool} {xs:List α} (h:fU get most (l,b)=(xs,(l',false))):b=false/\l=Cw.enc xs.length++(xs.flatMap enc++l')/\(xs.length:Int)<=most/\∀x∈xs,ok x:=by
 unfold fU pY at h;obtain⟨n,l1,b1,B⟩:∃n l1 b1,dO (l,b)=(n,(l1,b1)):=⟨_,_,_,rfl⟩;simp only[B] at h;obtain⟨A,rfl,D,E⟩:=wK C _ h;simp only[Bool.or_eq_false_iff,decide_eq_false_iff_not] at A;obtain⟨rfl,G⟩:=A;obtain⟨rfl,rfl,F,_⟩:=jI B;exact⟨rfl,by rw[D],by omega,E⟩
theorem zJ{α:Type}{get:RS->α×RS}{enc:α->Qb}{most:Int}(xs:List α)(l:Qb)(C:(xs.length:Int)<=most)(B:most<=1000000)(A:∀x∈xs,∀l',get (enc x++l',false)=(x,(l',false))):
  fU get most (Cw.enc xs.length++(xs.flatMap enc++l),false)=(xs,(l,false)):=by
 unfold fU pY;rw[rU (by omega)];simp only[aj,Bool.false_or];rw[show decide (most<(xs.length:Int))=false by simp; omega,tT xs l A]
theorem FC{o:Ob}(h:kX s=(o,(l',false)))(N:1<=o.kind/\o.kind<=4):s=gZ o++l'/\OkO o:=by
 have L:OkD (0,0):=⟨⟨by decide,by decide⟩,by decide,by decide⟩;unfold kX at h;obtain⟨k,l1,b1,G⟩:∃k l1 b1,dO (s,false)=(k,(l1,b1)):=⟨_,_,_,rfl⟩;simp only[G] at h;by_cases K:k=1\/k=4
 ·rw[if_pos K] at h
  obtain⟨x,l2,b2,F⟩:∃x l2 b2,iN (l1,b1)=(x,(l2,b2)):=⟨_,_,_,rfl⟩;simp only[F,Prod.mk.injEq] at h;obtain⟨rfl,rfl,rfl⟩:=h;obtain⟨rfl,rfl,_⟩:=oH F;obtain⟨_,rfl,_,_⟩:=jI G;refine⟨?_,L,by simp[obZ],by simp[obZ]⟩;unfold gZ;simp only[obZ];rw[if_neg (by omega),if_neg (by omega),ay]
 ·rw[if_neg K] at h
  by_cases H:k=2
  ·rw[if_pos H] at h
   subst H;obtain⟨xs,l2,b2,F⟩:∃xs l2 b2,fU nW 200 (l1,b1)=(xs,(l2,b2)):=⟨_,_,_,rfl⟩;simp only[F,Prod.mk.injEq] at h;obtain⟨rfl,rfl,rfl⟩:=h;obtain⟨rfl,rfl,_,J⟩:=wJ (ok:=fun e=>OkD e.d) (fun h=>Ia h) F;obtain⟨_,rfl,_,_⟩:=jI G;refine⟨?_,L,by simp[obZ],J⟩;unfold gZ;simp[ay]
  ·rw[if_neg H] at h
   by_cases I:k=3
   ·rw[if_pos I] at h
    subst I;unfold FE at h;obtain⟨t,l2,b2,A⟩:∃t l2 b2,iH (l1,b1)=(t,(l2,b2)):=⟨_,_,_,rfl⟩;obtain⟨ps,l3,b3,B⟩:∃t l2' b2',fU iH 8 (l2,b2)=(t,(l2',b2')):=⟨_,_,_,rfl⟩;obtain⟨au,l4,b4,C⟩:∃t l2' b2',iN (l3,b3)=(t,(l2',b2')):=⟨_,_,_,rfl⟩;obtain⟨ti,l5,b5,D⟩:∃t l2' b2',dO (l4,b4)=(t,(l2',b2')):=⟨_,_,_,rfl⟩;obtain⟨ms,l6,b6,E⟩:∃t l2' b2',iN (l5,b5)=(t,(l2',b2')):=⟨_,_,_,rfl⟩;simp only[A,B,C,D,E,Prod.mk.injEq] at h;obtain⟨rfl,rfl,rfl⟩:=h;obtain⟨rfl,rfl,_⟩:=oH E;obtain⟨rfl,rfl,_,_⟩:=jI D;obtain⟨rfl,rfl,_⟩:=oH C;obtain⟨rfl,rfl,_,J⟩:=wJ (ok:=OkD) (fun h=>tV h) B;obtain⟨rfl,rfl,M⟩:=tV A;obtain⟨_,rfl,_,_⟩:=jI G;refine⟨?_,M,J,by simp⟩;unfold gZ;simp[ay]
   ·rw[if_neg I] at h
    simp only[Prod.mk.injEq] at h;obtain⟨rfl,rfl,rfl⟩:=h;simp only at N;omega
theorem xg{o:Ob}(h:¬Kj o=true):o.tree=(0,0)/\o.pars=[]/\o.author=[]/\o.time=0/\o.msg=[]:=by
 simp only[Kj,Bool.or_eq_true,Bool.not_eq_true',decide_eq_false_iff_not,decide_eq_true_eq,not_or,Classical.not_not] at h;obtain⟨⟨⟨⟨A,C⟩,D⟩,B⟩,E⟩:=h;exact⟨A,aU (by omega),aU (by omega),B,aU (by omega)⟩
theorem uh{a b:Int}{p:Prop}[Decidable p](h:(if p then a else b)=0)(A:a≠0):¬p/\b=0:=by
 split at h
 ·exact absurd h A
 ·exact⟨‹_›,h⟩
theorem kJ{o:Ob}(h:dS o=0):(o.pars.length:Int)<=8/\jA o.author=true/\0<=o.time/\o.time<=1099511627776/\o.msg.length<=200/\o.tree≠(0,0)/\kQ [] o.pars=0:=by
 unfold dS at h;obtain⟨B,h⟩:=uh h (by decide);obtain⟨D,h⟩:=uh h (by decide);split at h
 ·rename_i A; exact absurd h A
 ·rename_i A
  obtain⟨C,h⟩:=uh h (by decide);obtain⟨E,h⟩:=uh h (by decide);obtain⟨F,h⟩:=uh h (by decide);exact⟨by omega,by simpa using C,by omega,by omega,by omega,B,by simpa using A⟩
theorem mh{o:Ob}(h:dz o=0)(C:o.kind=1\/o.kind=4):o={ obZ with kind:=o.kind,data:=o.data }:=by
 unfold dz at h;rw[if_pos C] at h;obtain⟨A,_⟩:=uh h (by decide);obtain⟨D,B⟩:=not_or.1 A;obtain⟨a,b,c,d,e⟩:=xg B;have f:o.ents=[]:=aU (by omega);cases o;simp only at a b c d e f;subst a b c d e f;rfl
theorem jO{o:Ob}(h:dz o=0)(A:o.kind=2):o={ obZ with kind:=2,ents:=o.ents }/\mK o.ents=0:=by
 unfold dz at h;rw[if_neg (by omega),if_pos A] at h;obtain⟨B,C⟩:=uh h (by decide);obtain⟨E,D⟩:=not_or.1 B;obtain⟨a,b,c,d,e⟩:=xg D;have f:o.data=[]:=aU (by omega);cases o;simp only at a b c d e f A;subst a b c d e f A;exact⟨rfl,C⟩
theorem iC{o:Ob}(h:dz o=0)(A:o.kind=3):o=⟨3,[],[],o.tree,o.pars,o.author,o.time,o.msg⟩/\dS o=0:=by
 unfold dz at h;rw[if_neg (by omega),if_neg (by omega),if_pos A] at h;obtain⟨B,C⟩:=uh h (by decide);obtain⟨E,D⟩:=not_or.1 B;have f:o.data=[]:=aU (by omega);have g:o.ents=[]:=aU (by omega);cases o;simp only at f g A;subst f g A;exact⟨rfl,C⟩
theorem nL{l:List Ent}(h:mK l=0):l.length<=200/\kF none l=0:=by
 unfold mK at h;obtain⟨B,A⟩:=uh h (by decide);exact⟨by omega,A⟩
theorem Hy{o:Ob}(h:dz o=0)(G:OkO o)(H:o.data.length<=65536)(l:Qb):kX (gZ o++l)=(o,(l,false)):=by
 have J:=eP h;unfold kX gZ;rw[ay,rU (by omega)];have e:((o.kind.toNat:Nat):Int)=o.kind:=by omega
 simp only[e];by_cases C:o.kind=1\/o.kind=4
 ·rw[if_pos C,if_neg (by omega),if_neg (by omega),rT H]
  simp only;rw[<-mh h C]
 ·rw[if_neg C]
  by_cases A:o.kind=2
  ·rw[if_pos A,if_pos A,ay]
   obtain⟨F,E⟩:=jO h A;obtain⟨K,I⟩:=nL E;rw[zJ o.ents l (by omega) (by omega) (fun x B l'=>KH (by have:=di (l9 I x B); omega) (G.2.2 x B) l')];simp only;rw[<-F]
  ·rw[if_neg A,if_neg A]
   have D:o.kind=3:=by omega
   rw[if_pos D,if_pos D];obtain⟨F,E⟩:=iC h D;obtain⟨c1,c2,c3,c4,c5,_⟩:=kJ E;have L:=di c2;unfold FE;simp only[ay];rw[xQ G.1];simp only;rw[zJ o.pars _ c1 (by omega) (fun x B l'=>xQ (G.2.1 x B) l')];simp only;rw[rT (by omega)];simp only;rw[rU (by omega)];simp only;rw[rT (by omega)];simp only;rw[show((o.time.toNat:Nat):Int)=o.time by omega,<-F]
theorem fA{o:Ob}(h:aR o=(s,0)):dz o=0/\s=gZ o/\(gZ o).length<=65536:=by
 unfold aR at h;split at h
 ·rename_i A
  simp only[Prod.mk.injEq] at h;exact absurd h.2 A
 ·rename_i A
  split at h
  ·simp at h
  ·simp only[Prod.mk.injEq,and_true] at h
   exact⟨by simpa using A,h.symm,by omega⟩
theorem kG{o:Ob}(h:(aR o).2=0):aR o=(gZ o,0):=by
 have:aR o=((aR o).1,0):=by rw[<-h]
 have A:=fA this;rw[<-A.2.1]; exact this
theorem kI{o:Ob}(h:bI s=(o,0)):aR o=(s,0)/\OkO o:=by
 unfold bI at h;split at h
 ·simp at h
 ·rename_i B
  simp only[not_or,Bool.not_eq_true,Classical.not_not,Prod.mk.injEq,and_true] at h B;obtain⟨D,E,F⟩:=B;have A:=kG F;have C:=fA A;have H:kX s=(o,([],false)):=by
   rw[<-h,<-D,<-E]
  rw[h] at A C;obtain⟨hs,G⟩:=FC H (eP C.1);rw[bG] at hs;rw[hs];exact⟨A,G⟩
theorem Bl{o:Ob}(h:dz o=0):o.data.length<=(gZ o).length:=by
 have C:=eP h;by_cases B:o.kind=1\/o.kind=4
 ·unfold gZ
  rw[if_neg (by omega),if_neg (by omega)];simp[fF];omega
 ·by_cases A:o.kind=2
  ·rw[(jO h A).1]; simp[obZ]
  ·rw[(iC h (by omega)).1]; simp
theorem Gm{o:Ob}(h:aR o=(s,0))(C:OkO o):bI s=(o,0):=by
 obtain⟨A,rfl,D⟩:=fA h;have B:=Hy A C (by have:=Bl A; omega) [];rw[bG] at B;unfold bI;rw[B];simp only;rw[if_neg];simp[h]
theorem A7(s:Qb):bI s=(obZ,13)\/∃o,bI s=(o,0):=by
 unfold bI;split
 ·exact .inl rfl
 ·exact .inr ⟨_,rfl⟩
theorem oJ(r:RS):(iH r).2.1.length<=r.1.length:=by unfold iH; split <;> simp
theorem DX(r:RS):(nW r).2.1.length<=r.1.length:=by
 unfold nW;exact aC (oJ _) (aC (oI _) (xO _))
theorem tQ(m:Int)(r:RS):(pY m r).2.1.length<=r.1.length:=oI r
theorem wI(r:RS):0<=(dO r).1/\(dO r).1<=1099511627776:=by
 obtain⟨n,u,er,A⟩:∃n u er,Cw.getI r.1=(n,u,er):=⟨_,_,_,rfl⟩;have:=gH A;unfold dO;rw[A];exact⟨this.1,this.2.1⟩
def bT(es:List Ent):List Value:=es.flatMap fun e=>[.string ⟨e.name.toArray⟩,.bool e.dir,.int .u64 e.d.1,.int .u64 e.d.2]
theorem kH(a b:List Ent):bT (a++b)=bT a++bT b:=by simp[bT]
theorem pE(a:List Ent):(bT a).length=a.length*4:=by
 induction a with
 | nil=>rfl
 | cons x a ih=>simp[bT] at ih ⊢; omega
theorem uP:∀(es:List Ent) (i:Nat) (h:i<es.length),(bT es)[i*4]? = some (.string ⟨es[i].name.toArray⟩)/\(bT es)[i*4+1]? = some (.bool es[i].dir)/\(bT es)[i*4+2]? = some (.int .u64 es[i].d.1)/\(bT es)[i*4+3]? = some (.int .u64 es[i].d.2)
 | [],i,h=>by simp at h
 | d::ds,0,h=>by simp[bT]
 | d::ds,i+1,h=>by
  have A:i<ds.length:=by simpa using h
  have e:bT (d::ds)=[.string ⟨d.name.toArray⟩,.bool d.dir,.int .u64 d.d.1,.int .u64 d.d.2]++bT ds:=by simp[bT]
  have g:∀j,(bT (d::ds))[(i+1)*4+j]? = (bT ds)[i*4+j]?:=fun j=>by
   rw[e,List.getElem?_append_right (by simp; omega)];congr 1;simp;omega
  have:=uP ds i A;simp only[bK];exact⟨(g 0).trans this.1,(g 1).trans this.2.1,(g 2).trans this.2.2.1,(g 3).trans this.2.2.2⟩
theorem qU{cap:Nat}{es:List Ent}(h:w.ownsRow base 164 4 (.slice a es.length cap) es.length (bT es)):BI w.heap.size w a es:=by
 intro i C;rcases h.2 with⟨A,D⟩ | ⟨g,cap',cur,A,_,B,_⟩
 ·omega
 ·cases A
  obtain⟨c0,c1,c2,c3⟩:=uP es i C;refine⟨g,0,rfl,(Array.getElem?_eq_some_iff.1 B).1,?_,?_,?_,?_⟩
  ·have:=h.cells (g:=g) rfl _ _ c0; rwa[Go.WideShapes.add_plain] at this
  ·have:=h.cells (g:=g) rfl _ _ c1; rwa[Go.WideShapes.add_plain,<-aP] at this
  ·have:=h.cells (g:=g) rfl _ _ c2; rwa[Go.WideShapes.add_plain,<-aP] at this
  ·have:=h.cells (g:=g) rfl _ _ c3; rwa[Go.WideShapes.add_plain,<-aP] at this
theorem IX:(Tryz.prog.info? 164).map (fun i=>(i.zero,i.size,i.bytes))=some (some (.agg #[.string ⟨#[]⟩,.bool false,.int .u64 0,.int .u64 0]),4,40):=by kernel_rfl
def GR(w:World)(b:Nat)(T:TypeId)(k n:Nat)(cells:List Value)(r:RS)(e:Ending)(w':World):Prop:=
 ∃a c,e=.returned (.slice a n c)/\n<=c/\Qg (RD b r w')/\Qg (w'.ownsRow w.heap.size T k (.slice a n c) n cells)/\Qg (w.grownBy w' (some b))
theorem GR.fin{α:Type}{wr:World}{T:TypeId}{k:Nat}{cells:List α->List Value}{R:List α×RS}{xs:List α}{q:RS}(D:R=(xs,q))(E:xs.length<=c)(A:Qg (RD b q wr))(B:Qg (wr.ownsRow w.heap.size T k (.slice a xs.length c) xs.length (cells xs)))(C:Qg (w.grownBy wr (some b))):GR w b T k R.1.length (cells R.1) R.2 (.returned (.slice a xs.length c)) wr:=by
 subst D; exact⟨a,c,rfl,E,A,B,C⟩
def NM(q:Bool)(n most:Int):Prop:=q=true\/n<=most
def LR{α:Type}(get:RS->α×RS)(R:List α×RS)(m:Nat)(xs:List α)(r:RS):Prop:=R=(xs++(dH get m r).1,(dH get m r).2)
theorem LR.start{α:Type}(get:RS->α×RS)(m:Nat)(r:RS):LR get (dH get m r) m [] r:=rfl
theorem LR.next{α:Type}{get:RS->α×RS}{R:List α×RS}{xs:List α}{r:RS}(h:LR get R (m+1) xs r)(A:r.2=false):LR get R m (xs++[(get r).1]) (get r).2:=by
 unfold LR at h ⊢;rw[h,dH,if_neg (by simp[A])];simp
theorem LR.stop{α:Type}{get:RS->α×RS}{R:List α×RS}{xs:List α}{r:RS}(h:LR get R m xs r)(A:m=0\/r.2=true):R=(xs,r):=by
 unfold LR at h;rcases A with rfl | A
 ·simpa[dH] using h
 ·cases m with
  | zero=>simpa[dH] using h
  | succ m=>rw[dH,if_pos A] at h; simpa using h
theorem Fv(b:Nat)(most:Int)(r:RS)(w:World)(h:RD b r w)(hl:(r.1.length:Int)<=140737488355328)(D5:0<=most)(D6:most<=1000):
  Qh 115 #[.pointer (some ⟨b,0,none⟩),.int .i64 most,.func (.func 116) #[.pointer (some ⟨b,0,none⟩)] #[]] w (GR w b 164 4 (fU nW most r).1.length (bT (fU nW most r).1) (fU nW most r).2):=by
 have Z:=tQ most r;have D3:=h.lt;obtain⟨i0,hi,B9,C0,C1⟩:=info_parts IX;have B4:=Qf B9;have B5:=Qf C0;have B6:=Qf C1;clear B9 C0 C1;have HN:=Qf (iV b r w h hl);have hr:=wI r;have H:Qg (LR nW (fU nW most r) (dO r).1.toNat [] ((dO r).2.1,(dO r).2.2||decide (most<(dO r).1))):=Qf (LR.start _ _ _);have HG:=Qf (fun q W hW hq=>Fy b q W hW hq);generalize fU nW most r=R at H ⊢;unfold pY at Z;simp only at Z;generalize dO r=s1 at HN H Z hr;obtain⟨n,l1,bad⟩:=s1;simp only at HN H Z hr;obtain⟨D7,D8⟩:=hr;obtain⟨n,rfl⟩:∃m:Nat,n=(m:Int):=⟨n.toNat,by omega⟩;rw[aj] at H;clear h;obtain⟨q0,A0⟩:=Qe (bad||decide (most<(n:Int)));have X:Qg (NM q0 n most):=Qf (by
  rw[A0];by_cases h:most<(n:Int)
  ·left; simp[h]
  ·right; omega)
 rw[<-A0] at H;go_enter Tryz.func115,Tryz.ntmps115;go_wp2_with fail;have hx:=HN.o
 refine hx.mono ?_;clear hx
 rintro e x1 ⟨rfl,Y,A3⟩;have A7:=Y.out;have c1:x1.cell? ⟨b,1,none⟩=some (.bool bad):=by rw[Lib.cell_of_heap A7]; rfl
 have f1:x1.frozen? ⟨b,1,none⟩=false:=Lib.frozen_of_heap A7 1;clear A7;have G:Qg (RD b (l1,q0) (x1.setCell ⟨b,1,none⟩ (.bool q0))):=Qf (fH Y.out 1 _);have C:Qg (w.grownBy (x1.setCell ⟨b,1,none⟩ (.bool q0)) (some b)):=Qf (fM A3.out _ _);have HQ:=Qf A0;clear A0;cases bad with
 | true=>
  obtain rfl:q0=true:=HQ.o;clear HQ;go_wp2_with fail;go_loopw [8,9] (fun v i wr=>∃(m:Nat) (xs:List Ent) (q:RS) (k:Nat),i=.int .i64 k/\k+m=n/\k=xs.length/\(k:Int)<=1000/\(q.1.length:Int)<=140737488355328/\Qg (RD b q wr)/\Qg (wr.ownsRow w.heap.size 164 4 v xs.length (bT xs))/\Qg (w.grownBy wr (some b))/\Qg (LR nW R m xs q)/\Qg (NM q.2 n most)) (fun _ i _=>n-(intOf i).toNat)
  case atStart=>exact⟨n,[],_,0,rfl,by omega,rfl,by omega,by simp only; omega,G,Qf (World.ownsRow_nil _ _ _ _),C,H,X⟩
  case round=>
   clear Y G A3 C H X HN c1 f1;obtain⟨m,xs,⟨l,bd⟩,k,rfl,Q,S,C5,T,N,I,D,V,HM⟩:=hrel;simp only at T HM;have L:=Qf S;have K:=Qf Q;have C6:k<=n:=by omega
   obtain⟨C3,C8⟩:b<wr.heap.size/\w.heap.size<=wr.heap.size:=⟨N.out.lt,D.out.size⟩;have P:=N.out;have c1:wr.cell? ⟨b,1,none⟩=some (.bool bd):=by rw[Lib.cell_of_heap P]; rfl
   obtain⟨av,cv,rfl,J⟩:=aB I.out;clear P S Q;by_cases C7:k<n
   ·have d1:decide ((k:Int)<(n:Int))=true:=by simp; omega
    have d2:decide (k<n)=true:=by simp; omega
    cases bd with
    | true=>
     have HF:Qg (R=(xs,(l,true))):=Qf (V.out.stop (.inr rfl));go_wp2_with fail;go_ret;exact GR.fin HF.o J N I D
    | false=>
     have B0:(n:Int)<=most:=by
      rcases HM.out with h | h
      ·cases h
      ·exact h
     obtain⟨m',rfl⟩:∃m',m=m'+1:=⟨m-1,by have:=K.o; omega⟩;have M:=Qf (V.out.next rfl);have U:=Qf (HG.o (l,false) wr N.out T);have F:=DX (l,false);simp only at F;generalize nW (l,false)=g1 at M U F;obtain⟨⟨nm,dir,d1',d2'⟩,q2⟩:=g1;simp only at M U F;clear V;go_wp2_with fail;have hx:=U.o
     refine hx.mono ?_;clear hx U
     rintro e x2 ⟨rfl,G,C⟩;have O:=Qf (I.out.kept C.o (by
      by_cases hv:(Value.slice av xs.length cv).ownBlock=none
      ·exact .inl hv
      ·right
       intro hh;have:=I.out.lt b hh
       omega))
     have B7:=C.o.size;go_wp2_with (at_builtin; refine wpList_append_own _ rfl _ _ 57 rfl w.heap.size 164 i0 (.agg #[.string ⟨#[]⟩,.bool false,.int .u64 0,.int .u64 0]) 4 40 Tryz.underlying57 hi B4.o B5.o B6.o rfl (by decide) _ _ _ rfl (O.o.alloc _) ⟨x2.heap.size,0,none⟩ 1 1 [.string ⟨nm.toArray⟩,.bool dir,.int .u64 d1',.int .u64 d2'] rfl rfl ?_ ?_ ?_ ?_ ?_ ?_)
     ·exact World.news_of_block (heap_alloc_new x2 _)
     ·intro u hu; simp at hu; rcases hu with rfl | rfl | rfl | rfl <;> rfl
     ·unfold maxLen; have:=L.o; omega
     ·have:=L.o; omega
     ·simp; omega
     ·intro v' x3 E B _
      have A5:Qg (x3.ownsRow w.heap.size 164 4 v' (xs++[(⟨nm,dir,(d1',d2')⟩:Ent)]).length (bT (xs++[(⟨nm,dir,(d1',d2')⟩:Ent)]))):=Qf (by rw[kH,af]; exact E);have A9:(Value.slice av xs.length cv).ownBlock≠some b:=fun hh=>by
       have:=I.out.lt b hh;omega
      have A6:Qg (RD b q2 x3):=Qf (((B.block b (by simp; omega) (fun e=>A9 e.symm)).trans (Below.heap_alloc _ _ _ (by omega))).trans G.o);have A4:Qg (w.grownBy x3 (some b)):=Qf (by
       have a1:=bu D.out C.o;have a2:=qY a1 (.cells #[.string ⟨nm.toArray⟩,.bool dir,.int .u64 d1',.int .u64 d2'] 164);exact⟨B.os.trans a2.os,B.tape.trans a2.tape,B.output.trans a2.output,aC a2.size B.size,fun j hj hr=>(B.block j (by simp; omega) (fun e=>by have:=I.out.lt j e.symm; omega)).trans (a2.block j hj hr)⟩)
      clear E B O G C D I N;go_wp2_with fail;go_roundw
      case rel=>exact⟨m',xs++[(⟨nm,dir,(d1',d2')⟩:Ent)],q2,k+1,by go_num,by have:=K.o; omega,by have:=L.o; simp; omega,by omega,by omega,A6,A5,A4,M,Qf (.inr B0)⟩
      case measure=>simp[intOf]; omega
   ·have d1:decide ((k:Int)<(n:Int))=false:=by simp; omega
    have d2:decide (k<n)=false:=by simp; omega
    have HF:Qg (R=(xs,(l,bd))):=Qf (V.out.stop (.inl (by have:=K.o; omega)));go_wp2_with fail;go_ret;exact GR.fin HF.o J N I D
 | false=>
  obtain rfl:q0=decide (most<(n:Int)):=by rw[HQ.o]; rfl
  clear HQ;go_wp2_with fail;go_loopw [8,9] (fun v i wr=>∃(m:Nat) (xs:List Ent) (q:RS) (k:Nat),i=.int .i64 k/\k+m=n/\k=xs.length/\(k:Int)<=1000/\(q.1.length:Int)<=140737488355328/\Qg (RD b q wr)/\Qg (wr.ownsRow w.heap.size 164 4 v xs.length (bT xs))/\Qg (w.grownBy wr (some b))/\Qg (LR nW R m xs q)/\Qg (NM q.2 n most)) (fun _ i _=>n-(intOf i).toNat)
  case atStart=>exact⟨n,[],_,0,rfl,by omega,rfl,by omega,by simp only; omega,G,Qf (World.ownsRow_nil _ _ _ _),C,H,X⟩
  case round=>
   clear Y G A3 C H X HN c1 f1;obtain⟨m,xs,⟨l,bd⟩,k,rfl,Q,S,C5,T,N,I,D,V,HM⟩:=hrel;simp only at T HM;have L:=Qf S;have K:=Qf Q;have C6:k<=n:=by omega
   obtain⟨C3,C8⟩:b<wr.heap.size/\w.heap.size<=wr.heap.size:=⟨N.out.lt,D.out.size⟩;have P:=N.out;have c1:wr.cell? ⟨b,1,none⟩=some (.bool bd):=by rw[Lib.cell_of_heap P]; rfl
   obtain⟨av,cv,rfl,J⟩:=aB I.out;clear P S Q;by_cases C7:k<n
   ·have d1:decide ((k:Int)<(n:Int))=true:=by simp; omega
    have d2:decide (k<n)=true:=by simp; omega
    cases bd with
    | true=>
     have HF:Qg (R=(xs,(l,true))):=Qf (V.out.stop (.inr rfl));go_wp2_with fail;go_ret;exact GR.fin HF.o J N I D
    | false=>
     have B0:(n:Int)<=most:=by
      rcases HM.out with h | h
      ·cases h
      ·exact h
     obtain⟨m',rfl⟩:∃m',m=m'+1:=⟨m-1,by have:=K.o; omega⟩;have M:=Qf (V.out.next rfl);have U:=Qf (HG.o (l,false) wr N.out T);have F:=DX (l,false);simp only at F;generalize nW (l,false)=g1 at M U F;obtain⟨⟨nm,dir,d1',d2'⟩,q2⟩:=g1;simp only at M U F;clear V;go_wp2_with fail;have hx:=U.o
     refine hx.mono ?_;clear hx U
     rintro e x2 ⟨rfl,G,C⟩;have O:=Qf (I.out.kept C.o (by
      by_cases hv:(Value.slice av xs.length cv).ownBlock=none
      ·exact .inl hv
      ·right
       intro hh;have:=I.out.lt b hh
       omega))
     have B7:=C.o.size;go_wp2_with (at_builtin; refine wpList_append_own _ rfl _ _ 57 rfl w.heap.size 164 i0 (.agg #[.string ⟨#[]⟩,.bool false,.int .u64 0,.int .u64 0]) 4 40 Tryz.underlying57 hi B4.o B5.o B6.o rfl (by decide) _ _ _ rfl (O.o.alloc _) ⟨x2.heap.size,0,none⟩ 1 1 [.string ⟨nm.toArray⟩,.bool dir,.int .u64 d1',.int .u64 d2'] rfl rfl ?_ ?_ ?_ ?_ ?_ ?_)
     ·exact World.news_of_block (heap_alloc_new x2 _)
     ·intro u hu; simp at hu; rcases hu with rfl | rfl | rfl | rfl <;> rfl
     ·unfold maxLen; have:=L.o; omega
     ·have:=L.o; omega
     ·simp; omega
     ·intro v' x3 E B _
      have A5:Qg (x3.ownsRow w.heap.size 164 4 v' (xs++[(⟨nm,dir,(d1',d2')⟩:Ent)]).length (bT (xs++[(⟨nm,dir,(d1',d2')⟩:Ent)]))):=Qf (by rw[kH,af]; exact E);have A9:(Value.slice av xs.length cv).ownBlock≠some b:=fun hh=>by
       have:=I.out.lt b hh;omega
      have A6:Qg (RD b q2 x3):=Qf (((B.block b (by simp; omega) (fun e=>A9 e.symm)).trans (Below.heap_alloc _ _ _ (by omega))).trans G.o);have A4:Qg (w.grownBy x3 (some b)):=Qf (by
       have a1:=bu D.out C.o;have a2:=qY a1 (.cells #[.string ⟨nm.toArray⟩,.bool dir,.int .u64 d1',.int .u64 d2'] 164);exact⟨B.os.trans a2.os,B.tape.trans a2.tape,B.output.trans a2.output,aC a2.size B.size,fun j hj hr=>(B.block j (by simp; omega) (fun e=>by have:=I.out.lt j e.symm; omega)).trans (a2.block j hj hr)⟩)
      clear E B O G C D I N;go_wp2_with fail;go_roundw
      case rel=>exact⟨m',xs++[(⟨nm,dir,(d1',d2')⟩:Ent)],q2,k+1,by go_num,by have:=K.o; omega,by have:=L.o; simp; omega,by omega,by omega,A6,A5,A4,M,Qf (.inr B0)⟩
      case measure=>simp[intOf]; omega
   ·have d1:decide ((k:Int)<(n:Int))=false:=by simp; omega
    have d2:decide (k<n)=false:=by simp; omega
    have HF:Qg (R=(xs,(l,bd))):=Qf (V.out.stop (.inl (by have:=K.o; omega)));go_wp2_with fail;go_ret;exact GR.fin HF.o J N I D
theorem Fx(b:Nat)(most:Int)(r:RS)(w:World)(h:RD b r w)(hl:(r.1.length:Int)<=140737488355328)(D5:0<=most)(D6:most<=1000):
  Qh 118 #[.pointer (some ⟨b,0,none⟩),.int .i64 most,.func (.func 117) #[.pointer (some ⟨b,0,none⟩)] #[]] w (GR w b 54 2 (fU iH most r).1.length (aW (fU iH most r).1) (fU iH most r).2):=by
 have Z:=tQ most r;have D3:=h.lt;obtain⟨i0,hi,B9,C0,C1⟩:=info_parts ul;have B4:=Qf B9;have B5:=Qf C0;have B6:=Qf C1;clear B9 C0 C1;have HN:=Qf (iV b r w h hl);have hr:=wI r;have H:Qg (LR iH (fU iH most r) (dO r).1.toNat [] ((dO r).2.1,(dO r).2.2||decide (most<(dO r).1))):=Qf (LR.start _ _ _);have HG:=Qf (fun q W hW hq=>nC b q W hW hq);generalize fU iH most r=R at H ⊢;unfold pY at Z;simp only at Z;generalize dO r=s1 at HN H Z hr;obtain⟨n,l1,bad⟩:=s1;simp only at HN H Z hr;obtain⟨D7,D8⟩:=hr;obtain⟨n,rfl⟩:∃m:Nat,n=(m:Int):=⟨n.toNat,by omega⟩;rw[aj] at H;clear h;obtain⟨q0,A0⟩:=Qe (bad||decide (most<(n:Int)));have X:Qg (NM q0 n most):=Qf (by
  rw[A0];by_cases h:most<(n:Int)
  ·left; simp[h]
  ·right; omega)
 rw[<-A0] at H;go_enter Tryz.func118,Tryz.ntmps118;go_wp2_with fail;have hx:=HN.o
 refine hx.mono ?_;clear hx
 rintro e x1 ⟨rfl,Y,A3⟩;have A7:=Y.out;have c1:x1.cell? ⟨b,1,none⟩=some (.bool bad):=by rw[Lib.cell_of_heap A7]; rfl
 have f1:x1.frozen? ⟨b,1,none⟩=false:=Lib.frozen_of_heap A7 1;clear A7;have G:Qg (RD b (l1,q0) (x1.setCell ⟨b,1,none⟩ (.bool q0))):=Qf (fH Y.out 1 _);have C:Qg (w.grownBy (x1.setCell ⟨b,1,none⟩ (.bool q0)) (some b)):=Qf (fM A3.out _ _);have HQ:=Qf A0;clear A0;cases bad with
 | true=>
  obtain rfl:q0=true:=HQ.o;clear HQ;go_wp2_with fail;go_loopw [8,9] (fun v i wr=>∃(m:Nat) (xs:Qd) (q:RS) (k:Nat),i=.int .i64 k/\k+m=n/\k=xs.length/\(k:Int)<=1000/\(q.1.length:Int)<=140737488355328/\Qg (RD b q wr)/\Qg (wr.ownsRow w.heap.size 54 2 v xs.length (aW xs))/\Qg (w.grownBy wr (some b))/\Qg (LR iH R m xs q)/\Qg (NM q.2 n most)) (fun _ i _=>n-(intOf i).toNat)
  case atStart=>exact⟨n,[],_,0,rfl,by omega,rfl,by omega,by simp only; omega,G,Qf (World.ownsRow_nil _ _ _ _),C,H,X⟩
  case round=>
   clear Y G A3 C H X HN c1 f1;obtain⟨m,xs,⟨l,bd⟩,k,rfl,Q,S,C5,T,N,I,D,V,HM⟩:=hrel;simp only at T HM;have L:=Qf S;have K:=Qf Q;have C6:k<=n:=by omega
   obtain⟨C3,C8⟩:b<wr.heap.size/\w.heap.size<=wr.heap.size:=⟨N.out.lt,D.out.size⟩;have P:=N.out;have c1:wr.cell? ⟨b,1,none⟩=some (.bool bd):=by rw[Lib.cell_of_heap P]; rfl
   obtain⟨av,cv,rfl,J⟩:=aB I.out;clear P S Q;by_cases C7:k<n
   ·have d1:decide ((k:Int)<(n:Int))=true:=by simp; omega
    have d2:decide (k<n)=true:=by simp; omega
    cases bd with
    | true=>
     have HF:Qg (R=(xs,(l,true))):=Qf (V.out.stop (.inr rfl));go_wp2_with fail;go_ret;exact GR.fin HF.o J N I D
    | false=>
     have B0:(n:Int)<=most:=by
      rcases HM.out with h | h
      ·cases h
      ·exact h
     obtain⟨m',rfl⟩:∃m',m=m'+1:=⟨m-1,by have:=K.o; omega⟩;have M:=Qf (V.out.next rfl);have U:=Qf (HG.o (l,false) wr N.out T);have F:=oJ (l,false);simp only at F;generalize iH (l,false)=g1 at M U F;obtain⟨⟨d1',d2'⟩,q2⟩:=g1;simp only at M U F;clear V;go_wp2_with fail;have hx:=U.o
     refine hx.mono ?_;clear hx U
     rintro e x2 ⟨rfl,G,C⟩;have O:=Qf (I.out.kept C.o (by
      by_cases hv:(Value.slice av xs.length cv).ownBlock=none
      ·exact .inl hv
      ·right
       intro hh;have:=I.out.lt b hh
       omega))
     have B7:=C.o.size;go_wp2_with (at_builtin; refine wpList_append_own _ rfl _ _ 24 rfl w.heap.size 54 i0 (.agg #[.int .u64 0,.int .u64 0]) 2 16 Tryz.underlying24 hi B4.o B5.o B6.o rfl (by decide) _ _ _ rfl (O.o.alloc _) ⟨x2.heap.size,0,none⟩ 1 1 [.int .u64 d1',.int .u64 d2'] rfl rfl ?_ ?_ ?_ ?_ ?_ ?_)
     ·exact World.news_of_block (heap_alloc_new x2 _)
     ·intro u hu; simp at hu; rcases hu with rfl | rfl <;> rfl
     ·unfold maxLen; have:=L.o; omega
     ·have:=L.o; omega
     ·simp; omega
     ·intro v' x3 E B _
      have A5:Qg (x3.ownsRow w.heap.size 54 2 v' (xs++[(d1',d2')]).length (aW (xs++[(d1',d2')]))):=Qf (by rw[gK,af]; exact E);have A9:(Value.slice av xs.length cv).ownBlock≠some b:=fun hh=>by
       have:=I.out.lt b hh;omega
      have A6:Qg (RD b q2 x3):=Qf (((B.block b (by simp; omega) (fun e=>A9 e.symm)).trans (Below.heap_alloc _ _ _ (by omega))).trans G.o);have A4:Qg (w.grownBy x3 (some b)):=Qf (by
       have a1:=bu D.out C.o;have a2:=qY a1 (.cells #[.int .u64 d1',.int .u64 d2'] 54);exact⟨B.os.trans a2.os,B.tape.trans a2.tape,B.output.trans a2.output,aC a2.size B.size,fun j hj hr=>(B.block j (by simp; omega) (fun e=>by have:=I.out.lt j e.symm; omega)).trans (a2.block j hj hr)⟩)
      clear E B O G C D I N;go_wp2_with fail;go_roundw
      case rel=>exact⟨m',xs++[(d1',d2')],q2,k+1,by go_num,by have:=K.o; omega,by have:=L.o; simp; omega,by omega,by omega,A6,A5,A4,M,Qf (.inr B0)⟩
      case measure=>simp[intOf]; omega
   ·have d1:decide ((k:Int)<(n:Int))=false:=by simp; omega
    have d2:decide (k<n)=false:=by simp; omega
    have HF:Qg (R=(xs,(l,bd))):=Qf (V.out.stop (.inl (by have:=K.o; omega)));go_wp2_with fail;go_ret;exact GR.fin HF.o J N I D
 | false=>
  obtain rfl:q0=decide (most<(n:Int)):=by rw[HQ.o]; rfl
  clear HQ;go_wp2_with fail;go_loopw [8,9] (fun v i wr=>∃(m:Nat) (xs:Qd) (q:RS) (k:Nat),i=.int .i64 k/\k+m=n/\k=xs.length/\(k:Int)<=1000/\(q.1.length:Int)<=140737488355328/\Qg (RD b q wr)/\Qg (wr.ownsRow w.heap.size 54 2 v xs.length (aW xs))/\Qg (w.grownBy wr (some b))/\Qg (LR iH R m xs q)/\Qg (NM q.2 n most)) (fun _ i _=>n-(intOf i).toNat)
  case atStart=>exact⟨n,[],_,0,rfl,by omega,rfl,by omega,by simp only; omega,G,Qf (World.ownsRow_nil _ _ _ _),C,H,X⟩
  case round=>
   clear Y G A3 C H X HN c1 f1;obtain⟨m,xs,⟨l,bd⟩,k,rfl,Q,S,C5,T,N,I,D,V,HM⟩:=hrel;simp only at T HM;have L:=Qf S;have K:=Qf Q;have C6:k<=n:=by omega
   obtain⟨C3,C8⟩:b<wr.heap.size/\w.heap.size<=wr.heap.size:=⟨N.out.lt,D.out.size⟩;have P:=N.out;have c1:wr.cell? ⟨b,1,none⟩=some (.bool bd):=by rw[Lib.cell_of_heap P]; rfl
   obtain⟨av,cv,rfl,J⟩:=aB I.out;clear P S Q;by_cases C7:k<n
   ·have d1:decide ((k:Int)<(n:Int))=true:=by simp; omega
    have d2:decide (k<n)=true:=by simp; omega
    cases bd with
    | true=>
     have HF:Qg (R=(xs,(l,true))):=Qf (V.out.stop (.inr rfl));go_wp2_with fail;go_ret;exact GR.fin HF.o J N I D
    | false=>
     have B0:(n:Int)<=most:=by
      rcases HM.out with h | h
      ·cases h
      ·exact h
     obtain⟨m',rfl⟩:∃m',m=m'+1:=⟨m-1,by have:=K.o; omega⟩;have M:=Qf (V.out.next rfl);have U:=Qf (HG.o (l,false) wr N.out T);have F:=oJ (l,false);simp only at F;generalize iH (l,false)=g1 at M U F;obtain⟨⟨d1',d2'⟩,q2⟩:=g1;simp only at M U F;clear V;go_wp2_with fail;have hx:=U.o
     refine hx.mono ?_;clear hx U
     rintro e x2 ⟨rfl,G,C⟩;have O:=Qf (I.out.kept C.o (by
      by_cases hv:(Value.slice av xs.length cv).ownBlock=none
      ·exact .inl hv
      ·right
       intro hh;have:=I.out.lt b hh
       omega))
     have B7:=C.o.size;go_wp2_with (at_builtin; refine wpList_append_own _ rfl _ _ 24 rfl w.heap.size 54 i0 (.agg #[.int .u64 0,.int .u64 0]) 2 16 Tryz.underlying24 hi B4.o B5.o B6.o rfl (by decide) _ _ _ rfl (O.o.alloc _) ⟨x2.heap.size,0,none⟩ 1 1 [.int .u64 d1',.int .u64 d2'] rfl rfl ?_ ?_ ?_ ?_ ?_ ?_)
     ·exact World.news_of_block (heap_alloc_new x2 _)
     ·intro u hu; simp at hu; rcases hu with rfl | rfl <;> rfl
     ·unfold maxLen; have:=L.o; omega
     ·have:=L.o; omega
     ·simp; omega
     ·intro v' x3 E B _
      have A5:Qg (x3.ownsRow w.heap.size 54 2 v' (xs++[(d1',d2')]).length (aW (xs++[(d1',d2')]))):=Qf (by rw[gK,af]; exact E);have A9:(Value.slice av xs.length cv).ownBlock≠some b:=fun hh=>by
       have:=I.out.lt b hh;omega
      have A6:Qg (RD b q2 x3):=Qf (((B.block b (by simp; omega) (fun e=>A9 e.symm)).trans (Below.heap_alloc _ _ _ (by omega))).trans G.o);have A4:Qg (w.grownBy x3 (some b)):=Qf (by
       have a1:=bu D.out C.o;have a2:=qY a1 (.cells #[.int .u64 d1',.int .u64 d2'] 54);exact⟨B.os.trans a2.os,B.tape.trans a2.tape,B.output.trans a2.output,aC a2.size B.size,fun j hj hr=>(B.block j (by simp; omega) (fun e=>by have:=I.out.lt j e.symm; omega)).trans (a2.block j hj hr)⟩)
      clear E B O G C D I N;go_wp2_with fail;go_roundw
      case rel=>exact⟨m',xs++[(d1',d2')],q2,k+1,by go_num,by have:=K.o; omega,by have:=L.o; simp; omega,by omega,by omega,A6,A5,A4,M,Qf (.inr B0)⟩
      case measure=>simp[intOf]; omega
   ·have d1:decide ((k:Int)<(n:Int))=false:=by simp; omega
    have d2:decide (k<n)=false:=by simp; omega
    have HF:Qg (R=(xs,(l,bd))):=Qf (V.out.stop (.inl (by have:=K.o; omega)));go_wp2_with fail;go_ret;exact GR.fin HF.o J N I D
theorem wQ(o:Ob)(ea:Qa)(ec:Nat)(pa:Qa)(pc:Nat)(w:World)(h:Dw w o ea ec pa pc):
  Qh 119 #[o.val ea ec pa pc] w fun e w'=>e=.returned (.int .i64 (aR o).2)/\PM w w':=by
 have B:=Qf (fun W (F:PM w W)=>iP o ea ec pa pc W (h.below F));generalize aR o=r at B ⊢;obtain⟨T,er⟩:=r;simp only at B ⊢;obtain⟨kind,data,ents,⟨t1,t2⟩,pars,author,time,msg⟩:=o;simp only[Ob.val] at B ⊢;clear h;generalize ents.length=ne at B ⊢;generalize pars.length=np at B ⊢;go_enter Tryz.func119,Tryz.ntmps119;go_wp2_with fail;have D:=B.o _ ((bf w).alloc nr (.cells #[.int .i64 kind,.string ⟨data.toArray⟩,.slice ea ne ec,.int .u64 t1,.int .u64 t2,.slice pa np pc,.string ⟨author.toArray⟩,.int .i64 time,.string ⟨msg.toArray⟩] 59))
 refine D.mono ?_;clear D B
 rintro e w1 ⟨rfl,C⟩;have E:=Qf C;clear C;go_wp2_with fail;go_ret;exact⟨rfl,(ba w _).trans (E.o.mono (by simp))⟩
theorem xP(r:RS):(iN r).1.length<=65536:=by
 obtain⟨n,u,er,A⟩:∃n u er,Cw.getT r.1=(n,u,er):=⟨_,_,_,rfl⟩;have:=lZ A;unfold iN;rw[A];exact this.2.2
theorem Ci(r:RS):0<=(iH r).1.1/\0<=(iH r).1.2:=by
 unfold iH;split
 ·simp
 ·exact⟨(gu _ (by rw[aA]; omega)).1,(gu _ (by rw[aA]; omega)).1⟩
theorem jJ{α:Type}{get:RS->α×RS}{P:α->Prop}(h:∀r,P (get r).1):∀(n:Nat) (r:RS),(dH get n r).1.length<=n/\∀x∈(dH get n r).1,P x
 | 0,r=>by simp[dH]
 | n+1,r=>by
  rw[dH];split
  ·simp
  ·have:=jJ h n (get r).2
   refine⟨by simp only[az]; omega,fun x A=>?_⟩;rcases List.mem_cons.1 A with rfl | A
   ·exact h r
   ·exact this.2 x A
theorem zK{α:Type}{get:RS->α×RS}{P:α->Prop}(h:∀r,P (get r).1)(most:Int)(B:0<=most)(r:RS):((fU get most r).1.length:Int)<=most/\∀x∈(fU get most r).1,P x:=by
 unfold fU;refine⟨?_,(jJ h _ _).2⟩;have C:=(jJ h (pY most r).1.toNat (pY most r).2).1;by_cases A:(pY most r).2.2=true
 ·cases D:(pY most r).1.toNat with
  | zero=>simp[dH]; exact B
  | succ n=>rw[dH,if_pos A]; simpa using B
 ·have:¬most<(pY most r).1:=by
   intro h;apply A;unfold pY at h ⊢;simp only at h ⊢;simp[h]
  omega
structure ObB (o:Ob):Prop where
 elen:(o.ents.length:Int)<=1000
 enam:∀e∈o.ents,(e.name.length:Int)<=65536
 edig:∀e∈o.ents,0<=e.d.1/\0<=e.d.2
 plen:(o.pars.length:Int)<=1000
 pdig:∀d∈o.pars,0<=d.1/\0<=d.2
 tdig:0<=o.tree.1/\0<=o.tree.2
 dlen:o.data.length<=65536
 alen:(o.author.length:Int)<=65536
 mlen:(o.msg.length:Int)<=65536
theorem Hz(s:Qb):ObB (kX s).1:=by
 unfold kX;split
 ·exact⟨by simp[obZ],by simp[obZ],by simp[obZ],by simp[obZ],by simp[obZ],by simp[obZ],xP _,by simp[obZ],by simp[obZ]⟩
 ·split
  ·have h:=zK (get:=nW) (P:=fun e=>(e.name.length:Int)<=65536/\0<=e.d.1/\0<=e.d.2) (fun r=>⟨by have:=xP r; unfold nW; simp only; omega,Ci _⟩) 200 (by omega) (dO (s,false)).2
   exact⟨by simp only; omega,fun e A=>(h.2 e A).1,fun e A=>(h.2 e A).2,by simp[obZ],by simp[obZ],by simp[obZ],by simp[obZ],by simp[obZ],by simp[obZ]⟩
  ·split
   ·unfold FE
    have h:=zK (get:=iH) (P:=fun d=>0<=d.1/\0<=d.2) Ci 8 (by omega) (iH (dO (s,false)).2).2;refine⟨by simp,by simp,by simp,by simp only; omega,h.2,Ci _,by simp,?_,?_⟩
    ·exact Int.ofNat_le.2 (xP _)
    ·exact Int.ofNat_le.2 (xP _)
   ·exact⟨by simp[obZ],by simp[obZ],by simp[obZ],by simp[obZ],by simp[obZ],by simp[obZ],by simp[obZ],by simp[obZ],by simp[obZ]⟩
theorem ObB.inW{o:Ob}(h:ObB o)(A:BI W.heap.size W ea o.ents)(B:dE W.heap.size W pa o.pars)(C:o.pars.length<=pc):Dw W o ea ec pa pc:=
 ⟨A,B,C,by have:=h.elen; omega,fun e D=>by have:=h.enam e D; omega,h.edig,by have:=h.plen; omega,h.pdig,h.tdig,by have:=h.dlen; omega,by have:=h.alen; omega,by have:=h.mlen; omega⟩
theorem Ip:ObB obZ:=⟨by simp[obZ],by simp[obZ],by simp[obZ],by simp[obZ],by simp[obZ],by simp[obZ],by simp[obZ],by simp[obZ],by simp[obZ]⟩
abbrev Ob.arr(o:Ob)(ea:Qa)(ec:Nat)(pa:Qa)(pc:Nat):Array Value:=
 #[.int .i64 o.kind,.string ⟨o.data.toArray⟩,.slice ea o.ents.length ec,.int .u64 o.tree.1,.int .u64 o.tree.2,.slice pa o.pars.length pc,.string ⟨o.author.toArray⟩,.int .i64 o.time,.string ⟨o.msg.toArray⟩]
def BK(b:Nat)(cs:Array Value)(t:TypeId)(W:World):Prop:=W.heap[b]? = some (.cells cs t (0,0))
theorem BK.lt{t:TypeId}(h:BK b cs t W):b<W.heap.size:=(Array.getElem?_eq_some_iff.1 h).1
theorem BK.grow{t:TypeId}(h:BK b cs t W)(A:W.grownBy W' r)(B:∀k,r=some k->k≠b):BK b cs t W':=(A.block b h.lt (fun e=>B b e.symm rfl)).trans h
theorem BK.grow1{t:TypeId}(h:BK b cs t W)(A:W.grownBy W' (some c))(B:c≠b):BK b cs t W':=h.grow A (fun k e=>by cases e; exact B)
theorem BK.below{t:TypeId}(h:BK b cs t W)(A:PM W W'):BK b cs t W':=(A.block b h.lt).trans h
theorem BK.set{t:TypeId}(h:BK b cs t W)(j:Nat)(v:Value):BK b (cs.setIfInBounds j v) t (W.setCell ⟨b,j,none⟩ v):=fH h j v
theorem BK.other{t:TypeId}(h:BK b cs t W)(A:c≠b)(j:Nat)(v:Value):BK b cs t (W.setCell ⟨c,j,none⟩ v):=(Below.heap_setCell _ _ _ _ (by simp; omega)).trans h
theorem BK.alloc{t:TypeId}(h:BK b cs t W)(o:Obj):BK b cs t (W.alloc o):=(Below.heap_alloc _ _ _ h.lt).trans h
theorem BK.new(W:World)(cs:Array Value)(t:TypeId):BK W.heap.size cs t (W.alloc (.cells cs t)):=World.alloc_heap_new _ _
theorem BK.new2(W:World)(o:Obj)(cs:Array Value)(t:TypeId):BK (W.heap.size+1) cs t ((W.alloc o).alloc (.cells cs t)):=by
 have:=BK.new (W.alloc o) cs t
 rwa[show(W.alloc o).heap.size=W.heap.size+1 by simp] at this
theorem BK.cell{t:TypeId}(h:BK b cs t W)(j:Nat):W.cell? ⟨b,j,none⟩=cs[j]?:=Lib.cell_of_heap h j
theorem BK.frozen{t:TypeId}(h:BK b cs t W)(j:Nat):W.frozen? ⟨b,j,none⟩=false:=Lib.frozen_of_heap h j
theorem kr{ds:Qd}(A:n=ds.length)(h:W.ownsRow base 54 2 (.slice a n c) n (aW ds)):dE W.heap.size W a ds:=by subst A; exact iy h
theorem bD{e:TypeId}(h:W.ownsRow base e z v n xs)(A:W.grownBy W' (some b))(D:b<base):W'.ownsRow base e z v n xs:=
 h.kept A (by
  by_cases C:v.ownBlock=none
  ·exact .inl C
  ·right
   intro B;have:=h.lt b B
   omega)
structure dZ (base:Nat) (W:World) (o:Ob) (ea:Qa) (ec:Nat) (pa:Qa) (pc:Nat):Prop where
 bb:ObB o
 eo:W.ownsRow base 164 4 (.slice ea o.ents.length ec) o.ents.length (bT o.ents)
 po:W.ownsRow base 54 2 (.slice pa o.pars.length pc) o.pars.length (aW o.pars)
theorem Ij{e:TypeId}(h:W.ownsRow base e z (.slice a n c) n xs):n<=c:=by
 obtain⟨a',c',A,B⟩:=aB h;cases A; exact B
theorem mP{e:TypeId}(h:W.ownsRow base e z v n xs)(D:base'<=base):W.ownsRow base' e z v n xs:=by
 refine⟨h.1,?_⟩;rcases h.2 with A | ⟨g,cap,cur,A,C,B⟩
 ·exact .inl A
 ·exact .inr ⟨g,cap,cur,A,by omega,B⟩
theorem own_below{e:TypeId}(h:W.ownsRow base e z v n xs)(E:PM W W'):W'.ownsRow base e z v n xs:=by
 refine⟨h.1,?_⟩;rcases h.2 with A | ⟨g,cap,cur,A,C,B,D⟩
 ·exact .inl A
 ·exact .inr ⟨g,cap,cur,A,C,(E.block g (Array.getElem?_eq_some_iff.1 B).1).trans B,D⟩
theorem dZ.inn{o:Ob}(h:dZ base W o ea ec pa pc):Dw W o ea ec pa pc:=h.bb.inW (qU h.eo) (iy h.po) (Ij h.po)
theorem dZ.below{o:Ob}(h:dZ base W o ea ec pa pc)(A:PM W W'):dZ base W' o ea ec pa pc:=⟨h.bb,own_below h.eo A,own_below h.po A⟩
theorem dZ.kept{o:Ob}(h:dZ base W o ea ec pa pc)(B:W.grownBy W' (some b))(A:b<base):dZ base W' o ea ec pa pc:=⟨h.bb,bD h.eo B A,bD h.po B A⟩
theorem dZ.le{o:Ob}(h:dZ base W o ea ec pa pc)(A:base'<=base):dZ base' W o ea ec pa pc:=⟨h.bb,mP h.eo A,mP h.po A⟩
theorem dZ.zero(base:Nat)(W:World):dZ base W obZ none 0 none 0:=⟨Ip,World.ownsRow_nil _ _ _ _,World.ownsRow_nil _ _ _ _⟩
structure DecSt (w:World) (ob:Nat) (o:Ob) (r:RS) (W:World) (ea:Qa) (ec:Nat) (pa:Qa) (pc:Nat):Prop where
 rd:RD (w.heap.size+1) r W
 obj:BK ob (o.arr ea ec pa pc) 59 W
 inn:dZ (w.heap.size+2) W o ea ec pa pc
 res:BK w.heap.size #[.int .i64 0,.string ⟨#[]⟩,.slice none 0 0,.int .u64 0,.int .u64 0,.slice none 0 0,.string ⟨#[]⟩,.int .i64 0,.string ⟨#[]⟩] 59 W
 bel:PM w W
def Ox(w:World)(ob:Nat)(o:Ob)(r:RS)(W:World):Prop:=∃ea ec pa pc,DecSt w ob o r W ea ec pa pc
theorem bE{y:World}(h:PM w x)(B:x.grownBy y (some b))(A:w.heap.size<=b):PM w y:=h.grown B h.size (fun k e=>by cases e; exact A)
def Kq(w:World)(o:Ob)(er:Int)(e:Ending)(w':World):Prop:=∃ea ec pa pc,e=.returned (.tuple #[o.val ea ec pa pc,.int .i64 er])/\dZ w.heap.size w' o ea ec pa pc/\PM w w'
theorem zL{α:Type}(get:RS->α×RS)(h:∀r,(get r).2.1.length<=r.1.length):∀(n:Nat) (r:RS),(dH get n r).2.1.length<=r.1.length
 | 0,r=>by simp[dH]
 | n+1,r=>by
  rw[dH];split
  ·simp
  ·exact aC (zL get h n _) (h r)
theorem H9{α:Type}(get:RS->α×RS)(h:∀r,(get r).2.1.length<=r.1.length)(m:Int)(r:RS):(fU get m r).2.1.length<=r.1.length:=aC (zL get h _ _) (tQ m r)
theorem mf(s:Qb)(w:World)(hs:(s.length:Int)<=140737488355328):
  Qh 61 #[.string ⟨s.toArray⟩] w (Kq w (bI s).1 (bI s).2):=by
 have HN:=Qf (fun b W S=>iV b (s,false) W S hs);have Y:=Qf (Hz s);have B2:=oI (s,false);have K:Qg (kX s=if(dO (s,false)).1=1\/(dO (s,false)).1=4 then({ obZ with kind:=(dO (s,false)).1,data:=(iN (dO (s,false)).2).1 },(iN (dO (s,false)).2).2) else if(dO (s,false)).1=2 then({ obZ with kind:=2,ents:=(fU nW 200 (dO (s,false)).2).1 },(fU nW 200 (dO (s,false)).2).2) else if(dO (s,false)).1=3 then FE (dO (s,false)).2 else({ obZ with kind:=(dO (s,false)).1 },(dO (s,false)).2)):=Qf rfl;have J:Qg (bI s=if(kX s).2.2=true\/(kX s).2.1≠[]\/(aR (kX s).1).2≠0 then(obZ,13) else((kX s).1,0)):=Qf rfl;generalize bI s=D at J ⊢;generalize kX s=RO at K J Y;generalize dO (s,false)=s1 at HN K B2;obtain⟨k,r1⟩:=s1;simp only at HN K B2;obtain⟨OB,q⟩:=RO;simp only at J Y;have B9:(r1.1.length:Int)<=140737488355328:=by omega
 clear B2;go_enter Tryz.func61,Tryz.ntmps61;go_wp2_with fail;have I:=HN.o (w.heap.size+1) ((w.alloc (.cells #[.int .i64 0,.string ⟨#[]⟩,.slice none 0 0,.int .u64 0,.int .u64 0,.slice none 0 0,.string ⟨#[]⟩,.int .i64 0,.string ⟨#[]⟩] 59)).alloc (.cells #[.string ⟨s.toArray⟩,.bool false] 160)) (BK.new2 w _ #[.string ⟨s.toArray⟩,.bool false] 160)
 refine I.mono ?_;clear I
 rintro e x1 ⟨rfl,N,B7⟩;have G4:w.heap.size+2<=x1.heap.size:=by have:=B7.out.size; simpa using this
 have H:Qg (BK w.heap.size #[.int .i64 0,.string ⟨#[]⟩,.slice none 0 0,.int .u64 0,.int .u64 0,.slice none 0 0,.string ⟨#[]⟩,.int .i64 0,.string ⟨#[]⟩] 59 x1):=Qf (((BK.new w #[.int .i64 0,.string ⟨#[]⟩,.slice none 0 0,.int .u64 0,.int .u64 0,.slice none 0 0,.string ⟨#[]⟩,.int .i64 0,.string ⟨#[]⟩] 59).alloc _).grow1 B7.out (by omega));have M:Qg (PM w x1):=Qf (bE ((ba w _).alloc (by simp) _) B7.out (by omega));clear HN B7;go_upto_block 0 with(fail)
 go_cut [] from 12 to 64 (fun wx=>Ox w x1.heap.size OB q wx)
 case rest=>
  clear Y K M H N;obtain⟨ea,ec,pa,pc,hS⟩:=hcut;have F:=Qf hS;clear hS;obtain⟨l,bd⟩:=q;have F7:=F.o.bel.size;have G6:=F.o.obj.lt;have r0b:wc.cell? ⟨w.heap.size+1,0,none⟩=some (.string ⟨l.toArray⟩):=by rw[BK.cell F.o.rd]; rfl
  have r1b:wc.cell? ⟨w.heap.size+1,1,none⟩=some (.bool bd):=by rw[BK.cell F.o.rd]; rfl
  simp only at J;cases bd with
  | true=>
   have R:Qg (D=(obZ,13)):=Qf (by rw[J.o,if_pos (.inl rfl)]);clear J;have r0:wc.cell? ⟨w.heap.size,0,none⟩=some (.int .i64 0):=by rw[F.o.res.cell]; rfl
   have g0:wc.frozen? ⟨w.heap.size,0,none⟩=false:=F.o.res.frozen 0;have r1:wc.cell? ⟨w.heap.size,1,none⟩=some (.string ⟨#[]⟩):=by rw[F.o.res.cell]; rfl
   have g1:wc.frozen? ⟨w.heap.size,1,none⟩=false:=F.o.res.frozen 1;have r2:wc.cell? ⟨w.heap.size,2,none⟩=some (.slice none 0 0):=by rw[F.o.res.cell]; rfl
   have g2:wc.frozen? ⟨w.heap.size,2,none⟩=false:=F.o.res.frozen 2;have r3:wc.cell? ⟨w.heap.size,3,none⟩=some (.int .u64 0):=by rw[F.o.res.cell]; rfl
   have g3:wc.frozen? ⟨w.heap.size,3,none⟩=false:=F.o.res.frozen 3;have r4:wc.cell? ⟨w.heap.size,4,none⟩=some (.int .u64 0):=by rw[F.o.res.cell]; rfl
   have g4:wc.frozen? ⟨w.heap.size,4,none⟩=false:=F.o.res.frozen 4;have r5:wc.cell? ⟨w.heap.size,5,none⟩=some (.slice none 0 0):=by rw[F.o.res.cell]; rfl
   have g5:wc.frozen? ⟨w.heap.size,5,none⟩=false:=F.o.res.frozen 5;have r6:wc.cell? ⟨w.heap.size,6,none⟩=some (.string ⟨#[]⟩):=by rw[F.o.res.cell]; rfl
   have g6:wc.frozen? ⟨w.heap.size,6,none⟩=false:=F.o.res.frozen 6;have r7:wc.cell? ⟨w.heap.size,7,none⟩=some (.int .i64 0):=by rw[F.o.res.cell]; rfl
   have g7:wc.frozen? ⟨w.heap.size,7,none⟩=false:=F.o.res.frozen 7;have r8:wc.cell? ⟨w.heap.size,8,none⟩=some (.string ⟨#[]⟩):=by rw[F.o.res.cell]; rfl
   have g8:wc.frozen? ⟨w.heap.size,8,none⟩=false:=F.o.res.frozen 8;go_wp2_with fail;refine bodyPost_ret (v:=.tuple #[obZ.val none 0 none 0,.int .i64 13]) (by simp[results,Tryz.results61,go_sem,obZ,r0,r1,r2,r3,r4,r5,r6,r7,r8]) rfl ?_;rw[R.o];exact⟨none,0,none,0,rfl,dZ.zero _ _,((((((((F.o.bel.setCell (by simp) _).setCell (by simp) _).setCell (by simp) _).setCell (by simp) _).setCell (by simp) _).setCell (by simp) _).setCell (by simp) _).setCell (by simp) _).setCell (by simp) _⟩
  | false=>
   cases l with
   | cons c0 l0=>
    have R:Qg (D=(obZ,13)):=Qf (by rw[J.o,if_pos (.inr (.inl (by simp)))]);clear J;have r0:wc.cell? ⟨w.heap.size,0,none⟩=some (.int .i64 0):=by rw[F.o.res.cell]; rfl
    have g0:wc.frozen? ⟨w.heap.size,0,none⟩=false:=F.o.res.frozen 0;have r1:wc.cell? ⟨w.heap.size,1,none⟩=some (.string ⟨#[]⟩):=by rw[F.o.res.cell]; rfl
    have g1:wc.frozen? ⟨w.heap.size,1,none⟩=false:=F.o.res.frozen 1;have r2:wc.cell? ⟨w.heap.size,2,none⟩=some (.slice none 0 0):=by rw[F.o.res.cell]; rfl
    have g2:wc.frozen? ⟨w.heap.size,2,none⟩=false:=F.o.res.frozen 2;have r3:wc.cell? ⟨w.heap.size,3,none⟩=some (.int .u64 0):=by rw[F.o.res.cell]; rfl
    have g3:wc.frozen? ⟨w.heap.size,3,none⟩=false:=F.o.res.frozen 3;have r4:wc.cell? ⟨w.heap.size,4,none⟩=some (.int .u64 0):=by rw[F.o.res.cell]; rfl
    have g4:wc.frozen? ⟨w.heap.size,4,none⟩=false:=F.o.res.frozen 4;have r5:wc.cell? ⟨w.heap.size,5,none⟩=some (.slice none 0 0):=by rw[F.o.res.cell]; rfl
    have g5:wc.frozen? ⟨w.heap.size,5,none⟩=false:=F.o.res.frozen 5;have r6:wc.cell? ⟨w.heap.size,6,none⟩=some (.string ⟨#[]⟩):=by rw[F.o.res.cell]; rfl
    have g6:wc.frozen? ⟨w.heap.size,6,none⟩=false:=F.o.res.frozen 6;have r7:wc.cell? ⟨w.heap.size,7,none⟩=some (.int .i64 0):=by rw[F.o.res.cell]; rfl
    have g7:wc.frozen? ⟨w.heap.size,7,none⟩=false:=F.o.res.frozen 7;have r8:wc.cell? ⟨w.heap.size,8,none⟩=some (.string ⟨#[]⟩):=by rw[F.o.res.cell]; rfl
    have g8:wc.frozen? ⟨w.heap.size,8,none⟩=false:=F.o.res.frozen 8;go_wp2_with fail;refine bodyPost_ret (v:=.tuple #[obZ.val none 0 none 0,.int .i64 13]) (by simp[results,Tryz.results61,go_sem,obZ,r0,r1,r2,r3,r4,r5,r6,r7,r8]) rfl ?_;rw[R.o];exact⟨none,0,none,0,rfl,dZ.zero _ _,((((((((F.o.bel.setCell (by simp) _).setCell (by simp) _).setCell (by simp) _).setCell (by simp) _).setCell (by simp) _).setCell (by simp) _).setCell (by simp) _).setCell (by simp) _).setCell (by simp) _⟩
   | nil=>
    have L:=Qf (wQ OB ea ec pa pc wc F.o.inn.inn);have o0:wc.cell? ⟨x1.heap.size,0,none⟩=some (.int .i64 OB.kind):=by rw[F.o.obj.cell]; rfl
    have o1:wc.cell? ⟨x1.heap.size,1,none⟩=some (.string ⟨OB.data.toArray⟩):=by rw[F.o.obj.cell]; rfl
    have o2:wc.cell? ⟨x1.heap.size,2,none⟩=some (.slice ea OB.ents.length ec):=by rw[F.o.obj.cell]; rfl
    have o3:wc.cell? ⟨x1.heap.size,3,none⟩=some (.int .u64 OB.tree.1):=by rw[F.o.obj.cell]; rfl
    have o4:wc.cell? ⟨x1.heap.size,4,none⟩=some (.int .u64 OB.tree.2):=by rw[F.o.obj.cell]; rfl
    have o5:wc.cell? ⟨x1.heap.size,5,none⟩=some (.slice pa OB.pars.length pc):=by rw[F.o.obj.cell]; rfl
    have o6:wc.cell? ⟨x1.heap.size,6,none⟩=some (.string ⟨OB.author.toArray⟩):=by rw[F.o.obj.cell]; rfl
    have o7:wc.cell? ⟨x1.heap.size,7,none⟩=some (.int .i64 OB.time):=by rw[F.o.obj.cell]; rfl
    have o8:wc.cell? ⟨x1.heap.size,8,none⟩=some (.string ⟨OB.msg.toArray⟩):=by rw[F.o.obj.cell]; rfl
    generalize (aR OB).2=er at J L;by_cases he:er=0
    ·subst he
     have R:Qg (D=(OB,0)):=Qf (by rw[J.o,if_neg (by simp)]);clear J;go_wp2_with fail;have I:=L.o
     refine I.mono ?_;clear I L o0 o1 o2 o3 o4 o5 o6 o7 o8 r0b r1b
     rintro e w1 ⟨rfl,hb⟩;have Y:=Qf hb;have C:=Qf (F.o.res.below hb);have Q:=Qf (F.o.obj.below hb);have G4:=hb.size;clear hb;have r0:w1.cell? ⟨w.heap.size,0,none⟩=some (.int .i64 0):=by rw[C.o.cell]; rfl
     have g0:w1.frozen? ⟨w.heap.size,0,none⟩=false:=C.o.frozen 0;have r1:w1.cell? ⟨w.heap.size,1,none⟩=some (.string ⟨#[]⟩):=by rw[C.o.cell]; rfl
     have g1:w1.frozen? ⟨w.heap.size,1,none⟩=false:=C.o.frozen 1;have r2:w1.cell? ⟨w.heap.size,2,none⟩=some (.slice none 0 0):=by rw[C.o.cell]; rfl
     have g2:w1.frozen? ⟨w.heap.size,2,none⟩=false:=C.o.frozen 2;have r3:w1.cell? ⟨w.heap.size,3,none⟩=some (.int .u64 0):=by rw[C.o.cell]; rfl
     have g3:w1.frozen? ⟨w.heap.size,3,none⟩=false:=C.o.frozen 3;have r4:w1.cell? ⟨w.heap.size,4,none⟩=some (.int .u64 0):=by rw[C.o.cell]; rfl
     have g4:w1.frozen? ⟨w.heap.size,4,none⟩=false:=C.o.frozen 4;have r5:w1.cell? ⟨w.heap.size,5,none⟩=some (.slice none 0 0):=by rw[C.o.cell]; rfl
     have g5:w1.frozen? ⟨w.heap.size,5,none⟩=false:=C.o.frozen 5;have r6:w1.cell? ⟨w.heap.size,6,none⟩=some (.string ⟨#[]⟩):=by rw[C.o.cell]; rfl
     have g6:w1.frozen? ⟨w.heap.size,6,none⟩=false:=C.o.frozen 6;have r7:w1.cell? ⟨w.heap.size,7,none⟩=some (.int .i64 0):=by rw[C.o.cell]; rfl
     have g7:w1.frozen? ⟨w.heap.size,7,none⟩=false:=C.o.frozen 7;have r8:w1.cell? ⟨w.heap.size,8,none⟩=some (.string ⟨#[]⟩):=by rw[C.o.cell]; rfl
     have g8:w1.frozen? ⟨w.heap.size,8,none⟩=false:=C.o.frozen 8;have o0:w1.cell? ⟨x1.heap.size,0,none⟩=some (.int .i64 OB.kind):=by rw[Q.o.cell]; rfl
     have o1:w1.cell? ⟨x1.heap.size,1,none⟩=some (.string ⟨OB.data.toArray⟩):=by rw[Q.o.cell]; rfl
     have o2:w1.cell? ⟨x1.heap.size,2,none⟩=some (.slice ea OB.ents.length ec):=by rw[Q.o.cell]; rfl
     have o3:w1.cell? ⟨x1.heap.size,3,none⟩=some (.int .u64 OB.tree.1):=by rw[Q.o.cell]; rfl
     have o4:w1.cell? ⟨x1.heap.size,4,none⟩=some (.int .u64 OB.tree.2):=by rw[Q.o.cell]; rfl
     have o5:w1.cell? ⟨x1.heap.size,5,none⟩=some (.slice pa OB.pars.length pc):=by rw[Q.o.cell]; rfl
     have o6:w1.cell? ⟨x1.heap.size,6,none⟩=some (.string ⟨OB.author.toArray⟩):=by rw[Q.o.cell]; rfl
     have o7:w1.cell? ⟨x1.heap.size,7,none⟩=some (.int .i64 OB.time):=by rw[Q.o.cell]; rfl
     have o8:w1.cell? ⟨x1.heap.size,8,none⟩=some (.string ⟨OB.msg.toArray⟩):=by rw[Q.o.cell]; rfl
     have G3:x1.heap.size≠w.heap.size:=by omega
     go_wp2_with fail;refine bodyPost_ret (v:=.tuple #[OB.val ea ec pa pc,.int .i64 0]) (by simp[results,Tryz.results61,go_sem,r0,r1,r2,r3,r4,r5,r6,r7,r8]) rfl ?_;rw[R.o];have G2:PM w w1:=F.o.bel.trans (Y.o.mono F7);exact⟨ea,ec,pa,pc,rfl,((F.o.inn.below Y.o).kept (fM (fM (fM (fM (fM (fM (fM (fM (dN _ _ _ _) _ _) _ _) _ _) _ _) _ _) _ _) _ _) _ _) (by omega)).le (by omega),((((((((G2.setCell (by simp) _).setCell (by simp) _).setCell (by simp) _).setCell (by simp) _).setCell (by simp) _).setCell (by simp) _).setCell (by simp) _).setCell (by simp) _).setCell (by simp) _⟩
    ·have G3:(er !=0)=true:=by simpa using he
     have R:Qg (D=(obZ,13)):=Qf (by rw[J.o,if_pos (.inr (.inr he))]);clear J he;go_wp2_with fail;have I:=L.o
     refine I.mono ?_;clear I L o0 o1 o2 o3 o4 o5 o6 o7 o8 r0b r1b
     rintro e w1 ⟨rfl,hb⟩;have Y:=Qf hb;have C:=Qf (F.o.res.below hb);clear hb;have r0:w1.cell? ⟨w.heap.size,0,none⟩=some (.int .i64 0):=by rw[C.o.cell]; rfl
     have g0:w1.frozen? ⟨w.heap.size,0,none⟩=false:=C.o.frozen 0;have r1:w1.cell? ⟨w.heap.size,1,none⟩=some (.string ⟨#[]⟩):=by rw[C.o.cell]; rfl
     have g1:w1.frozen? ⟨w.heap.size,1,none⟩=false:=C.o.frozen 1;have r2:w1.cell? ⟨w.heap.size,2,none⟩=some (.slice none 0 0):=by rw[C.o.cell]; rfl
     have g2:w1.frozen? ⟨w.heap.size,2,none⟩=false:=C.o.frozen 2;have r3:w1.cell? ⟨w.heap.size,3,none⟩=some (.int .u64 0):=by rw[C.o.cell]; rfl
     have g3:w1.frozen? ⟨w.heap.size,3,none⟩=false:=C.o.frozen 3;have r4:w1.cell? ⟨w.heap.size,4,none⟩=some (.int .u64 0):=by rw[C.o.cell]; rfl
     have g4:w1.frozen? ⟨w.heap.size,4,none⟩=false:=C.o.frozen 4;have r5:w1.cell? ⟨w.heap.size,5,none⟩=some (.slice none 0 0):=by rw[C.o.cell]; rfl
     have g5:w1.frozen? ⟨w.heap.size,5,none⟩=false:=C.o.frozen 5;have r6:w1.cell? ⟨w.heap.size,6,none⟩=some (.string ⟨#[]⟩):=by rw[C.o.cell]; rfl
     have g6:w1.frozen? ⟨w.heap.size,6,none⟩=false:=C.o.frozen 6;have r7:w1.cell? ⟨w.heap.size,7,none⟩=some (.int .i64 0):=by rw[C.o.cell]; rfl
     have g7:w1.frozen? ⟨w.heap.size,7,none⟩=false:=C.o.frozen 7;have r8:w1.cell? ⟨w.heap.size,8,none⟩=some (.string ⟨#[]⟩):=by rw[C.o.cell]; rfl
     have g8:w1.frozen? ⟨w.heap.size,8,none⟩=false:=C.o.frozen 8;go_wp2_with fail;refine bodyPost_ret (v:=.tuple #[obZ.val none 0 none 0,.int .i64 13]) (by simp[results,Tryz.results61,go_sem,obZ,r0,r1,r2,r3,r4,r5,r6,r7,r8]) rfl ?_;rw[R.o];exact⟨none,0,none,0,rfl,dZ.zero _ _,(((((((((F.o.bel.trans (Y.o.mono F7)).setCell (by simp) _).setCell (by simp) _).setCell (by simp) _).setCell (by simp) _).setCell (by simp) _).setCell (by simp) _).setCell (by simp) _).setCell (by simp) _).setCell (by simp) _⟩
 case first=>
  have P:Qg (BK x1.heap.size #[.int .i64 k,.string ⟨#[]⟩,.slice none 0 0,.int .u64 0,.int .u64 0,.slice none 0 0,.string ⟨#[]⟩,.int .i64 0,.string ⟨#[]⟩] 59 (x1.alloc (.cells #[.int .i64 k,.string ⟨#[]⟩,.slice none 0 0,.int .u64 0,.int .u64 0,.slice none 0 0,.string ⟨#[]⟩,.int .i64 0,.string ⟨#[]⟩] 59))):=Qf (BK.new _ _ _);clear J;by_cases h1:k=1
  ·subst h1
   have B:=Qf (by have:=K.o; rw[if_pos (by omega)] at this; exact this);clear K;have L:=Qf (fun W S=>iU (w.heap.size+1) r1 W S B9);generalize iN r1=s2 at L B;obtain⟨dt,q2⟩:=s2;simp only at L B;go_wp2_with fail;have I:=L.o _ (N.out.alloc (.cells #[.int .i64 1,.string ⟨#[]⟩,.slice none 0 0,.int .u64 0,.int .u64 0,.slice none 0 0,.string ⟨#[]⟩,.int .i64 0,.string ⟨#[]⟩] 59))
   refine I.mono ?_;clear I L
   rintro e x2 ⟨rfl,O,G⟩;have E:Qg (BK x1.heap.size #[.int .i64 1,.string ⟨#[]⟩,.slice none 0 0,.int .u64 0,.int .u64 0,.slice none 0 0,.string ⟨#[]⟩,.int .i64 0,.string ⟨#[]⟩] 59 x2):=Qf (P.o.grow1 G.out (by omega));have C4:x1.heap.size+1<=x2.heap.size:=by have:=G.out.size; simpa using this
   have c1:x2.cell? ⟨x1.heap.size,1,none⟩=some (.string ⟨#[]⟩):=by rw[E.o.cell]; rfl
   have f1:x2.frozen? ⟨x1.heap.size,1,none⟩=false:=E.o.frozen 1;have R:Qg (Ox w x1.heap.size OB q (x2.setCell ⟨x1.heap.size,1,none⟩ (.string ⟨dt.toArray⟩))):=Qf (by
    obtain⟨rfl,rfl⟩:=Prod.mk.inj B.o;refine⟨none,0,none,0,O.out.set (by omega) _ _,E.o.set 1 _,⟨Y.o,World.ownsRow_nil _ _ _ _,World.ownsRow_nil _ _ _ _⟩,((H.o.alloc _).grow1 G.out (by omega)).other (by omega) _ _,?_⟩;exact(bE (M.o.alloc (by omega) _) G.out (by omega)).setCell (by simp; omega) _)
   clear N O P E B G M H;go_wp2_with fail;go_meet
   case rel=>exact R.o
  ·by_cases h4:k=4
   ·subst h4
    have B:=Qf (by have:=K.o; rw[if_pos (by omega)] at this; exact this);clear K h1;have L:=Qf (fun W S=>iU (w.heap.size+1) r1 W S B9);generalize iN r1=s2 at L B;obtain⟨dt,q2⟩:=s2;simp only at L B;go_wp2_with fail;have I:=L.o _ (N.out.alloc (.cells #[.int .i64 4,.string ⟨#[]⟩,.slice none 0 0,.int .u64 0,.int .u64 0,.slice none 0 0,.string ⟨#[]⟩,.int .i64 0,.string ⟨#[]⟩] 59))
    refine I.mono ?_;clear I L
    rintro e x2 ⟨rfl,O,G⟩;have E:Qg (BK x1.heap.size #[.int .i64 4,.string ⟨#[]⟩,.slice none 0 0,.int .u64 0,.int .u64 0,.slice none 0 0,.string ⟨#[]⟩,.int .i64 0,.string ⟨#[]⟩] 59 x2):=Qf (P.o.grow1 G.out (by omega));have C4:x1.heap.size+1<=x2.heap.size:=by have:=G.out.size; simpa using this
    have c1:x2.cell? ⟨x1.heap.size,1,none⟩=some (.string ⟨#[]⟩):=by rw[E.o.cell]; rfl
    have f1:x2.frozen? ⟨x1.heap.size,1,none⟩=false:=E.o.frozen 1;have R:Qg (Ox w x1.heap.size OB q (x2.setCell ⟨x1.heap.size,1,none⟩ (.string ⟨dt.toArray⟩))):=Qf (by
     obtain⟨rfl,rfl⟩:=Prod.mk.inj B.o;refine⟨none,0,none,0,O.out.set (by omega) _ _,E.o.set 1 _,⟨Y.o,World.ownsRow_nil _ _ _ _,World.ownsRow_nil _ _ _ _⟩,((H.o.alloc _).grow1 G.out (by omega)).other (by omega) _ _,?_⟩;exact(bE (M.o.alloc (by omega) _) G.out (by omega)).setCell (by simp; omega) _)
    clear N O P E B G M H;go_wp2_with fail;go_meet
    case rel=>exact R.o
   ·by_cases h2:k=2
    ·subst h2
     have B:=Qf (by have:=K.o; rw[if_neg (by omega),if_pos rfl] at this; exact this);clear K h1 h4;have L:=Qf (fun W S=>Fv (w.heap.size+1) 200 r1 W S B9 (by omega) (by omega));generalize fU nW 200 r1=s2 at L B;obtain⟨es,q2⟩:=s2;simp only at L B;go_wp2_with fail;have I:=L.o _ (N.out.alloc (.cells #[.int .i64 2,.string ⟨#[]⟩,.slice none 0 0,.int .u64 0,.int .u64 0,.slice none 0 0,.string ⟨#[]⟩,.int .i64 0,.string ⟨#[]⟩] 59))
     refine I.mono ?_;clear I L
     rintro e x2 ⟨ea,ec,rfl,G7,O,D5,G⟩;have E:Qg (BK x1.heap.size #[.int .i64 2,.string ⟨#[]⟩,.slice none 0 0,.int .u64 0,.int .u64 0,.slice none 0 0,.string ⟨#[]⟩,.int .i64 0,.string ⟨#[]⟩] 59 x2):=Qf (P.o.grow1 G.out (by omega));have C4:x1.heap.size+1<=x2.heap.size:=by have:=G.out.size; simpa using this
     have c2:x2.cell? ⟨x1.heap.size,2,none⟩=some (.slice none 0 0):=by rw[E.o.cell]; rfl
     have f2:x2.frozen? ⟨x1.heap.size,2,none⟩=false:=E.o.frozen 2;have R:Qg (Ox w x1.heap.size OB q (x2.setCell ⟨x1.heap.size,2,none⟩ (.slice ea es.length ec))):=Qf (by
      obtain⟨rfl,rfl⟩:=Prod.mk.inj B.o;have hO:=bD D5.out (dN x2 x1.heap.size 2 (.slice ea es.length ec)) (by simp);refine⟨ea,ec,none,0,O.out.set (by omega) _ _,E.o.set 2 _,⟨Y.o,mP hO (by simp; omega),World.ownsRow_nil _ _ _ _⟩,((H.o.alloc _).grow1 G.out (by omega)).other (by omega) _ _,?_⟩;exact(bE (M.o.alloc (by omega) _) G.out (by omega)).setCell (by simp; omega) _)
     clear N O P E B G M H D5;go_wp2_with fail;go_meet
     case rel=>exact R.o
    ·by_cases h3:k=3
     ·subst h3
      have B:=Qf (by have:=K.o; rw[if_neg (by omega),if_neg (by omega),if_pos rfl] at this; exact this);clear K h1 h4 h2;have L:=Qf (fun W S=>nC (w.heap.size+1) r1 W S B9);have F3:=oJ r1;unfold FE at B;generalize iH r1=s2 at L B F3;obtain⟨⟨t1,t2⟩,q2⟩:=s2;simp only at L B F3;have B3:=Qf (fun W S=>Fx (w.heap.size+1) 8 q2 W S (by omega) (by omega) (by omega));have F4:=H9 iH oJ 8 q2;generalize fU iH 8 q2=s3 at B3 B F4;obtain⟨ps,q3⟩:=s3;simp only at B3 B F4;have B4:=Qf (fun W S=>iU (w.heap.size+1) q3 W S (by omega));have F5:=xO q3;generalize iN q3=s4 at B4 B F5;obtain⟨au,q4⟩:=s4;simp only at B4 B F5;have B5:=Qf (fun W S=>iV (w.heap.size+1) q4 W S (by omega));have F6:=oI q4;generalize dO q4=s5 at B5 B F6;obtain⟨ti,q5⟩:=s5;simp only at B5 B F6;have B6:=Qf (fun W S=>iU (w.heap.size+1) q5 W S (by omega));generalize iN q5=s6 at B6 B;obtain⟨ms,q6⟩:=s6;simp only at B6 B;go_wp2_with fail;have I:=L.o _ (N.out.alloc (.cells #[.int .i64 3,.string ⟨#[]⟩,.slice none 0 0,.int .u64 0,.int .u64 0,.slice none 0 0,.string ⟨#[]⟩,.int .i64 0,.string ⟨#[]⟩] 59))
      refine I.mono ?_;clear I L
      rintro e x2 ⟨rfl,O,G⟩;have E:Qg (BK x1.heap.size #[.int .i64 3,.string ⟨#[]⟩,.slice none 0 0,.int .u64 0,.int .u64 0,.slice none 0 0,.string ⟨#[]⟩,.int .i64 0,.string ⟨#[]⟩] 59 x2):=Qf (P.o.grow1 G.out (by omega));have C4:x1.heap.size+1<=x2.heap.size:=by have:=G.out.size; simpa using this
      have A3:Qg (BK w.heap.size #[.int .i64 0,.string ⟨#[]⟩,.slice none 0 0,.int .u64 0,.int .u64 0,.slice none 0 0,.string ⟨#[]⟩,.int .i64 0,.string ⟨#[]⟩] 59 x2):=Qf ((H.o.alloc _).grow1 G.out (by omega));have C6:Qg (PM w x2):=Qf (bE (M.o.alloc (by omega) _) G.out (by omega));clear N P G M H;have c3:x2.cell? ⟨x1.heap.size,3,none⟩=some (.int .u64 0):=by rw[E.o.cell]; rfl
      have f3:x2.frozen? ⟨x1.heap.size,3,none⟩=false:=E.o.frozen 3;have c4:x2.cell? ⟨x1.heap.size,4,none⟩=some (.int .u64 0):=by rw[E.o.cell]; rfl
      have f4:x2.frozen? ⟨x1.heap.size,4,none⟩=false:=E.o.frozen 4;have E9:Qg (RD (w.heap.size+1) q2 ((x2.setCell ⟨x1.heap.size,3,none⟩ (.int .u64 t1)).setCell ⟨x1.heap.size,4,none⟩ (.int .u64 t2))):=Qf ((O.out.set (by omega) _ _).set (by omega) _ _);have D3:Qg (BK x1.heap.size #[.int .i64 3,.string ⟨#[]⟩,.slice none 0 0,.int .u64 t1,.int .u64 t2,.slice none 0 0,.string ⟨#[]⟩,.int .i64 0,.string ⟨#[]⟩] 59 ((x2.setCell ⟨x1.heap.size,3,none⟩ (.int .u64 t1)).setCell ⟨x1.heap.size,4,none⟩ (.int .u64 t2))):=Qf ((E.o.set 3 _).set 4 _);have B0:Qg (BK w.heap.size #[.int .i64 0,.string ⟨#[]⟩,.slice none 0 0,.int .u64 0,.int .u64 0,.slice none 0 0,.string ⟨#[]⟩,.int .i64 0,.string ⟨#[]⟩] 59 ((x2.setCell ⟨x1.heap.size,3,none⟩ (.int .u64 t1)).setCell ⟨x1.heap.size,4,none⟩ (.int .u64 t2))):=Qf ((A3.o.other (by omega) _ _).other (by omega) _ _);have C2:Qg (PM w ((x2.setCell ⟨x1.heap.size,3,none⟩ (.int .u64 t1)).setCell ⟨x1.heap.size,4,none⟩ (.int .u64 t2))):=Qf ((C6.o.setCell (by simp; omega) _).setCell (by simp; omega) _);clear O E A3 C6;go_wp2_with fail;have I:=B3.o _ E9.o
      refine I.mono ?_;clear I B3 c3 f3 c4 f4
      rintro e x3 ⟨pa,pc,rfl,G8,E3,D6,A2⟩;have G9:x2.heap.size<=x3.heap.size:=by have:=A2.out.size; simpa using this
      have T:Qg (BK x1.heap.size #[.int .i64 3,.string ⟨#[]⟩,.slice none 0 0,.int .u64 t1,.int .u64 t2,.slice none 0 0,.string ⟨#[]⟩,.int .i64 0,.string ⟨#[]⟩] 59 x3):=Qf (D3.o.grow1 A2.out (by omega));have A4:=Qf (B0.o.grow1 A2.out (by omega));have C7:=Qf (bE C2.o A2.out (by omega));clear E9 D3 B0 C2 A2;have c5:x3.cell? ⟨x1.heap.size,5,none⟩=some (.slice none 0 0):=by rw[T.o.cell]; rfl
      have f5:x3.frozen? ⟨x1.heap.size,5,none⟩=false:=T.o.frozen 5;have F0:=Qf (E3.out.set (c:=x1.heap.size) (by omega) 5 (.slice pa ps.length pc));have D4:Qg (BK x1.heap.size #[.int .i64 3,.string ⟨#[]⟩,.slice none 0 0,.int .u64 t1,.int .u64 t2,.slice pa ps.length pc,.string ⟨#[]⟩,.int .i64 0,.string ⟨#[]⟩] 59 (x3.setCell ⟨x1.heap.size,5,none⟩ (.slice pa ps.length pc))):=Qf (T.o.set 5 _);have B1:=Qf (A4.o.other (c:=x1.heap.size) (by omega) 5 (.slice pa ps.length pc));have C3:=Qf (C7.o.setCell (p:=⟨x1.heap.size,5,none⟩) (by simp; omega) (.slice pa ps.length pc));have E2:=Qf (bD D6.out (dN x3 x1.heap.size 5 (.slice pa ps.length pc)) (by simp; omega));clear E3 T A4 C7 D6;go_wp2_with fail;have I:=B4.o _ F0.o
      refine I.mono ?_;clear I B4 c5 f5
      rintro e x4 ⟨rfl,E4,Z⟩;have H0:x3.heap.size<=x4.heap.size:=by have:=Z.out.size; simpa using this
      have U:Qg (BK x1.heap.size #[.int .i64 3,.string ⟨#[]⟩,.slice none 0 0,.int .u64 t1,.int .u64 t2,.slice pa ps.length pc,.string ⟨#[]⟩,.int .i64 0,.string ⟨#[]⟩] 59 x4):=Qf (D4.o.grow1 Z.out (by omega));have A5:=Qf (B1.o.grow1 Z.out (by omega));have C8:=Qf (bE C3.o Z.out (by omega));have D7:=Qf (bD E2.o Z.out (by simp; omega));clear F0 D4 B1 C3 E2 Z;have c6:x4.cell? ⟨x1.heap.size,6,none⟩=some (.string ⟨#[]⟩):=by rw[U.o.cell]; rfl
      have f6:x4.frozen? ⟨x1.heap.size,6,none⟩=false:=U.o.frozen 6;have E7:=Qf (E4.out.set (c:=x1.heap.size) (by omega) 6 (.string ⟨au.toArray⟩));have D1:Qg (BK x1.heap.size #[.int .i64 3,.string ⟨#[]⟩,.slice none 0 0,.int .u64 t1,.int .u64 t2,.slice pa ps.length pc,.string ⟨au.toArray⟩,.int .i64 0,.string ⟨#[]⟩] 59 (x4.setCell ⟨x1.heap.size,6,none⟩ (.string ⟨au.toArray⟩))):=Qf (U.o.set 6 _);have A8:=Qf (A5.o.other (c:=x1.heap.size) (by omega) 6 (.string ⟨au.toArray⟩));have C0:=Qf (C8.o.setCell (p:=⟨x1.heap.size,6,none⟩) (by simp; omega) (.string ⟨au.toArray⟩));have E0:=Qf (bD D7.o (dN x4 x1.heap.size 6 (.string ⟨au.toArray⟩)) (by simp; omega));clear E4 U A5 C8 D7;go_wp2_with fail;have I:=B5.o _ E7.o
      refine I.mono ?_;clear I B5 c6 f6
      rintro e x5 ⟨rfl,E5,A0⟩;have H1:x4.heap.size<=x5.heap.size:=by have:=A0.out.size; simpa using this
      have V:Qg (BK x1.heap.size #[.int .i64 3,.string ⟨#[]⟩,.slice none 0 0,.int .u64 t1,.int .u64 t2,.slice pa ps.length pc,.string ⟨au.toArray⟩,.int .i64 0,.string ⟨#[]⟩] 59 x5):=Qf (D1.o.grow1 A0.out (by omega));have A6:=Qf (A8.o.grow1 A0.out (by omega));have C9:=Qf (bE C0.o A0.out (by omega));have D8:=Qf (bD E0.o A0.out (by simp; omega));clear E7 D1 A8 C0 E0 A0;have c7:x5.cell? ⟨x1.heap.size,7,none⟩=some (.int .i64 0):=by rw[V.o.cell]; rfl
      have f7:x5.frozen? ⟨x1.heap.size,7,none⟩=false:=V.o.frozen 7;have E8:=Qf (E5.out.set (c:=x1.heap.size) (by omega) 7 (.int .i64 ti));have D2:Qg (BK x1.heap.size #[.int .i64 3,.string ⟨#[]⟩,.slice none 0 0,.int .u64 t1,.int .u64 t2,.slice pa ps.length pc,.string ⟨au.toArray⟩,.int .i64 ti,.string ⟨#[]⟩] 59 (x5.setCell ⟨x1.heap.size,7,none⟩ (.int .i64 ti))):=Qf (V.o.set 7 _);have A9:=Qf (A6.o.other (c:=x1.heap.size) (by omega) 7 (.int .i64 ti));have C1:=Qf (C9.o.setCell (p:=⟨x1.heap.size,7,none⟩) (by simp; omega) (.int .i64 ti));have E1:=Qf (bD D8.o (dN x5 x1.heap.size 7 (.int .i64 ti)) (by simp; omega));clear E5 V A6 C9 D8;go_wp2_with fail;have I:=B6.o _ E8.o
      refine I.mono ?_;clear I B6 c7 f7
      rintro e x6 ⟨rfl,E6,A1⟩;have H2:x5.heap.size<=x6.heap.size:=by have:=A1.out.size; simpa using this
      have X:Qg (BK x1.heap.size #[.int .i64 3,.string ⟨#[]⟩,.slice none 0 0,.int .u64 t1,.int .u64 t2,.slice pa ps.length pc,.string ⟨au.toArray⟩,.int .i64 ti,.string ⟨#[]⟩] 59 x6):=Qf (D2.o.grow1 A1.out (by omega));have A7:=Qf (A9.o.grow1 A1.out (by omega));have D0:=Qf (bE C1.o A1.out (by omega));have D9:=Qf (bD E1.o A1.out (by simp; omega));clear E8 D2 A9 C1 E1 A1;have c8:x6.cell? ⟨x1.heap.size,8,none⟩=some (.string ⟨#[]⟩):=by rw[X.o.cell]; rfl
      have f8:x6.frozen? ⟨x1.heap.size,8,none⟩=false:=X.o.frozen 8;have R:Qg (Ox w x1.heap.size OB q (x6.setCell ⟨x1.heap.size,8,none⟩ (.string ⟨ms.toArray⟩))):=Qf (by
       obtain⟨rfl,rfl⟩:=Prod.mk.inj B.o;have hO:=bD D9.o (dN x6 x1.heap.size 8 (.string ⟨ms.toArray⟩)) (by simp; omega);exact⟨none,0,pa,pc,E6.out.set (by omega) _ _,X.o.set 8 _,⟨Y.o,World.ownsRow_nil _ _ _ _,mP hO (by simp; omega)⟩,A7.o.other (by omega) _ _,D0.o.setCell (by simp; omega) _⟩)
      clear E6 X A7 D0 D9 B;go_wp2_with fail;go_meet
      case rel=>exact R.o
     ·have B:=Qf (by have:=K.o; rw[if_neg (by omega),if_neg h2,if_neg h3] at this; exact this)
      have e1:(k==1)=false:=by simpa using h1
      have e4:(k==4)=false:=by simpa using h4
      have e2:(k==2)=false:=by simpa using h2
      have e3:(k==3)=false:=by simpa using h3
      clear K h1 h4 h2 h3;have R:Qg (Ox w x1.heap.size OB q (x1.alloc (.cells #[.int .i64 k,.string ⟨#[]⟩,.slice none 0 0,.int .u64 0,.int .u64 0,.slice none 0 0,.string ⟨#[]⟩,.int .i64 0,.string ⟨#[]⟩] 59))):=Qf (by
       obtain⟨rfl,rfl⟩:=Prod.mk.inj B.o;exact⟨none,0,none,0,N.out.alloc _,P.o,⟨Y.o,World.ownsRow_nil _ _ _ _,World.ownsRow_nil _ _ _ _⟩,H.o.alloc _,M.o.alloc (by omega) _⟩)
      clear N P B M H;go_wp2_with fail;go_meet
      case rel=>exact R.o
