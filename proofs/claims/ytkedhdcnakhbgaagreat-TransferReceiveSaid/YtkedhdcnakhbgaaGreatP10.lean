/- Lemmas. -/
import Derived.Test.YtkedhdcnakhbgaaGreatP3
import Derived.Test.YtkedhdcnakhbgaaGreatG2
import Derived.Test.YtkedhdcnakhbgaaGreatP8
import Derived.Test.YtkedhdcnakhbgaaGreatP1
import Derived.Test.YtkedhdcnakhbgaaGreatG4
import Derived.Laws.EntriesVeiled
import Derived.Test.YtkedhdcnakhbgaaGreatG1
import Derived.Laws.MakeOwn
set_option linter.unusedSimpArgs false
set_option maxRecDepth 100000
set_option maxHeartbeats 16000000
namespace Go.Proofs.YtkedhdcnakhbgaaGreat
open Tryz
open Go.RowKit Go.Shelf
set_option linter.unusedVariables false
variable {cs:Array Value}{Q:Exit->Act->World->Prop}{F:Fence}{gf:FuncId}{st:List Dop×Qb}{xs:List Itm}{bs:List Value}{B M N b i k lb m n tb vc:Nat}{K:Nat->Prop}{o o':Obj}{P:Program}{ba la va:Qa}{a:Qb}{base l:Qd}{W W' w w':World}
theorem Wh(b:Qb):(0<=(iY b).1/\(iY b).1<=18446744073709551615)/\(0<=(iY b).2/\(iY b).2<=18446744073709551615):=by
 have:=TE b;unfold OkD Ku at this;omega
theorem seal_any(b:Qb)(w:World)(N:(b.length:Int)<=70368744177664):Qh 158 #[b] w (Xz (.string ⟨(BX b).toArray⟩) w):=by
 have C:=Qf (fun W=>Hu b W Zo);obtain⟨J,K⟩:=Wh b;have B:=Qf (fun W=>pX (iY b).1 (iY b).2 J K W);obtain⟨T,F⟩:=Qe (beD (iY b));have I:Qg ((b:ByteArray)++⟨T.toArray⟩=⟨(BX b).toArray⟩):=Qf (by rw[Bt,F]; simp[BX]);rw[show((iY b).1,(iY b).2)=iY b from rfl,<-F] at B;generalize (iY b).1=x at C B;generalize (iY b).2=y at C B;generalize BX b=R at I ⊢;have G:T.length=16:=by rw[F,bX]
 have M:=bH b;have H:=bH T;rw[G] at H;clear F J K;go_enter func158,ntmps158;go_wp2_with fail;refine(C.o _).mono ?_;rintro e u1 ⟨rfl,D⟩;go_wp2_with fail;refine(B.o _).mono ?_;rintro e u2 ⟨rfl,E⟩;have L:=Qf (XT D E);have hs:=I.o;clear D E C B;go_wp2;go_ret;exact⟨rfl,L.o⟩
def cval(b:Qb)(k:Nat)(bad:Bool):Value:=.agg #[b,Yi (k:Int),.bool bad]
abbrev crZ:Array Value:=#[Ye,Yi 0,.bool false]
def put3(W:World)(n:Nat)(b:Qb)(k:Nat)(bad:Bool):World:=((W.setCell n (.string ⟨b.toArray⟩)).setCell ⟨n,1,none⟩ (Yi (k:Int))).setCell ⟨n,2,none⟩ (.bool bad)
theorem put3_law{x0 x1 x2:Value}(h:BK n #[x0,x1,x2] 273 W)(b:Qb)(k:Nat)(bad:Bool):BK n #[b,Yi (k:Int),.bool bad] 273 (put3 W n b k bad):=by
 unfold put3;have A:BK n #[b,x1,x2] _ _:=h.set 0 (.string ⟨b.toArray⟩);have B:BK n #[b,Yi (k:Int),x2] _ _:=A.set 1 (Yi (k:Int));exact B.set 2 (.bool bad)
theorem put3_below(h:Below B w W)(A:B<=n)(b:Qb)(k:Nat)(bad:Bool):Below B w (put3 W n b k bad):=((h.setCell A _).setCell A _).setCell A _
theorem put3_other{T:TypeId}(h:BK m cs T W)(A:n≠m)(b:Qb)(k:Nat)(bad:Bool):BK m cs T (put3 W n b k bad):=((h.other A _ _).other A _ _).other A _ _
theorem cnum_any{b:Qb}{u:Nat}{n er:Int}(O:Cw.getI (b.drop k)=(n,(u:Int),er))(bad:Bool)(w:World)(S:k<=b.length)(Z:(b.length:Int)<=70368744177664):
  Qh 204 #[cval b k bad] w (Xz (.tuple #[Yi n,cval b (k+u) (bad||er !=0)]) w):=by
 have M:=Qf (fun X=>qQ (s:=⟨(b.drop k).toArray⟩) (n:=n) (k:=(u:Int)) (er:=er) (Zu O) X);obtain⟨U,V,Y,R⟩:=gH O;rw[ah] at R;have L:=fun W=>jY b k S W
 have K:(b:ByteArray).extract k b.length=⟨(b.drop k).toArray⟩:=by rw[dw,ag Zs]
 generalize b.drop k=s at M L K;obtain⟨p,Q⟩:=Qe (k+u);have T:IntKind.i64.wrap ((k:Int)+(u:Int))=(p:Int):=by rw[ZV]; omega
 rw[<-Q];obtain⟨w0,C⟩:=Qe ((w.alloc (.cells #[b,Yi (k:Int),.bool bad] 273)).alloc (.cells crZ 273));have I:Qg (BK w #[b,Yi (k:Int),.bool bad] 273 w0):=Qf (C▸(BK.new _ _ _).alloc _);have F:Qg (BK ((w:Nat)+1) crZ 273 w0):=Qf (C▸BK.new2 _ _ _ _);have H:Qg (PM w w0):=Qf (C▸((bf w).alloc nr _).alloc (by simp) _);have G:=Qf (M.o w0);obtain⟨x0,x1,x2⟩:=BK.c3 I.o;obtain⟨A0,A1,A2⟩:=BK.f3 (I.o);obtain⟨y0,y1,y2⟩:=BK.c3 F.o;obtain⟨A3,A4,A5⟩:=BK.f3 (F.o);have A6:=x0;have A7:=x1;rw[C] at G A6 A7;unfold cval;have J:=Qf C;clear C Q M O;go_enter func204,ntmps204;go_wp2_with fail;refine G.o.mono ?_;rintro e w2 ⟨rfl,rfl⟩;rw[<-J.o];clear A6 A7 G L K J;by_cases N:er=0
 ·subst N;go_wp2;go_region;obtain⟨W9,B⟩:=Qe ((put3 (w0.setCell ⟨w,1,none⟩ (Yi (p:Int))) ((w:Nat)+1) b p bad).drew);have E:=(put3_law (F.o.other (c:=(w:Nat)) Zo 1 (Yi (p:Int))) b p bad).below ((bf _).drew);have D:=(put3_below (H.o.setCell (p:=⟨w,1,none⟩) Zs (Yi (p:Int))) (n:=(w:Nat)+1) Zo b p bad).drew;rw[<-B] at E D;unfold put3 at B;rw[<-B];clear B x0 x1 x2 A0 A1 A2 y0 y1 y2 A3 A4 A5;obtain⟨r0,r1,r2⟩:=BK.c3 E;go_wp2;refine XB (v:=.tuple #[Yi n,.agg #[b,Yi (p:Int),.bool bad]]) (by simp[results,results204,go_sem,r0,r1,r2]) rfl ?_;exact⟨Zs,D⟩
 ·have P:(er !=0)=true:=Zu N;clear N;go_wp2;go_region;obtain⟨W9,B⟩:=Qe ((put3 ((w0.setCell ⟨w,2,none⟩ (.bool true)).setCell ⟨w,1,none⟩ (Yi (p:Int))) ((w:Nat)+1) b p true).drew);have E:=(put3_law ((F.o.other (c:=(w:Nat)) Zo 2 (.bool true)).other (c:=(w:Nat)) Zo 1 (Yi (p:Int))) b p true).below ((bf _).drew);have D:=(put3_below ((H.o.setCell (p:=⟨w,2,none⟩) Zs (.bool true)).setCell (p:=⟨w,1,none⟩) Zs (Yi (p:Int))) (n:=(w:Nat)+1) Zo b p true).drew;rw[<-B] at E D;unfold put3 at B;rw[<-B];clear B x0 x1 x2 A0 A1 A2 y0 y1 y2 A3 A4 A5;obtain⟨r0,r1,r2⟩:=BK.c3 E;go_wp2;refine XB (v:=.tuple #[Yi n,.agg #[b,Yi (p:Int),.bool true]]) (by simp[results,results204,go_sem,r0,r1,r2]) rfl ?_;exact⟨Zj P,D⟩
theorem BK.new3(W:World)(o o2:Obj)(cs:Array Value)(t:TypeId):BK ((W:Nat)+1+1) cs t (((W.alloc o).alloc o2).alloc (.cells cs t)):=by
 have:=BK.new ((W.alloc o).alloc o2) cs t
 rwa[show((W.alloc o).alloc o2).heap.size=(W:Nat)+1+1 by simp] at this
theorem BK.new4(W:World)(o o2 o3:Obj)(cs:Array Value)(t:TypeId):BK ((W:Nat)+1+1+1) cs t ((((W.alloc o).alloc o2).alloc o3).alloc (.cells cs t)):=by
 have:=BK.new (((W.alloc o).alloc o2).alloc o3) cs t
 rwa[show(((W.alloc o).alloc o2).alloc o3).heap.size=(W:Nat)+1+1+1 by simp] at this
def cDig(b:Qb)(k:Nat)(bad:Bool):(Int×Int)×Nat×Bool:=if b.length<k+16 then((0,0),k,true) else(CS (b.drop k),k+16,bad)
theorem cdig_any(b:Qb)(k:Nat)(bad:Bool)(w:World)(hk:k<=b.length)(hl:(b.length:Int)<=70368744177664):
  Qh 232 #[cval b k bad] w (Xz (.tuple #[.agg #[Yu (cDig b k bad).1.1,Yu (cDig b k bad).1.2],cval b (cDig b k bad).2.1 (cDig b k bad).2.2]) w):=by
 have B2:=bH b;have B3:IntKind.i64.wrap ((b.length:Int)-(k:Int))=(b.length:Int)-(k:Int):=ZV;by_cases P:b.length<k+16
 ·have hi:(b.length:Int)-(k:Int)<16:=Zo;have L:cDig b k bad=((0,0),k,true):=by unfold cDig; rw[if_pos P]
  rw[L];simp only;unfold cval;generalize b.length=m at B2 B3 hi;clear L P;obtain⟨w0,B⟩:=Qe ((((w.alloc (.cells #[b,Yi (k:Int),.bool true] 273)).alloc (.cells #[Yu 0,Yu 0] 54)).alloc (.cells #[Ye,Yi 0,.bool false] 273)).alloc (.cells #[Yu 0,Yu 0] 54));have F:Qg (BK w #[b,Yi (k:Int),.bool true] 273 w0):=Qf (B▸(((BK.new _ _ _).alloc _).alloc _).alloc _);have D:Qg (BK ((w:Nat)+1) #[Yu 0,Yu 0] 54 w0):=Qf (B▸((BK.new2 _ _ _ _).alloc _).alloc _);have E:Qg (BK ((w:Nat)+1+1) #[Ye,Yi 0,.bool false] 273 w0):=Qf (B▸(BK.new3 _ _ _ _ _).alloc _);have G:Qg (BK ((w:Nat)+1+1+1) #[Yu 0,Yu 0] 54 w0):=Qf (B▸BK.new4 _ _ _ _ _ _);have N:Qg (PM w w0):=Qf (by rw[B]; exact((((bf w).alloc nr _).alloc Zs _).alloc Zt _).alloc Zt _);have S:=Qf B;clear B;obtain⟨x0,x1,x2⟩:=BK.c3 F.o;obtain⟨A3,A4,A5⟩:=BK.f3 (F.o);obtain⟨a0,a1⟩:=BK.c2 D.o;obtain⟨A1,A2⟩:=BK.f2 (D.o);obtain⟨z0,z1,z2⟩:=BK.c3 E.o;obtain⟨B5,B6,C0⟩:=BK.f3 (E.o);obtain⟨y0,y1⟩:=BK.c2 G.o;obtain⟨A7,B4⟩:=BK.f2 (G.o);go_enter func232,ntmps232;go_wp2_with fail;rw[<-S.o];go_region;obtain⟨W9,C⟩:=Qe ((put3 ((w0.setCell ⟨(w:Nat)+1,0,none⟩ (Yu 0)).setCell ⟨(w:Nat)+1,1,none⟩ (Yu 0)) ((w:Nat)+1+1) b k true).drew);have H:BK ((w:Nat)+1) #[Yu 0,Yu 0] _ _:=BK.set D.o 0 (Yu 0);have I:BK ((w:Nat)+1) #[Yu 0,Yu 0] _ _:=H.set 1 (Yu 0);have J:=(put3_other I (n:=(w:Nat)+1+1) Zo b k true).below ((bf _).drew);have M:=(put3_law ((BK.other E.o (c:=(w:Nat)+1) Zo 0 (Yu 0)).other (c:=(w:Nat)+1) Zo 1 (Yu 0)) b k true).below ((bf _).drew);have K:=(put3_below ((Below.setCell N.o (p:=⟨(w:Nat)+1,0,none⟩) Zs (Yu 0)).setCell (p:=⟨(w:Nat)+1,1,none⟩) Zs (Yu 0)) (n:=(w:Nat)+1+1) Zo b k true).drew;rw[<-C] at J M K;unfold put3 at C;rw[<-C];clear C H I x0 x1 x2 A3 A4 A5 a0 a1 A1 A2 z0 z1 z2 B5 B6 C0 y0 y1 A7 B4;obtain⟨r0,r1⟩:=BK.c2 J;obtain⟨q0,q1,q2⟩:=BK.c3 M;go_wp2;refine XB (v:=.tuple #[.agg #[Yu 0,Yu 0],.agg #[b,Yi (k:Int),.bool true]]) (by simp[results,results232,go_sem,r0,r1,q0,q1,q2]) rfl ?_;exact⟨rfl,K⟩
 ·have hi:¬(b.length:Int)-(k:Int)<16:=Zo;have L:cDig b k bad=(CS (b.drop k),k+16,bad):=by unfold cDig; rw[if_neg P]
  rw[L];simp only;unfold cval;have HS:Qg (∀i j (hj:j<b.length),j=k+i->∀h:i<(b.drop k).length,(b.drop k)[i]=b[j]):=Qf (fun i j hj e h=>by subst e; rw[eF]);have Q:Qg (CS (b.drop k)=sJ (b.drop k) 16):=Qf (by unfold CS; rw[uW]);have U:b.length=k+(b.drop k).length:=Zy ah;have A0:16<=(b.drop k).length:=Zy ah;generalize b.drop k=s at HS Q U A0 ⊢;rw[Q.o];obtain⟨F1,F2,hF⟩:∃F1 F2,sJ s 16=(F1,F2):=⟨_,_,rfl⟩;rw[hF];simp only;have HF:=Qf hF;clear hF Q;obtain⟨kk,Z⟩:=Qe (k+16);have B8:IntKind.i64.wrap ((k:Int)+16)=(kk:Int):=by rw[ZV]; omega
  rw[<-Z];have A6:=Qf U;clear L P Z U;obtain⟨w0,B⟩:=Qe ((((w.alloc (.cells #[b,Yi (k:Int),.bool bad] 273)).alloc (.cells #[Yu 0,Yu 0] 54)).alloc (.cells #[Ye,Yi 0,.bool false] 273)).alloc (.cells #[Yu 0,Yu 0] 54));have F:Qg (BK w #[b,Yi (k:Int),.bool bad] 273 w0):=Qf (B▸(((BK.new _ _ _).alloc _).alloc _).alloc _);have D:Qg (BK ((w:Nat)+1) #[Yu 0,Yu 0] 54 w0):=Qf (B▸((BK.new2 _ _ _ _).alloc _).alloc _);have E:Qg (BK ((w:Nat)+1+1) #[Ye,Yi 0,.bool false] 273 w0):=Qf (B▸(BK.new3 _ _ _ _ _).alloc _);have G:Qg (BK ((w:Nat)+1+1+1) #[Yu 0,Yu 0] 54 w0):=Qf (B▸BK.new4 _ _ _ _ _ _);have N:Qg (PM w w0):=Qf (by rw[B]; exact((((bf w).alloc nr _).alloc Zs _).alloc Zt _).alloc Zt _);have S:=Qf B;clear B;have HU:Qg (∀W,PM w W->True):=Qf (fun _ _=>trivial);go_enter func232,ntmps232;go_wp2_with fail;rw[<-S.o];go_loopw [5] (fun i wr=>∃(k_:Nat) (x y:Int),k_<=16/\i=Yi k_/\Qg (PM w wr)/\Qg (BK w #[b,Yi (k:Int),.bool bad] 273 wr)/\Qg (BK ((w:Nat)+1) #[Yu 0,Yu 0] 54 wr)/\Qg (BK ((w:Nat)+1+1) #[Ye,Yi 0,.bool false] 273 wr)/\Qg (BK ((w:Nat)+1+1+1) #[Yu x,Yu y] 54 wr)/\Qg (sJ s k_=(x,y))) (fun i _=>16-(intOf i).toNat)
  case atStart=>exact⟨0,0,0,Zo,rfl,N,F,D,E,G,Qf (uV s)⟩
  case round=>
   clear N F D E G;obtain⟨i,x,y,B7,rfl,HB,HC,V,Y,HY,HD⟩:=hrel;obtain⟨x0,x1,x2⟩:=BK.c3 HC.out;obtain⟨A3,A4,A5⟩:=BK.f3 (HC.out);obtain⟨a0,a1⟩:=BK.c2 V.out;obtain⟨A1,A2⟩:=BK.f2 (V.out);obtain⟨z0,z1,z2⟩:=BK.c3 Y.out;obtain⟨B5,B6,C0⟩:=BK.f3 (Y.out);obtain⟨y0,y1⟩:=BK.c2 HY.out;obtain⟨A7,B4⟩:=BK.f2 (HY.out);by_cases A9:i<16
   ·obtain⟨j,hj⟩:=Qe (k+i);have T:j<b.length:=Zh A6.o;have B9:IntKind.i64.wrap ((k:Int)+(i:Int))=(j:Int):=by rw[ZV]; omega
    have O:=Qf (HS.o i j T hj Zo);clear hj;by_cases A8:i<8
    ·have X:Qg (sJ s (i+1)=(IntKind.u64.wrap (IntKind.u64.wrap (x*256)+IntKind.u64.wrap ((s[i]'Zo).toNat:Int)),y)):=Qf (by rw[Aw,C8 s i Zo A8,HD.out]);have B0:(i:Int).tdiv 8=0:=by rw[iG Zo]; omega
     have B1:(i:Int)/8=0:=Zo;have dk:decide ((i:Int)<16)=true:=Zt;have R:Qg (sJ s (i+1)=(IntKind.u64.wrap (IntKind.u64.wrap (x*256)+IntKind.u64.wrap ((b[j]'T).toNat:Int)),y)):=Qf (by rw[X.o]; simp only[O.o]);clear X O;go_wp2;go_region;go_wp2;go_roundw
     case rel=>exact⟨i+1,_,_,Zo,Zg,Qf (HB.out.setCell (p:=⟨(w:Nat)+1+1+1,0,none⟩) Zt _).drew,Qf (HC.out.other Zo _ _),Qf (V.out.other Zo _ _),Qf (Y.out.other Zo _ _),Qf (HY.out.set _ _),R⟩
     case measure=>exact Yq
    ·have X:Qg (sJ s (i+1)=(x,IntKind.u64.wrap (IntKind.u64.wrap (y*256)+IntKind.u64.wrap ((s[i]'Zo).toNat:Int)))):=Qf (by rw[Aw,C9 s i Zo Zo A9,HD.out]);have B0:(i:Int).tdiv 8=1:=by rw[iG Zo]; omega
     have B1:(i:Int)/8=1:=Zo;have dk:decide ((i:Int)<16)=true:=Zt;have R:Qg (sJ s (i+1)=(x,IntKind.u64.wrap (IntKind.u64.wrap (y*256)+IntKind.u64.wrap ((b[j]'T).toNat:Int)))):=Qf (by rw[X.o]; simp only[O.o]);clear X O;go_wp2;go_region;go_wp2;go_roundw
     case rel=>exact⟨i+1,_,_,Zo,Zg,Qf (HB.out.setCell (p:=⟨(w:Nat)+1+1+1,1,none⟩) Zt _).drew,Qf (HC.out.other Zo _ _),Qf (V.out.other Zo _ _),Qf (Y.out.other Zo _ _),Qf (HY.out.set _ _),R⟩
     case measure=>exact Yq
   ·obtain rfl:i=16:=Zo;obtain⟨rfl,rfl⟩:F1=x/\F2=y:=by
     have:=HF.o.symm.trans HD.out;simpa only[XC] using this
    go_wp2;go_region
    all_goals
     obtain⟨W9,C⟩:=Qe ((put3 (((wr.setCell ⟨w,1,none⟩ (Yi (kk:Int))).setCell ⟨(w:Nat)+1,0,none⟩ (Yu F1)).setCell ⟨(w:Nat)+1,1,none⟩ (Yu F2)) ((w:Nat)+1+1) b kk bad).drew);have H:BK ((w:Nat)+1) #[Yu F1,Yu 0] _ _:=BK.set (V.out.other (c:=(w:Nat)) Zo 1 (Yi (kk:Int))) 0 (Yu F1);have I:BK ((w:Nat)+1) #[Yu F1,Yu F2] _ _:=H.set 1 (Yu F2);have J:=(put3_other I (n:=(w:Nat)+1+1) Zo b kk bad).below ((bf _).drew);have M:=(put3_law ((BK.other (Y.out.other (c:=(w:Nat)) Zo 1 (Yi (kk:Int))) (c:=(w:Nat)+1) Zo 0 (Yu F1)).other (c:=(w:Nat)+1) Zo 1 (Yu F2)) b kk bad).below ((bf _).drew);have K:=(put3_below ((Below.setCell (HB.out.setCell (p:=⟨w,1,none⟩) Zs (Yi (kk:Int))) (p:=⟨(w:Nat)+1,0,none⟩) Zs (Yu F1)).setCell (p:=⟨(w:Nat)+1,1,none⟩) Zs (Yu F2)) (n:=(w:Nat)+1+1) Zo b kk bad).drew;rw[<-C] at J M K;unfold put3 at C;rw[<-C];clear C H I x0 x1 x2 A3 A4 A5 a0 a1 A1 A2 z0 z1 z2 B5 B6 C0 y0 y1 A7 B4;obtain⟨r0,r1⟩:=BK.c2 J;obtain⟨q0,q1,q2⟩:=BK.c3 M;go_wp2;refine XB (v:=.tuple #[.agg #[Yu F1,Yu F2],.agg #[b,Yi (kk:Int),.bool bad]]) (by simp[results,results232,go_sem,r0,r1,q0,q1,q2]) rfl ?_;exact⟨rfl,K⟩
theorem Gx(h:Lib.IsBuilderF 118 5 B b bs W):Qh 225 #[.pointer b] W fun e w'=>e=.returned (Yi (bs.length:Int))/\w'=W:=by
 have G:∃a c,W.cell? ⟨b,1,none⟩=some (.slice a bs.length c):=by
  rcases h with⟨_,v,E,C,_⟩ | ⟨_,v,E,C,_⟩
  all_goals
   have D:W.cell? ⟨b,1,none⟩=some v:=Zc E;rcases C.2 with⟨rfl,F⟩ | ⟨g,H,I,fz,rfl,_⟩
   ·exact⟨none,0,by rw[D,F]⟩
   ·exact⟨_,_,D⟩
 obtain⟨a,c,D⟩:=G;generalize bs.length=n at *
 clear h;go_enter func225,ntmps225;go_wp2;go_ret;exact⟨rfl,rfl⟩
theorem Bp(h:Lib.IsBuilderF 118 5 B b bs W):Qh 226 #[.pointer b] W fun e w'=>e=.returned (.tuple #[])/\w'=(W.setCell b (.pointer none)).setCell ⟨b,1,none⟩ (.slice none 0 0):=by
 have E:∃p v,BK b #[p,v] 118 W:=by
  rcases h with⟨_,v,C,_,_⟩ | ⟨_,v,C,_,_⟩
  ·exact⟨_,_,C⟩
  ·exact⟨_,_,C⟩
 obtain⟨p,v,C⟩:=E;have D:BK b #[.pointer none,v] 118 (W.setCell b (.pointer none)):=C.set 0 (.pointer none);obtain⟨c0,c1⟩:=BK.c2 C;obtain⟨F,G⟩:=BK.f2 (C);obtain⟨d0,d1⟩:=BK.c2 D;obtain⟨H,I⟩:=BK.f2 (D);clear h C D;go_enter func226,ntmps226;go_wp2;go_end0;exact⟨rfl,rfl⟩
theorem Ce(h:Lib.IsBuilderF 118 5 B b bs W):BK b #[.pointer none,()] 118 ((W.setCell b (.pointer none)).setCell ⟨b,1,none⟩ (.slice none 0 0)):=by
 have D:∃p v,BK b #[p,v] 118 W:=by
  rcases h with⟨_,v,A,_,_⟩ | ⟨_,v,A,_,_⟩
  ·exact⟨_,_,A⟩
  ·exact⟨_,_,A⟩
 obtain⟨p,v,A⟩:=D;have C:BK b #[.pointer none,v] 118 (W.setCell b (.pointer none)):=A.set 0 (.pointer none);exact C.set 1 (.slice none 0 0)
structure FrK (M N:Nat) (W W':World):Prop where
 fr:∀k o,M<=k->k<N->W.heap[k]? = some o->ku o->W'.heap[k]? = some o
 ot:KeepsOthers W W'
 fn:∀(k:Nat) (cs:Array Value) (f:Nat×Nat),W.heap[k]? = some (Obj.cells cs 1 f)->W'.heap[k]? = some (Obj.cells cs 1 f)
theorem FrK.refl(M N:Nat)(W:World):FrK M N W W:=⟨fun _ _ _ _ h _=>h,KeepsOthers.refl W,fun _ _ _ h=>h⟩
theorem FrK.trans{A B C:World}(h:FrK M N A B)(g:FrK M N B C):FrK M N A C:=⟨fun k o D E G F=>g.fr k o D E (h.fr k o D E G F) F,h.ot.trans g.ot,fun k cs f D=>g.fn k cs f (h.fn k cs f D)⟩
theorem FrK.below(A:PM W W'):FrK M N W W':=
 ⟨fun k o _ _ h _=>(A.block k (XA.1 h).1).trans h,⟨A.size,fun k o h _=>(A.block k (XA.1 h).1).trans h⟩,fun k cs f h=>(A.block k (XA.1 h).1).trans h⟩
theorem FrK.grown{k0:Nat}(B:W.grownBy W' (some k0))(H:k0<M\/N<=k0)(D:∃cs e f,W.heap[k0]? = some (.cells cs e f)/\e≠1):FrK M N W W':=by
 refine⟨fun k o G C h _=>(B.block k (XA.1 h).1 (fun e=>by cases e; omega)).trans h,⟨B.size,fun k o h E=>(B.block k (XA.1 h).1 (fun e=>?_)).trans h⟩,fun k c1 f1 h=>(B.block k (XA.1 h).1 (fun e=>?_)).trans h⟩
 ·obtain⟨cs,t,f,A,_⟩:=D;cases e;rw[A] at h;cases h;cases E
 ·obtain⟨cs,t,f,A,F⟩:=D;cases e;rw[A] at h;injection h with h
  injection h with _ C _
  exact F C
theorem FrK.own{e:TypeId}{z:Nat}{v:Value}{xs:List Value}(G:W.ownsRow B e z v n xs)(A:W.grownBy W' v.ownBlock)(F:∀k,v.ownBlock=some k->k<M\/N<=k)(E:e≠1):FrK M N W W':=by
 cases C:v.ownBlock with
 | none=>
  rw[C] at A;exact⟨fun k o _ _ h _=>(A.block k (XA.1 h).1 Zs).trans h,⟨A.size,fun k o h _=>(A.block k (XA.1 h).1 Zs).trans h⟩,fun k cs f h=>(A.block k (XA.1 h).1 Zs).trans h⟩
 | some k=>
  rw[C] at A;obtain⟨c,D⟩:=kg G k C;exact FrK.grown A (F k C) ⟨c,e,_,D,E⟩
theorem FrK.bld(C:Sd b W W')(hs:(W:Nat)<=(W':Nat))(I:b<M)(D:∃cs e f,W.heap[b]? = some (.cells cs e f)/\e≠1):FrK M N W W':=by
 refine⟨fun k o H B h F=>C k o h (fun e=>by cases e; omega) F,⟨hs,fun k o h E=>C k o h (fun e=>?_) (fun c f e=>by subst e; cases E)⟩,fun k c1 f1 h=>C k _ h (fun e=>?_) (fun c f e=>by injection e with _ B _; exact absurd B Zd)⟩
 ·obtain⟨cs,t,f,A,_⟩:=D;cases e;rw[A] at h;cases h;cases E
 ·obtain⟨cs,t,f,A,G⟩:=D;cases e;rw[A] at h;injection h with h
  injection h with _ B _
  exact G B
structure JSt (B M N lb tb:Nat) (va:Qa) (vc:Nat) (st:List Dop×Qb) (W:World):Prop where
 bld:Lib.IsBuilderF 118 5 B tb (Lib.byteCells st.2) W
 box:BK lb #[.slice va st.1.length vc] 206 W
 row:W.ownsRow B 246 3 (.slice va st.1.length vc) st.1.length (gcs jm st.1)
 own:∀k,(Value.slice va st.1.length vc).ownBlock=some k->k<M\/N<=k
 lo:B<=lb/\B<=tb/\lb<M/\tb<M
 nn:N<=(W:Nat)
section
variable {B M N lb tb vc:Nat} {va:Qa} {st:List Dop×Qb} {W W':World}
theorem jP(h:Lib.IsBuilderF 118 5 B b bs W):∃p v,BK b #[p,v] 118 W:=by
 rcases h with⟨_,v,A,_,_⟩ | ⟨_,v,A,_,_⟩
 ·exact⟨_,_,A⟩
 ·exact⟨_,_,A⟩
theorem JSt.ne(h:JSt B M N lb tb va vc st W):lb≠tb:=fun e=>by
 obtain⟨p,v,C⟩:=jP h.bld;have A:W.heap[lb]? = _:=h.box;rw[e,show W.heap[tb]? = _ from C] at A;cases A
theorem JSt.below(h:JSt B M N lb tb va vc st W)(A:PM W W'):JSt B M N lb tb va vc st W':=⟨xC h.bld A,h.box.below A,PO h.row A,h.own,h.lo,aC h.nn A.size⟩
theorem JSt.wrote(h:JSt B M N lb tb va vc st W){t:Qb}(H:Lib.IsBuilderF 118 5 B tb (Lib.byteCells t) W')(F:Sd tb W W')(I:Below B W W'):JSt B M N lb tb va vc (st.1,t) W'/\FrK M N W W':=by
 obtain⟨p,v,D⟩:=jP h.bld;have hs:=I.size;refine⟨⟨H,(F lb _ h.box (fun e=>h.ne (XP e)) (fun c f e=>by injection e with _ A _; exact absurd A Zd)),?_,h.own,h.lo,aC h.nn hs⟩,FrK.bld F hs h.lo.2.2.2 ⟨_,_,_,D,Zd⟩⟩;rcases h.row.2 with⟨E,A⟩ | ⟨g,c,J,E,A,C,G⟩
 ·exact⟨h.row.1,.inl ⟨E,A⟩⟩
 ·refine⟨h.row.1,.inr ⟨g,c,J,E,A,F g _ C (fun e=>?_) (fun c f e=>by injection e with _ A _; exact absurd A Zd),G⟩⟩;cases e;rw[show W.heap[tb]? = _ from D] at C;injection C with C
  injection C with _ h5 _
  exact absurd h5 Zd
theorem JSt.push(h:JSt B M N lb tb va vc st W)(x:Dop)(hl:(st.1.length:Int)<=1000000):∃A0 A5 W1,Qg ((Builtin.append_ #[206,206] 206 #[.slice va st.1.length vc,.slice W 1 1]).run prog (W.alloc (.cells (jm x).toArray 246))=.ok (.slice A0 (st.1.length+1) A5) W1)/\BK lb #[.slice va st.1.length vc] 206 W1/\
  JSt B M N lb tb A0 A5 (st.1++[x],st.2) (W1.setCell lb (.slice A0 (st.1.length+1) A5))/\FrK M N W (W1.setCell lb (.slice A0 (st.1.length+1) A5))/\Below B W (W1.setCell lb (.slice A0 (st.1.length+1) A5)):=by
 have A1:=h.box.lt;have I:=h.lo;have A2:=h.nn;obtain⟨v',W1,P,D,L,R⟩:=BA rfl h.row x hl Zo;obtain⟨A0,A5,rfl,_⟩:=aB D;have G:PM W (W.alloc (.cells (jm x).toArray 246)):=(bf _).alloc nr _;have J:=h.below G;have C:BK lb #[.slice va st.1.length vc] 206 W1:=J.box.grow L (fun k e T=>gV J.row J.box Zd (by rw[e,T]));have O:=dN W1 lb 0 (.slice A0 (st.1.length+1) A5);have S:=FrK.own (M:=M) (N:=N) J.row L h.own Zd;have H:(st.1++[x]).length=st.1.length+1:=Zs;have X:∀k,(Value.slice va st.1.length vc).ownBlock=some k->k≠tb:=fun k e T=>by
  subst T;obtain⟨c,K⟩:=kg h.row k e;obtain⟨p,v,E⟩:=jP h.bld;rw[show W.heap[k]? = _ from E] at K;injection K with K
  injection K with _ h5 _
  exact absurd h5 Zd
 have U:Lib.IsBuilderF 118 5 B tb (Lib.byteCells st.2) W1:=by
  have A6:∀p,Lib.BuilderAtF 118 5 B tb p (Lib.byteCells st.2) (W.alloc (.cells (jm x).toArray 246))->Lib.BuilderAtF 118 5 B tb p (Lib.byteCells st.2) W1:=by
   rintro p ⟨Z,v,E,Y,V⟩;refine⟨Z,v,(L.block tb (XA.1 E).1 (fun e=>X tb e.symm rfl)).trans E,Y.kept L ?_,V⟩;cases hv:v.ownBlock with
   | none=>exact .inl rfl
   | some k=>
    refine .inr (fun e=>?_);obtain⟨c,f,K⟩:=Lib.ownsRowF_kind Y k hv;obtain⟨c',F⟩:=kg J.row k e.symm;rw[K] at F;injection F with F
    injection F with _ h5 _
    exact absurd h5 Zd
  exact J.bld.elim (fun x=>.inl (A6 _ x)) (fun x=>.inr (A6 _ x))
 have A4:=L.size;have A3:(W.alloc (.cells (jm x).toArray 246)).heap.size=(W:Nat)+1:=Zs;refine⟨A0,A5,W1,P,C,⟨EM U (show W1.heap[lb]? = _ from C) h.ne Zd _,?_,?_,?_,I,?_⟩,((FrK.below G).trans S).trans (FrK.grown O (.inl I.2.2.1) ⟨_,_,_,C,Zd⟩),?_⟩
 ·rw[H]; exact C.set 0 _
 ·rw[H]; exact D.kept O (.inr (gV D C Zd))
 ·rw[H];intro k e;rcases R with Q | Q
  ·rw[Q] at e; exact h.own k e
  ·rw[Q] at e; cases e; omega
 ·have:(W1.setCell lb (.slice A0 (st.1.length+1) A5)).heap.size=(W1:Nat):=by simp[World.setCell]
  omega
 ·exact((G.mono Zo).grown L Zo (fun k e=>(h.row.lt k e).1)).setCell I.1 _
end
theorem JSt.reset(h:JSt B M N lb tb va vc st W):JSt B M N lb tb va vc (st.1,[]) ((W.setCell tb (.pointer none)).setCell ⟨tb,1,none⟩ (.slice none 0 0))/\FrK M N W ((W.setCell tb (.pointer none)).setCell ⟨tb,1,none⟩ (.slice none 0 0))/\Below B W ((W.setCell tb (.pointer none)).setCell ⟨tb,1,none⟩ (.slice none 0 0)):=by
 obtain⟨p,v,D⟩:=jP h.bld;have A:=fM (dN W tb 0 (.pointer none)) 1 (.slice none 0 0);have E:=Ce h.bld;have C:(Value.slice va st.1.length vc).ownBlock≠some tb:=gV h.row D Zd;refine⟨⟨oZ h.lo.2.1 E,(h.box.other h.ne.symm _ _).other h.ne.symm _ _,h.row.kept A (.inr C),h.own,h.lo,?_⟩,FrK.grown A (.inl h.lo.2.2.2) ⟨_,_,_,D,Zd⟩,((Below.refl B W).setCell h.lo.2.1 _).setCell h.lo.2.1 _⟩;have:=A.size;exact aC h.nn this
theorem AC(h:JSt B M N lb tb va vc st W)(hl:(st.1.length:Int)<=1000000)(ht:(st.2.length:Int)<=1000000):
  Qh 224 #[.pointer tb,.pointer lb] W fun e w'=>e=.returned (.tuple #[])/\Qg (∃B4 B5,JSt B M N lb tb B4 B5 (jnF st,[]) w'/\FrK M N W w'/\Below B W w'):=by
 obtain⟨L,t⟩:=st;have G:=Qf (Gx h.bld);rw[show(Lib.byteCells t).length=t.length from Lib.byteCells_length t] at G;by_cases h0:t=[]
 ·subst h0;have HR:Qg (∃B4 B5,JSt B M N lb tb B4 B5 (jnF (L,[]),[]) W/\FrK M N W W/\Below B W W):=Qf ⟨va,vc,h,FrK.refl _ _ _,bf _⟩;clear h;go_enter func224,ntmps224;go_wp2_with fail;refine G.o.mono ?_;rintro e u ⟨rfl,rfl⟩;go_wp2;go_end0;exact⟨rfl,HR⟩
 ·have hd:JSt B M N lb tb va vc (L,t) W.drew:=h.below ((bf _).drew);have B2:0<t.length:=bJ.2 h0;obtain⟨A2,Y⟩:=Yj (ic B tb t W.drew hd.bld h0) hd;have B1:jnF (L,t)=L++[⟨0,0,t⟩]:=by unfold jnF; simp only; rw[if_neg h0]
  rw[B1];obtain⟨tl,B3⟩:=Qe t.length;rw[<-B3] at G B2;have C4:(0:Int)<(tl:Int):=Zo;have F:=hd.box.c1;simp only at hl F;have A4:Below B W W.drew:=(bf _).drew;have Z:Qg (FrK M N W W.drew):=Qf (FrK.below ((bf _).drew));obtain⟨n,hn⟩:=Qe L.length;have HN:Qg (n=L.length):=Qf hn;rw[<-hn] at F hl;clear h hd B1 B3 hn;go_enter func224,ntmps224;go_wp2_with fail;refine G.o.mono ?_;rintro e u ⟨rfl,rfl⟩;go_wp2_with fail;refine iQ (S:=(fun Wx=>Wx.cell? lb=some (.slice va n vc))) [5] Zk F (fun hHeld=>?_);refine Xv 0 ?_;refine cu (i:=1) Zk rfl (fun K I=>?_);go_simp;refine A2.o.mono ?_;rintro e u ⟨rfl,A5,V,A6⟩;have R:Lib.IsBuilderF 118 5 B tb (Lib.byteCells t) u:=A5;obtain⟨O,A7⟩:=Y.o.wrote R A6 V;obtain⟨B4,B5,W1,J,E,P,X,U⟩:=O.push ⟨0,0,t⟩ (HN.o▸hl);simp only[<-HN.o] at J E P X U;obtain⟨B0,A8,A3⟩:=P.reset;obtain⟨A1,HF,B6,HJ⟩:=Yl (Bp P.bld) (((Z.o.trans A7).trans X).trans A8) (((A4.trans V).trans U).trans A3) B0;have C:u.cell? lb=some (.slice va n vc):=by have:=O.box.c1; simp only[<-HN.o] at this; exact this
  have D:(u.alloc (.cells (jm ⟨0,0,t⟩).toArray 246)).cell? lb=some (.slice va n vc):=by
   have B8:PM u (u.alloc (.cells (jm ⟨0,0,t⟩).toArray 246)):=(bf _).alloc nr _;exact(B8.cell O.box.lt).trans C
  have Q:W1.cell? lb=some (.slice va n vc):=E.c1;have A9:W1.frozen? lb=false:=E.frozen 0;have H:=J;obtain⟨A0,T⟩:=Yj C D;simp only[jm,show((0:Nat):Int)=0 from rfl] at H T;clear J E P X U B0 A8 A3 O A7 R A5 V A6 A2 Y A4 Z C D G hHeld F;have C:=A0.o;refine I.out _ _ ((fun _=>C)) (fun hHeld=>?_);clear I K;refine Xv 2 ?_;refine cu (i:=3) Zk rfl (fun K I=>?_);go_simp;have D:=T.o;clear hHeld C;refine I.out _ _ ((fun _=>D)) (fun hHeld=>?_);clear I K;refine cu (i:=4) Zk rfl (fun K I=>?_);refine bN Zr (.tmp 4) (.tmp 7) _ _ Zr _ _ Zr Zr _ _ H.out ?_;clear hHeld D;refine I.out _ _ ((fun _=>Q)) (fun hHeld=>?_);clear I K;refine cu (i:=5) Zk rfl (fun K I=>?_);go_simp;refine I.out _ _ ((fun h=>absurd h Zd)) (fun hHeld=>?_);clear I K;refine eQ Zk ?_ _;clear hHeld Q A9 H A0 T;go_wp2_with fail;refine A1.o.mono ?_;rintro e x ⟨rfl,rfl⟩;clear A1;go_wp2;go_end0;exact⟨rfl,Qf ⟨B4,B5,HJ.o,HF.o,B6.o⟩⟩
section
attribute [local go_sem] Oper.semAt_some
theorem yX.later{α:Type}{lb:Array Value}{enc:α->Value}{ok:List α->α->Prop}{xs:List α}(h:yX F m P gf lb K enc ok xs w)(B:PM w w'):yX F m P gf lb K enc ok xs w':=
 fun l J Y D G A W E C=>h l J Y D G A W (XT B E) C
theorem JSt.renew(h:JSt B M N lb tb va vc st W){M' N':Nat}(A:(W:Nat)<=M')(C:N'<=(W:Nat)):JSt B M' N' lb tb va vc st W:=by
 obtain⟨p,v,D⟩:=jP h.bld;exact⟨h.bld,h.box,h.row,fun k e=>.inl (aO (h.row.lt k e).2 A),⟨h.lo.1,h.lo.2.1,aO h.box.lt A,aO D.lt A⟩,C⟩
structure JI (w:World) (st:List Dop×Qb) (W:World):Prop where
 st:∃va vc,JSt (w:Nat) (W:Nat) (W:Nat) (w:Nat) ((w:Nat)+1) va vc st W
 fn:BK ((w:Nat)+2) #[.func (.func 224) #[] #[.pointer (some ⟨(w:Nat)+1,0,none⟩),.pointer w]] 1 W
 bel:PM w W
theorem JI.below(h:JI w st W)(A:PM W W'):JI w st W':=by
 obtain⟨⟨va,vc,C⟩,D,B⟩:=h;exact⟨⟨va,vc,(C.below A).renew nr nr⟩,D.below A,(XT B A)⟩
theorem JSt.putObj(h:JSt B M N lb tb va vc st W){l:Nat}(A:W.heap[l]? = some o)(C:o.isCells=false):JSt B M N lb tb va vc st (W.putObj l o'):=by
 have D:=grownBy_putObj' W l o';refine⟨EP h.bld A C,h.box.grow D (fun k e F=>?_),h.row.kept D ?_,h.own,h.lo,Zu h.nn⟩
 ·cases e
  rw[F,show W.heap[lb]? = _ from h.box] at A;cases A; cases C
 ·cases G:(Value.slice va st.1.length vc).ownBlock with
  | none=>exact .inl rfl
  | some k=>
   refine .inr (fun e=>?_);cases e;obtain⟨c,E⟩:=kg h.row l G;rw[E] at A;cases A; cases C
theorem JI.putObj(h:JI w st W){l:Nat}(B:(w:Nat)<=l)(A:W.heap[l]? = some o)(D:o.isCells=false):JI w st (W.putObj l o'):=by
 obtain⟨⟨va,vc,E⟩,C,F⟩:=h;refine⟨⟨va,vc,(E.putObj A D).renew Zs Zs⟩,(YM (fun e=>?_)).trans C,vD F B⟩;rw[<-e,show W.heap[(w:Nat)+2]? = _ from C] at A;cases A; cases D
def okP(xs:List Dop)(pre:List Dop)(x:Dop):Prop:=(pre++[x]) <+: xs
theorem JSt.write(h:JSt B M N lb tb va vc st W)(s:Qb)(H:(st.2.length:Int)+s.length<=140737488355328)(F:B<=(W:Nat)):
  Qh 73 #[.pointer tb,s] W fun e w'=>e=.returned (.tuple #[Yi s.length,.nilIface])/\Qg (JSt B M N lb tb va vc (st.1,st.2++s) w'/\FrK M N W w'/\Below B W w'):=by
 refine(jW B tb (Lib.byteCells st.2) ⟨s.toArray⟩ W h.bld (by rw[Lib.byteCells_length,bH]; omega) F).mono ?_;rintro e x ⟨rfl,D,C,E⟩;refine⟨by rw[bH],Qf ?_⟩;have G:Lib.IsBuilderF 118 5 B tb (Lib.byteCells (st.2++s)) x:=by
  refine .inr ?_;rw[byteCells_append];have:=D
  rwa[PY] at this
 obtain⟨g1,g2⟩:=h.wrote G E C;exact⟨g1,g2,C⟩
theorem JSt.setAt(h:JSt B M N lb tb va vc st W)(L:i<st.1.length):∃g,va=some ⟨g,0,none⟩/\(∀j,W.frozen? ⟨g,j,none⟩=false)/\(∀j,j<3->W.cell? ⟨g,i*3+j,none⟩=(jm st.1[i])[j]?)/\
  ∀(o:Dop) (j:Nat) (u:Value),j<3->jm o=(jm st.1[i]).set j u->JSt B M N lb tb va vc (st.1.set i o,st.2) (W.setCell ⟨g,i*3+j,none⟩ u)/\FrK M N W (W.setCell ⟨g,i*3+j,none⟩ u)/\Below B W (W.setCell ⟨g,i*3+j,none⟩ u):=by
 obtain⟨g,c,S,hs,E,G,P,D⟩:=Il h.row Zo;cases hs;refine⟨g,rfl,fun j=>D.frozen j,fun j H=>?_,fun o j u H F=>?_⟩
 ·rw[h.row.cellAt (i*3+j) Zo,uF F3 st.1 i L j H]
 ·have A:=dN W g (i*3+j) u;have I:g≠lb:=fun e=>gV h.row h.box Zd (by rw[<-e]; rfl)
  obtain⟨p,v,O⟩:=jP h.bld;have K:g≠tb:=fun e=>gV h.row O Zd (by rw[<-e]; rfl)
  have R:∀p,Lib.BuilderAtF 118 5 B tb p (Lib.byteCells st.2) W->Lib.BuilderAtF 118 5 B tb p (Lib.byteCells st.2) (W.setCell ⟨g,i*3+j,none⟩ u):=by
   rintro p ⟨G,v,C,F,J⟩;refine⟨G,v,(A.block tb (XA.1 C).1 (fun e=>K (XP e).symm)).trans C,F.kept A ?_,J⟩;cases Q:v.ownBlock with
   | none=>exact .inl rfl
   | some k=>
    refine .inr (fun e=>?_);cases e;obtain⟨c,f,E⟩:=Lib.ownsRowF_kind F _ Q;rw[show W.heap[g]? = _ from D] at E;injection E with E
    injection E with _ h5 _
    exact absurd h5 Zd
  refine⟨⟨h.bld.elim (fun x=>.inl (R _ x)) (fun x=>.inr (R _ x)),?_,?_,?_,h.lo,aC h.nn A.size⟩,FrK.grown A (h.own g rfl) ⟨_,_,_,D,Zd⟩,(Below.refl B W).setCell G _⟩
  ·rw[aL]; exact h.box.other I _ _
  ·rw[aL]; exact xW F3 h.row rfl L H u o F
  ·rw[aL]; exact h.own
theorem Gd(st:List Dop×Qb)(pre:List Dop)(x:Dop):(pre++[x]).foldl jnS st=jnS (pre.foldl jnS st) x:=Zw List.foldl_append
structure JBd (xs:List Dop):Prop where
 at_:∀pre x,okP xs pre x->mR x/\x.off+x.len<=1000000/\(pre.foldl jnS ([],[])).1.length<=900000/\(pre.foldl jnS ([],[])).2.length+x.data.length<=900000/\∀y∈(pre.foldl jnS ([],[])).1,y.off+y.len<=1000000
 fin:(xs.foldl jnS ([],[])).1.length<=900000/\(xs.foldl jnS ([],[])).2.length<=900000
abbrev IK(xs:List Dop):List Dop:=jnF (xs.foldl jnS ([],[]))
theorem Mq(st:List Dop×Qb):(jnF st).length<=st.1.length+1:=by unfold jnF; split <;> simp
theorem IL{y:Dop}(h:y∈jnF st):y∈st.1\/(y.off=0/\y.len=0):=by
 unfold jnF at h;split at h
 ·exact .inl h
 ·rcases aD.1 h with h | h
  ·exact .inl h
  ·rw[aH.1 h]; exact .inr ⟨rfl,rfl⟩
theorem Lb{lb:Array Value}{xs:List Dop}(hit:yX Fence.wide 4 prog gf lb (fun k=>k<B) Dop.val (okP xs) xs w)(hB:B<=w.heap.size)(M2:∀H2 w,(callFunc gf H2).run prog w=.ok (.enter gf H2) w)(I6:JBd xs):
  Qh 192 #[.func (.func gf) #[] lb] w fun e w'=>(∃a c,e=.returned (.slice a (IK xs).length c)/\GIn jm 3 w'.heap.size w' a (IK xs)/\(IK xs).length<=c)/\PM w w':=by
 refine(XV (n:=5)).1 ?_;refine callsIn_of_wp_marks func192 rfl trivial ?_ rfl;simp only[ntmps192,nU,az,aK,Nat.reduceAdd,Nat.reduceSub,jg,je,nV,jT,aY,bz];obtain⟨L1,F2,HB⟩:=Yk hit I6 hB;obtain⟨w1,A7⟩:=Qe (((w.alloc (.cells #[()] 206)).alloc (.cells #[.pointer none,()] 118)).alloc (.cells #[.func (.func 224) #[] #[.pointer (some ⟨(w:Nat)+1,0,none⟩),.pointer w]] 1));have H:PM w w1:=by rw[A7]; exact(((bf _).alloc nr _).alloc Zs _).alloc Zt _
 have h0:BK w #[()] 206 w1:=A7▸((BK.new _ _ _).alloc _).alloc _;have h1:BK ((w:Nat)+1) #[.pointer none,()] 118 w1:=A7▸(BK.new2 _ _ _ _).alloc _;have h2:BK ((w:Nat)+2) #[.func (.func 224) #[] #[.pointer (some ⟨(w:Nat)+1,0,none⟩),.pointer w]] 1 w1:=A7▸BK.new3 _ _ _ _ _;have L2:Qg (JI w ([],[]) w1):=Qf ⟨⟨none,0,oZ (Nat.le_succ _) h1,h0,XE _ _ _ _,by simp[Value.ownBlock],⟨nr,Zo,h0.lt,h1.lt⟩,nr⟩,h2,H⟩;have H5:=Qf (L1.o.later H);have U:(w1:Nat)=(w:Nat)+3:=Zn A7;obtain⟨D7,C2⟩:=Yj U A7;clear hit I6 hB H h0 h1 h2 U A7;gi_wp2;rw[show (w:Nat)+1+1=(w:Nat)+2 from rfl,<-C2.o];clear C2;refine ji (α:=Dop) (bs:=6) 246 (fun x=>(jm x).toArray) rfl Zo rfl trivial M2 (K:=fun k=>k<B) (fun k hk=>by have:=D7.o; have:=HB.o; omega) H5.o
  (fun D8 W=>JI w (D8.foldl jnS ([],[])) W) (fun _=>False) 99 (fun s W W' h hb=>h.below hb) (fun W W' h hb=>h) (fun s W l o o' hl M4 ho h=>h.putObj (Zh D7.o) M4 ho) (fun W l o o' _ _ _ h=>h) L2.o ?assign ?body ?done (fun D W _ h _=>h.elim)
 case assign=>
  intro l x W;simp only[dR,List.set_cons_zero,List.set_cons_succ];obtain⟨C1,A5,data⟩:=x;simp only[Dop.val,jm];gi_wp2;refine⟨?_,?_⟩ <;> first | trivial | rfl
 case done=>
  intro D W hD hJ hK;have L9:=hJ.putObj (o':=.deferred none) (Zh D7.o) hK rfl;obtain⟨⟨va,vc,I⟩,J2,E6⟩:=hJ;have J0:=J2.c1;obtain⟨B1,K7⟩:=Yj (AC I (Zh F2.o.fin.1) (Zh F2.o.fin.2)) E6;have N2:D<(W:Nat):=(XA.1 hK).1;have L8:(w:Nat)<=D:=Zh D7.o;clear L9 I J2 E6;gi_wp2;refine⟨trivial,?_⟩;refine(XV.2 B1.o).mono ?_;rintro e u ⟨rfl,HU⟩;obtain⟨E3,D6,I,J3,I7⟩:=HU.out;have G0:u.heap[D]? = some (.deferred (some [])):=J3.ot.same _ _ hK rfl;obtain⟨a,c,M0,X⟩:=aB I.row;cases M0;have A0:=I.box.c1;obtain⟨HG,A9,K8,L3⟩:=Yl (jw F3 rfl (I.putObj (o':=.deferred none) G0 rfl).row) (vD (o:=.deferred none) (K7.o.trans I7) L8) X G0;simp only at A0;clear B1 HU I J3 I7 X hK G0;gi_wp2;refine⟨Zs,.inl ⟨_,_,rfl,run_takeDeferred L3.o,?_⟩⟩;exact⟨_,by simp[results,results192,go_sem],⟨_,_,rfl,HG.o,K8.o⟩,A9.o⟩
 case body=>
  intro l D8 x W0 Wy W hl M5 hJ C3 F6 I1 D9;simp only[dR,List.set_cons_zero,List.set_cons_succ];obtain⟨⟨va,vc,Z⟩,C7,C4⟩:=hJ;have F8:=(JI.below ⟨⟨va,vc,Z⟩,C7,C4⟩ C3);have hM:(w:Nat)+3<=(W0:Nat):=Zh C7.lt;have I:JSt (w:Nat) (W0:Nat) (W:Nat) (w:Nat) ((w:Nat)+1) va vc (D8.foldl jnS ([],[])) W:=
   ⟨(Z.below C3).bld,(Z.below C3).box,(Z.below C3).row,fun k e=>.inl (Z.row.lt k e).2,⟨nr,Zo,Zo,Zo⟩,nr⟩
  obtain⟨J1,M8,K1,B6,G6⟩:=F2.o.at_ D8 x M5;have C8:=F8.fn;have C5:=F8.bel
  -- what a round leaves
  have F:Qg (∀W' E3 D6,JSt (w:Nat) (W0:Nat) (W:Nat) (w:Nat) ((w:Nat)+1) E3 D6 (jnS (D8.foldl jnS ([],[])) x) W'->FrK (W0:Nat) (W:Nat) W W'->Below w W W'->
    wD (fun k=>k<B) 99 (fun D8 W=>JI w (D8.foldl jnS ([],[])) W) (fun _=>False) (D8++[x]) W0 Wy W .normal { tmps:=#[],defers:=[] } W'):=Qf (fun W' E3 D6 g1 g2 g3=>by
   refine⟨g2.ot,cO.of_below g3 (fun k hk=>Zh HB.o),fun k o k1 k2 k3 k4=>g2.fr k o k1 Zo k3 k4,?_⟩
   show JI w ((D8++[x]).foldl jnS ([],[])) W';rw[Gd];exact⟨⟨E3,D6,g1.renew nr nr⟩,g2.fn _ _ _ C8,C5.trans g3⟩)
  have F5:=Qf I;have B3:Qg ((W0:Nat)<=(Wy:Nat)/\(Wy:Nat)<=(W:Nat)/\(w:Nat)<=(W:Nat)):=Qf ⟨F6,I1,Zo⟩;obtain⟨L,t,I4⟩:∃L t,D8.foldl jnS ([],[])=(L,t):=⟨_,_,rfl⟩;rw[I4] at F5 F K1 B6 G6;simp only at K1;have A3:=Ae x W;have B4:jnS (L,t) x=if wZ x=true then(L,t++x.data) else(jnC (jnF (L,t)) x,[]):=rfl
  have B7:Qg (BK Wy (jm x).toArray 246 W):=Qf D9;have K9:Qg (∀W',FrK (W0:Nat) (W:Nat) W W'->W'.cell? ⟨(w:Nat)+2,0,none⟩=some (.func (.func 224) #[] #[.pointer (some ⟨(w:Nat)+1,0,none⟩),.pointer w])):=Qf (fun W' g=>(BK.c1 (g.fn _ _ _ C8)));have B0:Qg (∀W',FrK (W0:Nat) (W:Nat) W W'->BK Wy (jm x).toArray 246 W'):=Qf (fun W' g=>g.fr _ _ F6 (XA.1 D9).1 D9 (fun c f e=>by injection e with _ h2 _; exact absurd h2 Zd));clear I F8 C8 C5 Z C7 C4 D9 C3 F6 I1;cases Y:wZ x with
  | true=>
   rw[if_pos Y] at B4;rw[Y] at A3;have I0:=Qf (fun(W':World) (hJ:JSt (w:Nat) (W0:Nat) (W:Nat) (w:Nat) ((w:Nat)+1) va vc (L,t) W') (hB:(w:Nat)<=(W':Nat))=>hJ.write x.data (by simp only at B6 ⊢; omega) hB);rw[B4] at F;obtain⟨C1,A5,data⟩:=x;simp only[Dop.val,jm] at A3 B7 I0 F B0 ⊢;have B8:=Qf A3;obtain⟨c0,c1,c2⟩:=BK.c3 B7.o;clear A3 B4 Y;gi_wp2;refine⟨trivial,?_⟩;refine(CallsIn.inRound l (XV.2 B8.o)).mono ?_;rintro e u1 ⟨rfl,H⟩;have J7:=B7.o.below H;have J5:=F5.o.below H;have C2:=Qf (I0.o u1 J5 (aC B3.o.2.2 H.size));have D5:Qg (FrK (W0:Nat) (W:Nat) W u1):=Qf (FrK.below H);have F1:=Qf H;obtain⟨d0,d1,d2⟩:=BK.c3 J7;clear J7 J5 H B8 c0 c1 c2;gi_wp2;refine⟨trivial,?_⟩;refine(CallsIn.inRound l (XV.2 C2.o)).mono ?_;rintro e u2 ⟨rfl,HU⟩;obtain⟨g1,g2,g3⟩:=HU.out;have HR:=Qf (F.o u2 va vc g1 (D5.o.trans g2) ((F1.o.mono B3.o.2.2).trans g3));clear HU g1 g2 g3 C2 d0 d1 d2;gi_wp2;exact HR.o
  | false=>
   rw[if_neg (Zj Y)] at B4;rw[Y] at A3;have B1:=Qf (fun(W':World) (hJ:JSt (w:Nat) (W0:Nat) (W:Nat) (w:Nat) ((w:Nat)+1) va vc (L,t) W')=>AC hJ (by simp only at B6 ⊢; omega) (by simp only at B6 ⊢; omega));have G2:=Mq (L,t);have E0:∀y∈jnF (L,t),y.off+y.len<=1000000:=fun y hy=>by
    rcases IL hy with h | ⟨h1,h2⟩
    ·exact G6 y h
    ·omega
   simp only at G2 B6;rw[B4] at F;generalize jnF (L,t)=L' at B1 G2 E0 F;have N7:(L'.length:Int)<=1000000:=Zo;have H4:=Qf (fun(y:Dop) (W':World)=>lW y W');obtain⟨C1,A5,data⟩:=x;simp only at M8;simp only[Dop.val,jm] at A3 B7 F B0 ⊢;have B8:=Qf A3;obtain⟨c0,c1,c2⟩:=BK.c3 B7.o;clear A3 B4 Y B6 G6 G2 I4 J1;gi_wp2;refine⟨trivial,?_⟩;refine(CallsIn.inRound l (XV.2 B8.o)).mono ?_;rintro e u1 ⟨rfl,H⟩;have D5:Qg (FrK (W0:Nat) (W:Nat) W u1):=Qf (FrK.below H);have F1:=Qf H;have J0:=K9.o u1 D5.o;have E2:=Qf (B1.o u1 (F5.o.below H));clear H B8 c0 c1 c2 B1;gi_wp2;refine⟨trivial,?_⟩;refine(CallsIn.inRound l (XV.2 E2.o)).mono ?_;rintro e u2 ⟨rfl,HU⟩;obtain⟨E3,D6,D4,I9,I5⟩:=HU.out;have I3:=D5.o.trans I9;obtain⟨H3,A9,H7⟩:=Yk I3 ((F1.o.mono B3.o.2.2).trans I5) D4;obtain⟨n,hn⟩:=Qe L'.length;have HN:Qg (n=L'.length):=Qf hn;have A0:=D4.box.c1;simp only at A0;rw[<-hn] at A0;clear HU D4 I9 I5 J0 E2 I3;have B9:Qg (L'=[]->jnC L' ⟨C1,A5,data⟩=L'++[⟨C1,A5,data⟩]):=Qf (fun h=>by subst h; rfl);have C0:Qg (∀L0 y,L'=L0++[y]->jnC L' ⟨C1,A5,data⟩=if cZ y=true/\y.off+y.len=C1 then L0++[⟨y.off,y.len+A5,y.data⟩] else L'++[⟨C1,A5,data⟩]):=Qf (fun L0 y h=>by subst h; unfold jnC; simp);have N8:(n:Int)<=1000000:=Zo;rcases iI L' with D1 | ⟨L0,y,X⟩
   ·have D2:n=0:=by rw[hn,D1]; rfl
    subst D2;have A6:=Qf (B9.o D1);have O0:IntKind.i64.wrap (0-1)=-1:=Zd;clear B9 C0 D1 hn E0;gi_wp2;refine eZ (S:=(fun _=>True)) [] l Zk (fun⟨_,_,h⟩=>h) Zk trivial (fun hHeld=>?_);refine Xv 0 ?_;refine Xv 1 ?_;refine Xv 2 ?_;refine Xw 3 ?_;refine Xw 4 ?_;refine Xw 5 ?_;refine Xw 6 ?_;refine Xw 7 ?_;refine Xv 8 ?_;refine Xv 9 ?_;refine Xw 10 ?_;refine Xw 11 ?_;refine Xw 12 ?_;refine Xw 13 ?_;refine Xw 14 ?_;refine Xw 15 ?_;refine Xw 16 ?_;refine Xw 17 ?_;refine Xw 18 ?_;refine Xw 19 ?_;refine Xw 20 ?_;refine Xw 21 ?_;refine Xw 22 ?_;refine Xw 23 ?_;refine Xv 24 ?_;refine eQ Zk ?_ _;clear hHeld A0;have P:JSt (w:Nat) (W0:Nat) (W:Nat) (w:Nat) ((w:Nat)+1) E3 D6 (L',[]) u2.drew:=H7.o.below ((bf _).drew);have O:=H3.o.trans (FrK.below ((bf _).drew));have A2:=A9.o.drew;obtain⟨E4,E8,W3,G,C,T,R,Q⟩:=P.push ⟨C1,A5,data⟩ (by simp only; have:=HN.o; omega);simp only[<-HN.o] at G C T R Q;have HR:=Qf (F.o _ E4 E8 (A6.o▸T) (O.trans R) (A2.trans Q));have E:=B0.o u2.drew O;obtain⟨x0,x1,x2⟩:=BK.c3 E;have D0:=P.box.c1;simp only[<-HN.o] at D0;have J8:=C.c1;have E9:=C.frozen 0;have M:=G;simp only[jm] at M;clear G C T R Q E P O A2;gi_wp2_with (gi_at_builtin; refine kS _ rfl _ _ _ _ rfl _ _ rfl rfl _ _ M.out ?_);exact HR.o
   ·rw[iJ] at X;have D2:n=L0.length+1:=by rw[hn,X]; simp
    obtain⟨k,hk⟩:=Qe L0.length;rw[<-hk] at D2;have H6:Qg (n=k+1):=Qf D2;have N:=C0.o L0 y X;have K4:=E0 y (Zn X);have G3:k<(L',([]:Qb)).1.length:=Zp;have F9:JSt (w:Nat) (W0:Nat) (W:Nat) (w:Nat) ((w:Nat)+1) E3 D6 (L',[]) u2.drew:=H7.o.below ((bf _).drew);obtain⟨g,M6,J4,C6,I⟩:=F9.setAt G3;subst M6;have H0:L'[k]'(Zu G3)=y:=by
     have:L'[k]? = some y:=by rw[X,hk]; simp
     exact(XO.1 this).2
    simp only[H0] at C6 I;have E1:=C6 0 Zd;have G7:=C6 1 Zd;have G8:=C6 2 Zd;obtain⟨yo,yl,yd⟩:=y;rw[show(jm ⟨yo,yl,yd⟩)[0]? = some (Yi (yo:Int)) from rfl,QI] at E1;rw[show(jm ⟨yo,yl,yd⟩)[1]? = some (Yi (yl:Int)) from rfl] at G7;rw[show(jm ⟨yo,yl,yd⟩)[2]? = some (.string ⟨yd.toArray⟩) from rfl] at G8;simp only at K4 N;have F7:FrK (W0:Nat) (W:Nat) W u2.drew:=H3.o.trans (FrK.below ((bf _).drew));have K2:=B0.o u2.drew F7;obtain⟨x0,x1,x2⟩:=BK.c3 K2;have C9:u2.drew.cell? w=some (.slice g n D6):=A0;have J:Qg (∀Wx,Below u2.drew.heap.size u2.drew Wx->Wx.cell? w=some (.slice g n D6)/\Wx.cell? ⟨g,k*3,none⟩=some (Yi (yo:Int))/\Wx.cell? ⟨g,k*3+1,none⟩=some (Yi (yl:Int))/\Wx.cell? ⟨g,k*3+2,none⟩=some (.string ⟨yd.toArray⟩)/\Wx.cell? Wy=some (Yi (C1:Int))/\Wx.cell? ⟨Wy,1,none⟩=some (Yi (A5:Int))):=Qf (fun Wx hb=>by
     have G1:=World.block_lt_of_cell? _ _ E1;have G5:=World.block_lt_of_cell? _ _ C9;have K3:=World.block_lt_of_cell? _ _ x0;exact⟨(hb.cell G5).trans C9,(hb.cell G1).trans E1,(hb.cell (p:=⟨g,k*3+1,none⟩) G1).trans G7,(hb.cell (p:=⟨g,k*3+2,none⟩) G1).trans G8,(hb.cell K3).trans x0,(hb.cell (p:=⟨Wy,1,none⟩) K3).trans x1⟩)
    have B5:=J.o u2.drew (bf _);have N0:(n:Int)-1=(k:Int):=Zo;have O1:IntKind.i64.wrap ((n:Int)-1)=(k:Int):=by rw[ZV]; omega
    have N4:(0:Int)<=(k:Int):=Zo;have N5:(k:Int)<(n:Int):=Zo;have M7:IntKind.i64.wrap ((yo:Int)+(yl:Int))=((yo+yl:Nat):Int):=by rw[ZV]; omega
    obtain⟨ye,G9⟩:=Qe (yo+yl);rw[<-G9] at M7 N K4;have A1:=Qf (H4.o ⟨yo,yl,yd⟩ u2.drew);simp only[Dop.val] at A1;have H9:=Qf (I ⟨yo,yl+A5,yd⟩ 1 (Yi ((yl+A5:Nat):Int)) Zd (by simp[jm]));have H8:Qg (L'.set k ⟨yo,yl+A5,yd⟩=L0++[⟨yo,yl+A5,yd⟩]):=Qf (by rw[X,hk]; simp);have N3:=J4 (k*3+1);have L4:Qg (ye=yo+yl):=Qf G9;have L5:Qg (∀hk,L'[k]'hk=⟨yo,yl,yd⟩):=Qf (fun _=>H0);obtain⟨F4,B2⟩:=Yj F9 F7;clear B9 C0 X hn E0 F9 F7 C6 I J4 E1 G7 G8 K2 x0 x1 x2 C9 H0 hk G3 G9 D2;generalize cZ ⟨yo,yl,yd⟩=cb at A1 N;cases cb with
    | false=>
     rw[if_neg Zs] at N;have A6:=Qf N;clear N;gi_wp2;refine eZ (S:=(fun Wx=>Wx.cell? w=some (.slice g n D6)/\Wx.cell? ⟨g,k*3,none⟩=some (Yi (yo:Int))/\Wx.cell? ⟨g,k*3+1,none⟩=some (Yi (yl:Int))/\Wx.cell? ⟨g,k*3+2,none⟩=some (.string ⟨yd.toArray⟩)/\Wx.cell? Wy=some (Yi (C1:Int))/\Wx.cell? ⟨Wy,1,none⟩=some (Yi (A5:Int)))) [] l Zk (fun⟨_,_,h⟩=>h) Zk B5 (fun hHeld=>?_);refine Xv 0 ?_;refine Xv 1 ?_;refine Xv 2 ?_;refine Xv 3 ?_;refine Xv 4 ?_;refine Xv 5 ?_;refine Xv 6 ?_;refine cu (i:=7) Zk rfl (fun K hK=>?_);go_simp;refine A1.o.mono ?_;rintro e uz ⟨rfl,E⟩;have U:=J.o uz E;have V:=Qf E;clear E hHeld;refine hK.out _ _ ((fun _=>U)) (fun hHeld=>?_);clear hK K;refine Xv 8 ?_;refine Xv 9 ?_;refine Xw 10 ?_;refine Xw 11 ?_;refine Xw 12 ?_;refine Xw 13 ?_;refine Xw 14 ?_;refine Xw 15 ?_;refine Xw 16 ?_;refine Xw 17 ?_;refine Xw 18 ?_;refine Xw 19 ?_;refine Xw 20 ?_;refine Xw 21 ?_;refine Xw 22 ?_;refine Xw 23 ?_;refine Xv 24 ?_;refine eQ Zk ?_ _;clear hHeld A0 B5 U J A1;have P:JSt (w:Nat) (W0:Nat) (W:Nat) (w:Nat) ((w:Nat)+1) (some ⟨g,0,none⟩) D6 (L',[]) uz:=F4.o.below V.o;have O:=B2.o.trans (FrK.below V.o);have A2:=A9.o.drew.trans (V.o.mono (aC B3.o.2.2 B2.o.ot.size));obtain⟨E4,E8,W3,G,C,T,R,Q⟩:=P.push ⟨C1,A5,data⟩ (by simp only; have:=HN.o; omega);simp only[<-HN.o] at G C T R Q;have HR:=Qf (F.o _ E4 E8 (A6.o▸T) (O.trans R) (A2.trans Q));have E:=B0.o uz O;obtain⟨x0,x1,x2⟩:=BK.c3 E;have D0:=P.box.c1;simp only[<-HN.o] at D0;have J8:=C.c1;have E9:=C.frozen 0;have M:=G;simp only[jm] at M;clear G C T R Q E P O A2;gi_wp2_with (gi_at_builtin; refine kS _ rfl _ _ _ _ rfl _ _ rfl rfl _ _ M.out ?_);exact HR.o
    | true=>
     by_cases A8:ye=C1
     ·rw[if_pos ⟨rfl,A8⟩] at N;have M1:((ye:Int)==(C1:Int))=true:=Zj A8;have A6:=Qf N;have J9:(yl:Int)+A5<=3000000:=Zh L4.o;have G5:IntKind.i64.wrap ((yl:Int)+(A5:Int))=((yl+A5:Nat):Int):=by rw[ZV]; omega
      obtain⟨zl,H1⟩:=Qe (yl+A5);rw[<-H1] at G5 H9 H8;have L6:Qg (zl=yl+A5):=Qf H1;clear N H1 J9;gi_wp2;refine eZ (S:=(fun Wx=>Wx.cell? w=some (.slice g n D6)/\Wx.cell? ⟨g,k*3,none⟩=some (Yi (yo:Int))/\Wx.cell? ⟨g,k*3+1,none⟩=some (Yi (yl:Int))/\Wx.cell? ⟨g,k*3+2,none⟩=some (.string ⟨yd.toArray⟩)/\Wx.cell? Wy=some (Yi (C1:Int))/\Wx.cell? ⟨Wy,1,none⟩=some (Yi (A5:Int)))) [] l Zk (fun⟨_,_,h⟩=>h) Zk B5 (fun hHeld=>?_);refine Xv 0 ?_;refine Xv 1 ?_;refine Xv 2 ?_;refine Xv 3 ?_;refine Xv 4 ?_;refine Xv 5 ?_;refine Xv 6 ?_;refine cu (i:=7) Zk rfl (fun K hK=>?_);go_simp;refine A1.o.mono ?_;rintro e uz ⟨rfl,E⟩;have U:=J.o uz E;have V:=Qf E;clear E hHeld;refine hK.out _ _ ((fun _=>U)) (fun hHeld=>?_);clear hK K;refine Xv 8 ?_;refine Xv 9 ?_;refine Xv 10 ?_;refine Xv 11 ?_;refine Xv 12 ?_;refine Xv 13 ?_;refine Xv 14 ?_;refine Xv 15 ?_;refine Xv 16 ?_;refine Xv 17 ?_;refine Xv 18 ?_;refine Xv 19 ?_;refine Xv 20 ?_;refine Xv 21 ?_;refine Xv 22 ?_;refine Xv 23 ?_;refine Xv 24 ?_;refine eQ Zk ?_ _;clear hHeld;have A4:Below u2.drew.heap.size u2.drew uz.drew:=V.o.trans ((bf _).drew.mono V.o.size);have G4:=J.o uz.drew A4;have E5:JSt (w:Nat) (W0:Nat) (W:Nat) (w:Nat) ((w:Nat)+1) (some ⟨g,0,none⟩) D6 (L',[]) uz.drew:=F4.o.below A4;obtain⟨g',M3,E7,_,D3⟩:=E5.setAt (i:=k) (by simp only; have:=H6.o; have:=HN.o; omega);cases M3;have F0:L'[k]'(by have:=H6.o; have:=HN.o; omega)=⟨yo,yl,yd⟩:=L5.o _;simp only[F0] at D3;obtain⟨r1,r2,r3⟩:=D3 ⟨yo,zl,yd⟩ 1 (Yi (zl:Int)) Zd (by simp[jm]);simp only[H8.o] at r1;have J6:jnC L' ⟨C1,A5,data⟩=L0++[⟨yo,zl,yd⟩]:=by rw[A6.o,L6.o]
      have HR:=Qf (F.o (uz.drew.setCell ⟨g,k*3+1,none⟩ (Yi (zl:Int))) _ _ (J6▸r1) ((B2.o.trans (FrK.below A4)).trans r2) ((A9.o.drew.trans (A4.mono (aC B3.o.2.2 B2.o.ot.size))).trans r3));have I8:=E7 (k*3+1);clear A0 B5 U J A1 E5 D3 r1 r2 r3 A4 E7 F0 J6;gi_wp2;refine eZ (S:=(fun Wx=>Wx.cell? w=some (.slice g n D6)/\Wx.cell? ⟨g,k*3,none⟩=some (Yi (yo:Int))/\Wx.cell? ⟨g,k*3+1,none⟩=some (Yi (yl:Int))/\Wx.cell? ⟨g,k*3+2,none⟩=some (.string ⟨yd.toArray⟩)/\Wx.cell? Wy=some (Yi (C1:Int))/\Wx.cell? ⟨Wy,1,none⟩=some (Yi (A5:Int)))) [10] l Zk (fun⟨_,_,h⟩=>h) Zk G4 (fun hHeld=>?_);refine Xv 0 ?_;refine Xv 1 ?_;refine Xv 2 ?_;refine Xv 3 ?_;refine Xv 4 ?_;refine Xv 5 ?_;refine Xv 6 ?_;refine Xv 7 ?_;refine Xv 8 ?_;refine Xv 9 ?_;refine cu (i:=10) Zk rfl (fun K hK=>?_);have K0:=G4.2.2.1;go_simp;refine hK.out _ _ ((fun h=>absurd h Zd)) (fun hHeld=>?_);clear hK K;refine eQ Zk ?_ _;clear hHeld G4 K0 I8;gi_wp2;exact HR.o
     ·rw[if_neg (fun h=>A8 h.2)] at N;have M1:((ye:Int)==(C1:Int))=false:=Zt;have A6:=Qf N;clear N A8;gi_wp2;refine eZ (S:=(fun Wx=>Wx.cell? w=some (.slice g n D6)/\Wx.cell? ⟨g,k*3,none⟩=some (Yi (yo:Int))/\Wx.cell? ⟨g,k*3+1,none⟩=some (Yi (yl:Int))/\Wx.cell? ⟨g,k*3+2,none⟩=some (.string ⟨yd.toArray⟩)/\Wx.cell? Wy=some (Yi (C1:Int))/\Wx.cell? ⟨Wy,1,none⟩=some (Yi (A5:Int)))) [] l Zk (fun⟨_,_,h⟩=>h) Zk B5 (fun hHeld=>?_);refine Xv 0 ?_;refine Xv 1 ?_;refine Xv 2 ?_;refine Xv 3 ?_;refine Xv 4 ?_;refine Xv 5 ?_;refine Xv 6 ?_;refine cu (i:=7) Zk rfl (fun K hK=>?_);go_simp;refine A1.o.mono ?_;rintro e uz ⟨rfl,E⟩;have U:=J.o uz E;have V:=Qf E;clear E hHeld;refine hK.out _ _ ((fun _=>U)) (fun hHeld=>?_);clear hK K;refine Xv 8 ?_;refine Xv 9 ?_;refine Xv 10 ?_;refine Xv 11 ?_;refine Xv 12 ?_;refine Xv 13 ?_;refine Xv 14 ?_;refine Xv 15 ?_;refine Xv 16 ?_;refine Xv 17 ?_;refine Xv 18 ?_;refine Xv 19 ?_;refine Xv 20 ?_;refine Xv 21 ?_;refine Xv 22 ?_;refine Xv 23 ?_;refine Xv 24 ?_;refine eQ Zk ?_ _;clear hHeld A0 B5 U J A1;have P:JSt (w:Nat) (W0:Nat) (W:Nat) (w:Nat) ((w:Nat)+1) (some ⟨g,0,none⟩) D6 (L',[]) uz:=F4.o.below V.o;have O:=B2.o.trans (FrK.below V.o);have A2:=A9.o.drew.trans (V.o.mono (aC B3.o.2.2 B2.o.ot.size));obtain⟨E4,E8,W3,G,C,T,R,Q⟩:=P.push ⟨C1,A5,data⟩ (by simp only; have:=HN.o; omega);simp only[<-HN.o] at G C T R Q;have HR:=Qf (F.o _ E4 E8 (A6.o▸T) (O.trans R) (A2.trans Q));have E:=B0.o uz O;obtain⟨x0,x1,x2⟩:=BK.c3 E;have D0:=P.box.c1;simp only[<-HN.o] at D0;have J8:=C.c1;have E9:=C.frozen 0;have M:=G;simp only[jm] at M;clear G C T R Q E P O A2;gi_wp2_with (gi_at_builtin; refine kS _ rfl _ _ _ _ rfl _ _ rfl rfl _ _ M.out ?_);exact HR.o
end
theorem AA:∀(xs:List Dop) (st:List Dop×Qb),K6 st.1->(∀x∈xs,mR x)->jnF (xs.foldl jnS st)=xs.foldl Ko (jnF st)
 | [],st,_,_=>rfl
 | x::xs,st,D,A=>by
  obtain⟨B,C⟩:=OV (o:=x) D (A x Zs);rw[fE,fE,AA xs _ C (fun y E=>A y (Zj E)),B]
structure JnB (A n:Nat) (st:List Dop×Qb):Prop where
 l:st.1.length<=2*n
 t:st.2.length<=n
 e:∀y∈st.1,y.off+y.len<=A
theorem JnB.next{A:Nat}(h:JnB A n st){x:Dop}(D:x.off+x.len<=A)(M:x.data.length<=1):JnB A (n+1) (jnS st x):=by
 obtain⟨L,t⟩:=st;have I:=h.l;have J:=h.t;have H:=Mq (L,t);have C:∀y∈jnF (L,t),y.off+y.len<=A:=fun y K=>by
  rcases IL K with E | ⟨E,N⟩
  ·exact h.e y E
  ·omega
 simp only at I J H;by_cases G:wZ x=true
 ·have:jnS (L,t) x=(L,t++x.data):=by unfold jnS; rw[if_pos G]
  rw[this];exact⟨Zp,by simp only[af]; omega,h.e⟩
 ·have:jnS (L,t) x=(jnC (jnF (L,t)) x,[]):=by unfold jnS; rw[if_neg G]
  rw[this];generalize jnF (L,t)=L' at H C;have O:(jnC L' x).length<=L'.length+1/\∀y∈jnC L' x,y.off+y.len<=A:=by
   rcases iI L' with rfl | ⟨L0,y,rfl⟩
   ·exact⟨by simp[jnC],fun z B=>by simp[jnC] at B; rw[B]; exact D⟩
   ·rw[iJ] at C ⊢;unfold jnC;simp only[List.getLast?_append,List.getLast?_singleton,Option.some_or,List.dropLast_concat];by_cases F:cZ y=true/\y.off+y.len=x.off
    ·rw[if_pos F];refine⟨Zs,fun z B=>?_⟩;rcases aD.1 B with B | B
     ·exact C z (Zj B)
     ·rw[aH.1 B]; simp only; omega
    ·rw[if_neg F];refine⟨Zs,fun z B=>?_⟩;rcases aD.1 B with B | B
     ·exact C z B
     ·rw[aH.1 B]; exact D
  exact⟨Zp,Zs,O.2⟩
theorem Eh{A:Nat}:∀(pre:List Dop) {n:Nat} {st:List Dop×Qb},JnB A n st->(∀x∈pre,x.off+x.len<=A/\x.data.length<=1)->JnB A (n+pre.length) (pre.foldl jnS st)
 | [],n,st,h,_=>h
 | x::pre,n,st,h,B=>by
  have C:=h.next (B x Zs).1 (B x Zs).2;have D:=Eh pre C (fun y E=>B y (Zj E));rw[fE,az]
  rwa[show n+1+pre.length=n+(pre.length+1) by omega] at D
theorem tF{a b:Qb}:∀(f k:Nat),∀x∈dF a b f k,∃j,j<b.length/\x=eH a b j
 | 0,k,x,h=>by simp[dF] at h
 | f+1,k,x,h=>by
  rw[dF] at h;by_cases e:k<b.length
  ·rw[if_pos e] at h;rcases XG.1 h with h | h
   ·exact⟨k,e,h⟩
   ·exact tF f _ x h
  ·rw[if_neg e] at h; simp at h
theorem tH{a b:Qb}:∀(f k:Nat),(dF a b f k).length<=f
 | 0,k=>by simp[dF]
 | f+1,k=>by
  rw[dF];by_cases e:k<b.length
  ·rw[if_pos e,az];have:=tH (a:=a) (b:=b) f (k+bS (eH a b k));omega
  ·rw[if_neg e]; simp
theorem FT{b:Qb}(C:k<b.length):mR (eH a b k)/\(eH a b k).off+(eH a b k).len<=a.length/\(eH a b k).data.length<=1:=by
 obtain⟨A,B,_⟩:=zV (a:=a) C;refine⟨A,?_,?_⟩
 ·by_cases e:0<(eH a b k).len
  ·exact B e
  ·rcases A with A | ⟨g1,g2,_⟩
   ·exact absurd A.1 e
   ·omega
 ·unfold eH;split
  ·simp
  ·simp only[aA]; omega
theorem nA{b:Qb}:∀x∈jH a b,mR x/\x.off+x.len<=a.length/\x.data.length<=1:=fun x B=>by
 obtain⟨j,A,rfl⟩:=tF _ _ x B;exact FT A
theorem Kv{b:Qb}(I:a.length<=1000)(J:b.length<=100000):JBd (jH a b):=by
 have F:(jH a b).length<=b.length:=tH _ _;have L:∀K,K <+: jH a b->JnB a.length K.length (K.foldl jnS ([],[])):=fun K D=>by
  have:=Eh K (A:=a.length) (n:=0) (st:=([],[])) ⟨Zs,Zs,fun y E=>by simp at E⟩ (fun x G=>(nA x (D.subset G)).2)
  rwa[aZ] at this
 refine⟨fun K x C=>?_,?_⟩
 ·have D:K <+: jH a b:=(List.prefix_append K [x]).trans C;have B:=L K D;have H:=D.length_le;obtain⟨g1,g2,g3⟩:=nA x (C.subset Zs);have:=B.l;have:=B.t;exact⟨g1,Zo,Zo,Zo,fun y E=>Zh (B.e y E)⟩
 ·have B:=L _ (List.prefix_refl _);have:=B.l;have:=B.t;omega
theorem Fe(a b:Qb):IK (jH a b)=iM a b:=by
 unfold IK;rw[AA _ _ IC (fun x A=>(nA x A).1),CZ];rfl
theorem yf(a:Qb)(w:World)(U:a.length<=1000)(hs:a=[2,0]):Qh 149 #[a] w fun e w'=>∃ib,e=.returned (.agg #[.pointer (some ⟨ib,0,none⟩)])/\Qg (pJ a ((w:Nat)+1) ib w')/\PM w w':=by
 obtain⟨w1,B⟩:=Qe (w.alloc (.cells #[.pointer none] 203));have C:PM w w1:=B▸(bf _).alloc nr _;obtain⟨O,M⟩:=Yj (show BK w #[.pointer none] 203 w1 by rw[B]; exact BK.new _ _ _) (zW a w1 hs);have T:=bH a;have R:(a:ByteArray).extract 0 a.length=⟨a.toArray⟩:=Zn dw;have V:(a.length:Int)<=65536:=Zo;have S:min (a.length:Int) 65536=(a.length:Int):=Zo;have J:=Qf C;have F:(w1:Nat)=(w:Nat)+1:=Zn B;have N:=Qf F;clear hs;clear F;generalize a.length=n at *
 rw[B] at M;have P:=Qf B;clear C B;go_enter func149,ntmps149;go_wp2_with fail;refine M.o.mono ?_;rintro e u ⟨ib,rfl,G,H,E⟩;rw[<-P.o] at H E G;rw[N.o] at G;have I:=O.o.below H;have Q:=dN u (w:Nat) 0 (.pointer ib);have D:BK w #[.pointer ib] 203 (u.setCell w (.pointer ib)):=I.set 0 _;have L:Qg (pJ a ((w:Nat)+1) ib (u.setCell w (.pointer ib))):=Qf (G.out.grown Q (Nat.lt_succ_self _));have K:=Qf ((XT J.o H).setCell (p:=⟨w,0,none⟩) nr (.pointer ib));have r0:=BK.c1 I;have W:=BK.f1 (I);have r3:=D.c1;clear I D Q H E G M O J P;go_wp2;refine XB (v:=.agg #[.pointer ib]) (by simp[results,results149,go_sem,r3]) rfl ?_;exact⟨ib,rfl,L,K.o⟩
theorem Hg{b:Qb}{ib:Nat}(h:J5 a (w:Nat) ib w)(P:a.length<=1000)(L:b.length<=65536):
  Qh 151 #[.agg #[.pointer ib],b] w fun e w'=>(∃ad c,e=.returned (.slice ad (iM a b).length c)/\GIn jm 3 w'.heap.size w' ad (iM a b)/\(iM a b).length<=c)/\PM w w':=by
 obtain⟨w1,C⟩:=Qe (((w.alloc (.cells #[.pointer ib] 203)).alloc (.cells #[b] 9)).alloc (.cells #[.pointer ib] 201));obtain⟨w2,B⟩:=Qe (w1.alloc (.cells #[.func (.func 190) #[] #[.pointer (some ⟨(w:Nat)+1,0,none⟩),.pointer (some ⟨(w:Nat)+2,0,none⟩)]] 255));have O:(w1:Nat)=(w:Nat)+3:=Zn C;have G:PM w w1:=by rw[C]; exact(((bf _).alloc nr _).alloc Zs _).alloc Zt _
 have J:PM w1 w2:=B▸(bf _).alloc nr _;have E:=(XT G J);have k1:BK ((w:Nat)+1) #[b] 9 w2:=by rw[B,C]; exact((BK.new2 _ _ _ _).alloc _).alloc _
 have k2:BK ((w:Nat)+2) #[.pointer ib] 201 w2:=by rw[B,C]; exact(BK.new3 _ _ _ _ _).alloc _
 have k3:BK ((w:Nat)+3) #[.func (.func 190) #[] #[.pointer (some ⟨(w:Nat)+1,0,none⟩),.pointer (some ⟨(w:Nat)+2,0,none⟩)]] 255 w2:=by rw[B,<-O]; exact BK.new _ _ _
 have U:(w2:Nat)=(w:Nat)+4:=by rw[B]; simp; omega
 have K:Oe a b (w2:Nat) ib ((w:Nat)+1) ((w:Nat)+2) ((w:Nat)+3) w2:=⟨(h.below E nr).mono E.size,k1.c1,k2.c1,k3.c1,Zo,Zo,Zo⟩;have F:=Qf (Lb (Ff K nr P Zo 4 Zo) nr (enters_of func193 Zk rfl) (Kv P Zo));rw[Fe] at F;have V:=bH b;have W:¬(65536:Int)<(b.length:Int):=Zo;have M:=Qf E;generalize b.length=n at *
 rw[B,C] at F;obtain⟨I,H⟩:=Yj B C;clear h G J E k1 k2 k3 K C B;generalize iM a b=D at F ⊢;go_enter func151,ntmps151;go_wp2_with fail;refine F.o.mono ?_;rintro e u ⟨⟨ad,c,rfl,R,Q⟩,L⟩;rw[<-H.o,<-I.o] at L;obtain⟨T,S,N⟩:=Yk R Q (XT M.o L);clear R Q L F M H I;go_wp2;go_ret;exact⟨⟨ad,c,rfl,T.o,S.o⟩,N.o⟩
theorem nO{w0 u0:World}{T:Qb}(n:Nat)(M:(n:Int)<=1099511627776)(h:BW w0 u0 b T w)(L:(T.length:Int)<=70368744177664):Qh 188 #[Yi (n:Int),.pointer b] w fun e w'=>e=.returned (.tuple #[])/\Qg (BW w0 u0 b (T++Cw.enc n) w'):=by
 have C:=Qf (oL (n:Int) Zo M w);simp only[aj] at C;have J:=aG n;have H:=Qf h;generalize Cw.enc n=E at C J ⊢;obtain⟨F,D⟩:=Yj L J;clear h;go_enter func188,ntmps188;go_wp2_with fail;refine C.o.mono ?_;rintro e u ⟨rfl,I⟩;have B:=Qf (H.o.below I);have K:=Qf (cz B.o E (by have:=F.o; have:=D.o; omega));clear I C H B;go_wp2_with fail;refine K.o.mono ?_;rintro e u2 ⟨rfl,G⟩;go_wp2;go_end0;exact⟨rfl,G⟩
theorem LD(n:Nat):Cw.enc n≠[]:=by
 unfold Cw.enc;rw[Cw.encF];split <;> simp
theorem NA(l:List Dop)(k:Nat):((l.take k).flatMap mU).length<=(l.flatMap mU).length:=by
 conv=>rhs; rw[<-aQ k l,bg,af]
 omega
theorem Jr{l:List Dop}(B:bW l 65536=0):AV l=(Cw.enc l.length++l.flatMap mU,0)/\l.length<=65536/\(∀o∈l,mR o/\bS o<=65536/\o.off<=65536/\o.len<=65536/\o.data.length<=65536)/\(l.flatMap mU).length<=90194313216:=by
 have D:=(ED B).1;have C:vQ 65536 l 0=0:=by unfold bW at B; rwa[if_neg Zo] at B
 obtain⟨g1,g2⟩:=yO l 0 C Zo;have g3:∀o∈l,mR o/\bS o<=65536/\o.off<=65536/\o.len<=65536/\o.data.length<=65536:=fun o A=>by
  obtain⟨k1,k2,k3⟩:=g1 o A;have k4:=Et k1;refine⟨k1,k2,?_,?_,Zo⟩
  ·by_cases e:0<o.len
   ·have:=k3 e; omega
   ·rcases k1 with⟨k,_⟩ | ⟨_,k,_⟩ <;> omega
  ·by_cases e:0<o.len
   ·have:=k3 e; omega
   ·omega
 refine⟨D,Zo,g3,?_⟩;have H:∀l:List Dop,(∀o∈l,mR o/\bS o<=65536/\o.data.length<=65536)->(l.flatMap mU).length<=l.length*1376256:=by
  intro l;induction l with
  | nil=>intro _; simp
  | cons o l ih=>
   intro h;have e1:=EA (h o Zs).1 (h o Zs).2.2;have e2:=(h o Zs).2.1;have e3:=ih (fun x G=>h x (Zj G));rw[bR,af,az,rM];omega
 have E:=H l (fun o A=>⟨(g3 o A).1,(g3 o A).2.1,(g3 o A).2.2.2.2⟩);have F:l.length<=65536:=Zo;exact aC E (aC (pK 1376256 F) Zd)
theorem Da{a:Qa}{l:List Dop}{c:Nat}(hl:GIn jm 3 (w:Nat) w a l)(F0:(l.length:Int)<=1000000)(hs:∀o∈l,o.data.length<=1099511627776/\o.len<=1099511627776/\o.off<=1099511627776):
  Qh 150 #[.slice a l.length c] w (Xz (.tuple #[.string ⟨(AV l).1.toArray⟩,Yi (AV l).2]) w):=by
 have HC:=Qf (qz a l c 65536 w hl Zd Zo hs);rw[show((65536:Nat):Int)=65536 from rfl] at HC;obtain⟨R,hR⟩:=Qe (AV l);rw[<-hR];by_cases G:bW l 65536=0
 case neg=>
  have HR:Qg (R=([],bW l 65536)):=Qf (by rw[hR]; unfold AV; rw[if_pos G]);generalize bW l 65536=ce at *
  have N:(ce !=0)=true:=Zu G;generalize l.length=n at *
  clear hR hl hs G;go_enter func150,ntmps150;go_wp2_with fail;refine HC.o.mono ?_;rintro e u ⟨rfl,hb⟩;have H:=Qf hb;clear hb HC;go_wp2_with fail;go_ret2;exact⟨by rw[HR.o]; first | done | rfl,H.o⟩
 case pos=>
 obtain⟨he,E3,A1,L⟩:=Jr G;have HR:Qg (R=(Cw.enc l.length++l.flatMap mU,0)):=Qf (by rw[hR,he]);obtain⟨B1,D7,HL⟩:=Yk A1 L hl;rw[G] at HC;obtain⟨n,hn⟩:=Qe l.length;have HN:Qg (n=l.length):=Qf hn;rw[<-hn] at HC HR E3 ⊢;clear hR hl hs G he A1 L hn;have F1:(n:Int)<=65536:=Zo;go_enter func150,ntmps150;go_wp2_with fail;refine HC.o.mono ?_;rintro e u ⟨rfl,hb⟩;obtain⟨u1,O⟩:=Qe (u.alloc (.cells #[.pointer none,()] 118));obtain⟨bb,X⟩:=Qe (u:Nat);have C7:PM w u1:=O▸hb.alloc hb.size _;have B3:Qg (BW w u1 bb [] u1):=Qf (BW.start C7 (X▸hb.size) (by rw[O,X]; exact YL _ _));have B:=Qf (nO n Zo B3.o Zs);rw[aY,O] at B;have HU:=Qf O;clear hb C7 HC O B3;go_wp2_with fail;rw[<-X];clear X;refine B.o.mono ?_;rintro e u2 ⟨rfl,Q⟩;rw[<-HU.o] at Q;obtain⟨B5,B6⟩:=Yj (aG n) (LD n);generalize Cw.enc n=E at Q HR B5 B6;clear B HU;go_wp2;go_loopw [23] (fun i wr=>∃(k:Nat) (w0:World),k<=n/\i=Yi (k:Int)/\Qg (BW w w0 bb (E++(l.take k).flatMap mU) wr)) (fun i _=>n-(intOf i).toNat)
 case atStart=>exact⟨0,u1,Zo,rfl,Qf (Zu Q.out)⟩
 clear Q;obtain⟨k,w0,hk,rfl,H⟩:=hrel;have hT:((E++(l.take k).flatMap mU).length:Int)<=90194313226:=by
  have h1:=NA l k;have h2:=D7.o;have h3:=B5.o;rw[af];omega
 by_cases E1:k<n
 ·have E0:(k:Int)<(n:Int):=Zo;have A7:k<l.length:=HN.o▸E1;obtain⟨b0,o0,D9,E9,q0,q1,q2⟩:=xX (HL.o.below H.o.bel nr) A7;obtain⟨g1,g2,g3,g4,g5⟩:=B1.o _ (ak A7);have D0:(l.take (k+1)).flatMap mU=(l.take k).flatMap mU++mU l[k]:=by rw[ai A7,bg]; simp
  have M:=aG l[k].len;have C9:=aG l[k].off;generalize l[k]=x at *
  obtain⟨A6,A2,data⟩:=x;simp only at q0 q1 q2 g3 g4 g5 M C9;have V:=Qf D0;generalize (l.take k).flatMap mU=F at H V hT;obtain⟨F2,A4⟩:=Qe ((l.take (k+1)).flatMap mU);rw[<-A4] at V;have Z:Qg ((l.take (k+1)).flatMap mU=F2):=Qf A4.symm;clear A4;obtain⟨T,A5⟩:=Qe (E++F);rw[<-A5] at H hT;have B9:=Qf A5;obtain⟨v,hv⟩:=Qe (wr.alloc (.cells #[Yi (A6:Int),Yi (A2:Int),data] 246));have C6:PM wr v:=hv▸(bf _).alloc nr _;have A9:BK wr #[Yi (A6:Int),Yi (A2:Int),data] 246 v:=hv▸BK.new _ _ _;have B4:=Qf (H.o.below C6).anew;have N:(wr:Nat)≠bb:=by
   have:=yQ H.o.bld;omega
  have C1:Qg (∀T' W',BW w v bb T' W'->BK wr #[Yi (A6:Int),Yi (A2:Int),data] 246 W'):=Qf (fun T' W' h=>h.block A9 N Zd);obtain⟨B,U⟩:=Yj (nO A2 Zo B4.o Zo) (fun W=>lW ⟨A6,A2,data⟩ W);simp only[Dop.val] at U;have C8:mU ⟨A6,A2,data⟩=Cw.enc A2++(if cZ ⟨A6,A2,data⟩=true then Cw.enc A6 else(putT data).1):=rfl;have K:Qg (F2=F++(Cw.enc A2++(if cZ ⟨A6,A2,data⟩=true then Cw.enc A6 else(putT data).1))):=Qf (by rw[V.o,C8]);generalize cZ ⟨A6,A2,data⟩=cb at U K;obtain⟨c0,c1,c2⟩:=BK.c3 A9;rw[hv] at B c0 c1 c2;obtain⟨HV,Y,B8⟩:=Yk hv M hT;subst D9;clear C6 A9 hv D0 C8 V g1 g2 H B4 A5 M hT;go_wp2_with fail;refine B.o.mono ?_;rintro e u3 ⟨rfl,C⟩;rw[<-HV.o] at C;have D4:=C1.o _ _ C.out;obtain⟨d0,d1,d2⟩:=BK.c3 D4;clear D4 B c0 c1 c2 HV;go_wp2_with fail;refine(U.o _).mono ?_;rintro e u4 ⟨rfl,C4⟩;have I:=Qf (C.out.below C4);have D5:=C1.o _ _ I.o;obtain⟨c0,c1,c2⟩:=BK.c3 D5;clear D5 C4 C U d0 d1 d2;cases cb with
  | true=>
   have S:Qg (F2=F++(Cw.enc A2++Cw.enc A6)):=Qf (by rw[K.o,if_pos rfl]);have B7:=Qf (nO A6 Zo I.o (by rw[af]; have:=B8.o; have:=Y.o; omega));clear K;go_wp2_with fail;refine B7.o.mono ?_;rintro e u5 ⟨rfl,J⟩;have D:Qg (BW w v bb (E++F2) u5):=Qf (by rw[S.o,<-ay,<-ay,<-B9.o]; exact J.o);clear J B7 c0 c1 c2 I;go_wp2;go_roundw
   case rel=>exact⟨k+1,v,Zo,Zg,Z.o▸D⟩
   case measure=>exact Yr
  | false=>
   have D1:(putT data).1=fF data:=by unfold putT fF; rw[if_pos g5]
   have S:Qg (F2=F++(Cw.enc A2++fF data)):=Qf (by rw[K.o,if_neg Zs,D1]);have A3:=Qf (wM data g5 u4);have A8:(fF data).length<=65546:=by unfold fF; rw[af]; have:=aG data.length; omega
   generalize fF data=P at S A3 A8;have D8:=Qf A8;clear K D1 A8;go_wp2_with fail;refine A3.o.mono ?_;rintro e u5 ⟨rfl,C5⟩;have J:=Qf (I.o.below C5);have C0:=Qf (cz J.o P (by rw[af]; have:=B8.o; have:=Y.o; have:=D8.o; omega));clear C5 A3 c0 c1 c2 I;go_wp2_with fail;refine C0.o.mono ?_;rintro e u6 ⟨rfl,B2⟩;have D:Qg (BW w v bb (E++F2) u6):=Qf (by rw[S.o,<-ay,<-ay,<-B9.o]; exact B2.out);clear B2 J C0;go_wp2;go_roundw
   case rel=>exact⟨k+1,v,Zo,Zg,Z.o▸D⟩
   case measure=>exact Yr
 ·obtain rfl:k=n:=Zo;have E0:¬(k:Int)<(k:Int):=Zo;have D2:l.take k=l:=ag (Zh HN.o);rw[D2] at H;have D:Qg (R=(E++l.flatMap mU,0)):=HR;have N:E++l.flatMap mU≠[]:=by have:=B6.o; simp[this]
  have A0:=Qf (vC H.o N);generalize E++l.flatMap mU=T at A0 D;clear H D2 hT N HR;go_wp2_with fail;refine A0.o.mono ?_;rintro e u3 ⟨rfl,C⟩;go_wp2_with fail;go_ret2;exact⟨by rw[D.o]; first | done | rfl,C.out.bel⟩
theorem O4:(prog.info? 195).map (fun i=>(i.zero,i.size,i.bytes))=some (some (.agg #[.bool false,Yu 0,Yu 0,Ye,Yi 0]),5,48):=Zk
theorem Ns(n:Nat):madeCells #[.bool false,Yu 0,Yu 0,Ye,Yi 0] (n*5)=(gcs vJ (List.replicate n ⟨false,(0,0),[],0⟩)).toArray:=by
 apply Array.ext
 ·rw[size_madeCells]; simp[xq IB]
 ·intro k B F;rw[size_madeCells] at B;have E:k/5<n:=Zo;have A:=uF IB (List.replicate n (⟨false,(0,0),[],0⟩:Chc)) (k/5) (Zu E) (k%5) Zo;rw[show k/5*5+k%5=k by omega] at A;rw[List.getElem_replicate] at A;have C:(madeCells #[.bool false,Yu 0,Yu 0,Ye,Yi 0] (n*5))[k]=(#[.bool false,Yu 0,Yu 0,Ye,Yi 0]:Array Value)[k%5]!:=by
   unfold madeCells;simp
  rw[C];simp only[List.getElem_toArray];have D:=(XO.1 (A.trans (XH (by simp[vJ]; omega)))).2;rw[D];rcases(by omega:k%5=0\/k%5=1\/k%5=2\/k%5=3\/k%5=4) with h | h | h | h | h <;> simp[h,vJ]
theorem sZ{c:Code}{a:Act}(h:c.wpIn F n P (Exit.then (fun a w=>Q .normal a w) (fun _ _ _=>False)) a w):c.wpIn F n P Q a w:=
 wpIn_mono h (fun e a w A=>by
  cases e with
  | normal=>exact A
  | ret=>exact A.elim
  | exit i=>exact A.elim
  | goto t=>exact A.elim
  | panic ch=>exact A.elim
  | outgrown=>exact A.elim)
theorem tC{a:Act}(h:Q .normal a w):Exit.then (fun a w=>Q .normal a w) (fun _ _ _=>False) .normal a w:=h
structure ChI (w:World) (la:Qa) (lc n mb:Nat) (L:List Chc) (W:World):Prop where
 row:BK ((w:Nat)+2) (gcs vJ L).toArray 195 W
 bb:BK ((w:Nat)+3) #[.slice (some ⟨(w:Nat)+2,0,none⟩) n n] 140 W
 lx:BK w #[.slice la n lc] 24 W
 dx:BK ((w:Nat)+1) #[.map (some mb)] 138 W
 bel:PM w W
section
variable {w W W':World} {la:Qa} {lc n mb:Nat} {L:List Chc}
theorem ChI.below(h:ChI w la lc n mb L W)(A:PM W W'):ChI w la lc n mb L W':=⟨h.row.below A,h.bb.below A,h.lx.below A,h.dx.below A,(XT h.bel A)⟩
theorem EQ{t:TypeId}{l:Nat}(h:BK b cs t W)(A:W.heap[l]? = some o)(B:o.isCells=false):BK b cs t (W.putObj l o'):=
 (YM (fun e=>by rw[<-e,show W.heap[b]? = _ from h] at A; cases A; cases B)).trans h
theorem ChI.putObj(h:ChI w la lc n mb L W){l:Nat}(C:(w:Nat)<=l)(A:W.heap[l]? = some o)(B:o.isCells=false):ChI w la lc n mb L (W.putObj l o'):=
 ⟨EQ h.row A B,EQ h.bb A B,EQ h.lx A B,EQ h.dx A B,vD h.bel C⟩
theorem ChI.set(h:ChI w la lc n mb L W){i:Nat}(C:i<L.length)(c:Chc){X:World}
  (B:X=((((W.setCell ⟨(w:Nat)+2,i*5,none⟩ (.bool c.sm)).setCell ⟨(w:Nat)+2,i*5+1,none⟩ (Yu c.b.1)).setCell ⟨(w:Nat)+2,i*5+2,none⟩ (Yu c.b.2)).setCell ⟨(w:Nat)+2,i*5+3,none⟩ (.string ⟨c.tx.toArray⟩)).setCell ⟨(w:Nat)+2,i*5+4,none⟩ (Yi (c.sz:Int))) :
  ChI w la lc n mb (L.set i c) X/\W.grownBy X (some ((w:Nat)+2)):=by
 have A:W.grownBy X (some ((w:Nat)+2)):=B▸fM (fM (fM (fM (dN _ _ _ _) _ _) _ _) _ _) _ _;refine⟨⟨B▸Pm h.row C c,h.bb.grow1 A Zo,h.lx.grow1 A Zo,h.dx.grow1 A Zo,?_⟩,A⟩;exact h.bel.grown A h.bel.size (fun k e=>by cases e; omega)
theorem ChI.set0(h:ChI w la lc n mb L W)(C:i<L.length):ChI w la lc n mb (L.set i { L[i] with sm:=false }) (W.setCell ⟨(w:Nat)+2,i*5,none⟩ (.bool false))/\W.grownBy (W.setCell ⟨(w:Nat)+2,i*5,none⟩ (.bool false)) (some ((w:Nat)+2)):=by
 have A:=dN W ((w:Nat)+2) (i*5) (.bool false);refine⟨⟨?_,h.bb.grow1 A Zo,h.lx.grow1 A Zo,h.dx.grow1 A Zo,?_⟩,A⟩
 ·have B:=h.row.set (i*5+0) (.bool false);rw[dR,yA IB L i C 0 (.bool false) { L[i] with sm:=false } Zd rfl] at B;exact B
 ·exact h.bel.grown A h.bel.size (fun k e=>by cases e; omega)
theorem ChI.cells(h:ChI w la lc n mb L W)(B:i<L.length):∀j v,(vJ L[i])[j]? = some v->W.cell? ⟨(w:Nat)+2,i*5+j,none⟩=some v:=by
 intro j v A;have C:j<5:=by have:=(XO.1 A).1; simpa[vJ] using this
 rw[h.row.cell];simp only[List.getElem?_toArray];rw[uF IB L i B j C,A]
theorem ChI.end_(h:W.grownBy W' (some ((w:Nat)+2)))(E:BK ((w:Nat)+2) (gcs vJ L).toArray 195 W)(B:∀k,K k->k<(W:Nat)/\k≠(w:Nat)+2){m':Nat}(H:(w:Nat)+2<m)(C:m'<=(W:Nat)):
  KeepsOthers W W'/\cO K W W'/\∀k o,m<=k->k<m'->W.heap[k]? = some o->ku o->W'.heap[k]? = some o:=by
 refine⟨⟨h.size,fun k o A D=>(h.block k (XA.1 A).1 (fun e=>?_)).trans A⟩,⟨h.os,h.tape,h.output,h.size,fun k A=>h.block k (B k A).1 (fun e=>(B k A).2 (XP e))⟩,fun k o F G A _=>(h.block k Zo (fun e=>by cases e; omega)).trans A⟩;cases e;rw[show W.heap[(w:Nat)+2]? = _ from E] at A;cases A; cases D
end
section
attribute [local go_sem] Oper.semAt_some
theorem Fp(n:Nat)(F:n<=1000)(W:World):(Instr.makeSlice 140 (Yi (n:Int)) (Yi (n:Int))).run prog W=.ok (.slice W n n) (W.alloc (.cells (gcs vJ (List.replicate n ⟨false,(0,0),[],0⟩)).toArray 195)):=by
 obtain⟨i0,E,C,B,D⟩:=XR O4;have h:=run_makeSlice (P:=prog) W 140 195 i0 _ underlying140 E C .i64 .i64 (n:Int) (n:Int) Zo (rP _) (by rw[B]; simp; omega) (Zy D) Zo;rw[B,aj] at h;rw[h,<-Ns n];rfl
structure Py (xs:List Itm) (l base:Qd) (la ba:Qa) (mb nm:Nat) (w:World):Prop where
 ld:dE w w la l
 bd:dE w w ba base
 mp:fT vH mb nm (GN xs) w
 okl:∀d∈l,OkD d
 okb:∀d∈base,OkD d
 nl:l.length<=1000
 nb:(base.length:Int)<=1000000
 dl:∀d∈l,(gL xs d).length<=1000
 db:∀d∈base,(gL xs d).length<=1000
 src:∀x∈vB l base,x.2≠l.length->gL xs x.1=[2,0]
theorem vS(la ba:Qa)(nl lc nb bc mb:Nat)(w:World):Qh 148 #[.slice la nl lc,.slice ba nb bc,.map (some mb)] w fun e w'=>e=.returned (.func (.func 185) #[] #[.pointer (some ⟨(w:Nat)+1,0,none⟩),.pointer (some ⟨(w:Nat)+2,0,none⟩),.pointer w])/\
  w'=((w.alloc (.cells #[.slice la nl lc] 24)).alloc (.cells #[.slice ba nb bc] 24)).alloc (.cells #[.map (some mb)] 138):=by
 go_enter func148,ntmps148;go_wp2;go_ret;exact⟨rfl,rfl⟩
def LC(xs:List Itm)(l base:Qd):List Chc:=(List.range l.length).map fun i=>vT xs (l.getD i (0,0)) (pkO xs (l.getD i (0,0)) (base++l.take i))
theorem Jp{pre:List Cd}(h:∀i,i<l.length->visC pre i=base++l.take i):EK xs l pre=LC xs l base:=by
 unfold EK LC;refine rO (fun i A=>?_);unfold BN;rw[h i (List.mem_range.1 A)]
theorem Jq(xs:List Itm)(l base:Qd):EK xs l (vB l base)=LC xs l base:=Jp (fun i _=>zg base l i)
theorem Bj:∀(l:Qd) (k:Nat),∀x∈dU l k,x.1∈l/\x.2<=k+l.length
 | [],k,x,h=>by simp[dU] at h
 | d::l,k,x,h=>by
  rw[dU] at h;rcases XG.1 h with rfl | h
  ·exact⟨Zs,Zs⟩
  ·obtain⟨A,B⟩:=Bj l (k+1) x h;exact⟨Zj A,Zy az⟩
theorem JO{x:Cd}(h:x∈vB l base):(x.1∈base\/x.1∈l)/\x.2<=l.length:=by
 unfold vB at h;rcases aD.1 h with h | h
 ·obtain⟨d,B,rfl⟩:=bV.1 h;exact⟨.inl B,Q6 _⟩
 ·obtain⟨A,C⟩:=Bj l 0 x h;exact⟨.inr A,Zo⟩
theorem Pn(A:PM w w'):w.grownBy w' (some b):=⟨A.os,A.tape,A.output,A.size,fun k B _=>A.block k B⟩
theorem O7{u x y:World}(h:u.grownBy x (some b))(g:PM x y):u.grownBy y (some b):=bu h ⟨g.os,g.tape,g.output,g.size,fun k A _=>g.block k A⟩
def sG(xs:List Itm)(l base:Qd)(k:Nat):List Chc:=(List.range l.length).map fun j=>if j<k then Km xs (l.getD j (0,0)) (vT xs (l.getD j (0,0)) (pkO xs (l.getD j (0,0)) (base++l.take j))) else vT xs (l.getD j (0,0)) (pkO xs (l.getD j (0,0)) (base++l.take j))
theorem Ls:(sG xs l base k).length=l.length:=by simp[sG]
theorem yD(xs:List Itm)(l base:Qd)(k:Nat){j:Nat}(h:j<(sG xs l base k).length):(sG xs l base k)[j]=if j<k then Km xs (l.getD j (0,0)) (vT xs (l.getD j (0,0)) (pkO xs (l.getD j (0,0)) (base++l.take j))) else vT xs (l.getD j (0,0)) (pkO xs (l.getD j (0,0)) (base++l.take j)):=by simp[sG]
theorem NE(xs:List Itm)(l base:Qd)(h:k<(sG xs l base k).length):(sG xs l base k)[k]=vT xs (l.getD k (0,0)) (pkO xs (l.getD k (0,0)) (base++l.take k)):=by rw[yD,if_neg Zo]
theorem Ji(xs:List Itm)(l base:Qd):sG xs l base 0=LC xs l base:=by
 unfold sG LC;exact rO (fun j _=>if_neg Zo)
theorem Lt(h:l.length<=k):sG xs l base k=Gg xs l base:=by
 unfold sG Gg;exact rO (fun j A=>if_pos (Zh (List.mem_range.1 A)))
theorem Jj(xs:List Itm)(l base:Qd)(k:Nat):sG xs l base (k+1)=(sG xs l base k).set k (Km xs (l.getD k (0,0)) (vT xs (l.getD k (0,0)) (pkO xs (l.getD k (0,0)) (base++l.take k)))):=by
 refine List.ext_getElem (by simp[sG]) (fun j C A=>?_);have B:j<(sG xs l base k).length:=Zu A;rw[List.getElem_set,yD,yD _ _ _ _ B];by_cases e:k=j
 ·subst e; rw[if_pos Zo,if_pos rfl]
 ·rw[if_neg e];by_cases e2:j<k
  ·rw[if_pos Zo,if_pos e2]
  ·rw[if_neg Zo,if_neg e2]
theorem Gt{lc bc mb nm:Nat}(hp:Py xs l base la ba mb nm w):
  Qh 94 #[.slice la l.length lc,.slice ba base.length bc,.map (some mb)] w fun e w'=>e=.returned (.slice (some ⟨(w:Nat)+2,0,none⟩) l.length l.length)/\Qg (GIn vJ 5 w'.heap.size w' (some ⟨(w:Nat)+2,0,none⟩) (Gg xs l base))/\PM w w':=by
 refine(XV (n:=5)).1 ?_;refine callsIn_of_wp_marks func94 rfl trivial ?_ rfl;simp only[ntmps94,nU,az,aK,Nat.reduceAdd,Nat.reduceSub,jg,je,nV,jT,aY,bz];have HP:=Qf hp;obtain⟨n,hn⟩:=Qe l.length;obtain⟨nb,E6⟩:=Qe base.length;have HN:Qg (n=l.length):=Qf hn;have P1:Qg (nb=base.length):=Qf E6;have M5:n<=1000:=by rw[hn]; exact hp.nl
 have P5:(n:Int)<=1000:=by omega
 rw[<-hn,<-E6];have I5:=Fp n M5;obtain⟨RZ,H7⟩:=Qe ((gcs vJ (List.replicate n (⟨false,(0,0),[],0⟩:Chc))).toArray);rw[<-H7] at I5;obtain⟨w1,U⟩:=Qe ((((w.alloc (.cells #[.slice la n lc] 24)).alloc (.cells #[.map (some mb)] 138)).alloc (.cells RZ 195)).alloc (.cells #[.slice (some ⟨(w:Nat)+2,0,none⟩) n n] 140));have D2:(w1:Nat)=(w:Nat)+4:=by rw[U]; simp
 have T:PM w w1:=by rw[U]; exact((((bf _).alloc nr _).alloc (by simp) _).alloc (by simp; omega) _).alloc (by simp; omega) _
 have F1:ChI w la lc n mb (EK xs l []) w1:=by
  refine⟨?_,?_,?_,?_,T⟩
  ·rw[LV,<-hn,<-H7,U]; exact(BK.new3 _ _ _ _ _).alloc _
  ·rw[U]; exact BK.new4 _ _ _ _ _ _
  ·rw[U]; exact((BK.new _ _ _).alloc _).alloc _ |>.alloc _
  ·rw[U]; exact((BK.new2 _ _ _ _).alloc _).alloc _
 obtain⟨w2,A5⟩:=Qe (((w1.alloc (.cells #[.slice la n lc] 24)).alloc (.cells #[.slice ba nb bc] 24)).alloc (.cells #[.map (some mb)] 138));have A3:PM w1 w2:=by rw[A5]; exact(((bf _).alloc nr _).alloc (by simp) _).alloc (by simp; omega) _
 have O3:(w2:Nat)=(w1:Nat)+3:=by rw[A5]; simp
 have L:Qg (ChI w la lc n mb (EK xs l []) w2):=Qf (F1.below A3);have I:=(XT T A3);have L6:Mj xs l base (fun k=>k<(w2:Nat)/\k≠(w:Nat)+2) (w:Nat) ((w:Nat)+5) ((w:Nat)+6) ((w:Nat)+4) mb nm ba la bc lc w2:=by
  refine⟨?_,?_,?_,hp.bd.below I nr,hp.ld.below I nr,hp.mp.below_lt I hp.mp.lt,hp.okb,hp.okl,⟨by omega,by omega,by omega,?_⟩,fun k hk=>⟨by omega,by omega⟩⟩
  ·rw[<-E6];have:BK ((w1:Nat)+1) #[.slice ba nb bc] 24 w2:=by rw[A5]; exact(BK.new2 _ _ _ _).alloc _
   rw[D2] at this;exact this.c1
  ·have:BK ((w1:Nat)+2) #[.map (some mb)] 138 w2:=by rw[A5]; exact BK.new3 _ _ _ _ _
   rw[D2] at this;exact this.c1
  ·rw[<-hn];have:BK w1 #[.slice la n lc] 24 w2:=by rw[A5]; exact((BK.new _ _ _).alloc _).alloc _
   rw[D2] at this;exact this.c1
  ·have:=hp.mp.lt; exact⟨by omega,by omega⟩
 have G3:=Qf (JN L6 (fun k hk=>hk.1) (by rw[<-hn]; omega) hp.nb 4 (by omega));have H2:Qg ((w1:Nat)=(w:Nat)+4/\(w2:Nat)=(w:Nat)+7):=Qf ⟨D2,by omega⟩;have D6:=Qf (vS la ba n lc nb bc mb w1);rw[<-A5] at D6;have M4:(Instr.makeSlice 140 (Yi (n:Int)) (Yi (n:Int))).run prog ((w.alloc (.cells #[.slice la n lc] 24)).alloc (.cells #[.map (some mb)] 138))=.ok (.slice (some ⟨(w:Nat)+2,0,none⟩) n n) (((w.alloc (.cells #[.slice la n lc] 24)).alloc (.cells #[.map (some mb)] 138)).alloc (.cells RZ 195)):=by
  have:=I5 ((w.alloc (.cells #[.slice la n lc] 24)).alloc (.cells #[.map (some mb)] 138));simpa using this
 rw[U] at D6;have P2:=Qf U;clear hp hn E6 I5 H7 D2 T F1 A5 A3 O3 I L6 U;gi_wp2;refine⟨trivial,?_⟩;refine(XV.2 D6.o).mono ?_;rintro e u ⟨rfl,rfl⟩;clear D6 M4;gi_wp2;have P0:=Qf M5;refine nX (α:=Cd) (bs:=8) 200 (cdCs xs) rfl (by omega) rfl trivial (enters_of func185 (by kernel_rfl) rfl) (K:=fun k=>k<(u:Nat)/\k≠(w:Nat)+2) (fun k hk=>hk.1) G3.o
  (fun A0 W=>ChI w la lc n mb (EK xs l A0) W/\(u:Nat)<=W.heap.size) (fun W=>ChI w la lc n mb (LC xs l base) W) 0 (fun s W W' h hb=>⟨h.1.below hb,aC h.2 hb.size⟩) (fun W W' h hb=>h.below hb) (fun s W l o o' hl I2 ho h=>⟨h.1.putObj (by have:=H2.o; omega) I2 ho,by simpa using h.2⟩) (fun W l o o' hl I2 ho h=>h.putObj (by have:=H2.o; omega) I2 ho) ⟨L.o,nr⟩ (fun W h=>by rw[<-Jq]; exact h.1) ?assign ?body ?tail
 case assign=>
  intro lp x W;simp only[dR,List.set_cons_zero,List.set_cons_succ];obtain⟨⟨x1,x2⟩,f⟩:=x;simp only[JM,cdCs];gi_wp2;refine⟨?_,?_⟩ <;> first | trivial | rfl
 case tail=>
  intro D W hD hJ hK;have K3:=Qf hK;have K2:Qg (ChI w la lc n mb (sG xs l base 0) W):=Qf (by rw[Ji]; exact hJ);have N3:Qg ((w:Nat)<=D):=Qf (by have:=H2.o; omega);have A6:=hJ.lx.c1;clear hJ hK G3 L;gi_wp2;gi_loopw [84] (fun i wr=>∃(k:Nat),k<=n/\i=Yi (k:Int)/\Qg (ChI w la lc n mb (sG xs l base k) wr)/\Qg (wr.heap[D]? = some (.deferred (some [])))) (fun i _=>n-(intOf i).toNat)
  case atStart=>exact⟨0,by omega,rfl,K2,K3⟩
  clear K2 K3 A6;obtain⟨k,hk,rfl,HJ,HK⟩:=hrel;by_cases I3:k<n
  ·have E4:(k:Int)<(n:Int):=by omega
   have N:k<l.length:=by rw[<-HN.o]; exact I3
   have F3:=HJ.out.bel;obtain⟨b0,o0,H8,B0,q0,q1⟩:=(HP.o.ld.below F3 nr) k N;have C9:=HP.o.okl _ (ak N);have I0:=HP.o.dl _ (ak N);have C8:l.getD k (0,0)=l[k]:=by simp[List.getD,N]
   have E3:k<(sG xs l base k).length:=by rw[Ls]; exact N
   have Y:=NE xs l base E3;have E:=Jj xs l base k;rw[C8] at Y E;have E2:=HJ.out.cells E3;rw[Y] at E2;generalize l[k]=d at *
   obtain⟨x,y⟩:=d;simp only at q0 q1;obtain⟨v,hv⟩:=Qe ((wr.alloc (.cells #[Yu x,Yu y] 54)).drew);have M:PM wr v:=by rw[hv]; exact((bf _).alloc nr _).drew
   have B:=HJ.out.below M;have N1:BK wr #[Yu x,Yu y] 54 v:=by
    have:BK wr #[Yu x,Yu y] 54 (wr.alloc (.cells #[Yu x,Yu y] 54)):=BK.new _ _ _;rw[hv]; exact this
   obtain⟨e,he⟩:=Qe (vT xs (x,y) (pkO xs (x,y) (base++l.take k)));rw[<-he] at Y E E2;have N9:(e.sz:Int)<=1000000:=by
    rw[he];cases O1:pkO xs (x,y) (base++l.take k) with
    | none=>simp[vT]
    | some p=>
     obtain⟨b,z⟩:=p;obtain⟨m1,m2⟩:=Ie O1;simp only[vT];rw[m2,GZ];have hb:(gL xs b).length<=1000:=by
      rcases aD.1 m1 with h | h
      ·exact HP.o.db _ h
      ·exact HP.o.dl _ (dK h)
     have:=(yJ (a:=gL xs b) (b:=gL xs (x,y)) (by omega) (by omega)).2.1;have h2:=aG (txD xs (x,y) b).length;unfold txD at h2 ⊢;unfold fF;rw[af];omega
   have L5:=(M.cell (p:=⟨(w:Nat)+2,k*5+4,none⟩) HJ.out.row.lt).trans (E2 4 _ rfl);have Q:=Qf (qN (gL xs (x,y)).length (by omega) v);have M7:=bH (gL xs (x,y));obtain⟨tz,J1⟩:=Qe ((fF (gL xs (x,y))).length);rw[show(Cw.enc (gL xs (x,y)).length).length+(gL xs (x,y)).length=tz by rw[J1]; unfold fF; rw[af]] at Q;have N0:IntKind.i64.wrap ((e.sz:Int)+16)=((e.sz+16:Nat):Int):=by rw[wrap_i64 (by omega) (by omega)]; omega
   obtain⟨es,I1⟩:=Qe (e.sz+16);rw[<-I1] at N0;have L8:Km xs (x,y) e=if tz<=es then { e with sm:=false } else e:=by unfold Km; rw[J1,I1]
   rw[L8] at E;have F:Qg (∀Wx,PM v Wx->Wx.cell? ⟨(w:Nat)+3,0,none⟩=some (.slice (some ⟨(w:Nat)+2,0,none⟩) n n)/\Wx.cell? ⟨(w:Nat)+2,k*5+4,none⟩=some (Yi (e.sz:Int))/\Wx.cell? ⟨(w:Nat)+1,0,none⟩=some (.map (some mb))/\Wx.cell? wr=some (Yu x)/\Wx.cell? ⟨wr,1,none⟩=some (Yu y)/\(Instr.lookup 138 (.map (some mb)) (.agg #[Yu x,Yu y]) false).run prog Wx=.ok (.string ⟨(gL xs (x,y)).toArray⟩) Wx):=Qf (fun Wx hb=>by
    have h1:=B.below hb;have h2:=N1.below hb;have h3:=(HP.o.mp.below_lt h1.bel HP.o.mp.lt).look underlying138 (xI Wx) (a:=(x,y)) C9;rw[sM] at h3;exact⟨h1.bb.c1,(hb.cell (p:=⟨(w:Nat)+2,k*5+4,none⟩) B.row.lt).trans L5,h1.dx.c1,(BK.c2 h2).1,(BK.c2 h2).2,h3⟩)
   have A4:=F.o v (bf _);obtain⟨L,J8⟩:=Yj B E;have G1:Qg (∀h,(sG xs l base k)[k]'h=e):=Qf (fun _=>Y);have E0:Qg (k<(sG xs l base k).length):=Qf E3;have K4:Qg (v.heap[D]? = some (.deferred (some []))):=Qf ((M.block D (XA.1 HK.out).1).trans HK.out);have HV:=Qf hv;obtain⟨ez,F5⟩:=Qe e.sz;rw[<-F5] at N0 A4 F;generalize (gL xs (x,y)).length=dl at *
   subst H8;clear M N1 hv he E2 L5 J1 I1 L8 B Y E F3 C9 I0 C8 E3 HJ HK F5 N9;have P3:(k:Int)<(n:Int):=E4;rw[HV.o] at A4 Q;gi_wp2;refine sZ ?_;refine wpIn_wide.2 ?_;refine wp_region_held_drew (S:=(fun Wx=>Wx.cell? ⟨(w:Nat)+3,0,none⟩=some (.slice (some ⟨(w:Nat)+2,0,none⟩) n n)/\Wx.cell? ⟨(w:Nat)+2,k*5+4,none⟩=some (Yi (ez:Int))/\Wx.cell? ⟨(w:Nat)+1,0,none⟩=some (.map (some mb))/\Wx.cell? wr=some (Yu x)/\Wx.cell? ⟨wr,1,none⟩=some (Yu y)/\(Instr.lookup 138 (.map (some mb)) (.agg #[Yu x,Yu y]) false).run prog Wx=.ok (.string ⟨(gL xs (x,y)).toArray⟩) Wx)) (by kernel_rfl) A4 (fun hHeld=>?_);refine Xx 0 ?_;refine Xx 1 ?_;refine Xx 2 ?_;refine Xx 3 ?_;refine Xx 4 ?_;refine Xx 5 ?_;refine Xx 6 ?_;refine Xx 7 ?_;refine Xx 8 ?_;refine Xx 9 ?_;refine wpAnyH_ready (rs:=[10]) (by kernel_rfl) (by simp) ?_;refine AllReadyH.cons rfl (fun K hK=>?_) AllReadyH.nil;go_simp;refine Q.o.mono ?_;rintro e2 uz ⟨rfl,X⟩;rw[<-HV.o] at X;have B3:=F.o uz X;have A8:=Qf X;clear X hHeld A4 Q HV;refine hK.out _ _ (B3) (fun hHeld=>?_);clear hK K;refine Xx 11 ?_;refine wpAnyH_done (by kernel_rfl) ?_ _;refine tC ?_;have V:=L.o.below A8.o;have A2:uz.heap[D]? = some (.deferred (some [])):=(A8.o.block D (XA.1 K4.o).1).trans K4.o;clear hHeld F;by_cases M1:tz<=es
   ·have B2:(tz:Int)<=(es:Int):=by omega
    obtain⟨r1,r2⟩:=V.set0 E0.o;simp only[G1.o] at r1;have E:=J8.o;rw[if_pos M1] at E;rw[<-E] at r1;have H0:=Qf r1;have G6:Qg ((uz.setCell ⟨(w:Nat)+2,k*5,none⟩ (.bool false)).heap[D]? = some (.deferred (some []))):=Qf ((r2.block D (XA.1 A2).1 (fun e=>by cases e; rw[show uz.heap[(w:Nat)+2]? = _ from V.row] at A2; cases A2)).trans A2);have P6:=V.row.frozen (k*5);have O2:uz.cell? ⟨(w:Nat)+2,k*5,none⟩=some (.bool ((sG xs l base k)[k]'E0.out).sm):=V.cells E0.o 0 _ rfl;have C5:=V.bb.c1;rw[G1.o] at O2;clear V A2 r1 r2 E B3;gi_wp2;go_roundw
    case rel=>exact⟨k+1,by omega,by go_num,H0,G6⟩
    case measure=>exact Yr
   ·have B2:¬(tz:Int)<=(es:Int):=by omega
    have E:=J8.o;rw[if_neg M1] at E;have H0:Qg (ChI w _ lc n mb (sG xs l base (k+1)) uz):=Qf (by
     have e1:(sG xs l base k).set k e=sG xs l base k:=by
      rw[<-G1.o E0.o];exact List.set_getElem_self _
     rw[E,e1];exact V)
    have G6:=Qf A2;clear V A2 E B3;gi_wp2;go_roundw
    case rel=>exact⟨k+1,by omega,by go_num,H0,G6⟩
    case measure=>exact Yr
  ·obtain rfl:k=n:=by omega
   have E4:¬(k:Int)<(k:Int):=by omega
   have Y:=Lt (xs:=xs) (base:=base) (l:=l) (k:=k) (by rw[<-HN.o]; exact nr);rw[Y] at HJ;have C5:=HJ.out.bb.c1;have E1:=HJ.out.putObj (o':=.deferred none) N3.o HK.out rfl;have HG:Qg (GIn vJ 5 (wr.putObj D (.deferred none)).heap.size (wr.putObj D (.deferred none)) (some ⟨(w:Nat)+2,0,none⟩) (Gg xs l base)):=Qf (by
    intro i hi;refine⟨(w:Nat)+2,0,rfl,E1.row.lt,fun j v hv=>?_⟩;rw[aZ];exact E1.cells hi j v hv)
   obtain⟨N2,N4⟩:=Yj E1.bel HK.out;clear Y E1 HJ HK;gi_wp2;refine⟨by simp,.inl ⟨_,_,rfl,run_takeDeferred N4.o,?_⟩⟩;exact⟨_,by simp[results,results94,go_sem],rfl,HG,N2.o⟩
 case body=>
  intro lp A0 x W0 Wy W hl E7 hJ B0 K8 K9 B1;simp only[dR,List.set_cons_zero,List.set_cons_succ];obtain⟨⟨x1,x2⟩,f⟩:=x;obtain⟨H6,O5⟩:=hJ;have H9:=JO (l:=l) (base:=base) (x:=((x1,x2),f)) (E7.subset (by simp));have E:f<=n:=by rw[HN.o]; exact H9.2
  have H5:(gL xs (x1,x2)).length<=1000:=by
   rcases H9.1 with h | h
   ·exact HP.o.db _ h
   ·exact HP.o.dl _ h
  have M0:=H6.row.lt;have C0:=Qf (H6.below B0);have O4:=B0.size;have P:Qg ((u:Nat)<=(W:Nat)/\(w:Nat)+2<(W0:Nat)/\(W0:Nat)<=(Wy:Nat)/\(Wy:Nat)<=(W:Nat)):=Qf ⟨by omega,M0,K8,K9⟩;have E9:=Qf E7;have A6:=C0.o.lx.c1;simp only[JM,cdCs] at B1 ⊢;have C6:BK Wy #[Yu x1,Yu x2,(gL xs (x1,x2)),Yi (f:Int)] 200 W:=B1;obtain⟨Z,G0,H1,C1⟩:=Yl C6 H5 (fun(h:¬f=n)=>HP.o.src ((x1,x2),f) (E7.subset (by simp)) (by rw[<-HN.o]; exact h)) (fun hs=>yf (gL xs (x1,x2)) W H5 hs);obtain⟨c0,c1,c2,c3⟩:=BK.c4 C6;clear B1 C6 H6 O5 B0 K8 K9 H9 H5 M0 O4 E7 L G3;by_cases L9:f=n
  ·subst L9;have hR:wD (fun k=>k<(u:Nat)/\k≠(w:Nat)+2) 0 (fun A0 W=>ChI w la lc f mb (EK xs l A0) W/\(u:Nat)<=W.heap.size) (fun W=>ChI w la lc f mb (LC xs l base) W) (A0++[((x1,x2),f)]) W0 Wy W (.exit 0) { tmps:=#[],defers:=[] } W:=by
    refine⟨rfl,KeepsOthers.refl W,cO.refl _ _,fun k o _ _ h _=>h,?_⟩
    show ChI w la lc f mb (LC xs l base) W;rw[<-Jp (E5 (by have:=E9.o; rw[HN.o] at this; exact this))];exact C0.o
   have HR:=Qf hR;have N8:((f:Int)==(f:Int))=true:=by simp
   clear hR C1 H1 C0 Z E9;gi_wp2;exact HR.o
  have N8:((f:Int)==(n:Int))=false:=by simp; omega
  have K5:=Qf (C1.o (H1.o L9));clear C1 H1;generalize N7:gL xs (x1,x2)=D0 at *
  gi_wp2;refine⟨trivial,?_⟩;refine(CallsIn.inRound lp (XV.2 K5.o)).mono ?_;rintro e u1 ⟨ib,rfl,HI,T⟩;obtain⟨u2,D5⟩:=Qe (u1.alloc (.cells #[.pointer ib] 203));have A3:PM u1 u2:=by rw[D5]; exact(bf _).alloc nr _
  have I:=(XT T A3);have A1:Qg (BK u1 #[.pointer ib] 203 u2):=Qf (by rw[D5]; exact BK.new _ _ _);have K1:=Qf (HI.out.below A3);have B5:Qg (ChI w la lc n mb (rD xs l A0 ((x1,x2),f) f) u2):=Qf (by
   have:=C0.o.below I;rw[<-FV xs l A0 ((x1,x2),f)] at this;exact this)
  have J9:Qg (W.grownBy u2 (some ((w:Nat)+2))):=Qf (Pn I);have B4:=Qf (Z.o.below I);have D1:=B5.o.lx.c1;have H3:Qg ((W:Nat)<=(u1:Nat)):=Qf T.size;obtain⟨sb,I8⟩:=Qe (u1:Nat);rw[<-I8] at A1 H3;have F6:=B4.o;obtain⟨e0,e1,e2,e3⟩:=BK.c4 F6;rw[D5] at e0 e1 e2 e3;have K7:=Qf D5;clear T A3 I D5 F6 K5 HI c0 c1 c2 c3 A6 Z;gi_wp2;rw[<-I8,<-K7.o];clear I8 K7 e0 e1 e2 e3;gi_loopw [10] (fun i wr=>∃(k:Nat),f<=k/\k<=n/\i=Yi (k:Int)/\Qg (ChI w la lc n mb (rD xs l A0 ((x1,x2),f) k) wr)/\Qg (W.grownBy wr (some ((w:Nat)+2)))/\Qg (pJ D0 ((W:Nat)+1) ib wr)/\Qg (BK sb #[.pointer ib] 203 wr)/\Qg (BK Wy #[Yu x1,Yu x2,D0,Yi (f:Int)] 200 wr)) (fun i _=>n-(intOf i).toNat)
  case atStart=>exact⟨f,nr,E,rfl,B5,J9,K1,A1,B4⟩
  clear B5 J9 K1 A1 B4 D1;obtain⟨k,O0,hk,rfl,L,HG,G4,A1,Z⟩:=hrel;have A6:=L.o.lx.c1;by_cases I3:k<n
  case neg=>
   obtain rfl:k=n:=by omega
   have E4:¬(k:Int)<(k:Int):=by omega
   have hR:wD (fun k=>k<(u:Nat)/\k≠(w:Nat)+2) 0 (fun A0 W=>ChI w la lc k mb (EK xs l A0) W/\(u:Nat)<=W.heap.size) (fun W=>ChI w la lc k mb (LC xs l base) W) (A0++[((x1,x2),f)]) W0 Wy W .normal { tmps:=#[],defers:=[] } wr:=by
    obtain⟨r1,r2,r3⟩:=ChI.end_ (w:=w) HG.o C0.o.row (K:=fun k=>k<(u:Nat)/\k≠(w:Nat)+2) (fun j hj=>⟨aO hj.1 P.o.1,hj.2⟩) P.o.2.1 P.o.2.2.2;refine⟨r1,r2,r3,?_,aC P.o.1 HG.o.size⟩;rw[<-KV xs l A0 ((x1,x2),f) (i:=k) (by rw[<-HN.o]; exact nr)];exact L.o
   have HR:=Qf hR;clear hR L HG G4 A1 Z;gi_wp2;exact HR.o
  case pos=>
  have E4:(k:Int)<(n:Int):=by omega
  have N:k<l.length:=by rw[<-HN.o]; exact I3
  obtain⟨b0,o0,H8,B0,q0,q1⟩:=(HP.o.ld.below L.o.bel nr) k N;have C9:=HP.o.okl _ (ak N);have I0:=HP.o.dl _ (ak N);have C8:l.getD k (0,0)=l[k]:=by simp[List.getD,N]
  have I6:k<(rD xs l A0 ((x1,x2),f) k).length:=by rw[KU]; exact N
  have I4:=Np xs l A0 ((x1,x2),f) I6;have C:=Iq xs l A0 ((x1,x2),f) (i:=k);rw[JQ O0,C8] at C;generalize l[k]=d at *
  obtain⟨y1,y2⟩:=d;simp only at q0 q1;have J0:txD xs (y1,y2) (x1,x2)=(AV (iM D0 (gL xs (y1,y2)))).1:=by unfold txD; rw[N7]
  have I9:(txS xs (y1,y2) (x1,x2)).length=(Cw.enc (txD xs (y1,y2) (x1,x2)).length).length+(txD xs (y1,y2) (x1,x2)).length:=by rw[GZ]; unfold fF; rw[af]
  obtain⟨g1,g2,g3,g4⟩:=yJ (a:=D0) (b:=gL xs (y1,y2)) (by have:=G0.o; omega) (by omega);have L7:=xA (a:=D0) (b:=gL xs (y1,y2)) (n:=65536) (by have:=G0.o; omega) (by omega) (by omega);have F2:=(Jr L7).2.2.1;have M:PM wr wr.drew:=(bf _).drew;obtain⟨D7,G5⟩:=Yj (L.o.below M) (G4.out.below M);have F9:=Qf (Hg (G5.o.of) G0.o (b:=gL xs (y1,y2)) (by omega));have D8:Qg (∀ad c uz,GIn jm 3 uz.heap.size uz ad (iM D0 (gL xs (y1,y2)))->Qh 150 #[.slice ad (iM D0 (gL xs (y1,y2))).length c] uz (Xz (.tuple #[(txD xs (y1,y2) (x1,x2)),Yi 0]) uz)):=Qf (fun ad c uz B2=>by
   have:=Da (c:=c) B2 (by omega) (fun o ho=>by obtain⟨_,_,m1,m2,m3⟩:=F2 o ho; exact⟨by omega,by omega,by omega⟩);rw[g1,<-J0] at this;exact this)
  have D3:=A1.o.below M;have F4:=Z.o.below M;have F:Qg (∀Wx,Below wr.drew.heap.size wr.drew Wx->Wx.cell? sb=some (.pointer ib)/\Wx.cell? ⟨(w:Nat)+1,0,none⟩=some (.map (some mb))/\Wx.cell? w=some (.slice la n lc)/\Wx.cell? ⟨b0,o0+k*2,none⟩=some (Yu y1)/\Wx.cell? ⟨b0,o0+k*2+1,none⟩=some (Yu y2)/\(Instr.lookup 138 (.map (some mb)) (.agg #[Yu y1,Yu y2]) false).run prog Wx=.ok (.string ⟨(gL xs (y1,y2)).toArray⟩) Wx):=Qf (fun Wx hb=>by
   have h1:=D7.o.below hb;have h2:=D3.below hb;have h3:=(HP.o.mp.below_lt h1.bel HP.o.mp.lt).look underlying138 (xI Wx) (a:=(y1,y2)) C9;rw[sM] at h3;have L3:b0<wr.drew.heap.size:=aO B0 D7.o.bel.size;exact⟨h2.c1,h1.dx.c1,h1.lx.c1,(hb.cell L3).trans q0,(hb.cell (p:=⟨b0,o0+k*2+1,none⟩) L3).trans q1,h3⟩)
  have A4:=F.o _ (bf _);obtain⟨e,he⟩:=Qe (BN xs l A0 k);rw[<-he] at I4 C;obtain⟨tx,D4⟩:=Qe (txD xs (y1,y2) (x1,x2));rw[<-D4] at D8 I9 C;have M9:tx.length<=65536:=by rw[D4,J0]; exact g2
  have Q:=Qf (fun W=>qN tx.length (by omega) W);rw[<-I9] at Q;have M7:=bH tx;generalize (txS xs (y1,y2) (x1,x2)).length=tz at Q C;generalize tx.length=D9 at Q M7;have G7:Qg (∀h,(rD xs l A0 ((x1,x2),f) k)[k]'h=e):=Qf (fun _=>I4);have G8:=Qf C;have O:Qg (k<(rD xs l A0 ((x1,x2),f) k).length):=Qf I6;have K0:Qg (W.grownBy wr.drew (some ((w:Nat)+2))):=Qf (O7 HG.o M);obtain⟨F0,E8⟩:=Yj D3 F4;generalize iM D0 (gL xs (y1,y2))=DF at F9 D8;subst H8;clear J0 I9 g1 g2 g3 g4 L7 F2 M D3 F4 I4 C I6 C9 I0 C8 he D4 M9 HG G4 A1 Z L;gi_wp2;refine sZ ?_;refine eZ (S:=(fun Wx=>Wx.cell? sb=some (.pointer ib)/\Wx.cell? ⟨(w:Nat)+1,0,none⟩=some (.map (some mb))/\Wx.cell? w=some (.slice (some ⟨b0,o0,none⟩) n lc)/\Wx.cell? ⟨b0,o0+k*2,none⟩=some (Yu y1)/\Wx.cell? ⟨b0,o0+k*2+1,none⟩=some (Yu y2)/\(Instr.lookup 138 (.map (some mb)) (.agg #[Yu y1,Yu y2]) false).run prog Wx=.ok (.string ⟨(gL xs (y1,y2)).toArray⟩) Wx)) [] lp (by kernel_rfl) (fun⟨_,_,h⟩=>h) (by kernel_rfl) A4 (fun hHeld=>?_);refine Xv 0 ?_;refine Xv 1 ?_;refine Xv 2 ?_;refine Xv 3 ?_;refine Xv 4 ?_;refine Xv 5 ?_;refine Xv 6 ?_;refine cu (i:=7) (by kernel_rfl) rfl (fun K hK=>?_);go_simp;refine F9.o.mono ?_;rintro e1 uz ⟨⟨ad,c,rfl,B2,_⟩,X⟩;have B3:=F.o uz X;obtain⟨J7,A8⟩:=Yj (D8.o ad c uz B2) X;clear X B2 hHeld F9;refine hK.out _ _ ((fun _=>B3)) (fun hHeld=>?_);clear hK K;refine cu (i:=8) (by kernel_rfl) rfl (fun K hK=>?_);go_simp;refine J7.o.mono ?_;rintro e1 uy ⟨rfl,L4⟩;have C7:=(XT A8.o L4);have M8:=F.o uy C7;have F8:=Qf C7;clear L4 C7 hHeld J7 A8 B3;refine hK.out _ _ ((fun _=>M8)) (fun hHeld=>?_);clear hK K;refine Xv 9 ?_;refine Xv 10 ?_;refine Xv 11 ?_;refine Xv 12 ?_;refine Xv 13 ?_;refine eQ (by kernel_rfl) ?_ _;refine tC ?_;have K6:=Qf (Q.o uy);clear hHeld A4 M8 F D8 Q;gi_wp2;refine⟨trivial,?_⟩;refine(CallsIn.inRound lp (XV.2 K6.o)).mono ?_;rintro e1 ux ⟨rfl,B1⟩;have R:=(XT F8.o B1);obtain⟨G,B8,C2,A9,B6⟩:=Ym (D7.o.below R) (G5.o.below R) (F0.o.below R) (E8.o.below R) (O7 K0.o R);have C5:=G.o.bb.c1;have s0:ux.cell? ⟨(w:Nat)+2,k*5,none⟩=some (.bool e.sm):=by
   have:ux.cell? ⟨(w:Nat)+2,k*5,none⟩=some (.bool ((rD xs l A0 ((x1,x2),f) k)[k]'O.out).sm):=G.o.cells O.o 0 _ rfl
   rwa[G7.o] at this
  have s4:ux.cell? ⟨(w:Nat)+2,k*5+4,none⟩=some (Yi (e.sz:Int)):=by
   have:ux.cell? ⟨(w:Nat)+2,k*5+4,none⟩=some (Yi (((rD xs l A0 ((x1,x2),f) k)[k]'O.out).sz:Int)):=G.o.cells O.o 4 _ rfl
   rwa[G7.o] at this
  have s1:∃v,ux.cell? ⟨(w:Nat)+2,k*5+1,none⟩=some v:=⟨_,G.o.cells O.o 1 _ rfl⟩;have s2:∃v,ux.cell? ⟨(w:Nat)+2,k*5+2,none⟩=some v:=⟨_,G.o.cells O.o 2 _ rfl⟩;have s3:∃v,ux.cell? ⟨(w:Nat)+2,k*5+3,none⟩=some v:=⟨_,G.o.cells O.o 3 _ rfl⟩;obtain⟨v1,s1⟩:=s1;obtain⟨v2,s2⟩:=s2;obtain⟨v3,s3⟩:=s3;have F7:=A9.o;obtain⟨c0,c1,c2,c3⟩:=BK.c4 F7;clear F7 B1 R K6 F8 D7 G5 F0 E8 K0;cases A7:e.sm with
  | false=>
   rw[A7] at s0;have B:=G.o.set O.o ⟨true,(x1,x2),tx,tz⟩ rfl;have C:=G8.o;rw[if_pos (.inl A7)] at C;have H:=Qf B.1;rw[<-C] at H;obtain⟨B7,B9,C3,C4⟩:=Yl (bu B6.o B.2) (B8.o.grown B.2 (by have:=P.o; omega)) (C2.o.grow1 B.2 (by have:=P.o; have:=H3.o; omega)) (A9.o.grow1 B.2 (by have:=P.o; omega));have J:=G.o.row;have z0:=J.frozen (k*5);have z1:=J.frozen (k*5+1);have z2:=J.frozen (k*5+2);have z3:=J.frozen (k*5+3);have z4:=J.frozen (k*5+4);simp only at H B7 B9 C3 C4;clear B C J G B6 B8 C2 A9;gi_wp2;go_roundw
   case rel=>exact⟨k+1,by omega,by omega,by go_num,H,B7,B9,C3,C4⟩
   case measure=>exact Yr
  | true=>
   rw[A7] at s0;by_cases M2:tz<e.sz
   ·have M3:(tz:Int)<(e.sz:Int):=by omega
    have B:=G.o.set O.o ⟨true,(x1,x2),tx,tz⟩ rfl;have C:=G8.o;rw[if_pos (.inr M2)] at C;have H:=Qf B.1;rw[<-C] at H;obtain⟨B7,B9,C3,C4⟩:=Yl (bu B6.o B.2) (B8.o.grown B.2 (by have:=P.o; omega)) (C2.o.grow1 B.2 (by have:=P.o; have:=H3.o; omega)) (A9.o.grow1 B.2 (by have:=P.o; omega));have J:=G.o.row;have z0:=J.frozen (k*5);have z1:=J.frozen (k*5+1);have z2:=J.frozen (k*5+2);have z3:=J.frozen (k*5+3);have z4:=J.frozen (k*5+4);simp only at H B7 B9 C3 C4;clear B C J G B6 B8 C2 A9;gi_wp2;go_roundw
    case rel=>exact⟨k+1,by omega,by omega,by go_num,H,B7,B9,C3,C4⟩
    case measure=>exact Yr
   ·have M3:¬(tz:Int)<(e.sz:Int):=by omega
    have C:=G8.o;rw[if_neg (by rw[A7]; simp[M2])] at C;have H:Qg (ChI w _ lc n mb (rD xs l A0 ((x1,x2),f) (k+1)) ux):=Qf (by
     have e1:(rD xs l A0 ((x1,x2),f) k).set k e=rD xs l A0 ((x1,x2),f) k:=by
      rw[<-G7.o O.o];exact List.set_getElem_self _
     rw[C,e1];exact G.o)
    clear C G s1 s2 s3 c0 c1 c2 c3;gi_wp2;go_roundw
    case rel=>exact⟨k+1,by omega,by omega,by go_num,H,B6,B8,C2,A9⟩
    case measure=>exact Yr
end
theorem Bu{xs:List Itm}{l:Qd}{ch:List Chc}{la ca:Qa}{lc cc mb nm:Nat}{w:World}(hl:dE w w la l)(E5:GIn vJ 5 (w:Nat) w ca ch)(C5:ch.length=l.length)(hm:fT vH mb nm (GN xs) w)
  (I5:l.length<=1000) (F1:∀d∈l,OkD d) (K:∀c∈ch,ChOk c) (Q:∀d∈l,(gL xs d).length<=1000000) :
  Qh 93 #[.slice la l.length lc,.slice ca ch.length cc,.map (some mb)] w (Xz (.string ⟨(BX (U7 xs l ch)).toArray⟩) w):=by
 obtain⟨HL,G2,HM,G4,G5,D3⟩:=Yn hl E5 hm hm.lt F1 K;have C9:=Qf Q;obtain⟨n,hn⟩:=Qe l.length;have HN:Qg (n=l.length):=Qf hn;have D1:Qg (ch.length=n):=Qf (by rw[C5,hn]);have I6:(n:Int)<=1000:=Zo;rw[C5,<-hn];obtain⟨R,hR⟩:=Qe (U7 xs l ch);have HR:Qg (R=Cw.enc n++(l.zip ch).flatMap fun p=>yG xs p.1 p.2):=Qf (by rw[hR]; unfold U7; rw[hn]);rw[<-hR];obtain⟨bb,A3⟩:=Qe (w:Nat);obtain⟨u1,S⟩:=Qe ((w.alloc (.cells #[.pointer none,()] 118)).alloc (.cells #[.func (.func 145) #[] #[.pointer bb]] 188));have E3:PM w u1:=S▸((bf _).alloc nr _).alloc (by simp) _;have E2:u1.heap[bb]? = some (.cells #[.pointer none,()] 118 (0,0)):=by
  have:BK w #[.pointer none,()] 118 u1:=S▸(BK.new _ _ _).alloc _;rw[A3]; exact this
 have C6:BK (bb+1) #[.func (.func 145) #[] #[.pointer bb]] 188 u1:=by rw[S,A3]; exact BK.new2 _ _ _ _
 have C8:Qg (BW w u1 bb [] u1):=Qf (BW.start E3 Zo E2);have B6:=Qf (mr n Zo C8.o Zs);rw[aY] at B6;have H3:=C6.c1;obtain⟨M,HU⟩:=Yj C6 S;have G0:Qg (bb=(w:Nat)):=Qf A3;clear hl E5 C5 hm F1 K Q hn hR E3 E2 C6 S A3 C8;go_enter func93,ntmps93;go_wp2_with fail;rw[<-G0.o,<-HU.o];refine B6.o.mono ?_;rintro e u2 ⟨rfl,X⟩;have A7:Qg (BK (bb+1) #[.func (.func 145) #[] #[.pointer bb]] 188 u2):=Qf (X.out.block M.o Zo Zd);obtain⟨D0,D2⟩:=Yj (aG n) (xu n);generalize Cw.enc n=E at X HR D0 D2;clear B6 HU H3 M;go_wp2;go_loopw [21] (fun i wr=>∃(k:Nat) (w0:World),k<=n/\i=Yi (k:Int)/\Qg (BW w w0 bb (E++((l.zip ch).take k).flatMap fun p=>yG xs p.1 p.2) wr)/\Qg (BK (bb+1) #[.func (.func 145) #[] #[.pointer bb]] 188 wr)) (fun i _=>n-(intOf i).toNat)
 case atStart=>exact⟨0,u1,Zo,rfl,Qf (Zu X.out),A7⟩
 clear X A7;obtain⟨k,w0,hk,rfl,U,M⟩:=hrel;have F7:∀p∈(l.zip ch).take k,(yG xs p.1 p.2).length<=1000100:=fun p hp=>by
  have h1:=dK hp;have V:=List.of_mem_zip h1;exact LB (D3.o _ V.2).t (C9.o _ V.1)
 have hT:((E++((l.zip ch).take k).flatMap fun p=>yG xs p.1 p.2).length:Int)<=1000100010:=by
  have h1:=Er _ F7;have V:((l.zip ch).take k).length<=1000:=Zy aA;have h3:=D0.o;have h4:((l.zip ch).take k).length*1000100<=1000*1000100:=pK _ V;rw[af];omega
 clear F7;by_cases E8:k<n
 ·have H4:(k:Int)<(n:Int):=Zo;have A4:k<l.length:=HN.o▸E8;have C7:k<ch.length:=D1.o▸E8;have B1:=U.out.bel;obtain⟨b0,o0,H0,I4,q0,q1⟩:=(HL.o.below B1 nr) k A4;obtain⟨b1,o1,H1,A2,r0,r1,r2,r3,r4⟩:=LU (G2.o) C7;have F0:(((l.zip ch).take (k+1)).flatMap fun p=>yG xs p.1 p.2)=(((l.zip ch).take k).flatMap fun p=>yG xs p.1 p.2)++yG xs l[k] ch[k]:=by rw[xH A4 C7,bg]; simp
  have A6:=G5.o _ (ak A4);have K:=D3.o _ (ak C7);have Q:=C9.o _ (ak A4);generalize l[k]=d at *
  generalize ch[k]=c at *
  obtain⟨x,y⟩:=d;obtain⟨sm,⟨p,q⟩,tx,sz⟩:=c;simp only at q0 q1 r0 r1 r2 r3 r4;have A0:=Qf F0;generalize (((l.zip ch).take k).flatMap fun p=>yG xs p.1 p.2)=F at U A0 hT;obtain⟨F2,B9⟩:∃F2,F2=(((l.zip ch).take (k+1)).flatMap fun p=>yG xs p.1 p.2):=⟨_,rfl⟩;rw[<-B9] at A0;have A8:Qg ((((l.zip ch).take (k+1)).flatMap fun p=>yG xs p.1 p.2)=F2):=Qf B9.symm;obtain⟨T,C2⟩:=Qe (E++F);rw[<-C2] at U hT;have D4:=Qf C2;obtain⟨v,hv⟩:=Qe (wr.alloc (.cells #[Yu x,Yu y] 54));have C4:PM wr v:=hv▸(bf _).alloc nr _;have F6:BK wr #[Yu x,Yu y] 54 v:=hv▸BK.new _ _ _;have B3:=Qf (U.out.below C4).anew;have A5:(wr:Nat)≠bb:=by
   have:=yQ U.out.bld;omega
  have E7:=M.o.below C4
  -- what stays through the builder's writes
  have J:Qg (∀T' W',BW w v bb T' W'->W'.cell? wr=some (Yu x)/\W'.cell? ⟨wr,1,none⟩=some (Yu y)/\W'.cell? ⟨bb+1,0,none⟩=some (.func (.func 145) #[] #[.pointer bb])/\BK (bb+1) #[.func (.func 145) #[] #[.pointer bb]] 188 W'/\
    W'.cell? ⟨b1,o1+k*5,none⟩=some (.bool sm)/\W'.cell? ⟨b1,o1+k*5+1,none⟩=some (Yu p)/\W'.cell? ⟨b1,o1+k*5+2,none⟩=some (Yu q)/\W'.cell? ⟨b1,o1+k*5+3,none⟩=some (.string ⟨tx.toArray⟩)/\
    (Instr.lookup 138 (.map (some mb)) (.agg #[Yu x,Yu y]) false).run prog W'=.ok (.string ⟨(gL xs (x,y)).toArray⟩) W'):=Qf (fun T' W' h=>by
   have h1:=h.block F6 A5 Zd;have V:=h.block E7 Zo Zd;have hc:=h.bel;have h3:=(HM.o.below_lt hc G4.o).look underlying138 (xI W') (a:=(x,y)) A6;rw[sM] at h3;exact⟨(BK.c2 h1).1,(BK.c2 h1).2,BK.c1 V,V,(hc.cell A2).trans r0,(hc.cell (p:=⟨b1,o1+k*5+1,none⟩) A2).trans r1,(hc.cell (p:=⟨b1,o1+k*5+2,none⟩) A2).trans r2,(hc.cell (p:=⟨b1,o1+k*5+3,none⟩) A2).trans r3,h3⟩)
  obtain⟨G,G1⟩:=Yj (fun W=>nP x y (by have:=A6.1; unfold Ku at this; simp only at this; omega) (by have:=A6.2; unfold Ku at this; simp only at this; omega) W) (fun W=>nP p q (by have:=K.b.1; unfold Ku at this; simp only at this; omega) (by have:=K.b.2; unfold Ku at this; simp only at this; omega) W);have E0:∀z,(beD z).length=16:=bX;have L:Qg (∀z,(beD z).length=16):=Qf E0;obtain⟨G7,G3,N⟩:=Yk K.t Q hT;have E6:yG xs (x,y) ⟨sm,(p,q),tx,sz⟩=beD (x,y)++(if sm=true then Cw.enc 1++(beD (p,q)++(Cw.enc tx.length++tx)) else Cw.enc 0++(Cw.enc (gL xs (x,y)).length++gL xs (x,y))):=rfl;have Z:Qg (F2=F++(beD (x,y)++(if sm=true then Cw.enc 1++(beD (p,q)++(Cw.enc tx.length++tx)) else Cw.enc 0++(Cw.enc (gL xs (x,y)).length++gL xs (x,y))))):=Qf (by rw[A0.o,E6]);obtain⟨c0,c1,_,_,_⟩:=J.o _ _ B3.o;rw[hv] at c0 c1;have HV:=Qf hv;subst H0;subst H1;clear F0 B9 A0 C2 C4 F6 hv U E7 A6 K Q E0 E6 r0 r1 r2 r3 r4 hT M B1;go_wp2_with fail;refine(G.o _).mono ?_;rintro e u3 ⟨rfl,C3⟩;rw[<-HV.o] at C3;have O:=Qf (B3.o.below C3);have D5:=Qf (cz O.o (beD (x,y)) (by have:=N.o; rw[L.o]; omega));clear C3 c0 c1 HV B3;go_wp2_with fail;refine D5.o.mono ?_;rintro e u4 ⟨rfl,C⟩;obtain⟨d0,d1,df,dk,s0,s1,s2,s3,dl⟩:=J.o _ _ C.o;clear D5 O dk;cases sm with
  | true=>
   have B4:Qg (F2=F++(beD (x,y)++(Cw.enc 1++(beD (p,q)++(Cw.enc tx.length++tx))))):=Qf (by rw[Z.o,if_pos rfl]);have I:=Qf (mr 1 Zo C.o (by rw[af,L.o]; have:=N.o; omega));rw[show((1:Nat):Int)=1 from rfl] at I;have H2:=aG 1;clear Z dl d0 d1;generalize B8:Cw.enc 1=E1 at *
   clear B8;go_wp2_with fail;refine I.o.mono ?_;rintro e u5 ⟨rfl,B⟩;obtain⟨_,_,_,_,_,s1,s2,s3,_⟩:=J.o _ _ B.o;clear I C df s0;go_wp2_with fail;refine(G1.o _).mono ?_;rintro e u6 ⟨rfl,D9⟩;have Y:=Qf (B.o.below D9);have D6:=Qf (cz Y.o (beD (p,q)) (by simp only[af,L.o]; have:=N.o; omega));clear D9 B;go_wp2_with fail;refine D6.o.mono ?_;rintro e u7 ⟨rfl,B2⟩;obtain⟨_,_,df,dk,_,_,_,s3,_⟩:=J.o _ _ B2.out;have P:=Qf (vE tx (Zh G7.o) B2.out (by simp only[af,L.o]; have:=N.o; omega) df);clear D6 Y dk s1 s2;go_wp2_with fail;refine P.o.mono ?_;rintro e u8 ⟨rfl,H⟩;obtain⟨_,_,_,dk,_⟩:=J.o _ _ H.out;have B7:Qg (BW w v bb (E++F2) u8):=Qf (by
    have:=H.out;rw[D4.o] at this;rw[B4.o];simpa only[ay] using this)
   have B5:=Qf dk;clear H B2 P df dk s3;go_wp2;go_roundw
   case rel=>exact⟨k+1,v,Zo,Zg,A8.o▸B7,B5⟩
   case measure=>exact Yr
  | false=>
   have B4:Qg (F2=F++(beD (x,y)++(Cw.enc 0++(Cw.enc (gL xs (x,y)).length++gL xs (x,y))))):=Qf (by rw[Z.o,if_neg Zs]);have I:=Qf (mr 0 Zo C.o (by rw[af,L.o]; have:=N.o; omega));rw[show((0:Nat):Int)=0 from rfl] at I;have H2:=aG 0;clear Z d0 d1 dl;generalize B8:Cw.enc 0=E1 at *
   clear B8;go_wp2_with fail;refine I.o.mono ?_;rintro e u5 ⟨rfl,B⟩;obtain⟨d0,d1,df,_,_,_,_,_,dl⟩:=J.o _ _ B.o;have P:=Qf (vE (gL xs (x,y)) (Zh G3.o) B.o (by simp only[af,L.o]; have:=N.o; omega) df);generalize gL xs (x,y)=D at *
   clear I C s0 s1 s2 s3;go_wp2_with fail;refine P.o.mono ?_;rintro e u8 ⟨rfl,H⟩;obtain⟨_,_,_,dk,_⟩:=J.o _ _ H.out;have B7:Qg (BW w v bb (E++F2) u8):=Qf (by
    have:=H.out;rw[D4.o] at this;rw[B4.o];simpa only[ay] using this)
   have B5:=Qf dk;clear H B P df dk d0 d1 dl;go_wp2;go_roundw
   case rel=>exact⟨k+1,v,Zo,Zg,A8.o▸B7,B5⟩
   case measure=>exact Yr
 ·obtain rfl:k=n:=Zo;have H4:¬(k:Int)<(k:Int):=Zo;have F4:(l.zip ch).take k=l.zip ch:=ag (by rw[List.length_zip]; have:=HN.o; have:=D1.o; omega);rw[F4] at U hT;rw[<-HR.o] at U hT;have A5:R≠[]:=by rw[HR.o]; have:=D2.o; simp[this]
  obtain⟨A9,A1⟩:=Yj (vC U.out A5) (fun W=>qV R W Zo);obtain⟨h1,V⟩:=Wh R;have G:=Qf (fun W=>nP (iY R).1 (iY R).2 h1 V W);rw[show((iY R).1,(iY R).2)=iY R from rfl] at G;have HS:Qg ((R:ByteArray)++⟨(beD (iY R)).toArray⟩=⟨(BX R).toArray⟩):=Qf (by rw[Bt]; simp[BX]);have H7:=bH R;have F3:=bH (beD (iY R));rw[bX] at F3;obtain⟨rl,H6⟩:=Qe R.length;rw[<-H6] at H7 hT;generalize (iY R).1=x at A1 G;generalize (iY R).2=y at A1 G;generalize beD (iY R)=T at G HS F3;obtain⟨RR,C0⟩:=Qe (BX R);rw[<-C0] at HS;have G6:=Qf C0;clear C0;clear U F4 A5 h1 V HR M;go_wp2_with fail;refine A9.o.mono ?_;rintro e u3 ⟨rfl,O⟩;have C:=Qf O.o.bel;clear A9 O;go_wp2_with fail;refine(A1.o _).mono ?_;rintro e u4 ⟨rfl,D7⟩;have B:=Qf (XT C.o D7);clear D7 C A1;go_wp2_with fail;refine(G.o _).mono ?_;rintro e u5 ⟨rfl,D8⟩;have Y:=Qf (XT B.o D8);have hs:=HS.o;clear D8 B G HS;go_wp2_with fail;go_ret;exact⟨by rw[<-G6.o]; first | done | rfl,Y.o⟩
theorem Oy(W:World):(zeroValue 4).run prog W=.ok (.bool false) W:=Zk
def NL(xs:List Itm)(k:Nat)(d:Int×Int):Option Value:=GN (xs.take k) d
theorem JC(B:Asc xs)(A:k<xs.length)(d:Int×Int):NL xs (k+1) d=if d=xs[k].d then some (.string ⟨(xs[k]).data.toArray⟩) else NL xs k d:=by
 unfold NL GN;rw[ai A,List.find?_append];by_cases e:d=xs[k].d
 ·rw[if_pos e];have:(xs.take k).find? (fun x=>decide (x.d=d))=none:=by
   rw[List.find?_eq_none];intro x D;obtain⟨j,C,rfl⟩:=aV D;rw[aA] at C;simp only[List.getElem_take,XJ];intro h;have:=B j k Zo A Zo;rw[h,e,fO] at this;omega
  rw[this];simp[e]
 ·rw[if_neg e];cases(xs.take k).find? (fun x=>decide (x.d=d)) with
  | some x=>rfl
  | none=>simp[Ne.symm e]
def Nq(seen:Qd)(d:Int×Int):Option Value:=if d∈seen then some (.bool true) else none
theorem KW(seen:Qd)(d:Int×Int):(Nq seen d).getD (.bool false)=.bool (decide (d∈seen)):=by
 unfold Nq;by_cases e:d∈seen <;> simp[e]
theorem OM(A:k<l.length):pkE xs (l.drop k) (l.take k)=if I7 xs l[k]=false then 8 else if l[k]∈l.take k then 7 else pkE xs (l.drop (k+1)) (l.take (k+1)):=by
 rw[aN A,pkE,ai A]
structure Pt (xs:List Itm) (pc:Nat):Prop where
 asc:Asc xs
 okd:∀x∈xs,OkD x.d
 dat:∀x∈xs,x.data.length<=1000
 len:(xs.length:Int)<=1000000
 cap:xs.length<=pc
theorem NQ(h:∀x∈xs,x.data.length<=1000)(d:Int×Int):(gL xs d).length<=1000:=by
 unfold gL De;cases A:xs.find? (fun x=>decide (x.d=d)) with
 | none=>simp
 | some x=>exact h x (List.mem_of_find?_eq_some A)
theorem KP:OkD (0,0):=⟨⟨Zd,Zd⟩,⟨Zd,Zd⟩⟩
theorem ND(C:∀d,(gL xs d).length<=1000)(E:∀d∈l,OkD d)(D:∀d∈base,OkD d):∀c∈Gg xs l base,ChOk c:=by
 intro c B;unfold Gg at B;obtain⟨i,_,rfl⟩:=bV.1 B;have I:ChOk (vT xs (l.getD i (0,0)) (pkO xs (l.getD i (0,0)) (base++l.take i))):=by
  cases A:pkO xs (l.getD i (0,0)) (base++l.take i) with
  | none=>exact⟨KP,by simp[vT]⟩
  | some p=>
   obtain⟨b,z⟩:=p;obtain⟨m1,m2⟩:=Ie A;have F:=C b;have G:=C (l.getD i (0,0));have H:=(yJ (a:=gL xs b) (b:=gL xs (l.getD i (0,0))) Zo Zo).2.1;refine⟨?_,?_⟩
   ·rcases aD.1 m1 with h | h
    ·exact D _ h
    ·exact E _ (dK h)
   ·simp only[vT]; unfold txD; omega
 unfold Km;split
 ·exact⟨I.b,I.t⟩
 ·exact I
theorem Eu(xs:List Itm)(l base:Qd):(Gg xs l base).length=l.length:=by simp[Gg]
theorem PG{pa:Qa}{pc lc bc:Nat}(hp:Pt xs pc)(hi:Its w w pa xs)(hl:dE w w la l)(hb:dE w w ba base)(F6:∀d∈l,OkD d)(F5:∀d∈base,OkD d)(H0:(l.length:Int)<=1000000)(G6:(base.length:Int)<=1000000)(H5:∀x∈vB l base,x.2≠l.length->gL xs x.1=[2,0]):
  Qh 49 #[.slice pa xs.length pc,.slice la l.length lc,.slice ba base.length bc] w (Xz (.tuple #[.string ⟨(zP xs l base).1.toArray⟩,Yi (zP xs l base).2]) w):=by
 obtain⟨G2,HP,HI,HL,D5,B1⟩:=Yn H5 hp hi hl hb F6;have E1:=Qf F5;have E3:Qg (∀W,PM w W->jQ W pa xs pc):=Qf (fun W hb=>⟨(hi.below hb nr).mono hb.size,hp.cap,Zh hp.len,fun x hx=>Zh (hp.dat x hx)⟩);obtain⟨nx,N⟩:=Qe xs.length;obtain⟨n,hn⟩:=Qe l.length;obtain⟨nb,B5⟩:=Qe base.length;have B0:Qg (nx=xs.length):=Qf N;have HN:Qg (n=l.length):=Qf hn;have A9:Qg (nb=base.length):=Qf B5;have H6:=hp.len;rw[<-N] at H6;rw[<-hn] at H0;rw[<-B5] at G6;obtain⟨R,hR⟩:=Qe (zP xs l base);have HR:=Qf hR;rw[<-hR,<-N,<-hn,<-B5];have I3:=@run_makeMap prog;clear hp hi hl hb F6 F5 N hn B5 hR;by_cases C1:1000<n
 ·have G5:(1000:Int)<(n:Int):=Zo;have J:Qg (R=([],4)):=Qf (by
   rw[HR.o];have:Cs xs l base=4:=by unfold Cs; rw[<-HN.o,if_pos C1]
   unfold zP;rw[this]
   rfl)
  have A6:=Qf (Below.refl (w:Nat) w);clear HR;go_enter func49,ntmps49;go_wp2_with fail;go_ret2;exact⟨by rw[J.o]; first | done | rfl,A6.o⟩
 have G5:¬(1000:Int)<(n:Int):=Zo;have V:Qg (Cs xs l base=if pkE xs l []≠0 then pkE xs l [] else bsE xs base):=Qf (by unfold Cs; rw[<-HN.o,if_neg C1]);obtain⟨q,hq⟩:=Qe (w:Nat);have HQ:Qg (q=(w:Nat)):=Qf hq;have D7:Qg (fT vH q 0 (NL xs 0) (w.alloc (.map #[] 0))):=Qf (hq▸(fT.made vH w).eq (fun d=>rfl));have A6:Qg (PM w (w.alloc (.map #[] 0))):=Qf ((bf _).alloc nr _);clear hq;go_enter func49,ntmps49;go_wp2_with fail;rw[<-HQ.o];go_loopw [22] (fun i wr=>∃k:Nat,k<=nx/\i=Yi (k:Int)/\Qg (fT vH q k (NL xs k) wr)/\Qg (PM w wr)) (fun i _=>nx-(intOf i).toNat)
 case atStart=>exact⟨0,Zo,rfl,D7,A6⟩
 clear D7 A6;obtain⟨k,hk,rfl,HM,D⟩:=hrel;by_cases H1:k<nx
 case pos=>
  have G9:(k:Int)<(nx:Int):=Zo;have C7:k<xs.length:=B0.o▸H1;obtain⟨b0,o0,Z,E9,q0,q1,q2⟩:=(HI.o.below D.out nr) k C7;have Y:=HP.o.okd _ (ak C7);have N:=JC HP.o.asc C7;generalize xs[k]=x at *
  obtain⟨⟨x1,x2⟩,data⟩:=x;simp only at q0 q1 q2 Y N;obtain⟨v,P⟩:=Qe (wr.alloc (.cells #[Yu x1,Yu x2,data] 56));have F:PM wr v:=P▸(bf _).alloc nr _;have K:BK wr #[Yu x1,Yu x2,data] 56 v:=P▸BK.new _ _ _;have hm:=HM.out.below F;obtain⟨v2,O,A1,X,C9⟩:=hm.put underlying138 (a:=(x1,x2)) Y Zo (.string ⟨data.toArray⟩);have B9:(Instr.mapUpdate 138 (.map (some q)) (.agg #[Yu x1,Yu x2]) (.string ⟨data.toArray⟩)).run prog v=.ok () v2:=O;have C5:Qg (fT vH q (k+1) (NL xs (k+1)) v2):=Qf (A1.eq (fun d=>by rw[N d]));have Q:Qg (PM w v2):=Qf ((XT D.out F).grown X (aC D.out.size F.size) (fun j e=>by cases e; rw[HQ.o]; exact nr));obtain⟨c0,c1,c2⟩:=BK.c3 K;rw[P] at B9 c0 c1 c2;subst Z;clear P F K hm O A1 X C9 N Y HM D;go_wp2;go_roundw
  case rel=>exact⟨k+1,Zo,Zg,C5,Q⟩
  case measure=>exact Yr
 case neg=>
 obtain rfl:k=nx:=Zo;have G9:¬(k:Int)<(k:Int):=Zo;have E:Qg (fT vH q k (GN xs) wr):=Qf (HM.out.eq (fun d=>by unfold NL; rw[B0.o,rC]));obtain⟨q2,A2⟩:=Qe wr.heap.size;have E5:Qg (q2=wr.heap.size):=Qf A2;have D8:Qg (fT vH q2 0 (Nq (l.take 0)) (wr.alloc (.map #[] 0))):=Qf (A2▸(fT.made vH wr).eq (fun d=>by simp[Nq]));have B7:Qg (fT vH q k (GN xs) (wr.alloc (.map #[] 0))):=Qf (E.o.alloc _);have D4:Qg (PM w (wr.alloc (.map #[] 0))):=Qf (D.out.alloc D.out.size _);have E6:Qg (q<q2/\(w:Nat)<=q2):=Qf ⟨A2▸E.o.lt,A2▸D.out.size⟩;clear A2 HM D E;go_wp2_with fail;rw[<-E5.o];clear E5;go_loopw [35] (fun i wr=>∃j:Nat,j<=n/\i=Yi (j:Int)/\Qg (fT vH q k (GN xs) wr)/\Qg (fT vH q2 j (Nq (l.take j)) wr)/\Qg (PM w wr)/\Qg (pkE xs l []=pkE xs (l.drop j) (l.take j))) (fun i _=>n-(intOf i).toNat)
 case atStart=>exact⟨0,Zo,rfl,B7,D8,D4,Qf Zs⟩
 clear D8 B7 D4;obtain⟨j,hj,rfl,E,HM,D,B2⟩:=hrel;by_cases F2:j<n
 case pos=>
  have G8:(j:Int)<(n:Int):=Zo;have B3:j<l.length:=HN.o▸F2;obtain⟨b0,o0,Z,E9,r0,r1⟩:=(HL.o.below D.out nr) j B3;have Y:=B1.o _ (ak B3);have F7:=OM (xs:=xs) B3;have A3:l.take (j+1)=l.take j++[l[j]]:=ai B3;generalize l[j]=d at *
  obtain⟨x1,x2⟩:=d;simp only at r0 r1;obtain⟨v,P⟩:=Qe (wr.alloc (.cells #[Yu x1,Yu x2] 54));have F:PM wr v:=P▸(bf _).alloc nr _;have K:BK wr #[Yu x1,Yu x2] 54 v:=P▸BK.new _ _ _;have G:=(XT D.out F);have I:=Qf (I6 pa xs pc x1 x2 v (E3.o v G) HP.o.asc);rw[<-B0.o] at I;obtain⟨M,E0⟩:=Yj (E.o.below F) (HM.out.below F);obtain⟨c0,c1⟩:=BK.c2 K;obtain⟨E8,S⟩:=Yj K G;rw[P] at I c0 c1;have HV:=Qf P;have B:Qg (pkE xs l []=if I7 xs (x1,x2)=false then 8 else if(x1,x2)∈l.take j then 7 else pkE xs (l.drop (j+1)) (l.take (j+1))):=Qf (B2.out.trans F7);have C6:Qg (l.take (j+1)=l.take j++[(x1,x2)]):=Qf A3;subst Z;clear P F K G F7 A3 D E HM B2;go_wp2_with fail;refine I.o.mono ?_;rintro e u ⟨rfl,C⟩;rw[<-HV.o] at C;obtain⟨L,T⟩:=Yj (XT S.o C) (M.o.below C);have A8:=E0.o.below C;have D0:=E8.o.below C;clear I c0 c1 HV C S M E0 E8;cases hh:I7 xs (x1,x2) with
  | false=>
   have J:Qg (R=([],8)):=Qf (by
    have h1:=B.o;rw[if_pos hh] at h1;have U:=V.o;rw[h1,if_pos Zd] at U;rw[HR.o]; unfold zP; rw[U]; rfl)
   clear HR V B;go_wp2_with fail;go_ret2;exact⟨by rw[J.o]; first | done | rfl,L.o⟩
  | true=>
   have B4:=A8.look underlying105 (Oy u) (a:=(x1,x2)) Y;rw[KW] at B4;have C3:(Instr.lookup 105 (.map (some q2)) (.agg #[Yu x1,Yu x2]) false).run prog u=.ok (.bool (decide ((x1,x2)∈l.take j))) u:=B4;obtain⟨c0,c1⟩:=BK.c2 D0;by_cases H:(x1,x2)∈l.take j
   ·have J:Qg (R=([],7)):=Qf (by
     have h1:=B.o;rw[if_neg (Zn hh),if_pos H] at h1;have U:=V.o;rw[h1,if_pos Zd] at U;rw[HR.o]; unfold zP; rw[U]; rfl)
    rw[XI H] at C3;clear HR V B B4 H D0 A8;go_wp2_with fail;go_ret2;exact⟨by rw[J.o]; first | done | rfl,L.o⟩
   ·rw[XN H] at C3;obtain⟨v2,O,A1,X,C9⟩:=A8.put underlying105 (a:=(x1,x2)) Y Zo (.bool true);have B9:(Instr.mapUpdate 105 (.map (some q2)) (.agg #[Yu x1,Yu x2]) (.bool true)).run prog u=.ok () v2:=O;have C5:Qg (fT vH q2 (j+1) (Nq (l.take (j+1))) v2):=Qf (A1.eq (fun d=>by
     rw[C6.o];unfold Nq;by_cases e:d=(x1,x2)
     ·subst e; simp
     ·simp[e]))
    have D9:Qg (fT vH q k (GN xs) v2):=Qf (T.o.kept X (by have:=E6.o.1; intro e; injection e with e; omega));have Q:Qg (PM w v2):=Qf (L.o.grown X L.o.size (fun j e=>by cases e; exact E6.o.2));have E4:Qg (pkE xs l []=pkE xs (l.drop (j+1)) (l.take (j+1))):=Qf (by
     have h1:=B.o
     rwa[if_neg (Zn hh),if_neg H] at h1)
    clear B4 H D0 A8 O A1 X C9 B T L;go_wp2;go_roundw
    case rel=>exact⟨j+1,Zo,Zg,D9,C5,Q,E4⟩
    case measure=>exact Yr
 case neg=>
 obtain rfl:j=n:=Zo;have G8:¬(j:Int)<(j:Int):=Zo;have B:Qg (Cs xs l base=bsE xs base):=Qf (by
  have h1:=B2.out;have e1:l.drop j=[]:=dV (Zh HN.o);rw[e1] at h1;have U:=V.o;rw[h1] at U;rw[U,if_neg (by simp[pkE])])
 clear V B2 HM;go_wp2;go_loopw [51] (fun i wr=>∃m:Nat,m<=nb/\i=Yi (m:Int)/\Qg (fT vH q k (GN xs) wr)/\Qg (PM w wr)/\Qg (∀d∈base.take m,I7 xs d=true)) (fun i _=>nb-(intOf i).toNat)
 case atStart=>exact⟨0,Zo,rfl,E,D,Qf Zs⟩
 clear E D;obtain⟨m,hm,rfl,E,D,A7⟩:=hrel;by_cases F3:m<nb
 case pos=>
  have H3:(m:Int)<(nb:Int):=Zo;have C8:m<base.length:=A9.o▸F3;obtain⟨b0,o0,Z,E9,r0,r1⟩:=(D5.o.below D.out nr) m C8;have A3:base.take (m+1)=base.take m++[base[m]]:=ai C8;have F4:=ak C8;generalize base[m]=d at *
  obtain⟨x1,x2⟩:=d;simp only at r0 r1;obtain⟨v,P⟩:=Qe (wr.alloc (.cells #[Yu x1,Yu x2] 54));have F:PM wr v:=P▸(bf _).alloc nr _;have K:BK wr #[Yu x1,Yu x2] 54 v:=P▸BK.new _ _ _;have G:=(XT D.out F);have I:=Qf (I6 pa xs pc x1 x2 v (E3.o v G) HP.o.asc);rw[<-B0.o] at I;have M:=Qf (E.o.below F);obtain⟨c0,c1⟩:=BK.c2 K;have S:=Qf G;rw[P] at I c0 c1;have HV:=Qf P;have C6:Qg (base.take (m+1)=base.take m++[(x1,x2)]):=Qf A3;have G1:Qg ((x1,x2)∈base):=Qf F4;subst Z;clear P F K G A3 D E F4;go_wp2_with fail;refine I.o.mono ?_;rintro e u ⟨rfl,C⟩;rw[<-HV.o] at C;obtain⟨L,T⟩:=Yj (XT S.o C) (M.o.below C);clear I c0 c1 HV C S M;cases hh:I7 xs (x1,x2) with
  | false=>
   have J:Qg (R=([],8)):=Qf (by
    have U:=B.o;have h3:bsE xs base=8:=by
     unfold bsE;rw[if_neg (fun h=>by rw[P5.1 h _ G1.o] at hh; cases hh)]
    rw[h3] at U;rw[HR.o]; unfold zP; rw[U]; rfl)
   clear HR B;go_wp2_with fail;go_ret2;exact⟨by rw[J.o]; first | done | rfl,L.o⟩
  | true=>
   have D6:Qg (∀d∈base.take (m+1),I7 xs d=true):=Qf (fun d hd=>by
    rw[C6.o] at hd;rcases aD.1 hd with h | h
    ·exact A7.out d h
    ·rw[aH.1 h]; exact hh)
   clear A7 hh;go_wp2;go_roundw
   case rel=>exact⟨m+1,Zo,Zg,T,L,D6⟩
   case measure=>exact Yr
 case neg=>
 obtain rfl:m=nb:=Zo;have H3:¬(m:Int)<(m:Int):=Zo;have J:Qg (R=(BX (Ih xs l base),0)):=Qf (by
  have U:=B.o;have h3:bsE xs base=0:=by
   unfold bsE;have:=A7.out;rw[show base.take m=base from ag (Zh A9.o)] at this;rw[if_pos (P5.2 this)]
  rw[h3] at U;rw[HR.o]; unfold zP; rw[U]; rfl)
 have A0:=NQ HP.o.dat;have C4:=Qf (Gt (lc:=lc) (bc:=bc) (⟨(HL.o.below D.out nr).mono D.out.size,(D5.o.below D.out nr).mono D.out.size,E.o,B1.o,E1.o,by rw[<-HN.o]; omega,by rw[<-A9.o]; omega,fun d _=>A0 d,fun d _=>A0 d,G2.o⟩:Py xs l base la ba q k wr));rw[<-HN.o,<-A9.o] at C4;have D3:Qg (∀uu,PM wr uu->GIn vJ 5 uu.heap.size uu (some ⟨(wr:Nat)+2,0,none⟩) (Gg xs l base)->Qh 93 #[.slice la j lc,.slice (some ⟨(wr:Nat)+2,0,none⟩) j j,.map (some q)] uu (Xz (.string ⟨(BX (Ih xs l base)).toArray⟩) uu)):=Qf (fun uu hb hg=>by
  have F1:=(XT D.out hb);have:=Bu (lc:=lc) (cc:=j) (ca:=some ⟨(wr:Nat)+2,0,none⟩) ((HL.o.below F1 nr).mono F1.size) hg (Eu xs l base) (E.o.below hb) (by rw[<-HN.o]; omega) B1.o (ND A0 B1.o E1.o) (fun d _=>Zh (A0 d));rw[LX,Eu,<-HN.o] at this;exact this)
 clear HR B A7 A0;go_wp2_with fail;refine C4.o.mono ?_;rintro e uu ⟨rfl,HG,C⟩;obtain⟨D2,Q⟩:=Yj (D3.o uu C HG.out) (XT D.out C);clear C4 D3 C HG D E;go_wp2_with fail;refine D2.o.mono ?_;rintro e u3 ⟨rfl,F0⟩;have F9:=Qf (XT Q.o F0);clear F0 Q D2;go_wp2_with fail;go_ret2;exact⟨by rw[J.o]; first | done | rfl,F9.o⟩
