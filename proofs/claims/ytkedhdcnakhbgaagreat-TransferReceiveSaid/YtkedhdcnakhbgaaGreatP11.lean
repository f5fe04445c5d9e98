/- Lemmas. -/
import Derived.Test.YtkedhdcnakhbgaaGreatP10
import Derived.Test.YtkedhdcnakhbgaaGreatG5
import Derived.Test.YtkedhdcnakhbgaaGreatP1
import Derived.Test.YtkedhdcnakhbgaaGreatP3
import Derived.Test.YtkedhdcnakhbgaaGreatG4
import Derived.Test.YtkedhdcnakhbgaaGreatG2
set_option linter.unusedSimpArgs false
set_option maxRecDepth 100000
set_option maxHeartbeats 16000000
namespace Go.Proofs.YtkedhdcnakhbgaaGreat
open Tryz
open Go.RowKit Go.Shelf
set_option linter.unusedVariables false
variable {o:Dop}{d:Int×Int}{l:List Dop}{R:List Dop×Int}{xs:List Itm}{j k n u:Nat}{dat:Nat->Qb×Int}{r s:Qb}
structure CE (w W:World) (b:Qb) (k:Nat) (bad:Bool) (cs:Array Value):Prop where
 c:BK w #[b,Yi (k:Int),.bool bad] 273 W
 ra:BK ((w:Nat)+1) #[Yu 0,Yu 0,Yi 0,Yu 0,Yu 0,Yi 0,Yi 0] 222 W
 rc:BK ((w:Nat)+1+1) #[Ye,Yi 0,.bool false] 273 W
 x:BK ((w:Nat)+1+1+1) cs 222 W
 bel:PM w W
section
variable {w W:World} {b:Qb} {k:Nat} {bad:Bool} {cs:Array Value}
theorem CE.below(h:CE w W b k bad cs){W':World}(A:PM W W'):CE w W' b k bad cs:=⟨h.c.below A,h.ra.below A,h.rc.below A,h.x.below A,(XT h.bel A)⟩
theorem CE.setX(h:CE w W b k bad cs)(j:Nat)(v:Value):CE w (W.setCell ⟨(w:Nat)+1+1+1,j,none⟩ v) b k bad (cs.setIfInBounds j v):=
 ⟨h.c.other Zo _ _,h.ra.other Zo _ _,h.rc.other Zo _ _,h.x.set _ _,h.bel.setCell Zt _⟩
theorem CE.putC(h:CE w W b k bad cs)(k':Nat)(bad':Bool):CE w (put3 W (w:Nat) b k' bad') b k' bad' cs:=
 ⟨put3_law h.c _ _ _,put3_other h.ra Zo _ _ _,put3_other h.rc Zo _ _ _,put3_other h.x Zo _ _ _,put3_below h.bel Zo _ _ _⟩
theorem CE.isBad(h:CE w W b k bad cs):CE w (W.setCell ⟨w,2,none⟩ (.bool true)) b k true cs:=
 ⟨h.c.set 2 (.bool true),h.ra.other Zo _ _,h.rc.other Zo _ _,h.x.other Zo _ _,h.bel.setCell Zs _⟩
theorem CE.isAt(h:CE w W b k bad cs)(k':Nat):CE w (W.setCell ⟨w,1,none⟩ (Yi (k':Int))) b k' bad cs:=
 ⟨h.c.set 1 (Yi (k':Int)),h.ra.other Zo _ _,h.rc.other Zo _ _,h.x.other Zo _ _,h.bel.setCell Zs _⟩
end
theorem put7_other{m:Nat}{cs:Array Value}{T:TypeId}{W:World}(h:BK m cs T W)(A:n≠m)(d1 d2 kd b1 b2 f g:Int):BK m cs T (FM W n d1 d2 kd b1 b2 f g):=((((((h.other A _ _).other A _ _).other A _ _).other A _ _).other A _ _).other A _ _).other A _ _
def GotQe(b:Qb)(k:Nat)(w:World)(e:Ending)(w':World):Prop:=∃(x:Pe) (p:Nat) (bad:Bool),e=.returned (.tuple #[x.val,cval b p bad])/\(bad=false->dY b k=some x/\p=x.off+x.len)/\(bad=true->dY b k=none)/\p<=b.length/\PM w w'
theorem cent_any(b:Qb)(k:Nat)(w:World)(hk:k<=b.length)(hl:(b.length:Int)<=70368744177664):Qh 205 #[cval b k false] w (GotQe b k w):=by
 -- the first digest
 obtain⟨⟨D1,D2⟩,k1,H7,Y⟩:∃D k1 H7,cDig b k false=(D,k1,H7):=⟨_,_,_,rfl⟩;have F9:k1<=b.length/\(H7=true->b.length<k+16)/\(H7=false->k1=k+16/\(D1,D2)=CS (b.drop k)/\k+16<=b.length):=by
  unfold cDig at Y;split at Y
  ·simp only[XC] at Y;obtain⟨_,e2,e3⟩:=Y;exact⟨Zo,(fun _=>Zo),(fun e=>by rw[<-e3] at e; cases e)⟩
  ·simp only[XC] at Y;obtain⟨e1,e2,e3⟩:=Y;exact⟨Zo,(fun e=>by rw[<-e3] at e; cases e),fun _=>⟨e2.symm,e1.symm,Zo⟩⟩
 have D6:=Qf (fun W=>cdig_any b k false W hk hl);rw[Y] at D6;obtain⟨F1,C0,B0⟩:=F9
 -- the number
 obtain⟨kd,u,er,hg⟩:∃kd u er,Cw.getI (b.drop k1)=(kd,u,er):=⟨_,_,_,rfl⟩;obtain⟨g1,g2,g3,g4⟩:=gH hg;rw[ah] at g4;obtain⟨u0,rfl⟩:∃u0:Nat,u=(u0:Int):=⟨u.toNat,Zo⟩;have B5:=Qf (fun W=>cnum_any hg H7 W F1 hl);obtain⟨k2,F2⟩:=Qe (k1+u0);obtain⟨B7,P⟩:=Qe (H7||er !=0);rw[<-F2,<-P] at B5;have F3:k2<=b.length:=Zo;have C5:Qg (B7=true->dY b k=none):=Qf (fun e=>by
  rw[P] at e;cases h1:H7 with
  | true=>exact AP (C0 h1)
  | false=>
   rw[h1] at e;simp only[Bool.false_or,bne_iff_ne,ne_eq] at e;have h2:=B0 h1;rw[h2.1] at hg;exact Gh h2.2.2 hg (.inl e))
 have D7:Qg (kd≠0->kd≠1->dY b k=none):=Qf (fun e1 e2=>by
  cases h1:H7 with
  | true=>exact AP (C0 h1)
  | false=>
   have h2:=B0 h1;rw[h2.1] at hg;exact Gh h2.2.2 hg (.inr ⟨e1,e2⟩))
 have HY:Qg (B7=false->(D1,D2)=CS (b.drop k)/\k+16<=b.length/\k2=k+16+u0/\Cw.getI (b.drop (k+16))=(kd,(u0:Int),0)):=Qf (fun e=>by
  rw[P] at e;simp only[Bool.or_eq_false_iff,bne_eq_false_iff_eq] at e;obtain⟨e1,e2⟩:=e;obtain⟨a1,a2,a3⟩:=B0 e1;refine⟨a2,a3,Zo,?_⟩;rw[a1,e2] at hg;exact hg)
 clear Y C0 B0 hg P F2 g4;have B3:∀s:Qb,(s.length:Int)<=70368744177664->∃(x:Qb) (v:Nat) (H8:Int),Cw.getT s=(x,(v:Int),H8)/\x.length<=v/\v<=s.length/\Qg (∀X,Qh 154 #[s] X fun e w'=>e=.returned (.tuple #[x,Yi (v:Int),Yi H8])/\X=w'):=fun s hs=>by
  obtain⟨x,v,H8,K⟩:∃x v H8,Cw.getT s=(x,v,H8):=⟨_,_,_,rfl⟩;obtain⟨k3,k4,_⟩:=lZ K;have k5:=Jc K;obtain⟨v0,rfl⟩:∃v0:Nat,v=(v0:Int):=⟨v.toNat,Zo⟩;refine⟨x,v0,H8,K,Zo,Zo,Qf (fun X=>?_)⟩;have:=vN ⟨s.toArray⟩ X (Zy bH);rw[show(s:ByteArray).data.toList=s by simp,K] at this;exact this
 have G6:=bH b
 -- the walk
 obtain⟨w0,C7⟩:=Qe ((((w.alloc (.cells #[b,Yi (k:Int),.bool false] 273)).alloc (.cells #[Yu 0,Yu 0,Yi 0,Yu 0,Yu 0,Yi 0,Yi 0] 222)).alloc (.cells #[Ye,Yi 0,.bool false] 273)).alloc (.cells #[Yu 0,Yu 0,Yi 0,Yu 0,Yu 0,Yi 0,Yi 0] 222));have E4:Qg (CE w w0 b k false #[Yu 0,Yu 0,Yi 0,Yu 0,Yu 0,Yi 0,Yi 0]):=Qf (by
  rw[C7];exact⟨(((BK.new _ _ _).alloc _).alloc _).alloc _,((BK.new2 _ _ _ _).alloc _).alloc _,(BK.new3 _ _ _ _ _).alloc _,BK.new4 _ _ _ _ _ _,(((ba w _).alloc Zs _).alloc Zt _).alloc Zt _⟩)
 have HC:=Qf (D6.o w0);rw[C7] at HC;have E6:=Qf C7;unfold cval at *
 clear C7 D6;go_enter func205,ntmps205;go_wp2_with fail;refine HC.o.mono ?_;rintro e u1 ⟨rfl,hb⟩;rw[<-E6.o] at hb;have R:=Qf (E4.o.below hb);clear HC E6 hb E4;obtain⟨c0,c1,c2⟩:=BK.c3 R.o.c;obtain⟨G2,G4,G5⟩:=BK.f3 (R.o.c);obtain⟨a0,a1,a2,a3,a4,a5,a6⟩:=BK.c7 R.o.ra;obtain⟨C6,C9,D0,D5,E0,E9,F8⟩:=BK.f7 (R.o.ra);obtain⟨z0,z1,z2⟩:=BK.c3 R.o.rc;obtain⟨H4,H5,H6⟩:=BK.f3 (R.o.rc);obtain⟨x0,x1,x2,x3,x4,x5,x6⟩:=BK.c7 R.o.x;obtain⟨G7,G8,G9,H0,H1,H2,H3⟩:=BK.f7 (R.o.x)
 -- the number
 have D8:CE w _ b k1 H7 #[Yu D1,Yu D2,Yi 0,Yu 0,Yu 0,Yi 0,Yi 0]:=((R.o.setX 0 (Yu D1)).setX 1 (Yu D2)).putC k1 H7;obtain⟨W2,B8⟩:=Qe (put3 ((u1.setCell ⟨(w:Nat)+1+1+1,0,none⟩ (Yu D1)).setCell ⟨(w:Nat)+1+1+1,1,none⟩ (Yu D2)) (w:Nat) b k1 H7);rw[<-B8] at D8;have E5:=Qf D8;unfold put3 at B8;obtain⟨HC,E7⟩:=Yj (B5.o W2) B8;rw[B8] at HC;clear D8 B8 B5;go_wp2_with fail;refine HC.o.mono ?_;rintro e u2 ⟨rfl,hb⟩;rw[<-E7.o] at hb;have S:=Qf (E5.o.below hb);clear HC E7 hb E5 R c0 c1 c2 G2 G4 G5 a0 a1 a2 a3 a4 a5 a6 C6 C9 D0 D5 E0 E9 F8 z0 z1 z2 H4 H5 H6 x0 x1 x2 x3 x4 x5 x6 G7 G8 G9 H0 H1 H2 H3;obtain⟨c0,c1,c2⟩:=BK.c3 S.o.c;obtain⟨G2,G4,G5⟩:=BK.f3 (S.o.c);obtain⟨a0,a1,a2,a3,a4,a5,a6⟩:=BK.c7 S.o.ra;obtain⟨C6,C9,D0,D5,E0,E9,F8⟩:=BK.f7 (S.o.ra);obtain⟨z0,z1,z2⟩:=BK.c3 S.o.rc;obtain⟨H4,H5,H6⟩:=BK.f3 (S.o.rc);obtain⟨x0,x1,x2,x3,x4,x5,x6⟩:=BK.c7 S.o.x;obtain⟨G7,G8,G9,H0,H1,H2,H3⟩:=BK.f7 (S.o.x);have D9:CE w _ b k2 B7 #[Yu D1,Yu D2,Yi kd,Yu 0,Yu 0,Yi 0,Yi 0]:=(S.o.setX 2 (Yi kd)).putC k2 B7;obtain⟨W4,U⟩:=Qe (put3 (u2.setCell ⟨(w:Nat)+1+1+1,2,none⟩ (Yi kd)) (w:Nat) b k2 B7);rw[<-U] at D9;have A8:=Qf D9;unfold put3 at U;clear D9;by_cases A9:kd≠0/\kd≠1
 ·have E3:=Qf (D7.o A9.1 A9.2);have q1:(kd !=0)=true:=Zu A9.1;have q2:(kd !=1)=true:=Zu A9.2;have q3:(kd==1)=false:=Zu A9.2;have B5:Qg (∀W:World,True):=Qf (fun _=>trivial);rw[U] at A8;have V:=Qf A8.o.isBad;clear C5 D7 HY A9 B5;obtain⟨t,v,H8,K,A6,A7,HT⟩:=B3 (b.drop k2) (Zy ah);rw[ah] at A7;have A4:=fun W=>jY b k2 Zo W
  have A0:(b:ByteArray).extract k2 b.length=⟨(b.drop k2).toArray⟩:=by rw[dw,ag Zs]
  have N:=Qf (fun(he:true=false)=>(show t.length=t.length from rfl));have C1:=bH t;obtain⟨tl,A5⟩:=Qe t.length;rw[<-A5] at C1 A6 N;obtain⟨kv,A2⟩:=Qe (k2+v);obtain⟨f,hf⟩:=Qe (kv-tl);have F6:IntKind.i64.wrap ((k2:Int)+(v:Int))=(kv:Int):=by rw[ZV]; omega
  have F7:IntKind.i64.wrap ((kv:Int)-(tl:Int))=(f:Int):=by rw[ZV]; omega
  have L:kv<=b.length:=Zo;obtain⟨C4,C2⟩:=Yj A2 hf;have A1:f+tl=kv:=Zo;have C3:=Qf A1;generalize b.drop k2=S5 at HT A4 A0;clear A2 hf A1 B3 K A5 A7 A6;have M:Qg (H8≠0->dY b k=none):=Qf (fun _=>E3.o);clear U;go_wp2_with fail;obtain⟨W5,O⟩:=Qe (((((u2.setCell ⟨(w:Nat)+1+1+1,2,none⟩ (Yi kd)).setCell w (.string ⟨b.toArray⟩)).setCell ⟨w,1,none⟩ (Yi (k2:Int))).setCell ⟨w,2,none⟩ (.bool B7)).setCell ⟨w,2,none⟩ (.bool true));have A3:CE w W5 b k2 true #[Yu D1,Yu D2,Yi kd,Yu 0,Yu 0,Yi 0,Yi 0]:=O▸V.o;rw[<-O];have C:=Qf A3;clear O A3 V c0 c1 c2 G2 G4 G5 a0 a1 a2 a3 a4 a5 a6 C6 C9 D0 D5 E0 E9 F8 z0 z1 z2 H4 H5 H6 x0 x1 x2 x3 x4 x5 x6 G7 G8 G9 H0 H1 H2 H3;obtain⟨c0,c1,c2⟩:=BK.c3 C.o.c;obtain⟨G2,G4,G5⟩:=BK.f3 (C.o.c);obtain⟨a0,a1,a2,a3,a4,a5,a6⟩:=BK.c7 C.o.ra;obtain⟨C6,C9,D0,D5,E0,E9,F8⟩:=BK.f7 (C.o.ra);obtain⟨z0,z1,z2⟩:=BK.c3 C.o.rc;obtain⟨H4,H5,H6⟩:=BK.f3 (C.o.rc);obtain⟨x0,x1,x2,x3,x4,x5,x6⟩:=BK.c7 C.o.x;obtain⟨G7,G8,G9,H0,H1,H2,H3⟩:=BK.f7 (C.o.x);refine(HT.out _).mono ?_;rintro e u9 ⟨rfl,rfl⟩;clear HT A4 A0;by_cases Q:H8=0
  ·subst Q;go_wp2_with fail;obtain⟨W8,F⟩:=Qe (((W5.setCell ⟨(w:Nat)+1+1+1,6,none⟩ (Yi (tl:Int))).setCell ⟨(w:Nat)+1+1+1,5,none⟩ (Yi (f:Int))).setCell ⟨w,1,none⟩ (Yi (kv:Int)));have J:CE w W8 b kv true #[Yu D1,Yu D2,Yi kd,Yu 0,Yu 0,Yi (f:Int),Yi (tl:Int)]:=F▸((C.o.setX 6 (Yi (tl:Int))).setX 5 (Yi (f:Int))).isAt kv;rw[<-F];have B:=Qf J;clear F J C c0 c1 c2 G2 G4 G5 a0 a1 a2 a3 a4 a5 a6 C6 C9 D0 D5 E0 E9 F8 z0 z1 z2 H4 H5 H6 x0 x1 x2 x3 x4 x5 x6 G7 G8 G9 H0 H1 H2 H3;obtain⟨c0,c1,c2⟩:=BK.c3 B.o.c;obtain⟨G2,G4,G5⟩:=BK.f3 (B.o.c);obtain⟨a0,a1,a2,a3,a4,a5,a6⟩:=BK.c7 B.o.ra;obtain⟨C6,C9,D0,D5,E0,E9,F8⟩:=BK.f7 (B.o.ra);obtain⟨z0,z1,z2⟩:=BK.c3 B.o.rc;obtain⟨H4,H5,H6⟩:=BK.f3 (B.o.rc);obtain⟨x0,x1,x2,x3,x4,x5,x6⟩:=BK.c7 B.o.x;obtain⟨G7,G8,G9,H0,H1,H2,H3⟩:=BK.f7 (B.o.x);go_region;have I:=(put3_other (oM B.o.ra D1 D2 kd 0 0 (f:Int) (tl:Int)) (n:=(w:Nat)+1+1) Zo b kv true).below ((bf _).drew);have H:=(put3_law (put7_other B.o.rc (n:=(w:Nat)+1) Zo D1 D2 kd 0 0 (f:Int) (tl:Int)) b kv true).below ((bf _).drew);have G:=(put3_below (jK B.o.bel (n:=(w:Nat)+1) Zo D1 D2 kd 0 0 (f:Int) (tl:Int)) (n:=(w:Nat)+1+1) Zo b kv true).drew;obtain⟨W9,E⟩:=Qe ((put3 (FM W8 ((w:Nat)+1) D1 D2 kd 0 0 (f:Int) (tl:Int)) ((w:Nat)+1+1) b kv true).drew);rw[<-E] at I H G;unfold put3 FM at E;rw[<-E];clear E c0 c1 c2 G2 G4 G5 a0 a1 a2 a3 a4 a5 a6 C6 C9 D0 D5 E0 E9 F8 z0 z1 z2 H4 H5 H6 x0 x1 x2 x3 x4 x5 x6 G7 G8 G9 H0 H1 H2 H3;obtain⟨r0,r1,r2,r3,r4,r5,r6⟩:=BK.c7 I;obtain⟨q0,q1,q2⟩:=BK.c3 H;go_wp2;refine XB (v:=.tuple #[.agg #[Yu D1,Yu D2,Yi kd,Yu 0,Yu 0,Yi (f:Int),Yi (tl:Int)],.agg #[b,Yi (kv:Int),.bool true]]) (by simp[results,results205,go_sem,r0,r1,r2,r3,r4,r5,r6,q0,q1,q2]) rfl ?_;exact⟨⟨(D1,D2),kd,(0,0),f,tl⟩,kv,true,rfl,(fun h=>by cases h),(fun h=>E3.o),L,G⟩
  ·have F4:(H8 !=0)=true:=Zu Q;have B4:=Qf (M.o Q);go_wp2_with fail;obtain⟨W8,F⟩:=Qe ((((W5.setCell ⟨w,2,none⟩ (.bool true)).setCell ⟨(w:Nat)+1+1+1,6,none⟩ (Yi (tl:Int))).setCell ⟨(w:Nat)+1+1+1,5,none⟩ (Yi (f:Int))).setCell ⟨w,1,none⟩ (Yi (kv:Int)));have J:CE w W8 b kv true #[Yu D1,Yu D2,Yi kd,Yu 0,Yu 0,Yi (f:Int),Yi (tl:Int)]:=F▸((C.o.isBad.setX 6 (Yi (tl:Int))).setX 5 (Yi (f:Int))).isAt kv;rw[<-F];have B:=Qf J;clear F J C c0 c1 c2 G2 G4 G5 a0 a1 a2 a3 a4 a5 a6 C6 C9 D0 D5 E0 E9 F8 z0 z1 z2 H4 H5 H6 x0 x1 x2 x3 x4 x5 x6 G7 G8 G9 H0 H1 H2 H3;obtain⟨c0,c1,c2⟩:=BK.c3 B.o.c;obtain⟨G2,G4,G5⟩:=BK.f3 (B.o.c);obtain⟨a0,a1,a2,a3,a4,a5,a6⟩:=BK.c7 B.o.ra;obtain⟨C6,C9,D0,D5,E0,E9,F8⟩:=BK.f7 (B.o.ra);obtain⟨z0,z1,z2⟩:=BK.c3 B.o.rc;obtain⟨H4,H5,H6⟩:=BK.f3 (B.o.rc);obtain⟨x0,x1,x2,x3,x4,x5,x6⟩:=BK.c7 B.o.x;obtain⟨G7,G8,G9,H0,H1,H2,H3⟩:=BK.f7 (B.o.x);go_region;have I:=(put3_other (oM B.o.ra D1 D2 kd 0 0 (f:Int) (tl:Int)) (n:=(w:Nat)+1+1) Zo b kv true).below ((bf _).drew);have H:=(put3_law (put7_other B.o.rc (n:=(w:Nat)+1) Zo D1 D2 kd 0 0 (f:Int) (tl:Int)) b kv true).below ((bf _).drew);have G:=(put3_below (jK B.o.bel (n:=(w:Nat)+1) Zo D1 D2 kd 0 0 (f:Int) (tl:Int)) (n:=(w:Nat)+1+1) Zo b kv true).drew;obtain⟨W9,E⟩:=Qe ((put3 (FM W8 ((w:Nat)+1) D1 D2 kd 0 0 (f:Int) (tl:Int)) ((w:Nat)+1+1) b kv true).drew);rw[<-E] at I H G;unfold put3 FM at E;rw[<-E];clear E c0 c1 c2 G2 G4 G5 a0 a1 a2 a3 a4 a5 a6 C6 C9 D0 D5 E0 E9 F8 z0 z1 z2 H4 H5 H6 x0 x1 x2 x3 x4 x5 x6 G7 G8 G9 H0 H1 H2 H3;obtain⟨r0,r1,r2,r3,r4,r5,r6⟩:=BK.c7 I;obtain⟨q0,q1,q2⟩:=BK.c3 H;go_wp2;refine XB (v:=.tuple #[.agg #[Yu D1,Yu D2,Yi kd,Yu 0,Yu 0,Yi (f:Int),Yi (tl:Int)],.agg #[b,Yi (kv:Int),.bool true]]) (by simp[results,results205,go_sem,r0,r1,r2,r3,r4,r5,r6,q0,q1,q2]) rfl ?_;exact⟨⟨(D1,D2),kd,(0,0),f,tl⟩,kv,true,rfl,(fun h=>by cases h),(fun _=>B4.o),L,G⟩
 obtain⟨q,hq⟩:∃q:Bool,q=true:=⟨true,rfl⟩;clear hq;have G1:kd=0\/kd=1:=Zo;clear A9 D7;rcases G1 with rfl | rfl
 ·rw[U] at A8;have V:=A8;clear A8;obtain⟨t,v,H8,K,A6,A7,HT⟩:=B3 (b.drop k2) (Zy ah);rw[ah] at A7;have A4:=fun W=>jY b k2 Zo W
  have A0:(b:ByteArray).extract k2 b.length=⟨(b.drop k2).toArray⟩:=by rw[dw,ag Zs]
  have N:=Qf (fun(he:B7=false)=>(show H8=0->dY b k=some ⟨(D1,D2),0,(0,0),k2+v-t.length,t.length⟩ from fun e=>by
   obtain⟨a1,a2,a3,a4⟩:=HY.o he;subst a3;rw[LA a2 a4 K,if_neg (by simp[e]),<-a1]))
  have C1:=bH t;obtain⟨tl,A5⟩:=Qe t.length;rw[<-A5] at C1 A6 N;obtain⟨kv,A2⟩:=Qe (k2+v);obtain⟨f,hf⟩:=Qe (kv-tl);have F6:IntKind.i64.wrap ((k2:Int)+(v:Int))=(kv:Int):=by rw[ZV]; omega
  have F7:IntKind.i64.wrap ((kv:Int)-(tl:Int))=(f:Int):=by rw[ZV]; omega
  have L:kv<=b.length:=Zo;obtain⟨C4,C2⟩:=Yj A2 hf;have A1:f+tl=kv:=Zo;have C3:=Qf A1;have M:Qg (H8≠0->dY b k=none):=Qf (fun e=>by
   cases P:B7 with
   | true=>exact C5.o P
   | false=>
    obtain⟨a1,a2,a3,a4⟩:=HY.o P;subst a3;rw[LA a2 a4 K,if_pos e])
  generalize b.drop k2=S5 at HT A4 A0;clear A2 hf A1 B3 K A5 A7 A6;clear U HY;go_wp2_with fail;obtain⟨W5,O⟩:=Qe ((((u2.setCell ⟨(w:Nat)+1+1+1,2,none⟩ (Yi 0)).setCell w (.string ⟨b.toArray⟩)).setCell ⟨w,1,none⟩ (Yi (k2:Int))).setCell ⟨w,2,none⟩ (.bool B7));have A3:CE w W5 b k2 B7 #[Yu D1,Yu D2,Yi 0,Yu 0,Yu 0,Yi 0,Yi 0]:=O▸V.o;rw[<-O];have C:=Qf A3;clear O A3 V c0 c1 c2 G2 G4 G5 a0 a1 a2 a3 a4 a5 a6 C6 C9 D0 D5 E0 E9 F8 z0 z1 z2 H4 H5 H6 x0 x1 x2 x3 x4 x5 x6 G7 G8 G9 H0 H1 H2 H3;obtain⟨c0,c1,c2⟩:=BK.c3 C.o.c;obtain⟨G2,G4,G5⟩:=BK.f3 (C.o.c);obtain⟨a0,a1,a2,a3,a4,a5,a6⟩:=BK.c7 C.o.ra;obtain⟨C6,C9,D0,D5,E0,E9,F8⟩:=BK.f7 (C.o.ra);obtain⟨z0,z1,z2⟩:=BK.c3 C.o.rc;obtain⟨H4,H5,H6⟩:=BK.f3 (C.o.rc);obtain⟨x0,x1,x2,x3,x4,x5,x6⟩:=BK.c7 C.o.x;obtain⟨G7,G8,G9,H0,H1,H2,H3⟩:=BK.f7 (C.o.x);refine(HT.out _).mono ?_;rintro e u9 ⟨rfl,rfl⟩;clear HT A4 A0;by_cases Q:H8=0
  ·subst Q;go_wp2_with fail;obtain⟨W8,F⟩:=Qe (((W5.setCell ⟨(w:Nat)+1+1+1,6,none⟩ (Yi (tl:Int))).setCell ⟨(w:Nat)+1+1+1,5,none⟩ (Yi (f:Int))).setCell ⟨w,1,none⟩ (Yi (kv:Int)));have J:CE w W8 b kv B7 #[Yu D1,Yu D2,Yi 0,Yu 0,Yu 0,Yi (f:Int),Yi (tl:Int)]:=F▸((C.o.setX 6 (Yi (tl:Int))).setX 5 (Yi (f:Int))).isAt kv;rw[<-F];have B:=Qf J;clear F J C c0 c1 c2 G2 G4 G5 a0 a1 a2 a3 a4 a5 a6 C6 C9 D0 D5 E0 E9 F8 z0 z1 z2 H4 H5 H6 x0 x1 x2 x3 x4 x5 x6 G7 G8 G9 H0 H1 H2 H3;obtain⟨c0,c1,c2⟩:=BK.c3 B.o.c;obtain⟨G2,G4,G5⟩:=BK.f3 (B.o.c);obtain⟨a0,a1,a2,a3,a4,a5,a6⟩:=BK.c7 B.o.ra;obtain⟨C6,C9,D0,D5,E0,E9,F8⟩:=BK.f7 (B.o.ra);obtain⟨z0,z1,z2⟩:=BK.c3 B.o.rc;obtain⟨H4,H5,H6⟩:=BK.f3 (B.o.rc);obtain⟨x0,x1,x2,x3,x4,x5,x6⟩:=BK.c7 B.o.x;obtain⟨G7,G8,G9,H0,H1,H2,H3⟩:=BK.f7 (B.o.x);go_region;have I:=(put3_other (oM B.o.ra D1 D2 0 0 0 (f:Int) (tl:Int)) (n:=(w:Nat)+1+1) Zo b kv B7).below ((bf _).drew);have H:=(put3_law (put7_other B.o.rc (n:=(w:Nat)+1) Zo D1 D2 0 0 0 (f:Int) (tl:Int)) b kv B7).below ((bf _).drew);have G:=(put3_below (jK B.o.bel (n:=(w:Nat)+1) Zo D1 D2 0 0 0 (f:Int) (tl:Int)) (n:=(w:Nat)+1+1) Zo b kv B7).drew;obtain⟨W9,E⟩:=Qe ((put3 (FM W8 ((w:Nat)+1) D1 D2 0 0 0 (f:Int) (tl:Int)) ((w:Nat)+1+1) b kv B7).drew);rw[<-E] at I H G;unfold put3 FM at E;rw[<-E];clear E c0 c1 c2 G2 G4 G5 a0 a1 a2 a3 a4 a5 a6 C6 C9 D0 D5 E0 E9 F8 z0 z1 z2 H4 H5 H6 x0 x1 x2 x3 x4 x5 x6 G7 G8 G9 H0 H1 H2 H3;obtain⟨r0,r1,r2,r3,r4,r5,r6⟩:=BK.c7 I;obtain⟨q0,q1,q2⟩:=BK.c3 H;go_wp2;refine XB (v:=.tuple #[.agg #[Yu D1,Yu D2,Yi 0,Yu 0,Yu 0,Yi (f:Int),Yi (tl:Int)],.agg #[b,Yi (kv:Int),.bool B7]]) (by simp[results,results205,go_sem,r0,r1,r2,r3,r4,r5,r6,q0,q1,q2]) rfl ?_;exact⟨⟨(D1,D2),0,(0,0),f,tl⟩,kv,B7,rfl,(fun h=>⟨by rw[C2.o,C4.o]; exact N.o h Zv,C3.o.symm⟩),(fun h=>C5.o h),L,G⟩
  ·have F4:(H8 !=0)=true:=Zu Q;have B4:=Qf (M.o Q);go_wp2_with fail;obtain⟨W8,F⟩:=Qe ((((W5.setCell ⟨w,2,none⟩ (.bool true)).setCell ⟨(w:Nat)+1+1+1,6,none⟩ (Yi (tl:Int))).setCell ⟨(w:Nat)+1+1+1,5,none⟩ (Yi (f:Int))).setCell ⟨w,1,none⟩ (Yi (kv:Int)));have J:CE w W8 b kv true #[Yu D1,Yu D2,Yi 0,Yu 0,Yu 0,Yi (f:Int),Yi (tl:Int)]:=F▸((C.o.isBad.setX 6 (Yi (tl:Int))).setX 5 (Yi (f:Int))).isAt kv;rw[<-F];have B:=Qf J;clear F J C c0 c1 c2 G2 G4 G5 a0 a1 a2 a3 a4 a5 a6 C6 C9 D0 D5 E0 E9 F8 z0 z1 z2 H4 H5 H6 x0 x1 x2 x3 x4 x5 x6 G7 G8 G9 H0 H1 H2 H3;obtain⟨c0,c1,c2⟩:=BK.c3 B.o.c;obtain⟨G2,G4,G5⟩:=BK.f3 (B.o.c);obtain⟨a0,a1,a2,a3,a4,a5,a6⟩:=BK.c7 B.o.ra;obtain⟨C6,C9,D0,D5,E0,E9,F8⟩:=BK.f7 (B.o.ra);obtain⟨z0,z1,z2⟩:=BK.c3 B.o.rc;obtain⟨H4,H5,H6⟩:=BK.f3 (B.o.rc);obtain⟨x0,x1,x2,x3,x4,x5,x6⟩:=BK.c7 B.o.x;obtain⟨G7,G8,G9,H0,H1,H2,H3⟩:=BK.f7 (B.o.x);go_region;have I:=(put3_other (oM B.o.ra D1 D2 0 0 0 (f:Int) (tl:Int)) (n:=(w:Nat)+1+1) Zo b kv true).below ((bf _).drew);have H:=(put3_law (put7_other B.o.rc (n:=(w:Nat)+1) Zo D1 D2 0 0 0 (f:Int) (tl:Int)) b kv true).below ((bf _).drew);have G:=(put3_below (jK B.o.bel (n:=(w:Nat)+1) Zo D1 D2 0 0 0 (f:Int) (tl:Int)) (n:=(w:Nat)+1+1) Zo b kv true).drew;obtain⟨W9,E⟩:=Qe ((put3 (FM W8 ((w:Nat)+1) D1 D2 0 0 0 (f:Int) (tl:Int)) ((w:Nat)+1+1) b kv true).drew);rw[<-E] at I H G;unfold put3 FM at E;rw[<-E];clear E c0 c1 c2 G2 G4 G5 a0 a1 a2 a3 a4 a5 a6 C6 C9 D0 D5 E0 E9 F8 z0 z1 z2 H4 H5 H6 x0 x1 x2 x3 x4 x5 x6 G7 G8 G9 H0 H1 H2 H3;obtain⟨r0,r1,r2,r3,r4,r5,r6⟩:=BK.c7 I;obtain⟨q0,q1,q2⟩:=BK.c3 H;go_wp2;refine XB (v:=.tuple #[.agg #[Yu D1,Yu D2,Yi 0,Yu 0,Yu 0,Yi (f:Int),Yi (tl:Int)],.agg #[b,Yi (kv:Int),.bool true]]) (by simp[results,results205,go_sem,r0,r1,r2,r3,r4,r5,r6,q0,q1,q2]) rfl ?_;exact⟨⟨(D1,D2),0,(0,0),f,tl⟩,kv,true,rfl,(fun h=>by cases h),(fun _=>B4.o),L,G⟩
 ·obtain⟨⟨B1,B2⟩,k3,B9,Z⟩:∃D k1 H7,cDig b k2 B7=(D,k1,H7):=⟨_,_,_,rfl⟩;have G0:k3<=b.length/\(B9=true->B7=true\/b.length<k2+16)/\(B9=false->B7=false/\k3=k2+16/\(B1,B2)=CS (b.drop k2)/\k2+16<=b.length):=by
   unfold cDig at Z;split at Z
   ·simp only[XC] at Z;obtain⟨_,e2,e3⟩:=Z;exact⟨Zo,(fun _=>.inr Zo),(fun e=>by rw[<-e3] at e; cases e)⟩
   ·simp only[XC] at Z;obtain⟨e1,e2,e3⟩:=Z;exact⟨Zo,(fun e=>.inl (e3.trans e)),(fun e=>⟨e3.trans e,e2.symm,e1.symm,Zo⟩)⟩
  have B6:=Qf (cdig_any b k2 B7 W4 F3 hl);rw[Z] at B6;obtain⟨G3,D3,D4⟩:=G0;obtain⟨E1,C8⟩:=Yj D3 D4;unfold cval at B6;have E8:=Qf U;rw[U] at B6;clear Z D3 D4 U;go_wp2_with fail;refine B6.o.mono ?_;rintro e u5 ⟨rfl,hb⟩;rw[<-E8.o] at hb;have T:=Qf (A8.o.below hb);clear B6 E8 hb A8 S c0 c1 c2 G2 G4 G5 a0 a1 a2 a3 a4 a5 a6 C6 C9 D0 D5 E0 E9 F8 z0 z1 z2 H4 H5 H6 x0 x1 x2 x3 x4 x5 x6 G7 G8 G9 H0 H1 H2 H3;obtain⟨c0,c1,c2⟩:=BK.c3 T.o.c;obtain⟨G2,G4,G5⟩:=BK.f3 (T.o.c);obtain⟨a0,a1,a2,a3,a4,a5,a6⟩:=BK.c7 T.o.ra;obtain⟨C6,C9,D0,D5,E0,E9,F8⟩:=BK.f7 (T.o.ra);obtain⟨z0,z1,z2⟩:=BK.c3 T.o.rc;obtain⟨H4,H5,H6⟩:=BK.f3 (T.o.rc);obtain⟨x0,x1,x2,x3,x4,x5,x6⟩:=BK.c7 T.o.x;obtain⟨G7,G8,G9,H0,H1,H2,H3⟩:=BK.f7 (T.o.x);have F5:CE w (((((u5.setCell ⟨(w:Nat)+1+1+1,3,none⟩ (Yu B1)).setCell ⟨(w:Nat)+1+1+1,4,none⟩ (Yu B2)).setCell w (.string ⟨b.toArray⟩)).setCell ⟨w,1,none⟩ (Yi (k3:Int))).setCell ⟨w,2,none⟩ (.bool B9)) b k3 B9 #[Yu D1,Yu D2,Yi 1,Yu B1,Yu B2,Yi 0,Yi 0]:=((T.o.setX 3 (Yu B1)).setX 4 (Yu B2)).putC k3 B9;have V:=Qf F5;clear F5 T;obtain⟨t,v,H8,K,A6,A7,HT⟩:=B3 (b.drop k3) (Zy ah);rw[ah] at A7;have A4:=fun W=>jY b k3 Zo W
  have A0:(b:ByteArray).extract k3 b.length=⟨(b.drop k3).toArray⟩:=by rw[dw,ag Zs]
  have N:=Qf (fun(he:B9=false)=>(show H8=0->dY b k=some ⟨(D1,D2),1,(B1,B2),k3+v-t.length,t.length⟩ from fun e=>by
   obtain⟨c0,c1,c2,c3⟩:=C8.o he;obtain⟨a1,a2,a3,a4⟩:=HY.o c0;subst c1;subst a3;rw[Lx a2 a4 c3 K,if_neg (by simp[e]),<-a1,<-c2]))
  have C1:=bH t;obtain⟨tl,A5⟩:=Qe t.length;rw[<-A5] at C1 A6 N;obtain⟨kv,A2⟩:=Qe (k3+v);obtain⟨f,hf⟩:=Qe (kv-tl);have F6:IntKind.i64.wrap ((k3:Int)+(v:Int))=(kv:Int):=by rw[ZV]; omega
  have F7:IntKind.i64.wrap ((kv:Int)-(tl:Int))=(f:Int):=by rw[ZV]; omega
  have L:kv<=b.length:=Zo;obtain⟨C4,C2⟩:=Yj A2 hf;have A1:f+tl=kv:=Zo;have C3:=Qf A1;have E2:Qg (B9=true->dY b k=none):=Qf (fun e=>by
   cases P:B7 with
   | true=>exact C5.o P
   | false=>
    obtain⟨a1,a2,a3,a4⟩:=HY.o P;subst a3;exact yF a2 a4 ((E1.o e).resolve_left (Zn P)))
  have M:Qg (H8≠0->dY b k=none):=Qf (fun e=>by
   cases F0:B9 with
   | true=>exact E2.o F0
   | false=>
    obtain⟨c0,c1,c2,c3⟩:=C8.o F0;obtain⟨a1,a2,a3,a4⟩:=HY.o c0;subst c1;subst a3;rw[Lx a2 a4 c3 K,if_pos e])
  generalize b.drop k3=S5 at HT A4 A0;clear A2 hf A1 B3 K A5 A7 A6;clear HY;go_wp2_with fail;obtain⟨W5,O⟩:=Qe (((((u5.setCell ⟨(w:Nat)+1+1+1,3,none⟩ (Yu B1)).setCell ⟨(w:Nat)+1+1+1,4,none⟩ (Yu B2)).setCell w (.string ⟨b.toArray⟩)).setCell ⟨w,1,none⟩ (Yi (k3:Int))).setCell ⟨w,2,none⟩ (.bool B9));have A3:CE w W5 b k3 B9 #[Yu D1,Yu D2,Yi 1,Yu B1,Yu B2,Yi 0,Yi 0]:=O▸V.o;rw[<-O];have C:=Qf A3;clear O A3 V c0 c1 c2 G2 G4 G5 a0 a1 a2 a3 a4 a5 a6 C6 C9 D0 D5 E0 E9 F8 z0 z1 z2 H4 H5 H6 x0 x1 x2 x3 x4 x5 x6 G7 G8 G9 H0 H1 H2 H3;obtain⟨c0,c1,c2⟩:=BK.c3 C.o.c;obtain⟨G2,G4,G5⟩:=BK.f3 (C.o.c);obtain⟨a0,a1,a2,a3,a4,a5,a6⟩:=BK.c7 C.o.ra;obtain⟨C6,C9,D0,D5,E0,E9,F8⟩:=BK.f7 (C.o.ra);obtain⟨z0,z1,z2⟩:=BK.c3 C.o.rc;obtain⟨H4,H5,H6⟩:=BK.f3 (C.o.rc);obtain⟨x0,x1,x2,x3,x4,x5,x6⟩:=BK.c7 C.o.x;obtain⟨G7,G8,G9,H0,H1,H2,H3⟩:=BK.f7 (C.o.x);refine(HT.out _).mono ?_;rintro e u9 ⟨rfl,rfl⟩;clear HT A4 A0;by_cases Q:H8=0
  ·subst Q;go_wp2_with fail;obtain⟨W8,F⟩:=Qe (((W5.setCell ⟨(w:Nat)+1+1+1,6,none⟩ (Yi (tl:Int))).setCell ⟨(w:Nat)+1+1+1,5,none⟩ (Yi (f:Int))).setCell ⟨w,1,none⟩ (Yi (kv:Int)));have J:CE w W8 b kv B9 #[Yu D1,Yu D2,Yi 1,Yu B1,Yu B2,Yi (f:Int),Yi (tl:Int)]:=F▸((C.o.setX 6 (Yi (tl:Int))).setX 5 (Yi (f:Int))).isAt kv;rw[<-F];have B:=Qf J;clear F J C c0 c1 c2 G2 G4 G5 a0 a1 a2 a3 a4 a5 a6 C6 C9 D0 D5 E0 E9 F8 z0 z1 z2 H4 H5 H6 x0 x1 x2 x3 x4 x5 x6 G7 G8 G9 H0 H1 H2 H3;obtain⟨c0,c1,c2⟩:=BK.c3 B.o.c;obtain⟨G2,G4,G5⟩:=BK.f3 (B.o.c);obtain⟨a0,a1,a2,a3,a4,a5,a6⟩:=BK.c7 B.o.ra;obtain⟨C6,C9,D0,D5,E0,E9,F8⟩:=BK.f7 (B.o.ra);obtain⟨z0,z1,z2⟩:=BK.c3 B.o.rc;obtain⟨H4,H5,H6⟩:=BK.f3 (B.o.rc);obtain⟨x0,x1,x2,x3,x4,x5,x6⟩:=BK.c7 B.o.x;obtain⟨G7,G8,G9,H0,H1,H2,H3⟩:=BK.f7 (B.o.x);go_region;have I:=(put3_other (oM B.o.ra D1 D2 1 B1 B2 (f:Int) (tl:Int)) (n:=(w:Nat)+1+1) Zo b kv B9).below ((bf _).drew);have H:=(put3_law (put7_other B.o.rc (n:=(w:Nat)+1) Zo D1 D2 1 B1 B2 (f:Int) (tl:Int)) b kv B9).below ((bf _).drew);have G:=(put3_below (jK B.o.bel (n:=(w:Nat)+1) Zo D1 D2 1 B1 B2 (f:Int) (tl:Int)) (n:=(w:Nat)+1+1) Zo b kv B9).drew;obtain⟨W9,E⟩:=Qe ((put3 (FM W8 ((w:Nat)+1) D1 D2 1 B1 B2 (f:Int) (tl:Int)) ((w:Nat)+1+1) b kv B9).drew);rw[<-E] at I H G;unfold put3 FM at E;rw[<-E];clear E c0 c1 c2 G2 G4 G5 a0 a1 a2 a3 a4 a5 a6 C6 C9 D0 D5 E0 E9 F8 z0 z1 z2 H4 H5 H6 x0 x1 x2 x3 x4 x5 x6 G7 G8 G9 H0 H1 H2 H3;obtain⟨r0,r1,r2,r3,r4,r5,r6⟩:=BK.c7 I;obtain⟨q0,q1,q2⟩:=BK.c3 H;go_wp2;refine XB (v:=.tuple #[.agg #[Yu D1,Yu D2,Yi 1,Yu B1,Yu B2,Yi (f:Int),Yi (tl:Int)],.agg #[b,Yi (kv:Int),.bool B9]]) (by simp[results,results205,go_sem,r0,r1,r2,r3,r4,r5,r6,q0,q1,q2]) rfl ?_;exact⟨⟨(D1,D2),1,(B1,B2),f,tl⟩,kv,B9,rfl,(fun h=>⟨by rw[C2.o,C4.o]; exact N.o h Zv,C3.o.symm⟩),(fun h=>E2.o h),L,G⟩
  ·have F4:(H8 !=0)=true:=Zu Q;have B4:=Qf (M.o Q);go_wp2_with fail;obtain⟨W8,F⟩:=Qe ((((W5.setCell ⟨w,2,none⟩ (.bool true)).setCell ⟨(w:Nat)+1+1+1,6,none⟩ (Yi (tl:Int))).setCell ⟨(w:Nat)+1+1+1,5,none⟩ (Yi (f:Int))).setCell ⟨w,1,none⟩ (Yi (kv:Int)));have J:CE w W8 b kv true #[Yu D1,Yu D2,Yi 1,Yu B1,Yu B2,Yi (f:Int),Yi (tl:Int)]:=F▸((C.o.isBad.setX 6 (Yi (tl:Int))).setX 5 (Yi (f:Int))).isAt kv;rw[<-F];have B:=Qf J;clear F J C c0 c1 c2 G2 G4 G5 a0 a1 a2 a3 a4 a5 a6 C6 C9 D0 D5 E0 E9 F8 z0 z1 z2 H4 H5 H6 x0 x1 x2 x3 x4 x5 x6 G7 G8 G9 H0 H1 H2 H3;obtain⟨c0,c1,c2⟩:=BK.c3 B.o.c;obtain⟨G2,G4,G5⟩:=BK.f3 (B.o.c);obtain⟨a0,a1,a2,a3,a4,a5,a6⟩:=BK.c7 B.o.ra;obtain⟨C6,C9,D0,D5,E0,E9,F8⟩:=BK.f7 (B.o.ra);obtain⟨z0,z1,z2⟩:=BK.c3 B.o.rc;obtain⟨H4,H5,H6⟩:=BK.f3 (B.o.rc);obtain⟨x0,x1,x2,x3,x4,x5,x6⟩:=BK.c7 B.o.x;obtain⟨G7,G8,G9,H0,H1,H2,H3⟩:=BK.f7 (B.o.x);go_region;have I:=(put3_other (oM B.o.ra D1 D2 1 B1 B2 (f:Int) (tl:Int)) (n:=(w:Nat)+1+1) Zo b kv true).below ((bf _).drew);have H:=(put3_law (put7_other B.o.rc (n:=(w:Nat)+1) Zo D1 D2 1 B1 B2 (f:Int) (tl:Int)) b kv true).below ((bf _).drew);have G:=(put3_below (jK B.o.bel (n:=(w:Nat)+1) Zo D1 D2 1 B1 B2 (f:Int) (tl:Int)) (n:=(w:Nat)+1+1) Zo b kv true).drew;obtain⟨W9,E⟩:=Qe ((put3 (FM W8 ((w:Nat)+1) D1 D2 1 B1 B2 (f:Int) (tl:Int)) ((w:Nat)+1+1) b kv true).drew);rw[<-E] at I H G;unfold put3 FM at E;rw[<-E];clear E c0 c1 c2 G2 G4 G5 a0 a1 a2 a3 a4 a5 a6 C6 C9 D0 D5 E0 E9 F8 z0 z1 z2 H4 H5 H6 x0 x1 x2 x3 x4 x5 x6 G7 G8 G9 H0 H1 H2 H3;obtain⟨r0,r1,r2,r3,r4,r5,r6⟩:=BK.c7 I;obtain⟨q0,q1,q2⟩:=BK.c3 H;go_wp2;refine XB (v:=.tuple #[.agg #[Yu D1,Yu D2,Yi 1,Yu B1,Yu B2,Yi (f:Int),Yi (tl:Int)],.agg #[b,Yi (kv:Int),.bool true]]) (by simp[results,results205,go_sem,r0,r1,r2,r3,r4,r5,r6,q0,q1,q2]) rfl ?_;exact⟨⟨(D1,D2),1,(B1,B2),f,tl⟩,kv,true,rfl,(fun h=>by cases h),(fun _=>B4.o),L,G⟩
theorem J9.none{w w':World}(er:Int)(a:Qa)(c:Nat)(A:PM w w'):J9 w ([],er) (.returned (.tuple #[.slice a 0 c,Yi er])) w':=⟨a,c,rfl,GIn.nil _ _ _,A⟩
def QSx(b:Qb)(E:List Pe×Int)(n k p:Nat)(bad:Bool)(l:List Pe):Prop:=(bad=false->Kg b E n k p l)/\(bad=true->E=([],13))/\l.length=k/\p<=b.length
def metB(l:List Pe)(d:Int×Int)(j:Nat):Bool:=decide (d∈(l.take j).map (·.d))
theorem metB_zero(l:List Pe)(d:Int×Int):metB l d 0=false:=by simp[metB]
theorem metB_succ{l:List Pe}(h:j<l.length):metB l d (j+1)=(metB l d j||decide (l[j].d=d)):=by
 unfold metB;rw[ai h,dJ,<-Bool.decide_or];congr 1;simp[eq_comm]
theorem metB_all(l:List Pe)(d:Int×Int):metB l d l.length=decide (d∈l.map (·.d)):=by simp[metB]
theorem rentries10_any(s:Qb)(w:World)(hl:(s.length:Int)<=70368744177664):Qh 163 #[s] w (J9 w (bi s)):=by
 have G8:=bH s;have E9:=Qf (Below.refl (w:Nat) w);by_cases C2:s.length<16
 ·have HE:Qg (bi s=([],12)):=Qf (by unfold bi; rw[if_pos C2]);obtain⟨n,hn⟩:=Qe s.length;rw[<-hn] at G8 hl C2;have hi:(n:Int)<16:=Zo;have M:=Qf (E9.o.alloc E9.o.size (.cells #[] 222));rw[HE.o];clear hn HE;go_enter func163,ntmps163;go_wp2;go_ret2;exact J9.none 12 _ _ M.o
 obtain⟨m,hm⟩:=Qe (s.length-16);have I8:IntKind.i64.wrap ((s.length:Int)-16)=(m:Int):=by rw[ZV]; omega
 have hi:¬(s.length:Int)<16:=Zo;have G7:=fun W=>OJ s m Zo W
 have F9:(s:ByteArray).extract 0 m=⟨(s.take m).toArray⟩:=Zw dw;have A2:=Qf (fun W=>seal_any (s.take m) W (Zy aA));have C8:=seal_iff (s:=s) Zo (TE _);rw[<-hm] at C8;have HE:Qg (bi s=if iY (s.take m)≠CS (s.drop m) then([],14) else tY (s.take m)):=Qf (by unfold bi; rw[if_neg C2,<-hm]);have C4:(s.take m).length=m:=Zy aA;obtain⟨E,hE⟩:=Qe (bi s);rw[<-hE] at HE ⊢;have X:Qg ((BX (s.take m)=s->E=tY (s.take m))/\(BX (s.take m)≠s->E=([],14))):=Qf ⟨fun h=>by rw[HE.o,if_neg (by simp[C8.1 h])],fun h=>by rw[HE.o,if_pos (fun e=>h (C8.2 e))]⟩;generalize s.take m=b at G7 F9 A2 X C4;obtain⟨T,hT⟩:=Qe (BX b);rw[<-hT] at A2 X;have I7:=bH b;have I2:(m:Int)<=70368744177664:=Zo;obtain⟨n,hn⟩:=Qe s.length;rw[<-hn] at G8 hl I8 hi;rw[C4] at I7;have A1:=Qf C4;clear hE hn hm C2 C4 HE C8 hT;obtain⟨eq,B5⟩:∃eq,eq=decide (T=s):=⟨_,rfl⟩;by_cases Z:T=s
 case neg=>
  have A6:=Qf (X.o.2 Z);have H7:(T==s)=false:=Zu Z;clear X Z B5;go_enter func163,ntmps163;go_wp2_with fail;refine(A2.o _).mono ?_;rintro e u1 ⟨rfl,U⟩;have M:=Qf U;have I:=Qf (M.o.alloc M.o.size (.cells #[] 222));clear U;go_wp2;go_ret2;rw[A6.o];exact J9.none 14 _ _ I.o
 case pos=>
 have A6:=Qf (X.o.1 Z);have H7:(T==s)=true:=Zu Z;clear X Z B5;obtain⟨kn,u,er,hg⟩:∃kn u er,Cw.getI b=(kn,u,er):=⟨_,_,_,rfl⟩;obtain⟨g1,g2,g3,g4⟩:=gH hg;obtain⟨u0,rfl⟩:∃u0:Nat,u=(u0:Int):=⟨u.toNat,Zo⟩;obtain⟨n0,rfl⟩:∃n0:Nat,kn=(n0:Int):=⟨kn.toNat,Zo⟩;have A0:Qg (er≠0\/1000<(n0:Int)->E=([],13)):=Qf (fun h=>by rw[A6.o]; unfold tY; rw[hg]; simp only; rw[if_pos h]);have D9:Qg (¬(er≠0\/1000<(n0:Int))->Kg b E n0 0 u0 []):=Qf (fun h=>⟨by rw[A6.o]; unfold tY; rw[hg]; simp only; rw[if_neg h]; simp,rfl,Zo⟩);have A3:=Qf (fun W=>cnum_any (b:=b) (k:=0) (u:=u0) (n:=(n0:Int)) (er:=er) (Zu hg) false W Zo (Zh A1.o));rw[aZ,Bool.false_or] at A3;unfold cval at A3;rw[show((0:Nat):Int)=0 from rfl] at A3;clear hg A6 g1;go_enter func163,ntmps163;go_wp2_with fail;refine(A2.o _).mono ?_;rintro e u1 ⟨rfl,U⟩;have M:=Qf U;clear U A2 G7 F9;go_wp2_with fail;refine(A3.o _).mono ?_;rintro e u2 ⟨rfl,U⟩;have I:=Qf (XT M.o U);clear U A3 M;by_cases B:er≠0\/1000<(n0:Int)
 case pos=>
  have H:=Qf (A0.o B);obtain⟨cb,D⟩:=Qe (u2:Nat);obtain⟨u4,F⟩:=Qe (u2.alloc (.cells #[b,Yi (u0:Int),.bool true] 273));have B4:PM u2 u4:=F▸ba _ _;have A7:Qg (BK cb #[b,Yi (u0:Int),.bool true] 273 u4):=Qf (by rw[F,D]; exact BK.new _ _ _);have N:=Qf (XT I.o B4);have B7:(u4:Nat)=cb+1:=by rw[F,D]; simp
  obtain⟨u5,L⟩:=Qe (u4.alloc (.cells #[] 222));have R:PM u4 u5:=L▸ba _ _;obtain⟨O,C⟩:=Yj (A7.o.below R) (XT N.o R);have A9:Qg (u5.ownsRow (cb+1) 222 7 (.slice (some ⟨cb+1,0,none⟩) 0 0) 0 (gcs tX [])):=Qf (by
   rw[L,<-B7];exact Ta u4 _ _ _ nr)
  have A4:Qg ((w:Nat)<=cb):=Qf (D▸I.o.size);have G:=L;rw[F] at G;obtain⟨B0,A5⟩:=Yj G D;clear B4 R F L G B7 D A7 N;clear A0 D9;by_cases he:er=0
  ·subst he;have K3:1000<(n0:Int):=B.elim (fun h=>absurd rfl h) id;clear B;go_wp2_with fail;rw[<-B0.o,<-A5.o];go_loopw [8] (fun i wr=>i=Yi 0/\Qg (wr=u5)) (fun _ _=>0)
   case atStart=>exact⟨rfl,Qf rfl⟩
   case round=>
    obtain⟨rfl,B1⟩:=hrel;have B9:=B1.out;rw[B9];clear B9 B1;obtain⟨c0,c1,c2⟩:=BK.c3 O.o;by_cases h0:0<n0
    ·have Y:(0:Int)<(n0:Int):=Zo;go_wp2;go_ret2;rw[H.o];exact J9.none 13 _ _ (C.o.alloc C.o.size _)
    ·exfalso; omega
  ·have J7:(er !=0)=true:=Zu he;clear B he;go_wp2_with fail;rw[<-B0.o,<-A5.o];go_loopw [8] (fun i wr=>i=Yi 0/\Qg (wr=u5)) (fun _ _=>0)
   case atStart=>exact⟨rfl,Qf rfl⟩
   case round=>
    obtain⟨rfl,B1⟩:=hrel;have B9:=B1.out;rw[B9];clear B9 B1;obtain⟨c0,c1,c2⟩:=BK.c3 O.o;by_cases h0:0<n0
    ·have Y:(0:Int)<(n0:Int):=Zo;go_wp2;go_ret2;rw[H.o];exact J9.none 13 _ _ (C.o.alloc C.o.size _)
    ·have Y:¬(0:Int)<(n0:Int):=Zo;go_wp2;go_ret2;rw[H.o];exact J9.none 13 _ _ (C.o.alloc C.o.size _)
 case neg=>
 have D8:=Qf (D9.o B);have I3:¬1000<(n0:Int):=fun h=>B (.inr h)
 have K1:decide (1000<(n0:Int))=false:=Zu I3;obtain rfl:er=0:=by
  by_cases e:er=0
  ·exact e
  ·exact absurd (.inl e) B
 clear B A0 D9;obtain⟨cb,D⟩:=Qe (u2:Nat);obtain⟨u4,F⟩:=Qe (u2.alloc (.cells #[b,Yi (u0:Int),.bool false] 273));have B4:PM u2 u4:=F▸ba _ _;have A7:Qg (BK cb #[b,Yi (u0:Int),.bool false] 273 u4):=Qf (by rw[F,D]; exact BK.new _ _ _);have N:=Qf (XT I.o B4);have B7:(u4:Nat)=cb+1:=by rw[F,D]; simp
 obtain⟨u5,L⟩:=Qe (u4.alloc (.cells #[] 222));have R:PM u4 u5:=L▸ba _ _;obtain⟨O,C⟩:=Yj (A7.o.below R) (XT N.o R);have A9:Qg (u5.ownsRow (cb+1) 222 7 (.slice (some ⟨cb+1,0,none⟩) 0 0) 0 (gcs tX [])):=Qf (by
  rw[L,<-B7];exact Ta u4 _ _ _ nr)
 have A4:Qg ((w:Nat)<=cb):=Qf (D▸I.o.size);have G:=L;rw[F] at G;obtain⟨B0,A5⟩:=Yj G D;clear B4 R F L G B7 D A7 N;go_wp2_with fail;rw[<-B0.o,<-A5.o];go_loopw [7,8] (fun v i wr=>∃(k p:Nat) (E7:Bool) (ls:List Pe),k<=n0/\i=Yi (k:Int)/\Qg (QSx b E n0 k p E7 ls)/\Qg (BK cb #[b,Yi (p:Int),.bool E7] 273 wr)/\Qg (wr.ownsRow (cb+1) 222 7 v k (gcs tX ls))/\Qg (PM w wr)) (fun _ i _=>n0-(intOf i).toNat)
 case atStart=>exact⟨0,u0,false,[],Zo,rfl,Qf ⟨fun _=>D8.o,(fun h=>by cases h),rfl,D8.o.le⟩,O,A9,C⟩
 case round=>
  clear D8 O A9 C B0 A5 I;obtain⟨k,p,E7,ls,hk,rfl,HQ,HK,HO,HB⟩:=hrel;obtain⟨va,vc,rfl,K4⟩:=aB HO.out;obtain⟨E4,E5,E6,G5⟩:=HQ.out;obtain⟨c0,c1,c2⟩:=BK.c3 HK.out;cases E7 with
  | true=>
   have H:=Qf (E5 rfl);clear E4 E5 E6 HQ HO;by_cases C7:k<n0
   ·have Y:(k:Int)<(n0:Int):=Zo;go_wp2;go_ret2;rw[H.o];exact J9.none 13 _ _ (HB.out.alloc HB.out.size _)
   ·have Y:¬(k:Int)<(n0:Int):=Zo;go_wp2;go_ret2;rw[H.o];exact J9.none 13 _ _ (HB.out.alloc HB.out.size _)
  | false=>
   obtain⟨HS,P⟩:=Yj (E4 rfl) E6;have I5:p<=m:=A1.o▸G5;clear E4 E5 E6 G5 HQ;by_cases C7:k<n0
   case neg=>
    obtain rfl:k=n0:=Zo;have Y:¬(k:Int)<(k:Int):=Zo;have HF:=Qf HS.o.fin;rw[A1.o] at HF;have HI:=Qf (jw OT P.o.symm HO.out);clear HS HO;by_cases hp:p=m
    ·subst hp;have H:Qg (E=(ls,0)):=Qf (by rw[HF.o,if_pos rfl]);clear HF;go_wp2;go_ret2;rw[H.o];exact⟨va,vc,Zw P.o,HI.o,HB.out⟩
    ·have J4:((p:Int) !=(m:Int))=true:=Zt;have H:Qg (E=([],13)):=Qf (by rw[HF.o,if_neg hp]);clear HF hp;go_wp2;go_ret2;rw[H.o];exact J9.none 13 _ _ (HB.out.alloc HB.out.size _)
   case pos=>
   have Y:(k:Int)<(n0:Int):=Zo;have HC:=Qf (cent_any b p wr (A1.o▸I5) (A1.o▸I2));unfold cval at HC;go_wp2_with fail;refine HC.o.mono ?_;rintro e u6 ⟨x,p2,C1,rfl,G9,H0,G4,U⟩;obtain⟨E0,F6,F3⟩:=Yk G9 H0 G4;have K0:cb<(wr:Nat):=HK.out.lt;have K2:=U.size;have F1:=HK.out.below U;have F2:=PO HO.out U;have D3:=(XT HB.out U);obtain⟨xb,C0⟩:=Qe (u6:Nat);clear G9 H0 G4 U HC HK HO HB c0 c1 c2;obtain⟨⟨d1,d2⟩,kd,⟨b1,b2⟩,D5,C5⟩:=x;simp only[Pe.val] at *
   unfold cval;obtain⟨u8,S⟩:=Qe ((u6.alloc (.cells #[Yu d1,Yu d2,Yi kd,Yu b1,Yu b2,Yi (D5:Int),Yi (C5:Int)] 222)).alloc (.cells #[b,Yi (p2:Int),.bool C1] 273));have C3:PM u6 u8:=S▸(ba _ _).alloc (by simp) _;have H1:BK xb #[Yu d1,Yu d2,Yi kd,Yu b1,Yu b2,Yi (D5:Int),Yi (C5:Int)] 222 u8:=by rw[S,C0]; exact(BK.new _ _ _).alloc _
   have G6:BK (xb+1) #[b,Yi (p2:Int),.bool C1] 273 u8:=by rw[S,C0]; exact BK.new2 _ _ _ _
   have C6:=F1.below C3;have D1:=(XT D3 C3);have G3:=PO F2 C3;have G0:u8.grownBy (put3 u8 cb b p2 C1) (some cb):=fM (fM (dN _ _ _ _) _ _) _ _;obtain⟨A8,B2,D7,D4⟩:=Yl (put3_law C6 b p2 C1) (put3_other H1 (n:=cb) Zo b p2 C1) (bD G3 G0 Zo) (put3_below D1 A4.o b p2 C1);obtain⟨u9,C9⟩:=Qe (put3 u8 cb b p2 C1);rw[<-C9] at A8 B2 D7 D4;unfold put3 at C9;obtain⟨e0,e1,e2⟩:=BK.c3 C6;obtain⟨E8,F0,F8⟩:=BK.f3 (C6);obtain⟨r0,r1,r2⟩:=BK.c3 G6;rw[S,C0] at r0 r1 r2;rw[S] at e0 e1 e2 E8 F0 F8;have B8:=C9;rw[S] at B8;obtain⟨F5,F7⟩:=Yj B8 C0;clear S C3 H1 G6 C6 D1 G3 G0 C9 B8 C0 F1 F2 D3;go_wp2_with fail;rw[<-F5.o,<-F7.o];clear F5 F7 r0 r1 r2 e0 e1 e2 E8 F0 F8;have K5:cb≠xb:=by have:=B2.o.lt; intro e; rw[e] at A8; have h1:=A8.o; have h2:=B2.o; unfold BK at h1 h2; rw[h1] at h2; cases h2
   go_loopw [11] (fun jv wr=>∃(j:Nat),j<=k/\jv=Yi (j:Int)/\Qg (BK cb #[b,Yi (p2:Int),.bool (C1||metB ls (d1,d2) j)] 273 wr)/\Qg (BK xb #[Yu d1,Yu d2,Yi kd,Yu b1,Yu b2,Yi (D5:Int),Yi (C5:Int)] 222 wr)/\Qg (wr.ownsRow (cb+1) 222 7 (.slice va k vc) k (gcs tX ls))/\Qg (PM w wr)) (fun jv _=>k-(intOf jv).toNat)
   case atStart=>exact⟨0,Zo,rfl,(by rw[metB_zero,Bool.or_false]; exact A8),B2,D7,D4⟩
   case round=>
    clear A8 B2 D7 D4;obtain⟨j,hj,rfl,J,B3,Q,V⟩:=hrel;by_cases I0:j<k
    ·have G1:(j:Int)<(k:Int):=Zo;have h1:j<ls.length:=P.o▸I0;obtain⟨bl,H4,H6,J3,hc⟩:=(jw OT P.o.symm Q.out) j h1;have y0:=hc 0 _ rfl;have y1:=hc 1 _ rfl;rw[QI] at y0;have K:=Qf (metB_succ (d:=(d1,d2)) h1);generalize ls[j]=y at y0 y1 K;obtain⟨⟨e1,e2⟩,H5,yb,yo,yl⟩:=y;simp only at y0 y1 K;subst H6;obtain⟨bd,E2⟩:=Qe (C1||metB ls (d1,d2) j);rw[<-E2] at J;have B5:decide (((e1,e2):Int×Int)=(d1,d2))=(e1==d1&&e2==d2):=by
      rw[YF]; simp
     have K:Qg ((C1||metB ls (d1,d2) (j+1))=(bd||(e1==d1&&e2==d2))):=Qf (by rw[K.o,<-Bool.or_assoc,<-E2,B5]);have I6:=fun W=>jD e1 e2 d1 d2 W
     generalize (e1==d1&&e2==d2)=ev at K I6;clear E2 B5 hc;obtain⟨c0,c1,c2⟩:=BK.c3 J.out;obtain⟨G2,H2,H3⟩:=BK.f3 (J.out);obtain⟨x0,x1,x2,x3,x4,x5,x6⟩:=BK.c7 B3.out;cases bd with
     | true=>
      rw[Bool.true_or] at K;go_wp2;go_region;go_wp2;go_roundw
      case rel=>exact⟨j+1,Zo,Zg,Qf (K.o▸(J.out.set 2 (.bool true)).below ((bf _).drew)),Qf ((B3.out.other (c:=cb) Zo 2 (.bool true)).below ((bf _).drew)),Qf (PO (bD Q.out (dN _ _ _ _) Zo) ((bf _).drew)),Qf ((V.out.setCell (p:=⟨cb,2,none⟩) A4.o (.bool true)).drew)⟩
      case measure=>exact Yq
     | false=>
      rw[Bool.false_or] at K;go_wp2;go_region;go_wp2;go_roundw
      case rel=>exact⟨j+1,Zo,Zg,Qf (K.o▸(J.out.set 2 (.bool ev)).below ((bf _).drew)),Qf ((B3.out.other (c:=cb) Zo 2 (.bool ev)).below ((bf _).drew)),Qf (PO (bD Q.out (dN _ _ _ _) Zo) ((bf _).drew)),Qf ((V.out.setCell (p:=⟨cb,2,none⟩) A4.o (.bool ev)).drew)⟩
      case measure=>exact Yq
    ·obtain rfl:j=k:=Zo;have G1:¬(j:Int)<(j:Int):=Zo;have D6:Qg (metB ls (d1,d2) j=decide ((d1,d2)∈ls.map (·.d))):=Qf (by rw[<-P.o,metB_all]);have F4:Qg (QSx b E n0 (j+1) p2 (C1||metB ls (d1,d2) j) (ls++[⟨(d1,d2),kd,(b1,b2),D5,C5⟩])):=Qf (by
      refine⟨fun h=>?_,fun h=>?_,by rw[af,P.o]; rfl,F3.o⟩
      ·simp only[Bool.or_eq_false_iff] at h;obtain⟨e1,e2⟩:=E0.o h.1;have e3:=h.2;rw[D6.o,XL] at e3;rw[e2];exact HS.o.next C7 e1 e3
      ·cases E1:C1 with
       | true=>exact HS.o.none C7 (F6.o E1)
       | false=>
        rw[E1,Bool.false_or,D6.o,XJ] at h;exact HS.o.met C7 (E0.o E1).1 h)
     generalize (C1||metB ls (d1,d2) j)=bd at J F4;have J8:=J.out.lt;obtain⟨v',W',D2,B6,E3,_⟩:=JW P.o.symm Q.out ⟨(d1,d2),kd,(b1,b2),D5,C5⟩ Zo Zo;obtain⟨D0,A9,O⟩:=Yk D2.out B6 ((J.out.alloc (.cells (tX ⟨(d1,d2),kd,(b1,b2),D5,C5⟩).toArray 222)).grow E3 (fun g hg=>Zh ((Q.out.lt g hg).1)));have C:Qg (PM w W'):=Qf ((V.out.alloc V.out.size _).grown E3 (by simp; have:=V.out.size; omega) (fun g hg=>by have:=(Q.out.lt g hg).1; have:=A4.o; omega));obtain⟨x0,x1,x2,x3,x4,x5,x6⟩:=BK.c7 B3.out;simp only[tX] at D0;clear B6 E3 D2 E0 F6 F3 HS D6 J B3 V Q;go_wp2_with (at_builtin; refine Lib.wpList_append_run _ rfl _ _ _ _ rfl _ _ rfl rfl _ _ D0.o ?_);go_roundw
     case rel=>exact⟨j+1,p2,bd,_,Zo,Zg,F4,O,A9,C⟩
     case measure=>exact Yr
theorem rdapply_any(A:Qb)(a:Qa)(l:List Dop)(c:Nat)(w:World)(hl:GIn jm 3 (w:Nat) w a l)(hA:(A.length:Int)<=140737488355328)(B6:(l.length:Int)<=9223372036854775807)(hs:∀o∈l,o.data.length<=1099511627776/\o.len<=1099511627776/\o.off<=1099511627776):
  Qh 207 #[A,.slice a l.length c] w (Xz (.tuple #[.string ⟨(gP A l).1.toArray⟩,Yi (gP A l).2]) w):=by
 obtain⟨R,hR⟩:=Qe (gP A l);rw[<-hR];have B:Qg (bW l A.length≠0->R=([],bW l A.length)):=Qf (fun h=>hR.trans (xD h));have K:Qg (bW l A.length=0->R=(l.flatMap (oO A),0)):=Qf (fun h=>hR.trans (Bz h));have H:Qg (bW l A.length=0->DFit A l):=Qf Ju;have P:=Qf (rdcheck_any a l c A.length w hl Zo B6 hs);have C0:=bH A;obtain⟨n,hn⟩:=Qe A.length;rw[<-hn] at P C0;obtain⟨m,hm⟩:=Qe l.length;rw[<-hm] at P ⊢;obtain⟨HM,HL⟩:=Yj hm hl;obtain⟨ce,U⟩:=Qe (bW l A.length);rw[<-U] at B K H;rw[hn,<-U,<-hn] at P;have Q:=Qf hn;have C8:(m:Int)<=9223372036854775807:=Zo;clear hR hl hs hm U hn;by_cases M:ce=0
 case neg=>
  have C9:(ce !=0)=true:=Zu M;have HR:=Qf (B.o M);clear B K H M;go_enter func207,ntmps207;go_wp2_with fail;refine P.o.mono ?_;rintro e u1 ⟨rfl,Y⟩;have A7:=Qf Y;clear Y P;go_wp2;go_ret2;rw[HR.o];exact⟨rfl,A7.o⟩
 case pos=>
 subst M;obtain⟨HR,HF⟩:=Yj (K.o rfl) (H.o rfl);clear B K H;go_enter func207,ntmps207;go_wp2_with fail;refine P.o.mono ?_;rintro e u1 ⟨rfl,Y⟩;have HB:=Qf Y;clear Y P;go_wp2;go_loopw [7,8] (fun s i wr=>∃(k:Nat) (T:Qb),k<=m/\i=Yi (k:Int)/\s=.string ⟨T.toArray⟩/\Qg (T=(l.take k).flatMap (oO A))/\Qg (PM w wr)) (fun _ i _=>m-(intOf i).toNat)
 case atStart=>exact⟨0,[],Zo,rfl,rfl,Qf rfl,HB⟩
 case round=>
  obtain⟨k,T,hk,rfl,rfl,HT,HW⟩:=hrel;clear HB;by_cases B7:k<m
  ·have B0:(k:Int)<(m:Int):=Zo;have X:k<l.length:=HM.o▸B7;obtain⟨b0,A3,S,C6,q0,q1,q2⟩:=xX (HL.o.ahead HW.out) X;have N:=HF.o.fit _ (ak X);have O:=HF.o.inr _ (ak X);have G:=HF.o.siz (k+1);have C:=Jf (a:=A) X;rw[C,af] at G;rw[<-HT.out] at C G;have L:=Qf C;have A1:=Cu N O;generalize l[k]=o at q0 q1 q2 N O G L A1;have A9:=HF.o.al;rw[<-Q.o] at A9;have I:Qg (0<o.len->oO A o=(A.drop o.off).take (o.off+o.len-o.off)/\o.off<=o.off+o.len/\o.off+o.len<=n):=Qf (fun h=>⟨by rw[lU N h,jR],Zo,Q.o▸O h⟩);have J:Qg (o.len=0->oO A o=o.data):=Qf (fun h=>qg h);obtain⟨D,hD⟩:=Qe (oO A o);rw[<-hD] at I J L G;have C4:(T:ByteArray)++⟨D.toArray⟩=⟨(T++D).toArray⟩:=by rw[Bt]
   have B4:=bH T;have B3:=bH D;obtain⟨A2,A0,data⟩:=o;simp only at *
   rw[S];have V:Qg (T++D=(l.take (k+1)).flatMap (oO A)):=Qf L.o.symm;clear N O A1 hD HT L C X;by_cases B2:0<A0
   ·have B5:0<(A0:Int):=Zo;obtain⟨e1,e2,e3⟩:=I.o B2;obtain⟨en,Z⟩:=Qe (A2+A0);have D0:IntKind.i64.wrap ((A2:Int)+(A0:Int))=(en:Int):=by rw[ZV]; omega
    have B9:=fun W=>DD A A2 en Zo (by rw[<-Q.o]; omega) W
    rw[<-Z] at e1 e3;rw[<-e1] at B9;have C7:(A:ByteArray).extract A2 en=⟨D.toArray⟩:=by rw[dw,<-e1]
    obtain⟨lT,F⟩:=Qe T.length;obtain⟨lD,E⟩:=Qe D.length;rw[<-F,<-E] at G;rw[<-F] at B4;rw[<-E] at B3;clear I J e1 F E Z e2 e3 S;go_wp2;go_region;go_wp2;go_roundw
    case rel=>exact⟨k+1,T++D,Zo,Zg,rfl,V,Qf HW.out.drew⟩
    case measure=>exact Yr
   ·have B5:¬0<(A0:Int):=Zo;have e1:=J.o Zo;subst e1;clear I J S;go_wp2;go_roundw
    case rel=>exact⟨k+1,T++D,Zo,Zg,rfl,V,HW⟩
    case measure=>exact Yr
  ·obtain rfl:k=m:=Zo;have B0:¬(k:Int)<(k:Int):=Zo;have A8:Qg (R=(T,0)):=Qf (by rw[HR.o,HT.out,ag (by rw[<-HM.o]; omega)]);clear HT HR;go_wp2;go_ret2;rw[A8.o];exact⟨rfl,HW.out⟩
theorem rpi(n:Nat)(B:(n:Int)<=1099511627776)(w:World):Qh 142 #[Yi (n:Int)] w (Xz (.tuple #[(Cw.enc n),Yi 0]) w):=by
 have h:=xM (n:Int) w;have:GM (n:Int)=(Cw.enc n,0):=by unfold GM; rw[if_pos ((Cw.inR_iff _).2 ⟨Zo,B⟩)]; simp
 rw[this] at h;exact h
theorem rpt(T:Qb)(h:T.length<=65536)(w:World):Qh 89 #[T] w (Xz (.tuple #[.string ⟨(putT T).1.toArray⟩,Yi 0]) w):=by
 have B:=vL ⟨T.toArray⟩ w (Zy bH);have C:putT T=((putT T).1,0):=by unfold putT; rw[if_pos h]
 simp only at B;rw[C] at B;exact B
theorem putT_len{T:Qb}(h:T.length<=65536):(putT T).1.length<=65546:=by
 unfold putT;rw[if_pos h,af];have:=aG T.length;omega
theorem encO_bound(h:o.data.length<=65536):(mU o).length<=65556:=by
 unfold mU;rw[af];have:=aG o.len;have:=aG o.off;have:=putT_len h;split <;> omega
theorem encs_bound:∀(l:List Dop),(∀o∈l,o.data.length<=65536)->(l.flatMap mU).length<=65556*l.length
 | [],_=>Zs
 | o::l,h=>by
  rw[bR,af,az];have B:=encO_bound (h o Zs);have C:=encs_bound l (fun x A=>h x (pM _ A));omega
theorem check_data(h:bW l 65536=0):(∀o∈l,mR o/\o.data.length<=65536/\(o.len:Int)<=1099511627776/\(o.off:Int)<=1099511627776)/\l.length<=65536:=by
 obtain⟨C,A⟩:=Dl h;obtain⟨g1,g2⟩:=yO l 0 A Zo;refine⟨fun o B=>?_,Zo⟩;obtain⟨k1,k2,k3⟩:=g1 o B;refine⟨k1,?_⟩;rcases k1 with⟨c1,c2⟩ | ⟨c1,c2,c3⟩
 ·have:=k3 c1;rw[c2];simp only[aK];omega
 ·unfold bS at k2;rw[if_neg Zo] at k2;omega
theorem encs_take(h:k<l.length):(l.take (k+1)).flatMap mU=(l.take k).flatMap mU++mU l[k]:=by
 rw[ai h,bg];simp
theorem rdenc_any(a:Qa)(l:List Dop)(c:Nat)(w:World)(hl:GIn jm 3 (w:Nat) w a l)(C4:(l.length:Int)<=9223372036854775807)(hs:∀o∈l,o.data.length<=1099511627776/\o.len<=1099511627776/\o.off<=1099511627776):
  Qh 199 #[.slice a l.length c] w (Xz (.tuple #[.string ⟨(AV l).1.toArray⟩,Yi (AV l).2]) w):=by
 obtain⟨R,hR⟩:=Qe (AV l);rw[<-hR];have C:Qg (bW l 65536≠0->R=([],bW l 65536)):=Qf (fun h=>hR.trans (by unfold AV; rw[if_pos h]));have H:Qg (bW l 65536=0->R=(Cw.enc l.length++l.flatMap mU,0)):=Qf (fun h=>hR.trans (by unfold AV; rw[if_neg (Zj h)]));have G:Qg (bW l 65536=0->(∀o∈l,mR o/\o.data.length<=65536/\(o.len:Int)<=1099511627776/\(o.off:Int)<=1099511627776)/\l.length<=65536):=Qf check_data;have O:=Qf (rdcheck_any a l c 65536 w hl Zo C4 hs);rw[show((65536:Nat):Int)=65536 from rfl] at O;obtain⟨m,hm⟩:=Qe l.length;rw[<-hm] at O G H ⊢;obtain⟨HM,HL⟩:=Yj hm hl;generalize bW l 65536=ce at O C H G;clear hR hl hs hm;by_cases L:ce=0
 case neg=>
  have E2:(ce !=0)=true:=Zu L;have HR:=Qf (C.o L);clear C H G L;go_enter func199,ntmps199;go_wp2_with fail;refine O.o.mono ?_;rintro e u1 ⟨rfl,hb⟩;have B4:=Qf hb;clear hb O;go_wp2;go_ret2;rw[HR.o];exact⟨rfl,B4.o⟩
 case pos=>
 subst L;have HR:=Qf (H.o rfl);obtain⟨hF,E1⟩:=G.o rfl;obtain⟨HF,A0⟩:=Yj hF (fun W=>rpi m Zo W);clear C H G hF;go_enter func199,ntmps199;go_wp2_with fail;refine O.o.mono ?_;rintro e u1 ⟨rfl,hb⟩;have HB:=Qf hb;clear hb O;go_wp2_with fail;refine(A0.o _).mono ?_;rintro e u2 ⟨rfl,J⟩;have V:=Qf (XT HB.o J);have B9:=aG m;obtain⟨E,hE⟩:=Qe (Cw.enc m);rw[<-hE] at HR B9 ⊢;clear J A0 hE HB;go_wp2;go_loopw [5,7] (fun s i wr=>∃(k:Nat) (T:Qb),k<=m/\i=Yi (k:Int)/\s=.string ⟨T.toArray⟩/\Qg (T=E++(l.take k).flatMap mU)/\Qg (PM w wr)) (fun _ i _=>m-(intOf i).toNat)
 case atStart=>exact⟨0,E,Zo,rfl,rfl,Qf Zs,V⟩
 case round=>
  clear V;obtain⟨k,T,hk,rfl,rfl,HT,U⟩:=hrel;by_cases C5:k<m
  ·have C0:(k:Int)<(m:Int):=Zo;have h1:k<l.length:=HM.o▸C5;have E0:=bH T;have D5:T.length<=10+65556*65536:=by
    rw[HT.out,af];have:=encs_bound (l.take k) (fun o ho=>(HF.o o (dK ho)).2.1);rw[aA] at this;have:min k l.length<=65536:=Zo;omega
   obtain⟨b0,A1,B7,S,q0,q1,q2⟩:=xX (HL.o.ahead U.out) h1;have D:Qg (∀W,PM wr W->PM w W/\W.cell? ⟨b0,A1+k*3,none⟩=some (Yi (l[k].off:Int))/\W.cell? ⟨b0,A1+k*3+1,none⟩=some (Yi (l[k].len:Int))/\W.cell? ⟨b0,A1+k*3+2,none⟩=some (.string ⟨l[k].data.toArray⟩)):=Qf (fun W hW=>⟨(XT U.out hW),(hW.cell (p:=⟨b0,A1+k*3,none⟩) S).trans q0,(hW.cell (p:=⟨b0,A1+k*3+1,none⟩) S).trans q1,(hW.cell (p:=⟨b0,A1+k*3+2,none⟩) S).trans q2⟩);obtain⟨f1,f2,f3,f4⟩:=HF.o _ (ak h1);have P:=Qf (encs_take h1);generalize l[k]=o at q0 q1 q2 f1 f2 f3 f4 P D;obtain⟨X,Y,Z⟩:=Yk (fun W=>rpi o.len f3 W) (fun W=>rpt o.data f2 W) (fun W=>rpi o.off f4 W);have M:Qg (mU o=Cw.enc o.len++(if 0<o.len then Cw.enc o.off else(putT o.data).1)):=Qf (by
    unfold mU;by_cases hc:0<o.len
    ·rw[if_pos ((gI f1).2 hc),if_pos hc]
    ·rw[if_neg (fun h=>hc ((gI f1).1 h)),if_neg hc])
   have Q:Qg (T++mU o=E++(l.take (k+1)).flatMap mU):=Qf (by rw[P.o,HT.out,ay]);have C7:=aG o.len;have C8:=aG o.off;have C9:=putT_len f2;generalize Cw.enc o.len=X1 at X M C7;generalize (putT o.data).1=X2 at Y M C9;generalize Cw.enc o.off=X3 at Z M C8;generalize mU o=EO at M Q;obtain⟨A4,A2,data⟩:=o;simp only at *
   subst B7;have D7:=bH X1;have D8:=bH X2;have D9:=bH X3;have D6:(T:ByteArray)++⟨X1.toArray⟩=⟨(T++X1).toArray⟩:=by rw[Bt]
   have C2:=bH (T++X1);rw[af] at C2;clear HT P f1 f2 f3 f4 h1;go_wp2_with fail;refine(X.o _).mono ?_;rintro e v1 ⟨rfl,K⟩;obtain⟨_,r0,r1,r2⟩:=D.o _ K;clear q0 q1 q2;go_wp2_with fail;refine(Y.o _).mono ?_;rintro e v2 ⟨rfl,J⟩;have I:=(XT K J);obtain⟨A7,s0,s1,s2⟩:=D.o _ I;obtain⟨A3,B⟩:=Yj A7 I;clear r0 r1 r2 K J A7 I;by_cases A6:0<A2
   ·have C3:0<(A2:Int):=Zo;have F:Qg (T++X1++X3=T++EO):=Qf (by rw[M.o,if_pos A6,ay]);have B8:(⟨(T++X1).toArray⟩:ByteArray)++⟨X3.toArray⟩=⟨(T++EO).toArray⟩:=by rw[Bt,<-F.o]
    clear M F;go_wp2_with fail;refine(Z.o _).mono ?_;rintro e v3 ⟨rfl,A5⟩;have N:=(XT B.o A5);obtain⟨A8,_⟩:=D.o _ N;have B6:=Qf A8;clear A5 N A8 s0 s1 s2 D U A3 B;go_wp2;go_roundw
    case rel=>exact⟨k+1,T++EO,Zo,Zg,rfl,Q,B6⟩
    case measure=>exact Yr
   ·have C3:¬0<(A2:Int):=Zo;have F:Qg (T++X1++X2=T++EO):=Qf (by rw[M.o,if_neg A6,ay]);have B8:(⟨(T++X1).toArray⟩:ByteArray)++⟨X2.toArray⟩=⟨(T++EO).toArray⟩:=by rw[Bt,<-F.o]
    clear M F D U B;go_wp2;go_roundw
    case rel=>exact⟨k+1,T++EO,Zo,Zg,rfl,Q,A3⟩
    case measure=>exact Yr
  ·obtain rfl:k=m:=Zo;have C0:¬(k:Int)<(k:Int):=Zo;have B5:Qg (R=(T,0)):=Qf (by rw[HR.o,HT.out,ag (by rw[<-HM.o]; omega)]);clear HT HR;go_wp2;go_ret2;rw[B5.o];exact⟨rfl,U.out⟩
structure RSt (s:Qb) (u:Nat) (R:List Dop×Int) (k:Nat) (r:Qb) (b:Bool) (l:List Dop):Prop where
 len:l.length=k
 small:∀o∈l,o.data.length<=1099511627776/\o.len<=1099511627776/\o.off<=1099511627776
 rl:r.length<=s.length
 good:b=true->∃p,r=s.drop p/\Og s u k p l
 bad:b=false->R=([],13)
theorem RSt.down{r':Qb}(h:RSt s u R k r true l)(D:R=([],13))(B:r'.length<=s.length)(o:Dop)(C:o.data.length<=1099511627776/\o.len<=1099511627776/\o.off<=1099511627776):RSt s u R (k+1) r' false (l++[o]):=by
 refine⟨by simp[h.len],fun x A=>?_,B,(fun e=>by cases e),fun _=>D⟩;rcases aD.1 A with A | A
 ·exact h.small x A
 ·rw[aH.1 A]; exact C
theorem RSt.up(h:RSt s u R k r true l)(B:opS r=some (o,j)):RSt s u R (k+1) (r.drop j) true (l++[o]):=by
 obtain⟨p,rfl,F⟩:=h.good rfl;have C:=F.next B;obtain⟨_,_,_,G,_,_,D,E⟩:=zU B;refine⟨by simp[h.len],fun x A=>?_,?_,fun _=>⟨p+j,by rw[eY],C⟩,fun e=>by cases e⟩
 ·rcases aD.1 A with A | A
  ·exact h.small x A
  ·rw[aH.1 A]; exact⟨Zo,D,E⟩
 ·rw[eY,ah]; omega
theorem RSt.room(h:RSt s u R k r true l):k<=s.length:=by
 obtain⟨p,rfl,A⟩:=h.good rfl;have:=A.at_.room;rw[ah,ah] at this;omega
theorem RSt.none(h:RSt s u R k r true l)(C:jy n (s.drop u) []=Option.none->R=([],13))(B:k<n)(D:opS r=Option.none):R=([],13):=by
 obtain⟨p,rfl,A⟩:=h.good rfl;exact C (FO k A.go B D)
theorem RSt.fin(h:RSt s u (sK s) n r true l)(B:Cw.getI s=((n:Int),(u:Int),0)):sK s=if(AV l).2≠0\/(AV l).1≠s then([],13) else(l,0):=by
 obtain⟨p,rfl,A⟩:=h.good rfl;exact decD_ref B (Zu A.at_) rfl (Zu A.go)
theorem rddec_any(s:Qb)(w:World)(hl:(s.length:Int)<=1000000):Qh 206 #[s] w (MM w (sK s).1 (sK s).2):=by
 obtain⟨n,u,er,hg⟩:∃n u er,Cw.getI s=(n,u,er):=⟨_,_,_,rfl⟩;obtain⟨h1,h2,h3,h4⟩:=gH hg;obtain⟨n0,rfl⟩:∃n0:Nat,n=(n0:Int):=⟨n.toNat,Zo⟩;obtain⟨u0,rfl⟩:∃u0:Nat,u=(u0:Int):=⟨u.toNat,Zo⟩;have HG:=Qf (rdnum_any hg w Zo);obtain⟨R,hR⟩:=Qe (sK s);have E3:Qg (∀r l,er=0->RSt s u0 R n0 r true l->R=if(AV l).2≠0\/(AV l).1≠s then([],13) else(l,0)):=Qf (fun r l he h=>by
  subst he;rw[hR] at h ⊢;exact h.fin hg)
 have E4:Qg (er=0->jy n0 (s.drop u0) []=Option.none->R=([],13)):=Qf (fun he h=>by
  subst he;rw[hR];exact Jz hg h)
 have C9:Qg (RSt s u0 R 0 (s.drop u0) (er==0) []):=Qf (by
  refine⟨rfl,fun o ho=>by simp at ho,Zy ah,fun _=>⟨u0,rfl,Og.start Zo⟩,fun h=>?_⟩;rw[hR];exact LJ hg (Zu h))
 rw[<-hR];obtain⟨m,hm⟩:=Qe s.length;have HM:=Qf hm;have I5:(s:ByteArray).size=m:=by rw[bH,hm]
 rw[<-hm] at hl h4;obtain⟨r0,G0⟩:=Qe (s.drop u0);rw[<-G0] at HG C9;obtain⟨b0,E5⟩:=Qe (er==0);rw[<-E5] at HG C9;have F2:Qg (b0=true->er=0):=Qf (fun h=>by rw[E5] at h; simpa using h);clear hg hR hm G0 E5;go_enter func206,ntmps206;go_wp2_with fail;refine HG.o.mono ?_;rintro e w1 ⟨rfl,O⟩;have F1:=Qf O;clear O HG;go_wp2;go_loopw [5,6,7,8] (fun a t v i wr=>∃(k:Nat) (r:Qb) (b:Bool) (ls:List Dop),k<=n0/\a=.string ⟨r.toArray⟩/\t=.bool b/\i=Yi (k:Int)/\Qg (RSt s u0 R k r b ls/\(b=true->er=0))/\Qg (wr.ownsRow w 246 3 v k (gcs jm ls))/\Qg (PM w wr)) (fun _ _ _ i _=>n0-(intOf i).toNat)
 case atStart=>exact⟨0,r0,b0,[],Zo,rfl,rfl,rfl,Qf ⟨C9.o,F2.o⟩,Qf (XE _ _ _ _),F1⟩
 case round=>
  clear C9 F1 F2;obtain⟨k,r,b,ls,hk,rfl,rfl,rfl,HS,HO,H⟩:=hrel;obtain⟨va,vc,rfl,I6⟩:=aB HO.out;by_cases E7:k<n0/\b=true
  ·obtain⟨F9,rfl⟩:=E7;have E9:(k:Int)<(n0:Int):=Zo;have F8:=HS.out.1.room;rw[<-HM.o] at F8;have I1:(k:Int)<=(m:Int):=Zo;have E8:(k:Int)<=1000000:=Zo;have E6:=HS.out.2 rfl;obtain⟨A7,I,A6,C3⟩:=Yl HS.out.1.len (fun h=>HS.out.1.none (E4.o E6) F9 h) (fun(hr:R=([],13)) (r':Qb) (hl:r'.length<=s.length) (o:Dop) ho=>HS.out.1.down (r':=r') hr hl o ho) (fun(o:Dop) (j:Nat) (h:opS r=some (o,j))=>HS.out.1.up h);have G1:=HS.out.1.rl;have I4:(r.length:Int)<=1000000:=by rw[<-HM.o] at G1; omega
   obtain⟨n1,u1,e1,B1⟩:∃n1 u1 e1,Cw.getI r=(n1,u1,e1):=⟨_,_,_,rfl⟩;obtain⟨k1,k2,k3,k4⟩:=gH B1;obtain⟨x1,rfl⟩:∃x1:Nat,n1=(x1:Int):=⟨n1.toNat,Zo⟩;obtain⟨y1,rfl⟩:∃y1:Nat,u1=(y1:Int):=⟨u1.toNat,Zo⟩;have G2:x1<=1099511627776:=Zo;obtain⟨v0,C6⟩:=Qe (wr.alloc (.cells #[Yi 0,Yi 0,Ye] 246));have D7:PM wr v0:=C6▸ba _ _;have E2:BK wr #[Yi 0,Yi 0,Ye] 246 v0:=C6▸BK.new _ _ _;have B9:=Qf (rdnum_any B1 v0 Zo);rw[C6] at B9;obtain⟨B5,D6,F4,B4⟩:=Yl D7 E2 C6 (fun(h:e1≠0)=>I.o (Nj B1 h));have B6:Qg (e1=0->0<x1->∀m2 v2 e2,Cw.getI (r.drop y1)=(m2,v2,e2)->opS r=if e2≠0 then Option.none else some (⟨m2.toNat,x1,[]⟩,y1+v2.toNat)):=Qf (fun h hx m2 v2 e2 h2=>by subst h; exact KM B1 hx h2);have B7:Qg (e1=0->x1=0->∀t v2 e2,Cw.getT (r.drop y1)=(t,v2,e2)->opS r=if e2≠0 then Option.none else some (⟨0,0,t⟩,y1+v2.toNat)):=Qf (fun h hx m2 v2 e2 h2=>by subst h; subst hx; exact Nh B1 h2);have A8:Qg ((r.drop y1).length<=s.length):=Qf (Zy ah);have H0:((r.drop y1).length:Int)<=1000000:=Zy ah;have A5:Qg (∀j,(r.drop y1).drop j=r.drop (y1+j)):=Qf (fun j=>by rw[eY]);obtain⟨r1,E1⟩:=Qe (r.drop y1);rw[<-E1] at B9 B6 B7 A8 H0 A5;obtain⟨b1,V⟩:=Qe (e1==0);rw[<-V] at B9;clear B1 k1 k2 k3 k4 D7 E2 C6 E1 G1;go_wp2_with fail;refine B9.o.mono ?_;rintro e v1 ⟨rfl,D1⟩;rw[<-F4.o] at D1;have D8:=(XT B5.o D1);have A3:=D6.o.below D1;obtain⟨v2,C7⟩:=Qe (v1.setCell ⟨wr,1,none⟩ (Yi (x1:Int)));have C8:BK wr #[Yi 0,Yi (x1:Int),Ye] 246 v2:=C7▸A3.set 1 _;have D9:PM wr v2:=C7▸D8.setCell (by simp) _;obtain⟨f0,f1,f2⟩:=BK.c3 A3;obtain⟨A0,B2,D4⟩:=BK.f3 (A3);obtain⟨g0,g1,g2⟩:=BK.c3 C8;rw[C7] at g0 g1 g2;obtain⟨K,B0,P⟩:=Yk C7 C8 D9;clear D1 D8 A3 C7 C8 D9 B9 B5 D6 F4;cases b1 with
   | false=>
    have Z:e1≠0:=Zu V.symm;have U:Qg (RSt s u0 R (k+1) r1 false (ls++[⟨0,x1,[]⟩])/\(false=true->er=0)):=Qf ⟨A6.o (B4.o Z) r1 A8.o ⟨0,x1,[]⟩ ⟨Zs,G2,Zs⟩,fun h=>by cases h⟩;clear V Z B6 B7 A5 B4 C3 I A6;have C:=Qf (XT H.out P.o);obtain⟨z0,z1,z2⟩:=BK.c3 B0.o;obtain⟨v',W',B,D,Y,_⟩:=BA A7.o.symm (PO HO.out P.o) ⟨0,x1,[]⟩ E8 C.o.size;have B3:Qg (PM w W'):=Qf ((C.o.alloc C.o.size _).grown Y (by have:=C.o.size; simp; omega) (fun i hi=>Zh ((HO.out.lt i hi).1)));have F:(v2:Nat)=(v1:Nat):=Zn K.o;simp only[jm] at B;rw[F,K.o] at B;rw[K.o] at z0 z1 z2;obtain⟨S,C1,C2⟩:=Yk B.out D U.o;clear B D Y C H HO P B0 A7 F K;go_wp2_with (at_builtin; refine Lib.wpList_append_run _ rfl _ _ _ _ rfl _ _ rfl rfl _ _ S.o ?_);go_roundw
    case rel=>exact⟨k+1,r1,false,_,Zo,rfl,rfl,Zg,C2,C1,B3⟩
    case measure=>exact Yr
   | true=>
    have Z:e1=0:=Zu V.symm;clear B4 V;by_cases H3:0<x1
    ·have I7:0<(x1:Int):=Zo;obtain⟨n2,u2,e2,M⟩:∃n2 u2 e2,Cw.getI r1=(n2,u2,e2):=⟨_,_,_,rfl⟩;obtain⟨k1,k2,k3,k4⟩:=gH M;obtain⟨x2,rfl⟩:∃x2:Nat,n2=(x2:Int):=⟨n2.toNat,Zo⟩;obtain⟨y2,rfl⟩:∃y2:Nat,u2=(y2:Int):=⟨u2.toNat,Zo⟩;have E:=B6.o Z H3 _ _ _ M;simp only[aj] at E;have U:Qg (RSt s u0 R (k+1) (r1.drop y2) (e2==0) (ls++[⟨x2,x1,[]⟩])/\((e2==0)=true->er=0)):=Qf (by
      refine⟨?_,fun _=>E6⟩;by_cases h:e2=0
      ·subst h;rw[if_neg Zs] at E;rw[A5.o];exact C3.o _ _ E
      ·rw[if_pos h] at E;rw[show(e2==0)=false by simpa using h];exact A6.o (I.o E) _ (by have:=A8.o; rw[ah]; omega) ⟨x2,x1,[]⟩ ⟨Zs,G2,by show x2<=_; omega⟩)
     have C0:=Qf (rdnum_any M v2 Zo);rw[K.o] at C0;generalize (e2==0)=b2 at U C0;generalize r1.drop y2=r2 at U C0;clear E B6 B7 A5 C3 I A6 k1 k2 k3 k4 M Z A8;go_wp2_with fail;refine C0.o.mono ?_;rintro e v3 ⟨rfl,D2⟩;rw[<-K.o] at D2;have E0:=(XT P.o D2);have A4:=B0.o.below D2;obtain⟨v4,N⟩:=Qe (v3.setCell wr (Yi (x2:Int)));have C4:Qg (BK wr #[Yi (x2:Int),Yi (x1:Int),Ye] 246 v4):=Qf (N▸A4.set 0 _);have G:Qg (PM wr v4):=Qf (N▸E0.setCell (by simp) _);clear f0 f1 f2 A0 B2 D4 g0 g1 g2 C0;obtain⟨h0,h1,h2⟩:=BK.c3 A4;obtain⟨G4,G6,G8⟩:=BK.f3 (A4);have L:=Qf N;clear D2 E0 A4 N B0 P K;have C:=Qf (XT H.out G.o);obtain⟨z0,z1,z2⟩:=BK.c3 C4.o;obtain⟨v',W',B,D,Y,_⟩:=BA A7.o.symm (PO HO.out G.o) ⟨x2,x1,[]⟩ E8 C.o.size;have B3:Qg (PM w W'):=Qf ((C.o.alloc C.o.size _).grown Y (by have:=C.o.size; simp; omega) (fun i hi=>Zh ((HO.out.lt i hi).1)));have F:(v4:Nat)=(v3:Nat):=Zn L.o;simp only[jm] at B;rw[F,L.o] at B;rw[L.o] at z0 z1 z2;obtain⟨S,C1,C2⟩:=Yk B.out D U.o;clear B D Y C H HO G C4 A7 F L;go_wp2_with (at_builtin; refine Lib.wpList_append_run _ rfl _ _ _ _ rfl _ _ rfl rfl _ _ S.o ?_);go_roundw
     case rel=>exact⟨k+1,r2,b2,_,Zo,rfl,rfl,Zg,C2,C1,B3⟩
     case measure=>exact Yr
    ·obtain rfl:x1=0:=Zo;obtain⟨tx,F0,e2,M⟩:∃tx v2 e2,Cw.getT r1=(tx,v2,e2):=⟨_,_,_,rfl⟩;obtain⟨k1,k2,k3⟩:=lZ M;obtain⟨y2,rfl⟩:∃y2:Nat,F0=(y2:Int):=⟨F0.toNat,Zo⟩;have E:=B7.o Z rfl _ _ _ M;simp only[aj] at E;have U:Qg (RSt s u0 R (k+1) (r1.drop y2) (e2==0) (ls++[⟨0,0,tx⟩])/\((e2==0)=true->er=0)):=Qf (by
      refine⟨?_,fun _=>E6⟩;by_cases h:e2=0
      ·subst h;rw[if_neg Zs] at E;rw[A5.o];exact C3.o _ _ E
      ·rw[if_pos h] at E;rw[show(e2==0)=false by simpa using h];exact A6.o (I.o E) _ (by have:=A8.o; rw[ah]; omega) ⟨0,0,tx⟩ ⟨by show tx.length<=_; omega,Zs,Zs⟩)
     have HT:Qg (∀X,Qh 154 #[r1] X fun e w'=>e=.returned (.tuple #[tx,Yi (y2:Int),Yi e2])/\X=w'):=Qf (fun X=>by
      have:=vN ⟨r1.toArray⟩ X (Zy bH);simp only at this;rw[M] at this;exact this)
     have H1:=fun W=>jY r1 y2 Zo W
     have G7:(r1:ByteArray).extract y2 r1.length=⟨(r1.drop y2).toArray⟩:=by rw[dw,ag Zs]
     generalize r1.drop y2=r2 at U H1 G7;clear E B6 B7 A5 C3 I A6 k1 k2 M Z A8;have D5:Qg (v2=v1.setCell ⟨wr,1,none⟩ (Yi 0)):=Qf K.o;have A1:Qg (BK wr #[Yi 0,Yi 0,Ye] 246 v2):=Qf B0.o;have G3:(v1.setCell ⟨wr,1,none⟩ (Yi 0)).cell? ⟨wr,1,none⟩=some (Yi 0):=g1;clear K B0 g1;go_wp2_with fail;refine(HT.o _).mono ?_;rintro e v3 ⟨rfl,rfl⟩;go_wp2_with fail;rw[<-D5.o];clear f0 f1 f2 A0 B2 D4 g0 G3 g2 HT D5;obtain⟨q0,q1,q2⟩:=BK.c3 A1.o;obtain⟨F5,F6,F7⟩:=BK.f3 (A1.o);obtain⟨v4,N⟩:=Qe ((v2.setCell ⟨wr,2,none⟩ (.string ⟨tx.toArray⟩)).drew);have C4:Qg (BK wr #[Yi 0,Yi 0,tx] 246 v4):=Qf (N▸(show BK wr #[Yi 0,Yi 0,tx] 246 _ from A1.o.set 2 _).below ((bf _).drew));have G:Qg (PM wr v4):=Qf (N▸(P.o.setCell (by simp) _).drew);have L:=Qf N;clear N A1 P;go_region;clear q0 q1 q2 F5 F6 F7;have C:=Qf (XT H.out G.o);obtain⟨z0,z1,z2⟩:=BK.c3 C4.o;obtain⟨v',W',B,D,Y,_⟩:=BA A7.o.symm (PO HO.out G.o) ⟨0,0,tx⟩ E8 C.o.size;have B3:Qg (PM w W'):=Qf ((C.o.alloc C.o.size _).grown Y (by have:=C.o.size; simp; omega) (fun i hi=>Zh ((HO.out.lt i hi).1)));have F:(v4:Nat)=(v2:Nat):=Zn L.o;simp only[jm] at B;rw[F,L.o] at B;rw[L.o] at z0 z1 z2;obtain⟨S,C1,C2⟩:=Yk B.out D U.o;clear B D Y C H HO G C4 A7 F L;go_wp2_with (at_builtin; refine Lib.wpList_append_run _ rfl _ _ _ _ rfl _ _ rfl rfl _ _ S.o ?_);go_roundw
     case rel=>exact⟨k+1,r2,(e2==0),_,Zo,rfl,rfl,Zg,C2,C1,B3⟩
     case measure=>exact Yr
  ·have B8:=Qf HS.out.1.len;have HI:=Qf (jw F3 B8.o.symm HO.out);have Q:=Qf (rdenc_any va ls vc wr (HI.o.mono (Zh H.out.size)) (Zy B8.o) HS.out.1.small);rw[B8.o] at Q;obtain⟨T,te,D3⟩:∃T te,AV ls=(T,te):=⟨_,_,rfl⟩;rw[D3] at Q;simp only at Q;have F9:=bH T;cases b with
   | false=>
    have HR:=Qf (HS.out.1.bad rfl);clear D3 E3 E4 HS;by_cases H6:k<n0
    ·have E9:(k:Int)<(n0:Int):=Zo;go_wp2_with fail;refine Q.o.mono ?_;rintro e u2 ⟨rfl,O⟩;have J:=Qf (XT H.out O);clear O;go_wp2;go_ret2;rw[HR.o];exact MM.no 13 J.o
    ·have E9:¬(k:Int)<(n0:Int):=Zo;go_wp2_with fail;refine Q.o.mono ?_;rintro e u2 ⟨rfl,O⟩;have J:=Qf (XT H.out O);clear O;go_wp2;go_ret2;rw[HR.o];exact MM.no 13 J.o
   | true=>
    obtain rfl:k=n0:=by
     by_cases e:k<n0
     ·exact absurd ⟨e,rfl⟩ E7
     ·omega
    have E9:¬(k:Int)<(k:Int):=Zo;have D0:=E3.o r ls (HS.out.2 rfl) HS.out.1;rw[D3] at D0;simp only at D0;have A9:=Qf D0;clear D3 E3 E4 HS D0 E7;by_cases A2:te=0
    ·subst A2;by_cases C5:T=s
     ·have HR:Qg (R=(ls,0)):=Qf (by rw[A9.o,if_neg (Zj C5)]);subst C5;clear A9;go_wp2_with fail;refine Q.o.mono ?_;rintro e u2 ⟨rfl,O⟩;obtain⟨J,G5⟩:=Yj (XT H.out O) (jw F3 B8.o.symm (PO HO.out O));clear O;go_wp2;go_ret2;rw[HR.o];exact⟨va,vc,Zw B8.o,G5.o,J.o⟩
     ·have I0:(T==s)=false:=Zu C5;have HR:Qg (R=([],13)):=Qf (by rw[A9.o,if_pos (.inr C5)]);clear A9 C5;go_wp2_with fail;refine Q.o.mono ?_;rintro e u2 ⟨rfl,O⟩;have J:=Qf (XT H.out O);clear O;go_wp2;go_ret2;rw[HR.o];exact MM.no 13 J.o
    ·have I2:(te !=0)=true:=Zu A2;have HR:Qg (R=([],13)):=Qf (by rw[A9.o,if_pos (.inl A2)]);clear A9 A2;go_wp2_with fail;refine Q.o.mono ?_;rintro e u2 ⟨rfl,O⟩;have J:=Qf (XT H.out O);clear O;go_wp2;go_ret2;rw[HR.o];exact MM.no 13 J.o
theorem datI_hit(D:k<xs.length)(C:xs[k].d=d)(B:∀j (A:j<xs.length),j<k->xs[j].d≠d):De xs d=(xs[k].data,0):=by
 have:xs.find? (fun x=>decide (x.d=d))=some xs[k]:=by
  rw[List.find?_eq_some_iff_getElem];refine⟨Zu C,k,D,rfl,fun j A=>?_⟩;simpa using B j Zo A
 unfold De;rw[this]
theorem datI_miss(B:∀j (A:j<xs.length),xs[j].d≠d):De xs d=([],8):=by
 have:xs.find? (fun x=>decide (x.d=d))=none:=by
  rw[List.find?_eq_none];intro x C;obtain⟨j,A,rfl⟩:=aV C;simpa using B j A
 unfold De;rw[this]
theorem rdata_any(a:Qa)(xs:List Itm)(c:Nat)(d1 d2:Int)(w:World)(hp:Its w w a xs)(hn:(xs.length:Int)<=9223372036854775807):
  Qh 196 #[.slice a xs.length c,.agg #[Yu d1,Yu d2]] w (Xz (.tuple #[.string ⟨(De xs (d1,d2)).1.toArray⟩,.bool ((De xs (d1,d2)).2==0)]) w):=by
 obtain⟨wa,G⟩:=Qe (w.alloc (.cells #[Yu d1,Yu d2] 54));have S:PM w wa:=G▸ba _ _;have E:=Qf S;have H:Qg (BK w #[Yu d1,Yu d2] 54 wa):=Qf (G▸BK.new _ _ _);obtain⟨HP,P⟩:=Yj hp G;obtain⟨R,V⟩:=Qe (De xs (d1,d2));rw[<-V];have C:Qg (∀k (hk:k<xs.length),xs[k].d=(d1,d2)->(∀j (J:j<xs.length),j<k->xs[j].d≠(d1,d2))->R=(xs[k].data,0)):=Qf (fun k hk U h2=>V.trans (datI_hit hk U h2));have B:Qg ((∀j (J:j<xs.length),xs[j].d≠(d1,d2))->R=([],8)):=Qf (fun h=>V.trans (datI_miss h));obtain⟨n,M⟩:=Qe xs.length;rw[<-M] at hn ⊢;have HN:=Qf M;clear G S hp V M;go_enter func196,ntmps196;go_wp2_with fail;rw[<-P.o];clear P;go_loopw [6] (fun i wr=>∃k:Nat,k<=n/\i=Yi (k:Int)/\Qg (∀j (J:j<xs.length),j<k->xs[j].d≠(d1,d2))/\Qg (PM w wr)/\Qg (BK w #[Yu d1,Yu d2] 54 wr)) (fun i _=>n-(intOf i).toNat)
 case atStart=>exact⟨0,Zo,rfl,Qf (fun j _ h=>Zo),E,H⟩
 case round=>
  clear E H;obtain⟨k,hk,rfl,N,E,H⟩:=hrel;by_cases A3:k<n
  ·have A2:(k:Int)<(n:Int):=Zo;have U:k<xs.length:=HN.o▸A3;obtain⟨b0,A1,L,A0,q0,q1,q2⟩:=(HP.o.ahead E.o) k U;have O:=Qf (C.o k U);have D:Qg (xs[k].d≠(d1,d2)->∀j (J:j<xs.length),j<k+1->xs[j].d≠(d1,d2)):=Qf (fun h j J A8=>by
    by_cases e:j=k
    ·subst e; exact h
    ·exact N.out j J Zo)
   generalize xs[k]=x at q0 q1 q2 O D;obtain⟨⟨x1,x2⟩,data⟩:=x;simp only at q0 q1 q2 O D;obtain⟨g0,g1⟩:=BK.c2 H.o;have F:=fun W=>jD x1 x2 d1 d2 W
   by_cases I:(x1,x2)=(d1,d2)
   ·have Q:(x1==d1&&x2==d2)=true:=by
     simp only[XC] at I;simp[I.1,I.2]
    rw[Q] at F;obtain⟨Z,K⟩:=Yj (O.o I N.out) E.o.drew;have T:PM wr wr.drew:=(bf _).drew;have r2:=(T.cell (p:=⟨b0,A1+k*3+2,none⟩) A0).trans q2;rw[L];clear O D N E H C B I Q L T;go_wp2;go_region;clear q0 q1 q2 g0 g1 F;go_wp2;go_ret2;rw[Z.o];exact⟨rfl,K.o⟩
   ·have Q:(x1==d1&&x2==d2)=false:=by
     cases h:(x1==d1&&x2==d2) with
     | false=>rfl
     | true=>exact absurd (by simp only[XF,XS] at h; rw[h.1,h.2]) I
    rw[Q] at F;obtain⟨Y,K,X⟩:=Yk (D.o I) E.o.drew (H.o.below ((bf _).drew));rw[L];clear O D N E H B I Q;go_wp2;go_region;clear q0 q1 q2 g0 g1 F;go_wp2;go_roundw
    case rel=>exact⟨k+1,Zo,Zg,Y,K,X⟩
    case measure=>exact Yr
  ·obtain rfl:k=n:=Zo;have A2:¬(k:Int)<(k:Int):=Zo;have Z:=Qf (B.o (fun j J=>N.out j J (HN.o▸J)));clear N C B H;go_wp2;go_ret2;rw[Z.o];exact⟨rfl,E.o⟩
def rightE(T:Qb)(d:Int×Int):Int:=if(bI T).2≠0 then 13 else if iY T≠d then 15 else 0
theorem rightS_is(T:Qb)(d:Int×Int):iK.rightS T d=if rightE T d≠0 then([],rightE T d) else(T,0):=by
 unfold iK.rightS rightE;split
 ·simp
 ·split <;> simp
theorem rright_any(T:Qb)(d1 d2:Int)(w:World)(hl:(T.length:Int)<=1000000):
  Qh 208 #[T,.agg #[Yu d1,Yu d2]] w (Xz (Yi (rightE T (d1,d2))) w):=by
 obtain⟨wa,J⟩:=Qe (w.alloc (.cells #[Yu d1,Yu d2] 54));have A0:PM w wa:=J▸ba _ _;have HB:=Qf A0;have HD:Qg (BK w #[Yu d1,Yu d2] 54 wa):=Qf (J▸BK.new _ _ _);obtain⟨C,L,Z⟩:=Yk (tO T wa hl) (fun W=>Hu T W Zo) J;obtain⟨R,Y⟩:=Qe (rightE T (d1,d2));rw[<-Y];unfold rightE at Y;obtain⟨o,oe,X⟩:∃o oe,bI T=(o,oe):=⟨_,_,rfl⟩;obtain⟨D1,D2,V⟩:∃D1 D2,iY T=(D1,D2):=⟨_,_,rfl⟩;rw[X,V] at Y;rw[X] at C;rw[V] at L;rw[J] at C;simp only at Y C L;have HR:=Qf Y;have F:=fun W=>nI D1 D2 d1 d2 W
 unfold Kq at C;clear J A0 Y X V;go_enter func208,ntmps208;go_wp2_with fail;refine C.o.mono ?_;rintro e u ⟨ea,ec,pa,pc,rfl,A4,K⟩;rw[<-Z.o] at K;have hd:=HD.o.below K;have S:=(XT HB.o K);have A6:=hd.lt;obtain⟨A3,data,A2,⟨t1,t2⟩,A5,A1,A7,A8⟩:=o;simp only[Ob.val];generalize A2.length=ne;generalize A5.length=np;obtain⟨u2,O⟩:=Qe (u.alloc (.cells #[Yi A3,data,.slice ea ne ec,Yu t1,Yu t2,.slice pa np pc,A1,Yi A7,A8] 59));have M:PM u u2:=O▸ba _ _;have U:=hd.below M;obtain⟨G,H⟩:=Yj (XT S M) O;clear A4 C Z HB HD hd S K;by_cases N:oe=0
 case neg=>
  have B:(oe !=0)=true:=Zu N;have D:Qg (R=13):=Qf (by rw[HR.o,if_pos N]);clear HR N U M O;go_wp2_with fail;rw[<-H.o];go_ret;exact⟨Zw D.o,G.o⟩
 case pos=>
 subst N;have D:Qg (R=if(D1,D2)≠(d1,d2) then 15 else 0):=Qf (by rw[HR.o,if_neg Zs]);have E:=Qf (fun d os=>YJ (w:=u2) (d:=d) (os:=os) (L.o _));obtain⟨g0,g1⟩:=BK.c2 U;have f0:=YG g0;have f1:=YG g1;clear O M U HR L;by_cases B:(D1,D2)=(d1,d2)
 case neg=>
  have K:(D1==d1&&D2==d2)=false:=by
   cases h:(D1==d1&&D2==d2) with
   | false=>rfl
   | true=>exact absurd (by simp only[XF,XS] at h; rw[h.1,h.2]) B
  have Q:Qg (R=15):=Qf (by rw[D.o,if_pos B]);rw[K] at F;simp only[Bool.not_false] at F;clear D B K;go_upto_region 4 with(fail)
  rw[<-H.o];refine YH Zk Zk ?_
  repeat (any_goals (first | go_big_quiet_step (with_reducible exact E.o _ _) | quiet_step (with_reducible exact E.o _ _)))
  refine YI ?_;intro w4 I;have P:=Qf (XT G.o (aX I));clear I H g0 g1 f0 f1 E F;go_wp2;go_ret;exact⟨Zw Q.o,P.o⟩
 case pos=>
 have K:(D1==d1&&D2==d2)=true:=by
  simp only[XC] at B;simp[B.1,B.2]
 have Q:Qg (R=0):=Qf (by rw[D.o,if_neg (Zj B)]);rw[K] at F;simp only[Bool.not_true] at F;clear D B K;go_upto_region 4 with(fail)
 rw[<-H.o];refine YH Zk Zk ?_
 repeat (any_goals (first | go_big_quiet_step (with_reducible exact E.o _ _) | quiet_step (with_reducible exact E.o _ _)))
 refine YI ?_;intro w4 I;have P:=Qf (XT G.o (aX I));clear I H g0 g1 f0 f1 E F;go_wp2;go_ret;exact⟨Zw Q.o,P.o⟩
theorem datI_err(xs:List Itm)(d:Int×Int)(h:(De xs d).2≠0):De xs d=([],8):=by
 unfold De at h ⊢;cases A:xs.find? (fun x=>decide (x.d=d)) with
 | none=>rfl
 | some x=>rw[A] at h; simp at h
theorem right_err{t:Qb}(h:(iK.rightS t d).2≠0):(iK.rightS t d).1=[]:=by
 unfold iK.rightS at h ⊢;split
 ·rfl
 ·rename_i A;rw[if_neg A] at h;split
  ·rfl
  ·rename_i B; rw[if_neg B] at h; simp at h
theorem dat_err{R:Rdr}:∀(n i:Nat),i<n->i<R.l.length->(R.dat i).2≠0->(R.dat i).1=[]
 | 0,i,h,_=>Zo
 | n+1,i,h,H=>by
  have F:(wu R.xs R.l R.dat i R.l[i].base).2≠0->(wu R.xs R.l R.dat i R.l[i].base).1=[]:=by
   unfold wu;cases I:rE R.l R.l[i].base with
   | none=>intro h; simp only at h ⊢; rw[datI_err _ _ h]
   | some j=>
    simp only;by_cases C:j<i
    ·rw[if_pos C]; exact dat_err n j Zo Zo
    ·rw[if_neg C]; intro h; rw[datI_err _ _ h]
  have G:R.dat i=iK R.s (wu R.xs R.l R.dat i R.l[i].base) R.l[i]:=JB H;rw[G];generalize wu R.xs R.l R.dat i R.l[i].base=sr at *
  generalize R.l[i]=x at *
  unfold iK;intro h;split
  ·rename_i A;rw[if_pos A] at h;split
   ·rename_i B; exact F B
   ·rename_i B;rw[if_neg B] at h;split
    ·rfl
    ·rename_i D;rw[if_neg D] at h;split
     ·rfl
     ·rename_i E; rw[if_neg E] at h; exact right_err h
  ·rename_i A;rw[if_neg A] at h;exact right_err h
theorem src_hit{l:List Pe}{i:Nat}(D:(l.map (·.d)).Nodup)(C:k<l.length)(A:l[k].d=d)(B:k<i):wu xs l dat i d=dat k:=by
 unfold wu;rw[<-A,Ny D C];simp only;rw[if_pos B]
theorem src_pass{l:List Pe}(E:k<l.length)(C:l[k].d≠d):wu xs l dat (k+1) d=wu xs l dat k d:=by
 unfold wu;cases h:rE l d with
 | none=>rfl
 | some j=>
  simp only;obtain⟨D,B,_⟩:=Ai h;have:j≠k:=fun e=>C (by subst e; exact B)
  by_cases A:j<k
  ·rw[if_pos A,if_pos Zo]
  ·rw[if_neg A,if_neg Zo]
theorem src_zero{l:List Pe}:wu xs l dat 0 d=De xs d:=by
 unfold wu;cases h:rE l d <;> rfl
def ReadS(R:Rdr)(i:Nat):Prop:=∀W:World,GIn tX 7 W.heap.size W R.ea R.l->Its W.heap.size W R.pa R.xs->Qh 164 #[R.s,.slice R.ea R.l.length R.ec,Yi (i:Int),.slice R.pa R.xs.length R.pc] W (Xz (.tuple #[.string ⟨(R.dat i).1.toArray⟩,Yi (R.dat i).2]) W)
theorem read_of(R:Rdr)(hR:R.Ok)(i:Nat)(hi:i<R.l.length)(H7:∀j,j<i->ReadS R j):ReadS R i:=by
 intro w hG G7;have J1:(i:Int)<=1000:=Zh hR.ll;have J7:=hR.xl;obtain⟨G3,F8,F9⟩:=Yk H7 hG G7;obtain⟨k0,A7⟩:=hR.ents.at_ _ (ak hi);have N:=(iB A7).1;have J4:=hR.sl;have A8:R.l[i].off+R.l[i].len<=R.s.length:=by have:=N.hi; rw[aA] at this; omega
 have H5:=N.tl;have H4:=N.kind;have C6:R.dat i=iK R.s (wu R.xs R.l R.dat i R.l[i].base) R.l[i]:=JB hi;have B0:=M4 hR i (Nat.le_of_lt hi) R.l[i].base;obtain⟨bl,F1,E4,E5,q0,q1,q2,q3,q4,q5,q6⟩:=rX hG hi;obtain⟨T,er,D8⟩:∃T er,R.dat i=(T,er):=⟨_,_,rfl⟩;obtain⟨A1,C8⟩:=Yj (D8.symm.trans C6) (dat_err (R:=R) (i+1) i Zo hi);rw[D8] at C8 ⊢;generalize I5:R.l[i]=x at *
 obtain⟨⟨d1,d2⟩,kd,⟨b1,b2⟩,C5,C7⟩:=x;simp only at q0 q1 q2 q3 q4 q5 q6 A8 H5 H4 A1 B0 C8 ⊢;clear D8 C6 A7 N H7 hG G7 I5;obtain⟨wb,B1⟩:=Qe (w.alloc (.cells #[Yu d1,Yu d2,Yi kd,Yu b1,Yu b2,Yi (C5:Int),Yi (C7:Int)] 222));have H0:PM w wb:=B1▸ba _ _;have Z:Qg (BK w #[Yu d1,Yu d2,Yi kd,Yu b1,Yu b2,Yi (C5:Int),Yi (C7:Int)] 222 wb):=Qf (B1▸BK.new _ _ _);obtain⟨P,A2⟩:=Yj H0 B1;obtain⟨nl,C4⟩:=Qe R.l.length;obtain⟨nx,E6⟩:=Qe R.xs.length;have J0:i<nl:=C4▸hi;obtain⟨I1,G2⟩:=Yj C4 E6;rw[<-C4,<-E6];rw[E4];obtain⟨pe,N⟩:=Qe (C5+C7);have J6:IntKind.i64.wrap ((C5:Int)+(C7:Int))=(pe:Int):=by rw[ZV]; omega
 have E8:=fun W=>DD R.s C5 pe Zo Zo W
 have H2:(⟨R.s.toArray⟩:ByteArray).extract C5 pe=⟨((R.s.drop C5).take C7).toArray⟩:=by rw[dw,N,jR]
 rw[show pe-C5=C7 by omega] at E8;have H1:=AZ R.s C5 C7 A8;obtain⟨D0,D7⟩:=Qe ((R.s.drop C5).take C7);have J5:=bH R.s;rw[<-D7] at E8 H2 H1;obtain⟨B3,F7⟩:=Yj D7 E4;obtain⟨e0,e1,e2,e3,e4,e5,e6⟩:=BK.c7 Z.o;rw[B1] at e0 e1 e2 e3 e4 e5 e6;clear D7 N B1 H0 C4 E6 E4;rcases H4 with rfl | rfl
 ·have HT:Qg ((T,er)=iK.rightS D0 (d1,d2)):=Qf (by rw[A1.o,B3.o]; unfold iK; rw[if_neg Zs]);obtain⟨D,G6⟩:=Qe D0;rw[<-G6] at HT H1 E8 H2;have I2:(D.length:Int)<=65536:=Zo;clear G6 A1 B3 G3;obtain⟨U,J⟩:=Yj Z.o P.o;go_enter func164,ntmps164;go_wp2_with fail;rw[<-A2.o];rw[<-A2.o] at e0 e1 e2 e3 e4 e5 e6;clear A2 Z P q0 q1 q2 q3 q4 q5 q6;obtain⟨M,F⟩:=Yj (rright_any D d1 d2 wb Zo) (HT.o.trans (rightS_is D (d1,d2)));generalize rightE D (d1,d2)=re at M F;obtain⟨y0,y1,y2,y3,y4,y5,y6⟩:=BK.c7 U.o;clear HT;go_wp2_with fail;refine M.o.mono ?_;rintro e u9 ⟨rfl,A5⟩;have V:=Qf (XT J.o A5);clear M A5 y0 y1 y2 y3 y4 y5 y6 U J;by_cases I:re=0
  ·subst I;have B:=F.o;rw[if_neg Zs] at B;simp only[XC] at B;obtain⟨E,C⟩:=B;subst E;subst C;clear F;go_wp2;go_ret2;exact⟨rfl,V.o⟩
  ·have C3:(re !=0)=true:=Zu I;have B:=F.o;rw[if_pos I] at B;simp only[XC] at B;obtain⟨E,C⟩:=B;subst E;subst C;clear F I;go_wp2;go_ret2;exact⟨rfl,V.o⟩
 ·have B4:Qg ((T,er)=if(wu R.xs R.l R.dat i (b1,b2)).2≠0 then wu R.xs R.l R.dat i (b1,b2) else if(sK D0).2≠0 then([],13) else if(gP (wu R.xs R.l R.dat i (b1,b2)).1 (sK D0).1).2≠0 then([],13) else iK.rightS (gP (wu R.xs R.l R.dat i (b1,b2)).1 (sK D0).1).1 (d1,d2)):=Qf (by rw[A1.o,B3.o]; unfold iK; rw[if_pos rfl]);obtain⟨G0,Y⟩:=Yj hR.ents.nd (rdata_any R.pa R.xs R.pc b1 b2 wb (F9.o.ahead P.o) Zo);obtain⟨A0,a0,A3⟩:∃A0 a0,De R.xs (b1,b2)=(A0,a0):=⟨_,_,rfl⟩;have D6:Qg (∃e2,wu R.xs R.l R.dat 0 (b1,b2)=(A0,e2)/\(a0==0)=(e2==0)/\(e2≠0->A0=[]/\e2=8)):=Qf ⟨a0,by rw[src_zero,A3],rfl,fun h=>by
   have:=datI_err R.xs (b1,b2) (A3▸h);rw[A3] at this;simpa using this⟩
  rw[A3,<-G2.o] at Y;simp only at Y;generalize (a0==0)=t0 at D6 Y;have G5:=Qf B0;clear A3 A1 B3 B0;go_enter func164,ntmps164;go_wp2_with fail;rw[<-A2.o];clear e0 e1 e2 e3 e4 e5 e6 q0 q1 q2 q3 q4 q5 q6 A2;refine Y.o.mono ?_;rintro e u1 ⟨rfl,D9⟩;obtain⟨F5,F3⟩:=Yj (Z.o.below D9) (XT P.o D9);clear D9 Y Z P;go_wp2;go_loopw [12,13,14] (fun a t c wr=>∃(k:Nat) (fr:Qb) (th:Bool),k<=i/\a=.string ⟨fr.toArray⟩/\t=.bool th/\c=Yi (k:Int)/\Qg (∃e2,wu R.xs R.l R.dat k (b1,b2)=(fr,e2)/\th=(e2==0)/\(e2≠0->fr=[]/\e2=8))/\Qg (BK w #[Yu d1,Yu d2,Yi 1,Yu b1,Yu b2,Yi (C5:Int),Yi (C7:Int)] 222 wr)/\Qg (PM w wr)) (fun _ _ c _=>i-(intOf c).toNat)
  case atStart=>exact⟨0,A0,t0,Zo,rfl,rfl,rfl,D6,F5,F3⟩
  case round=>
   clear D6 F5 F3;obtain⟨k,fr,th,hk,rfl,rfl,rfl,HS,U,HB⟩:=hrel;by_cases E5:k<i
   ·have I4:(k:Int)<(i:Int):=Zo;have C2:k<R.l.length:=Zo;have J2:k<nl:=Zo;obtain⟨bk,F0,A7,I7,q0,q1,q2,q3,q4,q5,q6⟩:=rX (F8.o.below HB.out nr) C2;rw[F7.o] at A7;obtain⟨rfl,rfl⟩:bl=bk/\F1=F0:=Zu A7;clear q2 q3 q4 q5 q6;have O:Qg (R.l[k].d=(b1,b2)->wu R.xs R.l R.dat i (b1,b2)=R.dat k/\wu R.xs R.l R.dat (k+1) (b1,b2)=R.dat k):=Qf (fun h=>⟨src_hit G0.o C2 h E5,src_hit G0.o C2 h Zo⟩);have H:Qg (R.l[k].d≠(b1,b2)->wu R.xs R.l R.dat (k+1) (b1,b2)=wu R.xs R.l R.dat k (b1,b2)):=Qf (fun h=>src_pass C2 h);generalize R.l[k].d=dk at q0 q1 O H;obtain⟨c1,c2⟩:=dk;simp only at q0 q1;have C1:=fun W=>jD c1 c2 b1 b2 W
    obtain⟨L,D1⟩:=Yj HB.out.drew (U.o.below ((bf _).drew));obtain⟨e0,e1,e2,e3,e4,e5,e6⟩:=BK.c7 U.o;by_cases he:(c1,c2)=(b1,b2)
    ·have hb:(c1==b1&&c2==b2)=true:=by
      simp only[XC] at he;simp[he.1,he.2]
     rw[hb] at C1;obtain⟨Q,K⟩:=O.o he;obtain⟨S,se,E3⟩:∃S se,R.dat k=(S,se):=⟨_,_,rfl⟩;have G:=Qf (G3.o k E5 wr.drew ((F8.o.below L.o nr).mono L.o.size) (F9.o.ahead L.o));rw[E3,<-I1.o,<-G2.o,F7.o] at G;simp only at G;rw[E3] at Q K;obtain⟨D3,D4⟩:=Yj Q K;clear he hb O H E3 Q K HS U HB;go_wp2;go_region;clear e0 e1 e2 e3 e4 e5 e6 q0 q1 C1;go_wp2_with fail;refine G.o.mono ?_;rintro e u2 ⟨rfl,E0⟩;obtain⟨F4,I0⟩:=Yj (XT L.o E0) (D1.o.below E0);clear E0 G L D1;by_cases A9:se=0
     ·subst A9;have D5:Qg (∃e2,wu R.xs R.l R.dat (k+1) (b1,b2)=(S,e2)/\true=(e2==0)/\(e2≠0->S=[]/\e2=8)):=Qf ⟨0,D4.o,rfl,fun h=>absurd rfl h⟩;clear D3 D4;go_wp2;go_roundw
      case rel=>exact⟨k+1,S,true,Zo,rfl,rfl,Zg,D5,I0,F4⟩
      case measure=>exact Yr
     ·have C3:(se !=0)=true:=Zu A9;have B:=B4.o;rw[D3.o] at B;simp only at B;rw[if_pos A9] at B;simp only[XC] at B;obtain⟨E,C⟩:=B;have G1:=C8 (C▸A9);subst C;subst G1;clear B4 D3 D4 A9;go_wp2;go_ret2;exact⟨rfl,F4.o⟩
    ·have hb:(c1==b1&&c2==b2)=false:=by
      cases h:(c1==b1&&c2==b2) with
      | false=>rfl
      | true=>exact absurd (by simp only[XF,XS] at h; rw[h.1,h.2]) he
     rw[hb] at C1;have D5:Qg (∃e2,wu R.xs R.l R.dat (k+1) (b1,b2)=(fr,e2)/\th=(e2==0)/\(e2≠0->fr=[]/\e2=8)):=Qf (by rw[H.o he]; exact HS.out);clear he hb O H HS U HB;go_wp2;go_region;clear e0 e1 e2 e3 e4 e5 e6 q0 q1 C1;go_wp2;go_roundw
     case rel=>exact⟨k+1,fr,th,Zo,rfl,rfl,Zg,D5,D1,L⟩
     case measure=>exact Yr
   ·obtain rfl:k=i:=Zo;have I4:¬(k:Int)<(k:Int):=Zo;obtain⟨e2,Q,K,E7⟩:=HS.out;have hK:=B4.o;have G8:=G5.o;rw[Q] at hK G8;simp only at hK G8;have B5:=Qf hK;clear hK Q HS B4 G5;by_cases C0:e2=0
    case neg=>
     obtain⟨rfl,rfl⟩:=E7 C0;have E9:th=false:=Zw K;subst E9;have B:=B5.o;rw[if_pos C0] at B;simp only[XC] at B;obtain⟨E,C⟩:=B;subst E;subst C;clear B5 C0 K E7;go_wp2;go_ret2;exact⟨rfl,HB.out⟩
    case pos=>
    subst C0;have E9:th=true:=Zw K;subst E9;clear K E7;obtain⟨l,de,B9⟩:∃l de,sK D0=(l,de):=⟨_,_,rfl⟩;have X:=Qf (rddec_any D0 wr Zo);unfold MM at X;rw[B9] at X;simp only at X;have B6:Qg ((T,er)=if de≠0 then([],13) else if(gP fr l).2≠0 then([],13) else iK.rightS (gP fr l).1 (d1,d2)):=Qf (by rw[B5.o,if_neg Zs,B9]);have D2:Qg (de=0->(l.length:Int)<=D0.length/\∀o∈l,o.data.length<=1099511627776/\o.len<=1099511627776/\o.off<=1099511627776):=Qf (fun h=>by
     subst h;obtain⟨_,_,h3,h4⟩:=JA B9;exact⟨h3,fun o ho=>⟨Zh ((h4 o ho).1),(h4 o ho).2⟩⟩)
    clear B9 B5;go_wp2_with fail;refine X.o.mono ?_;rintro e u3 ⟨da,dc,rfl,H3,E1⟩;obtain⟨F6,B2⟩:=Yj (U.o.below E1) (XT HB.out E1);clear X E1 U HB;by_cases A6:de=0
    case neg=>
     have C3:(de !=0)=true:=Zu A6;have B:=B6.o;rw[if_pos A6] at B;simp only[XC] at B;obtain⟨E,C⟩:=B;subst E;subst C;clear B6 D2 A6;go_wp2;go_ret2;exact⟨rfl,B2.o⟩
    case pos=>
    obtain⟨J3,H6⟩:=D2.o A6;subst A6;obtain⟨D,ae,B8⟩:∃A ae,gP fr l=(A,ae):=⟨_,_,rfl⟩;have HA:=Qf (rdapply_any fr da l dc u3 H3 Zo Zo H6);rw[B8] at HA;simp only at HA;have B7:Qg ((T,er)=if ae≠0 then([],13) else iK.rightS D (d1,d2)):=Qf (by rw[B6.o,if_neg Zs,B8]);have C9:Qg (ae=0->(D.length:Int)<=65536):=Qf (fun h=>by subst h; exact Bv B8);generalize l.length=ln at *
    clear B8 B6 D2 H6 H3;go_wp2_with fail;refine HA.o.mono ?_;rintro e u4 ⟨rfl,E2⟩;obtain⟨U,J⟩:=Yj (F6.o.below E2) (XT B2.o E2);clear HA E2 F6 B2;by_cases A4:ae=0
    case neg=>
     have C3:(ae !=0)=true:=Zu A4;have B:=B7.o;rw[if_pos A4] at B;simp only[XC] at B;obtain⟨E,C⟩:=B;subst E;subst C;clear B7 C9 A4;go_wp2;go_ret2;exact⟨rfl,J.o⟩
    case pos=>
    have I2:=C9.o A4;subst A4;have HT:Qg ((T,er)=iK.rightS D (d1,d2)):=Qf (by rw[B7.o,if_neg Zs]);clear B7 C9;obtain⟨M,F⟩:=Yj (rright_any D d1 d2 u4 Zo) (HT.o.trans (rightS_is D (d1,d2)));generalize rightE D (d1,d2)=re at M F;obtain⟨y0,y1,y2,y3,y4,y5,y6⟩:=BK.c7 U.o;clear HT;go_wp2_with fail;refine M.o.mono ?_;rintro e u9 ⟨rfl,A5⟩;have V:=Qf (XT J.o A5);clear M A5 y0 y1 y2 y3 y4 y5 y6 U J;by_cases I:re=0
    ·subst I;have B:=F.o;rw[if_neg Zs] at B;simp only[XC] at B;obtain⟨E,C⟩:=B;subst E;subst C;clear F;go_wp2;go_ret2;exact⟨rfl,V.o⟩
    ·have C3:(re !=0)=true:=Zu I;have B:=F.o;rw[if_pos I] at B;simp only[XC] at B;obtain⟨E,C⟩:=B;subst E;subst C;clear F I;go_wp2;go_ret2;exact⟨rfl,V.o⟩
theorem read_all{R:Rdr}(A:R.Ok):∀(n i:Nat),i<n->i<R.l.length->ReadS R i
 | 0,i,h,_=>Zo
 | n+1,i,h,B=>read_of R A i B (fun j C=>read_all A n j Zo Zo)
