/- Lemmas. -/
import Derived.Test.YtkedhdcnakhbgaaGreatG1
import Derived.Test.YtkedhdcnakhbgaaGreatK1
import Derived.Deep.OwnRows
import Derived.Test.YtkedhdcnakhbgaaGreatG2
set_option linter.unusedSimpArgs false
set_option maxRecDepth 100000
set_option maxHeartbeats 16000000
namespace Go.Proofs.YtkedhdcnakhbgaaGreat
open Tryz
open Go.RowKit
set_option linter.unusedVariables false
variable {oc:Array Value}{a:Int}{b base n:Nat}{o:Ob}{r r':RS}{v:Value}{W W' w:World}
theorem og(x y:Int)(w:World):Qh 249 #[.agg #[Yu x,Yu y]] w (Xz (.bool (x==0&&y==0)) w):=by
 cases B:(x==0) with
 | true=>
  go_enter func249,ntmps249;go_wp2;go_ret;exact⟨Zs,ba w _⟩
 | false=>
  go_enter func249,ntmps249;go_wp2;go_ret;exact⟨Zs,ba w _⟩
theorem CB(c:UInt8):dI c=true↔((97<=(c.toNat:Int)/\(c.toNat:Int)<=122)\/(65<=(c.toNat:Int)/\(c.toNat:Int)<=90)\/(48<=(c.toNat:Int)/\(c.toNat:Int)<=57)\/(c.toNat:Int)=46\/(c.toNat:Int)=95\/(c.toNat:Int)=45):=by
 have e:∀k:UInt8,(c==k)=true↔(c.toNat:Int)=k.toNat:=fun k=>by
  rw[XS,<-UInt8.toNat_inj]; omega
 simp only[dI,Bool.or_eq_true,XF,XJ,e];simp;omega
theorem wC(L:Qb)(w:World)(hs:(L.length:Int)<=9223372036854775807):Qh 250 #[L] w fun e w'=>e=.returned (.bool (jA L))/\w=w':=by
 obtain⟨R,M⟩:=Qe (jA L);rw[<-M];unfold jA at M;have I:=Qf M;clear M;by_cases S:(L.length:Int)<1
 ·have D:Qg (R=false):=Qf (by rw[I.o,XN Zo]; rfl);have d1:decide ((L.length:Int)<1)=true:=Zu S;go_enter func250,ntmps250;go_wp2;go_ret;exact⟨Zw D.o,rfl⟩
 ·by_cases K:(24:Int)<L.length
  ·have D:Qg (R=false):=Qf (by rw[I.o,XN (show ¬L.length<=24 by omega)]; simp);have d1:decide ((L.length:Int)<1)=false:=Zu S;have d2:decide ((24:Int)<(L.length:Int))=true:=Zu K;go_enter func250,ntmps250;go_wp2;go_ret;exact⟨Zw D.o,rfl⟩
  ·have d1:decide ((L.length:Int)<1)=false:=Zt;have d2:decide ((24:Int)<(L.length:Int))=false:=Zt;have U:1<=(L.length:Int):=Zo;have V:(L.length:Int)<=24:=Zo;cases e1:(L==[46]) with
   | true=>
    have D:Qg (R=false):=Qf (by rw[I.o,e1]; simp);go_enter func250,ntmps250;go_wp2;go_ret;exact⟨Zw D.o,rfl⟩
   | false=>
    cases e2:(L==[46,46]) with
    | true=>
     have D:Qg (R=false):=Qf (by rw[I.o,e2]; simp);go_enter func250,ntmps250;go_wp2;go_ret;exact⟨Zw D.o,rfl⟩
    | false=>
     have D:Qg (R=L.all dI):=Qf (by rw[I.o,e1,e2,XI (show 1<=L.length by omega),XI (show L.length<=24 by omega)]; simp);go_enter func250,ntmps250;go_wp2;go_loop [3] (fun i=>∃k:Nat,k<=L.length/\i=Yi k/\Qg ((L.take k).all dI=true)) (fun i=>L.length-(intOf i).toNat)
     case atStart=>exact⟨0,Zo,rfl,Qf rfl⟩
     case round=>
      obtain⟨k,Z,rfl,Q⟩:=hrel;by_cases E:k<L.length
      ·obtain⟨O,G,C⟩:=Yk (EU E Q.out) (fun h=>JX (L:=L) E h) (CB L[k]);obtain⟨x,W,X,J,T⟩:=idx ⟨L.toArray⟩ k (by rw[bH]; exact E);have F:((L[k].toNat:Nat):Int)=x:=by
        rw[J];have:(L:ByteArray).data.toList.getD k 0=L[k]:=by simp[List.getD,XH E]
        rw[this]
       rw[F] at C;clear J F;cases H:dI L[k] with
       | true=>
        have P:=C.o.1 H;have B:Qg ((L.take (k+1)).all dI=true):=Qf (by rw[O.o,H]);clear H C O G;rcases P with⟨a1,a2⟩ | ⟨a1,a2⟩ | ⟨a1,a2⟩ | rfl | rfl | rfl
        ·have t1:decide (97<=x)=true:=Zt;have t2:decide (x<=122)=true:=Zt;go_wp2;go_round
         case rel=>exact⟨k+1,Zo,Zg,B⟩
         case measure=>exact Yq
        ·have t1:decide (97<=x)=false:=Zt;have t3:decide (65<=x)=true:=Zt;have t4:decide (x<=90)=true:=Zt;go_wp2;go_round
         case rel=>exact⟨k+1,Zo,Zg,B⟩
         case measure=>exact Yq
        ·have t1:decide (97<=x)=false:=Zt;have t3:decide (65<=x)=false:=Zt;have t5:decide (48<=x)=true:=Zt;have t6:decide (x<=57)=true:=Zt;go_wp2;go_round
         case rel=>exact⟨k+1,Zo,Zg,B⟩
         case measure=>exact Yq
        ·go_wp2;go_round
         case rel=>exact⟨k+1,Zo,Zg,B⟩
         case measure=>exact Yq
        ·go_wp2;go_round
         case rel=>exact⟨k+1,Zo,Zg,B⟩
         case measure=>exact Yq
        ·go_wp2;go_round
         case rel=>exact⟨k+1,Zo,Zg,B⟩
         case measure=>exact Yq
       | false=>
        have P:(0<=x/\x<=44)\/x=47\/(58<=x/\x<=64)\/(91<=x/\x<=94)\/x=96\/(123<=x/\x<=255):=by
         have Y:¬((97<=x/\x<=122)\/(65<=x/\x<=90)\/(48<=x/\x<=57)\/x=46\/x=95\/x=45):=fun h=>by have K:=C.o.2 h; rw[H] at K; cases K
         omega
        have B:Qg (R=false):=Qf (D.o▸G.o H);clear H C O G;rcases P with⟨a1,a2⟩ | rfl | ⟨a1,a2⟩ | ⟨a1,a2⟩ | rfl | ⟨a1,a2⟩
        ·have t1:decide (97<=x)=false:=Zt;have t3:decide (65<=x)=false:=Zt;have t5:decide (48<=x)=false:=Zt;have A1:(x==46)=false:=Zy XK;have A2:(x==95)=false:=Zy XK;have A0:(x==45)=false:=Zy XK;go_wp2;go_ret;exact⟨Zw B.o,rfl⟩
        ·go_wp2;go_ret;exact⟨Zw B.o,rfl⟩
        ·have t1:decide (97<=x)=false:=Zt;have t3:decide (65<=x)=false:=Zt;have t5:decide (48<=x)=true:=Zt;have t6:decide (x<=57)=false:=Zt;have A1:(x==46)=false:=Zy XK;have A2:(x==95)=false:=Zy XK;have A0:(x==45)=false:=Zy XK;go_wp2;go_ret;exact⟨Zw B.o,rfl⟩
        ·have t1:decide (97<=x)=false:=Zt;have t3:decide (65<=x)=true:=Zt;have t4:decide (x<=90)=false:=Zt;have t5:decide (48<=x)=true:=Zt;have t6:decide (x<=57)=false:=Zt;have A1:(x==46)=false:=Zy XK;have A2:(x==95)=false:=Zy XK;have A0:(x==45)=false:=Zy XK;go_wp2;go_ret;exact⟨Zw B.o,rfl⟩
        ·go_wp2;go_ret;exact⟨Zw B.o,rfl⟩
        ·have t1:decide (97<=x)=true:=Zt;have t2:decide (x<=122)=false:=Zt;have t3:decide (65<=x)=true:=Zt;have t4:decide (x<=90)=false:=Zt;have t5:decide (48<=x)=true:=Zt;have t6:decide (x<=57)=false:=Zt;have A1:(x==46)=false:=Zy XK;have A2:(x==95)=false:=Zy XK;have A0:(x==45)=false:=Zy XK;go_wp2;go_ret;exact⟨Zw B.o,rfl⟩
      ·have N:Qg (R=true):=Qf (by rw[D.o,<-ag (l:=L) (i:=k) Zo]; exact Q.out);go_wp2;go_ret;exact⟨Zw N.o,rfl⟩
theorem CF:∀(a b:Qb),leB a b=!Op.bytesLess b a
 | [],[]=>rfl
 | [],b::y=>rfl
 | a::x,[]=>rfl
 | a::x,b::y=>by
  have ih:=CF x y;unfold leB at ih ⊢;simp only[Op.bytesLess,List.cons_beq_cons];rcases Nat.lt_trichotomy a.toNat b.toNat with h | h | h
  ·have D:a<b:=h;have C:¬b<a:=fun B=>by have A:b.toNat<a.toNat:=B; omega
   have A:(b==a)=false:=by rw[XK]; intro e; subst e; omega
   simp[D,C,A]
  ·have e:a=b:=UInt8.toNat_inj.1 h;subst e;have C:¬a<a:=fun B=>by have A:a.toNat<a.toNat:=B; omega
   simp only[C,decide_false,Bool.false_or,beq_self_eq_true,Bool.true_and];exact ih
  ·have D:b<a:=h;have C:¬a<b:=fun B=>by have A:a.toNat<b.toNat:=B; omega
   have A:(a==b)=false:=by rw[XK]; intro e; subst e; omega
   simp[D,C,A]
theorem zx(a:Qa)(es:List Ent)(c:Nat)(w:World)(A0:BI (w:Nat) w a es)(hn:(es.length:Int)<=9223372036854775807)(A2:∀e∈es,(e.name.length:Int)<=9223372036854775807):
  Qh 236 #[.slice a es.length c] w (Xz (Yi (mK es)) w):=by
 obtain⟨R,U⟩:=Qe (mK es);rw[<-U];obtain⟨n,X⟩:=Qe es.length;unfold mK at U;rw[<-X] at U hn ⊢;obtain⟨HN,Z,A4⟩:=Yk X A0 A2;clear X A0 A2;by_cases S:(200:Int)<n
 ·have T:Qg (R=4):=Qf (by rw[U,if_pos Zo]);have d1:decide ((200:Int)<(n:Int))=true:=Zu S;clear U;go_enter func236,ntmps236;go_wp2;go_ret;exact⟨Zw T.o,bf _⟩
 ·have T:Qg (R=kF none es):=Qf (by rw[U,if_neg Zo]);have d1:decide ((200:Int)<(n:Int))=false:=Zu S;clear U;go_enter func236,ntmps236;go_wp2;go_loopw [3] (fun i wr=>∃k:Nat,k<=n/\i=Yi k/\Qg (PM w wr)/\Qg (ER es k)) (fun i _=>n-(intOf i).toNat)
  case atStart=>exact⟨0,Zo,rfl,Qf (bf _),Qf (ER.start es)⟩
  case round=>
   obtain⟨k,hk,rfl,L,HE⟩:=hrel;have N:=L.out.size;by_cases A9:k<n
   ·have h1:k<es.length:=HN.o▸A9;obtain⟨b0,o0,rfl,B1,c0,c1,c2,c3⟩:=(Z.o.below L.out nr) k h1;have J:=Qf (HE.out.step h1);have hl:=A4.o _ (ak h1);generalize es[k]=en at c0 c1 c2 c3 J hl;obtain⟨E,A3,d1,d2⟩:=en;simp only at c0 c1 c2 c3 J hl;have B5:(k:Int)<(n:Int):=Zo;obtain⟨O,P⟩:=Yj (fun W=>wC E W hl) (fun W=>og d1 d2 W);cases Y:jA E with
    | false=>
     rw[Y] at O;have I:Qg (R=6):=Qf (by rw[T.o,J.o,Y,if_pos rfl]);clear Y J HE;go_wp2_with fail;have C:=O.o wr;refine C.mono ?_;clear C;rintro e w' ⟨rfl,rfl⟩;go_wp2;go_ret;exact⟨Zw I.o,L.out⟩
    | true=>
     rw[Y] at O;have D:Qg (R=if xR (kP es k) E=true then 10 else if((d1,d2):Int×Int)=(0,0) then 1 else kF (kP es (k+1)) (es.drop (k+1))):=Qf (by rw[T.o,J.o,Y,if_neg Zs]);clear Y J HE;by_cases M:k=0
     ·have g0:decide ((0:Int)<(k:Int))=false:=Zt;have g1:decide (0<k)=false:=Zt;have B:Qg (R=if((d1,d2):Int×Int)=(0,0) then 1 else kF (kP es (k+1)) (es.drop (k+1))):=Qf (by rw[D.o,M]; rfl);clear D M;cases F:(d1==0&&d2==0) with
      | true=>
       rw[F] at P;have I:Qg (R=1):=Qf (by
        rw[B.o,if_pos];simp only[XF,XS] at F;rw[F.1,F.2])
       clear F B;go_wp2_with fail;have C:=O.o wr;refine C.mono ?_;clear C;rintro e w' ⟨rfl,rfl⟩;go_wp2_with fail;go_quiet (fail);go_wp2_with fail;have C:=P.o (wr.drewN nq);refine C.mono ?_;clear C;rintro e w1 ⟨rfl,H⟩;have G:=Qf ((below_drewN L.out nq).trans (H.mono N));clear H;go_wp2;go_ret;exact⟨Zw I.o,G.o⟩
      | false=>
       rw[F] at P;have I:Qg (ER es (k+1)):=Qf (by
        unfold ER;rw[<-T.o,B.o,if_neg];intro h;simp only[XC] at h;simp[h.1,h.2] at F)
       clear F B;go_wp2_with fail;have C:=O.o wr;refine C.mono ?_;clear C;rintro e w' ⟨rfl,rfl⟩;go_wp2_with fail;go_quiet (fail);go_wp2_with fail;have C:=P.o (wr.drewN nq);refine C.mono ?_;clear C;rintro e w1 ⟨rfl,H⟩;have G:=Qf ((below_drewN L.out nq).trans (H.mono N));clear H;go_wp2;go_roundw
       case rel=>exact⟨k+1,Zo,Zg,G,I⟩
       case measure=>exact Yq
     ·have g0:decide ((0:Int)<(k:Int))=true:=Zt;have g1:decide (0<k)=true:=Zt;obtain⟨j,hj⟩:∃j,k=j+1:=⟨k-1,Zo⟩;have A1:j<es.length:=Zo;obtain⟨b1,o1,A6,B2,q0,_,_,_⟩:=(Z.o.below L.out nr) j A1;cases A6;have V:(k:Int)-1=(j:Int):=Zo;have B4:IntKind.i64.wrap ((k:Int)-1)=(j:Int):=V▸ZV;have B3:(j:Int)<(n:Int):=Zo;have K:Qg (kP es k=some es[j].name):=Qf (by rw[hj,kP,XH A1]; rfl);generalize es[j].name=Q at q0 K;cases H:Op.bytesLess Q E with
      | false=>
       have I:Qg (R=10):=Qf (by rw[D.o,K.o,if_pos]; simp[xR,CF,H]);clear D K hj V M;go_wp2_with fail;have C:=O.o wr;refine C.mono ?_;clear C;rintro e w' ⟨rfl,rfl⟩;go_wp2_with fail;go_quiet (fail);go_wp2;go_ret;exact⟨Zw I.o,below_drewN L.out _⟩
      | true=>
       have B:Qg (R=if((d1,d2):Int×Int)=(0,0) then 1 else kF (kP es (k+1)) (es.drop (k+1))):=Qf (by rw[D.o,K.o,if_neg]; simp[xR,CF,H]);clear D K hj V M;cases F:(d1==0&&d2==0) with
       | true=>
        rw[F] at P;have I:Qg (R=1):=Qf (by
         rw[B.o,if_pos];simp only[XF,XS] at F;rw[F.1,F.2])
        clear F B;go_wp2_with fail;have C:=O.o wr;refine C.mono ?_;clear C;rintro e w' ⟨rfl,rfl⟩;go_wp2_with fail;go_quiet (fail);go_wp2_with fail;have C:=P.o (wr.drewN nq);refine C.mono ?_;clear C;rintro e w1 ⟨rfl,H⟩;have G:=Qf ((below_drewN L.out nq).trans (H.mono N));clear H;go_wp2;go_ret;exact⟨Zw I.o,G.o⟩
       | false=>
        rw[F] at P;have I:Qg (ER es (k+1)):=Qf (by
         unfold ER;rw[<-T.o,B.o,if_neg];intro h;simp only[XC] at h;simp[h.1,h.2] at F)
        clear F B;go_wp2_with fail;have C:=O.o wr;refine C.mono ?_;clear C;rintro e w' ⟨rfl,rfl⟩;go_wp2_with fail;go_quiet (fail);go_wp2_with fail;have C:=P.o (wr.drewN nq);refine C.mono ?_;clear C;rintro e w1 ⟨rfl,H⟩;have G:=Qf ((below_drewN L.out nq).trans (H.mono N));clear H;go_wp2;go_roundw
        case rel=>exact⟨k+1,Zo,Zg,G,I⟩
        case measure=>exact Yq
   ·have I:Qg (R=0):=Qf (by rw[T.o]; exact HE.out.fin (by rw[<-HN.o]; omega));go_wp2;go_ret;exact⟨Zw I.o,L.out⟩
def gN(r:RS):Int×RS:=if r.2=true\/(Cw.getI r.1).2.2≠0 then(0,(r.1,true)) else((Cw.getI r.1).1,(r.1.drop (Cw.getI r.1).2.1.toNat,false))
def kL(r:RS):Qb×RS:=if r.2=true\/(Cw.getT r.1).2.2≠0 then([],(r.1,true)) else((Cw.getT r.1).1,(r.1.drop (Cw.getT r.1).2.1.toNat,false))
def jh(r:RS):(Int×Int)×RS:=if r.2=true\/r.1.length<16 then((0,0),(r.1,true)) else((mJ (r.1.take 8),mJ ((r.1.drop 8).take 8)),(r.1.drop 16,false))
def BJ(r:RS):Ent×RS:=(⟨(kL r).1,(gN (kL r).2).1==1,(jh (gN (kL r).2).2).1⟩,(jh (gN (kL r).2).2).2)
def nD{α:Type}(get:RS->α×RS)(r:RS):List α×RS:=dH get (gN r).1.toNat (gN r).2
def qC(r:RS):Ob×RS:=
 (⟨3,[],[],(jh r).1,(nD jh (jh r).2).1,(kL (nD jh (jh r).2).2).1,(gN (kL (nD jh (jh r).2).2).2).1,(kL (gN (kL (nD jh (jh r).2).2).2).2).1⟩,
  (kL (gN (kL (nD jh (jh r).2).2).2).2).2)
def jr(s:Qb):Ob×RS:=
 if(gN (s,false)).1=2 then({ obZ with kind:=2,ents:=(nD BJ (gN (s,false)).2).1 },(nD BJ (gN (s,false)).2).2)
 else if(gN (s,false)).1=3 then qC (gN (s,false)).2
 else({ obZ with kind:=(gN (s,false)).1,data:=(kL (gN (s,false)).2).1 },(kL (gN (s,false)).2).2)
def uX(s:Qb):Ob×Int:=if(jr s).2.2=true\/(aR (jr s).1).2≠0\/(aR (jr s).1).1≠s then(obZ,13) else((jr s).1,0)
theorem rW(h:n<=1099511627776)(l:Qb):gN (Cw.enc n++l,false)=((n:Int),(l,false)):=by
 unfold gN;simp only[Cw.getI_enc n h l];simp
theorem rV{x:Qb}(h:x.length<=65536)(l:Qb):kL (fF x++l,false)=(x,(l,false)):=by
 unfold kL fF;simp only[yx h l];simp only[aj,qL];simp
theorem Co{d:Int×Int}(h:OkD d)(l:Qb):jh (beD d++l,false)=(d,(l,false)):=by
 have A:=xQ h l;unfold iH at A;unfold jh;have B:¬(beD d++l).length<16:=by simp[bX]
 rw[if_neg (Zu B)] at A;rw[if_neg (Zu B)];exact A
theorem KI{e:Ent}(A:e.name.length<=65536)(h:OkD e.d)(l:Qb):BJ (ru e++l,false)=(e,(l,false)):=by
 obtain⟨nm,B,d⟩:=e;unfold BJ ru;simp only at A h ⊢;rw[ay,rV A];simp only;rw[ay,rW (by cases B <;> simp[vG])];simp only;have e2:(((vG B:Nat):Int)==1)=B:=by cases B <;> rfl
 rw[Co h,e2]
theorem zM{α:Type}{get:RS->α×RS}{enc:α->Qb}(xs:List α)(l:Qb)(B:xs.length<=1000000)(A:∀x∈xs,∀l',get (enc x++l',false)=(x,(l',false))):
  nD get (Cw.enc xs.length++(xs.flatMap enc++l),false)=(xs,(l,false)):=by
 unfold nD;rw[rW Zo];simp only[aj];rw[tT xs l A]
theorem Hw(h:dz o=0)(F:OkO o)(G:o.data.length<=65536)(l:Qb):jr (gZ o++l)=(o,(l,false)):=by
 have I:=eP h;unfold jr gZ;rw[ay,rW Zo];have e:((o.kind.toNat:Nat):Int)=o.kind:=Zo;simp only[e];by_cases A:o.kind=2
 ·rw[if_pos A,if_pos A,ay];obtain⟨E,D⟩:=jO h A;obtain⟨J,H⟩:=nL D;rw[zM o.ents l Zo (fun x C l'=>KI (Zh (di (l9 H x C))) (F.2.2 x C) l')];simp only;rw[<-E]
 ·rw[if_neg A,if_neg A];by_cases B:o.kind=3
  ·rw[if_pos B,if_pos B];obtain⟨E,D⟩:=iC h B;obtain⟨c1,c2,c3,c4,c5,_⟩:=kJ D;have K:=di c2;unfold qC;simp only[ay];rw[Co F.1];simp only;rw[zM o.pars _ Zo (fun x C l'=>Co (F.2.1 x C) l')];simp only;rw[rV Zo];simp only;rw[rW Zo];simp only;rw[rV Zo];simp only;rw[show((o.time.toNat:Nat):Int)=o.time by omega,<-E]
  ·rw[if_neg B,if_neg B,rV G];simp only;rw[<-mh h Zo]
theorem Cn(r:RS):OkD (jh r).1:=by
 unfold jh;split
 ·exact(show OkD ((0:Int),(0:Int)) from⟨⟨Zd,Zd⟩,Zd,Zd⟩)
 ·exact⟨gu _ (Zy aA),gu _ (Zy aA)⟩
theorem DU(s:Qb):OkO (jr s).1:=by
 have A:OkD (0,0):=⟨⟨Zd,Zd⟩,Zd,Zd⟩;unfold jr;split
 ·exact⟨A,by simp[obZ],(jJ (P:=fun e:Ent=>OkD e.d) (fun r=>Cn _) _ _).2⟩
 ·split
  ·exact⟨Cn _,(jJ (P:=OkD) Cn _ _).2,by simp[qC]⟩
  ·exact⟨A,by simp[obZ],by simp[obZ]⟩
theorem Gn(s:Qb):uX s=bI s:=by
 by_cases A:(jr s).2.2=true\/(aR (jr s).1).2≠0\/(aR (jr s).1).1≠s
 ·have C:uX s=(obZ,13):=by unfold uX; rw[if_pos A]
  rw[C];rcases A7 s with h | ⟨o,h⟩
  ·exact h.symm
  ·exfalso;obtain⟨B,E⟩:=kI h;obtain⟨c1,c2,c3⟩:=fA B;have D:=Hw c1 E (Zh (Bl c1)) [];rw[bG,<-c2] at D;rw[D] at A;simp[B] at A
 ·have C:uX s=((jr s).1,0):=by unfold uX; rw[if_neg A]
  rw[C];simp only[not_or,Classical.not_not] at A;have B:aR (jr s).1=(s,0):=by rw[<-A.2.1]; exact Prod.ext A.2.2 rfl
  exact(Gm B (DU s)).symm
def Cv(o:Ob):Bool:=!(((o.kind==2||o.kind==3)&&!o.data.isEmpty)||(!(o.kind==2)&&decide (0<o.ents.length)))&&(o.kind==3||!Kj o)
def gJ(o:Ob):Int:=
 if o.kind<1\/4<o.kind then 9 else if Cv o=false then 1 else if o.kind=2 then mK o.ents else if o.kind=3 then dS o else if 65536<o.data.length then 4 else 0
theorem KO(o:Ob):Cv o=(!(((o.kind==2||o.kind==3)&&!o.data.isEmpty)||(!(o.kind==2)&&decide (0<o.ents.length)))&&(o.kind==3||((o.tree.1==0&&o.tree.2==0)&&!decide (0<o.pars.length)&&o.author.isEmpty&&(o.time==0)&&o.msg.isEmpty))):=by
 unfold Cv;rw[I8];have e:∀l:Qb,(l==[])=l.isEmpty:=fun l=>by cases l <;> rfl
 simp only[e,Bool.not_or,Bool.not_not]
theorem Mc{w1:World}(A:PM W w1):(∀b o,b<(W:Nat)->w1.cell? ⟨b,o,none⟩=W.cell? ⟨b,o,none⟩)/\(∀b o,b<(W:Nat)->w1.frozen? ⟨b,o,none⟩=W.frozen? ⟨b,o,none⟩):=
 ⟨fun b o h=>A.cell (p:=⟨b,o,none⟩) h,fun b o h=>A.frozen (p:=⟨b,o,none⟩) h⟩
theorem Hq(o:Ob)(ea:Qa)(ec:Nat)(pa:Qa)(pc:Nat)(w:World):
  Qh 235 #[o.val ea ec pa pc] w (Xz (.bool (Cv o)) w):=by
 obtain⟨R,J⟩:=Qe (Cv o);rw[<-J];rw[KO] at J;obtain⟨X,data,A1,⟨t1,t2⟩,A2,Y,Z,A0⟩:=o;simp only[Ob.val] at J ⊢;have M:=Qf (fun W=>og t1 t2 W);generalize (t1==0&&t2==0)=zb at M J;generalize A1.length=ne at J ⊢;generalize A2.length=n at J ⊢;have D:=Qf J;clear J;have B:Qg (PM w (w.alloc (.cells #[Yi X,data,.slice ea ne ec,Yu t1,Yu t2,.slice pa n pc,Y,Yi Z,A0] 59))):=Qf (ba w _);by_cases L:X=3
 ·subst L;cases G:data.isEmpty with
  | false=>
   have E:Qg (R=false):=Qf (by rw[D.o,G]; simp);clear D;go_enter func235,ntmps235;go_wp2;go_ret;exact⟨Zw E.o,B.o⟩
  | true=>
   cases I:decide (0<ne) with
   | true=>
    have E:Qg (R=false):=Qf (by rw[D.o,G,I]; simp);clear D;go_enter func235,ntmps235;go_wp2;go_ret;exact⟨Zw E.o,B.o⟩
   | false=>
    have E:Qg (R=true):=Qf (by rw[D.o,G,I]; simp);clear D;go_enter func235,ntmps235;go_wp2;go_ret;exact⟨Zw E.o,B.o⟩
 ·have k3:(X==3)=false:=Zu L;clear L;have N:Qg (R=(!((X==2&&!data.isEmpty)||(!(X==2)&&decide (0<ne)))&&(zb&&!decide (0<n)&&Y.isEmpty&&(Z==0)&&A0.isEmpty))):=Qf (by rw[D.o,k3]; simp);clear D;have A4:(R=(zb&&!decide (0<n)&&Y.isEmpty&&(Z==0)&&A0.isEmpty))/\((X=2/\data.isEmpty=true)\/(X≠2/\decide (0<ne)=false))\/(R=false/\((X=2/\data.isEmpty=false)\/(X≠2/\decide (0<ne)=true))):=by
   have:=N.o;by_cases Q:X=2
   ·subst Q;cases G:data.isEmpty
    ·rw[G] at this; right; exact⟨Zu this,.inl ⟨rfl,rfl⟩⟩
    ·rw[G] at this; left; exact⟨Zu this,.inl ⟨rfl,rfl⟩⟩
   ·have S:(X==2)=false:=Zu Q;rw[S] at this;cases I:decide (0<ne)
    ·rw[I] at this; left; exact⟨Zu this,.inr ⟨Q,rfl⟩⟩
    ·rw[I] at this; right; exact⟨Zu this,.inr ⟨Q,rfl⟩⟩
  clear N;rcases A4 with⟨J,V⟩ | ⟨J,V⟩
  ·have D:=Qf J;clear J;rcases V with⟨rfl,G⟩ | ⟨H,I⟩
   all_goals
    try (have k2:(X==2)=false:=Zu H)
    try (have A3:(X !=2)=true:=Zu H)
    try clear H
    cases zb with
    | false=>
     have E:Qg (R=false):=Qf (Zn D.o);clear D;go_enter func235,ntmps235;go_wp2_with fail;refine(M.o _).mono ?_;rintro e u ⟨rfl,F⟩;have C:=Qf (XT B.o F);clear F;go_wp2;go_ret;exact⟨Zw E.o,C.o⟩
    | true=>
     cases P:decide (0<n) with
     | true=>
      have E:Qg (R=false):=Qf (by rw[D.o,P]; simp);clear D;have n1:((n:Int)==0)=false:=by simp at P; rw[XK]; omega
      have n2:(n==0)=false:=by simp at P; rw[XK]; omega
      go_enter func235,ntmps235;go_wp2_with fail;refine(M.o _).mono ?_;rintro e u ⟨rfl,F⟩;have C:=Qf (XT B.o F);obtain⟨T,U⟩:=Mc F;clear F;go_wp2;go_ret;exact⟨Zw E.o,C.o⟩
     | false=>
      obtain rfl:n=0:=Zu P;clear P;cases O:Y.isEmpty with
      | false=>
       have E:Qg (R=false):=Qf (by rw[D.o,O]; simp);clear D;go_enter func235,ntmps235;go_wp2_with fail;refine(M.o _).mono ?_;rintro e u ⟨rfl,F⟩;have C:=Qf (XT B.o F);obtain⟨T,U⟩:=Mc F;clear F;go_wp2;go_ret;exact⟨Zw E.o,C.o⟩
      | true=>
       cases K:(Z==0) with
       | false=>
        have E:Qg (R=false):=Qf (by rw[D.o,K]; simp);clear D;go_enter func235,ntmps235;go_wp2_with fail;refine(M.o _).mono ?_;rintro e u ⟨rfl,F⟩;have C:=Qf (XT B.o F);obtain⟨T,U⟩:=Mc F;clear F;go_wp2;go_ret;exact⟨Zw E.o,C.o⟩
       | true=>
        have E:Qg (R=A0.isEmpty):=Qf (by rw[D.o,K,O]; simp);clear D;obtain rfl:Z=0:=Zu K;clear K;go_enter func235,ntmps235;go_wp2_with fail;refine(M.o _).mono ?_;rintro e u ⟨rfl,F⟩;have C:=Qf (XT B.o F);obtain⟨T,U⟩:=Mc F;clear F;go_wp2;go_ret;exact⟨Zw E.o,C.o⟩
  ·have E:=Qf J;clear J;rcases V with⟨rfl,G⟩ | ⟨H,I⟩
   ·go_enter func235,ntmps235;go_wp2;go_ret;exact⟨Zw E.o,B.o⟩
   ·have k2:(X==2)=false:=Zu H;have A3:(X !=2)=true:=Zu H;clear H;go_enter func235,ntmps235;go_wp2;go_ret;exact⟨Zw E.o,B.o⟩
theorem Mw{b:Int}(h:(a==0&&b==0)=false):((a,b):Int×Int)≠(0,0):=by
 intro A;simp only[XC] at A;simp[A.1,A.2] at h
theorem Mx{b:Int}(h:(a==0&&b==0)=true):((a,b):Int×Int)=(0,0):=by
 simp only[XF,XS] at h;rw[h.1,h.2]
theorem Ch(o:Ob)(ea:Qa)(ec:Nat)(pa:Qa)(pc:Nat)(w:World)(hd:dE w w pa o.pars)(hn:(o.pars.length:Int)<=9223372036854775807)(A5:(o.author.length:Int)<=9223372036854775807)(B8:(o.msg.length:Int)<=9223372036854775807):
  Qh 237 #[o.val ea ec pa pc] w (Xz (Yi (dS o)) w):=by
 obtain⟨R,J⟩:=Qe (dS o);rw[<-J];unfold dS at J;obtain⟨B5,data,B6,⟨t1,t2⟩,A2,A4,B0,B2⟩:=o;simp only[Ob.val] at hd hn A5 B8 J ⊢;generalize B6.length=ne;obtain⟨n,A1⟩:=Qe A2.length;rw[<-A1] at hn J ⊢;obtain⟨HN,HD⟩:=Yj A1 hd;clear A1 hd;obtain⟨L,B4,I⟩:=Yk (fun W=>og t1 t2 W) (fun x y W=>og x y W) (fun W=>wC A4 W A5);obtain⟨w0,V⟩:=Qe (w.alloc (.cells #[Yi B5,data,.slice ea ne ec,Yu t1,Yu t2,.slice pa n pc,A4,Yi B0,B2] 59));have Z:Qg (BK w #[Yi B5,data,.slice ea ne ec,Yu t1,Yu t2,.slice pa n pc,A4,Yi B0,B2] 59 w0):=Qf (V▸BK.new _ _ _);have E:Qg (PM w w0):=Qf (V▸ba w _);have U:=Qf V;clear V;cases C:(t1==0&&t2==0) with
 | true=>
  rw[C] at L;have X:Qg (R=1):=Qf (by rw[J,if_pos (Mx C)]);clear C J;go_enter func237,ntmps237;go_wp2_with fail;refine(L.o _).mono ?_;rintro e u ⟨rfl,D⟩;rw[<-U.o] at D;have F:=Qf (XT E.o D);clear D;go_wp2;go_ret;exact⟨Zw X.o,F.o⟩
 | false=>
  rw[C] at L;rw[if_neg (Mw C)] at J;clear C;by_cases h8:(8:Int)<n
  ·have X:Qg (R=4):=Qf (by rw[J,if_pos Zo]);have d8:decide ((8:Int)<(n:Int))=true:=Zu h8;clear J;go_enter func237,ntmps237;go_wp2_with fail;refine(L.o _).mono ?_;rintro e u ⟨rfl,D⟩;rw[<-U.o] at D;obtain⟨F,H⟩:=Yj (XT E.o D) (Z.o.below D);have e4:u.cell? ⟨w,5,none⟩=some (.slice pa n pc):=Zw H.o.cell;clear D;go_wp2;go_ret;exact⟨Zw X.o,F.o⟩
  ·rw[if_neg Zo] at J;have X:=Qf J;have d8:decide ((8:Int)<(n:Int))=false:=Zu h8;clear J;go_enter func237,ntmps237;go_wp2_with fail;refine(L.o _).mono ?_;rintro e u ⟨rfl,D⟩;rw[<-U.o] at D;obtain⟨F,H⟩:=Yj (XT E.o D) (Z.o.below D);have e4:u.cell? ⟨w,5,none⟩=some (.slice pa n pc):=Zw H.o.cell;have A9:(w:Nat)<(u:Nat):=H.o.lt;clear D;go_wp2;go_loopw [3] (fun i wr=>∃k:Nat,k<=n/\i=Yi k/\Qg (PM w wr)/\Qg (PR A2 k)/\(w:Nat)<(wr:Nat)/\Qg (BK w #[Yi B5,data,.slice ea ne ec,Yu t1,Yu t2,.slice pa n pc,A4,Yi B0,B2] 59 wr)) (fun i _=>n-(intOf i).toNat)
   case atStart=>exact⟨0,Zo,rfl,F,Qf (PR.start A2),A9,H⟩
   case round=>
    clear F H E Z U e4 L A9;obtain⟨k,hk,rfl,N,HP,D0,HX⟩:=hrel;have e4:wr.cell? ⟨w,5,none⟩=some (.slice pa n pc):=Zw HX.out.cell;by_cases B7:k<n
    ·have h1:k<A2.length:=HN.o▸B7;obtain⟨b0,o0,M,C7,c0,c1⟩:=(HD.o.below N.out nr) k h1;subst M;have K:=Qf (HP.out.step h1);generalize A6:A2[k]=dk at c0 c1 K;have B1:=Qf A6;clear A6;obtain⟨x,y⟩:=dk;simp only at c0 c1;have L:=Qf (fun W=>B4.o x y W);have C9:(k:Int)<(n:Int):=Zo;cases C:(x==0&&y==0) with
     | true=>
      rw[C] at L;have B:Qg (R=1):=Qf (by
       have:kQ [] A2=1:=by rw[K.o,if_pos (Mx C)]
       rw[X.o,this,if_pos Zd])
      clear C K;go_wp2_with fail;refine(L.o _).mono ?_;rintro e u2 ⟨rfl,D⟩;have G:=Qf (XT N.out D);clear D;go_wp2;go_ret;exact⟨Zw B.o,G.o⟩
     | false=>
      rw[C] at L;have Y:Qg (kQ [] A2=if(x,y)∈A2.take k then 7 else kQ (A2.take (k+1)) (A2.drop (k+1))):=Qf (by rw[K.o,if_neg (Mw C)]);clear C K;go_wp2_with fail;refine(L.o _).mono ?_;rintro e u2 ⟨rfl,D⟩;obtain⟨G,A0⟩:=Yj (XT N.out D) (HX.out.below D);have C0:(w:Nat)<(u2:Nat):=A0.o.lt;clear D c0 c1 e4;have e4:u2.cell? ⟨w,5,none⟩=some (.slice (some ⟨b0,o0,none⟩) n pc):=Zw A0.o.cell;obtain⟨_,_,M,_,c0,c1⟩:=(HD.o.below G.o nr) k h1;cases M;rw[B1.o] at c0 c1;simp only at c0 c1;go_wp2;go_loopw [4] (fun i wj=>∃j q:Nat,j<=k/\i=Yi j/\wj=u2.drewN q/\Qg ((x,y)∉A2.take j)) (fun i _=>k-(intOf i).toNat)
      case atStart=>exact⟨0,0,Zo,rfl,rfl,Qf Zs⟩
      case round=>
       obtain⟨j,q,hj,rfl,rfl,HT⟩:=hrel;by_cases A8:j<k
       ·have A7:j<A2.length:=Zo;obtain⟨_,_,M,_,p0,p1⟩:=(HD.o.below G.o nr) j A7;cases M;have O:=Qf (fun(h:A2[j]≠(x,y))=>kw A7 HT.out h);have P:Qg (A2[j]=(x,y)->(x,y)∈A2.take k):=Qf (fun h=>by
         rw[<-h,List.mem_take_iff_getElem];exact⟨j,Zo,rfl⟩)
        generalize A2[j]=dj at p0 p1 O P;obtain⟨x2,y2⟩:=dj;simp only at p0 p1;have hq:=fun W=>jD x2 y2 x y W
        have C4:(j:Int)<(k:Int):=Zo;have C8:(j:Int)<(n:Int):=Zo;have C1:decide (j<k)=true:=Zu A8;have B9:decide ((j:Int)<(k:Int))=true:=Zu A8;cases C:(x2==x&&y2==y) with
        | true=>
         rw[C] at hq;have B:Qg (R=7):=Qf (by
          simp only[XF,XS] at C;have:kQ [] A2=7:=by rw[Y.o,if_pos (P.o (by rw[C.1,C.2]))]
          rw[X.o,this,if_pos Zd])
         clear C O P;go_wp2_with fail;go_quiet (fail);go_wp2;go_ret;exact⟨Zw B.o,below_drewN (below_drewN G.o _) _⟩
        | false=>
         rw[C] at hq;have B3:Qg ((x,y)∉A2.take (j+1)):=Qf (O.o (fun h=>by
          simp only[XC] at h;simp[h.1,h.2] at C))
         clear C O P;go_wp2_with fail;go_quiet (fail);go_wp2;go_roundw
         case rel=>exact⟨j+1,_,Zo,Zg,by first | rfl | (simp only[World.drewN_drewN]; rfl),B3⟩
         case measure=>exact Yr
       ·obtain rfl:j=k:=Zo;have B:Qg (PR A2 (j+1)):=Qf (by
         unfold PR;rw[Y.o,if_neg HT.out])
        go_wp2;go_roundw
        case rel=>exact⟨j+1,Zo,Zg,Qf (below_drewN G.o _),B,C0,A0⟩
        case measure=>exact Yr
    ·have A3:=Qf (HP.out.fin (by rw[<-HN.o]; omega));have Q:Qg (R=if jA A4=false then 6 else if B0<0\/1099511627776<B0 then 2 else if 200<B2.length then 4 else 0):=Qf (by rw[X.o,A3.o,if_neg Zs]);have e5:wr.cell? ⟨w,6,none⟩=some (.string ⟨A4.toArray⟩):=Zw HX.out.cell;have e6:wr.cell? ⟨w,7,none⟩=some (Yi B0):=Zw HX.out.cell;have e7:wr.cell? ⟨w,8,none⟩=some (.string ⟨B2.toArray⟩):=Zw HX.out.cell;clear X A3 HP;cases hv:jA A4 with
     | false=>
      rw[hv] at I;have B:Qg (R=6):=Qf (by rw[Q.o,hv,if_pos rfl]);clear hv Q;go_wp2_with fail;refine(I.o _).mono ?_;rintro e w' ⟨rfl,rfl⟩;go_wp2;go_ret;exact⟨Zw B.o,N.out⟩
     | true=>
      rw[hv] at I;have S:Qg (R=if B0<0\/1099511627776<B0 then 2 else if 200<B2.length then 4 else 0):=Qf (by rw[Q.o,hv,if_neg Zs]);clear hv Q;by_cases ht:B0<0\/1099511627776<B0
      ·have B:Qg (R=2):=Qf (by rw[S.o,if_pos ht]);clear S;go_wp2_with fail;refine(I.o _).mono ?_;rintro e w' ⟨rfl,rfl⟩;go_wp2_with fail
       all_goals first
        | (exfalso; omega)
        | (go_ret; exact⟨Zw B.o,N.out⟩)
      ·have T:Qg (R=if 200<B2.length then 4 else 0):=Qf (by rw[S.o,if_neg ht]);have C2:decide (B0<0)=false:=Zt;have C3:decide (1099511627776<B0)=false:=Zt;clear S ht;by_cases hm:(200:Int)<B2.length
       ·have B:Qg (R=4):=Qf (by rw[T.o,if_pos Zo]);clear T;go_wp2_with fail;refine(I.o _).mono ?_;rintro e w' ⟨rfl,rfl⟩;go_wp2;go_ret;exact⟨Zw B.o,N.out⟩
       ·have B:Qg (R=0):=Qf (by rw[T.o,if_neg Zo]);clear T;go_wp2_with fail;refine(I.o _).mono ?_;rintro e w' ⟨rfl,rfl⟩;go_wp2;go_ret;exact⟨Zw B.o,N.out⟩
open Go.RowKit Go.Shelf
theorem oF(n:Int)(E:0<=n)(F:n<=1099511627776)(w:World):Qh 217 #[Yi n] w (Xz (.string ⟨(Cw.enc n.toNat).toArray⟩) w):=by
 have D:Qg (∀W,Qh 142 #[Yi n] W (Xz (.tuple #[(Cw.enc n.toNat),Yi 0]) W)):=Qf (fun W=>by
  have h:=xM n W;have:GM n=(Cw.enc n.toNat,0):=by unfold GM; rw[if_pos ((Cw.inR_iff n).2 ⟨E,F⟩)]
  rw[this] at h;exact h)
 go_enter func217,ntmps217;go_wp2_with fail;refine(D.o _).mono ?_;rintro e x ⟨rfl,B⟩;have C:=Qf B;clear B;go_wp2;go_ret;exact⟨rfl,C.o⟩
theorem ou(s:Qb)(hs:(s.length:Int)<=65536)(w:World):Qh 218 #[s] w (Xz (.string ⟨(fF s).toArray⟩) w):=by
 have D:Qg (∀W,Qh 89 #[s] W (Xz (.tuple #[(fF s),Yi 0]) W)):=Qf (fun W=>by
  have h:=vL ⟨s.toArray⟩ W (Zy bH);have:putT s=(fF s,0):=by unfold putT; rw[if_pos Zo]; rfl
  rw[show(s:ByteArray).data.toList=s by simp,this] at h;exact h)
 go_enter func218,ntmps218;go_wp2_with fail;refine(D.o _).mono ?_;rintro e x ⟨rfl,B⟩;have C:=Qf B;clear B;go_wp2;go_ret;exact⟨rfl,C.o⟩
theorem JR:∀(k:Nat) (x:Int),be (k+1) x=be k (x/256)++[UInt8.ofNat (x%256).toNat]
 | 0,x=>by simp[be]
 | k+1,x=>by
  have ih:=JR k x;rw[be,ih]
  conv=>rhs; rw[be]
  rw[bz];congr 4;rw[show 8*(k+1)=8+8*k by omega,Int.pow_add,Int.ediv_mul,if_neg (fun h=>absurd h.1 Zd),Int.add_zero];rfl
theorem M5(A R:Qb)(m:Nat)(c:UInt8):(A++(List.replicate (m+1) 0++R)).set (A.length+m) c=A++(List.replicate m 0++(c::R)):=by
 rw[List.set_append_right _ _ Zo,jR,List.replicate_succ',ay,List.set_append_right _ _ Zs];simp
theorem JP(L:Qb)(i:Nat)(c:Int)(A:0<=c)(B:c<256):(Lib.byteCells L).toArray.setIfInBounds i (Yb c)=(Lib.byteCells (L.set i (UInt8.ofNat c.toNat))).toArray:=by
 rw[dR];congr 1;unfold Lib.byteCells;rw[List.map_set];congr 2;simp;omega
theorem Ik{L:Qb}(h:BK b (Lib.byteCells L).toArray 5 W)(A:L.length<=1000000):W.ownsRow b 5 1 (.slice b L.length L.length) L.length (Lib.byteCells L):=by
 refine⟨Zy Lib.byteCells_length,.inr ⟨b,L.length,(Lib.byteCells L).toArray,rfl,nr,h,nr,Zm,by simp[Lib.byteCells_length],?_⟩⟩;simp[ag,Lib.byteCells_length]
theorem FW:(madeCells #[Yb 0] 16)=(Lib.byteCells (List.replicate 16 0)).toArray:=by
 apply Array.ext';rw[toList_madeCells_one];rfl
theorem IV:(prog.info? 5).map (fun i=>(i.zero,i.size,i.bytes))=some (some (Yb 0),1,1):=Zk
theorem pX(x y:Int)(hx:0<=x/\x<=18446744073709551615)(hy:0<=y/\y<=18446744073709551615)(w:World):Qh 198 #[.agg #[Yu x,Yu y]] w (Xz (.string ⟨(beD (x,y)).toArray⟩) w):=by
 have H:=fun W=>run_make_row' (P:=prog) 116 5 (Yb 0) 1 underlying116 IV rfl .i64 .i64 16 Zd Zd W
 rw[FW] at H;have F:∀W,(Instr.makeSlice 116 (Yi 16) (Yi 16)).run prog W=.ok (.slice W 16 16) (W.alloc (.cells (Lib.byteCells (List.replicate 16 0)).toArray 5)):=H;clear H;obtain⟨Z0,G⟩:∃Z0:Array Value,Z0=(Lib.byteCells (List.replicate 16 0)).toArray:=⟨_,rfl⟩;rw[<-G] at F;have V:=Qf G;clear G;obtain⟨u,O⟩:=Qe ((w.alloc (.cells #[Yu x,Yu y] 54)).alloc (.cells Z0 5));have B:Qg (BK w #[Yu x,Yu y] 54 u):=Qf (O▸(BK.new _ _ _).alloc _);have D:Qg (BK ((w:Nat)+1) Z0 5 u):=Qf (O▸BK.new2 _ _ _ _);have K:Qg (PM w u):=Qf (O▸(ba w _).alloc (by simp) _);have HU:=Qf O;clear O;go_enter func198,ntmps198;go_wp2_with fail;rw[<-HU.o];clear HU F;go_loopw [4] (fun i wr=>∃(k:Nat),k<=2/\i=Yi k/\Qg (PM w wr)/\Qg (BK w #[Yu x,Yu y] 54 wr)/\Qg (BK ((w:Nat)+1) (Lib.byteCells (bU x y k++List.replicate (16-8*k) 0)).toArray 5 wr)) (fun i _=>2-(intOf i).toNat)
 case atStart=>exact⟨0,Zo,rfl,K,B,Qf (by have:=D.o; rw[V.o] at this; exact this)⟩
 case round=>
  clear K B D;obtain⟨k,hk,rfl,S,B,D⟩:=hrel;by_cases B9:k<2
  ·obtain⟨n,A2,A3,B4,L⟩:∃n:Int,0<=n/\n<=18446744073709551615/\wr.cell? ⟨w,k,none⟩=some (Yu n)/\Qg (bU x y (k+1)=bU x y k++be 8 n/\(bU x y k).length=8*k/\16-8*k=8+(16-8*(k+1))):=by
    rcases(show k=0\/k=1 by omega) with rfl | rfl
    ·exact⟨x,hx.1,hx.2,Zw B.o.cell,Qf ⟨by simp[bU],by simp[bU],Zo⟩⟩
    ·exact⟨y,hy.1,hy.2,Zw B.o.cell,Qf ⟨rfl,by simp[bU,bY],Zo⟩⟩
   have A1:(k:Int)<2:=Zo;have dk:decide ((k:Int)<2)=true:=Zu A1;go_wp2;go_loopw [5,6] (fun nn s wj=>∃(m:Nat) (p:Int) (T:Qb),m<=8/\nn=Yu p/\0<=p/\p<=18446744073709551615/\s=Yi ((m:Int)-1)/\Qg (be 8 n=be m p++T/\T.length+m=8)/\Qg (PM w wj)/\Qg (BK w #[Yu x,Yu y] 54 wj)/\Qg (BK ((w:Nat)+1) (Lib.byteCells (bU x y k++(List.replicate m 0++(T++List.replicate (16-8*(k+1)) 0)))).toArray 5 wj)) (fun _ s _=>(intOf s+1).toNat)
   case atStart=>
    refine⟨8,n,[],Zo,rfl,A2,A3,rfl,Qf ⟨Zs,Zs⟩,S,B,Qf ?_⟩;have:=D.o;rw[L.out.2.2,<-List.replicate_append_replicate] at this;exact this
   case round=>
    clear B D S;obtain⟨m,p,T,hm,rfl,C0,C1,rfl,Q,J,E,C⟩:=hrel;cases m with
    | zero=>
     have HF:Qg (BK ((w:Nat)+1) (Lib.byteCells (bU x y (k+1)++List.replicate (16-8*(k+1)) 0)).toArray 5 wr):=Qf (by
      have:=C.out;rw[L.out.1,Q.out.1,ay];exact this)
     go_wp2;go_roundw
     case rel=>exact⟨k+1,Zo,Zg,J,E,HF⟩
     case measure=>exact Yr
    | succ i=>
     have A0:((i+1:Nat):Int)-1=(i:Int):=Zo;rw[A0];obtain⟨c,X⟩:=Qe (p%256);obtain⟨p2,I⟩:=Qe (p/256);have Y:0<=c:=Zo;have Z:c<256:=Zo;have M:0<=p2:=Zo;have N:p2<=18446744073709551615:=Zo;have U:Qg (be 8 n=be i p2++(UInt8.ofNat c.toNat::T)/\(UInt8.ofNat c.toNat::T).length+i=8):=Qf ⟨by rw[Q.out.1,JR,<-I,<-X,ay]; rfl,by have:=Q.out.2; simp; omega⟩;have HS:Qg (∀W,BK ((w:Nat)+1) (Lib.byteCells (bU x y k++(List.replicate (i+1) 0++(T++List.replicate (16-8*(k+1)) 0)))).toArray 5 W->BK ((w:Nat)+1) (Lib.byteCells (bU x y k++(List.replicate i 0++((UInt8.ofNat c.toNat::T)++List.replicate (16-8*(k+1)) 0)))).toArray 5 (W.setCell ⟨(w:Nat)+1,8*k+i,none⟩ (Yb c))):=Qf (fun W h=>by
      have:=h.set (8*k+i) (Yb c);rw[JP _ _ _ Y Z,<-L.out.2.1,M5] at this;rw[L.out.2.1] at this;exact this)
     obtain⟨v0,C3⟩:∃v0,wr.cell? ⟨(w:Nat)+1,8*k+i,none⟩=some v0:=by
      have A8:(Lib.byteCells (bU x y k++(List.replicate (i+1) 0++(T++List.replicate (16-8*(k+1)) 0)))).toArray.size=16:=by
       have R:=L.out.2.1;have h2:=Q.out.2;simp[Lib.byteCells_length,R];omega
      rw[C.out.cell,Array.getElem?_eq_getElem Zo];exact⟨_,rfl⟩
     have B7:i<=7:=Zo;have B6:wr.frozen? ⟨(w:Nat)+1,8*k+i,none⟩=false:=C.out.frozen _;have B8:(8*(k:Int)+(i:Int)).toNat=8*k+i:=Zo;have B3:IntKind.u8.wrap c=c:=by simp[IntKind.wrap,IntKind.bits,IntKind.signed]; omega
     have C2:p%256=c:=X.symm;have A4:p/256=p2:=I.symm;clear X I;go_wp2;go_roundw
     case rel=>exact⟨i,p2,_,Zo,Zx A4,M,N,rfl,U,Qf (J.out.setCell Zs _),Qf (E.out.other Zo _ _),Qf (HS.o _ C.out)⟩
     case measure=>exact Yr
  ·obtain rfl:k=2:=Zo;have B5:(convert 116 9 (.slice (some ⟨(w:Nat)+1,0,none⟩) 16 16)).run prog wr=.ok (.string ⟨(beD (x,y)).toArray⟩) wr:=by
    have R:=D.o;rw[show bU x y 2++List.replicate (16-8*2) 0=beD (x,y) by simp[bU,beD]] at R;have h2:=Ik R (Zy bX);have h3:=pF h2 (by intro h; have:=bX (x,y); rw[h] at this; simp at this);rw[bX] at h3;exact h3
   go_wp2;go_ret;exact⟨rfl,S.out⟩
theorem Cb(o:Ob)(ea:Qa)(ec:Nat)(pa:Qa)(pc:Nat)(w:World)(h:Dw w o ea ec pa pc):
  Qh 215 #[o.val ea ec pa pc] w (Xz (Yi (gJ o)) w):=by
 obtain⟨R,F⟩:=Qe (gJ o);rw[<-F];unfold gJ at F;obtain⟨L,Q,P⟩:=Yk (fun W=>Hq o ea ec pa pc W) (fun W (S:PM w W)=>zx ea o.ents ec W (h.below S).ents (Zh h.elen) (fun e U=>Zh (h.enam e U))) (fun W (S:PM w W)=>Ch o ea ec pa pc W (h.below S).pars (Zh h.plen) (Zh h.alen) (Zh h.mlen));clear h;generalize Cv o=ob at L F;generalize mK o.ents=ee at Q F;generalize dS o=ce at P F;obtain⟨V,data,A0,⟨t1,t2⟩,A1,X,Y,Z⟩:=o;simp only[Ob.val] at L Q P F ⊢;generalize A0.length=ne at L Q P ⊢;generalize A1.length=n at L Q P ⊢;obtain⟨w0,M⟩:=Qe (w.alloc (.cells #[Yi V,data,.slice ea ne ec,Yu t1,Yu t2,.slice pa n pc,X,Yi Y,Z] 59));have K:Qg (BK w #[Yi V,data,.slice ea ne ec,Yu t1,Yu t2,.slice pa n pc,X,Yi Y,Z] 59 w0):=Qf (M▸BK.new _ _ _);have E:Qg (PM w w0):=Qf (M▸ba w _);have G:=Qf M;clear M;by_cases O:V<1\/4<V
 ·have H:Qg (R=9):=Qf (by rw[F,if_pos O]);clear F;go_enter func215,ntmps215;go_wp2_with fail
  all_goals first
   | (exfalso; omega)
   | (rw[<-G.o]; go_ret; exact⟨Zw H.o,E.o⟩)
 ·rw[if_neg O] at F;have d1:decide (V<1)=false:=Zt;have d2:decide (4<V)=false:=Zt;cases ob with
  | false=>
   have H:Qg (R=1):=Qf (by rw[F,if_pos rfl]);clear F O;go_enter func215,ntmps215;go_wp2_with fail;refine(L.o _).mono ?_;rintro e u ⟨rfl,C⟩;rw[<-G.o] at C;have D:=Qf (XT E.o C);clear C;go_wp2;go_ret;exact⟨Zw H.o,D.o⟩
  | true=>
   rw[if_neg Zs] at F;by_cases I:V=2
   ·subst I;have H:Qg (R=ee):=Qf (by rw[F,if_pos rfl]);clear F O;go_enter func215,ntmps215;go_wp2_with fail;refine(L.o _).mono ?_;rintro e u ⟨rfl,C⟩;rw[<-G.o] at C;obtain⟨D,B⟩:=Yj (XT E.o C) (K.o.below C);have e0:u.cell? w=some (Yi 2):=Zw B.o.cell;have e2:u.cell? ⟨w,2,none⟩=some (.slice ea ne ec):=Zw B.o.cell;clear C;go_wp2_with fail;refine(Q.o _ D.o).mono ?_;rintro e u2 ⟨rfl,C⟩;have N:=Qf (XT D.o C);clear C;go_wp2;go_ret;exact⟨Zw H.o,N.o⟩
   ·rw[if_neg I] at F;have k2:(V==2)=false:=Zu I;by_cases J:V=3
    ·subst J;have H:Qg (R=ce):=Qf (by rw[F,if_pos rfl]);clear F O;go_enter func215,ntmps215;go_wp2_with fail;refine(L.o _).mono ?_;rintro e u ⟨rfl,C⟩;rw[<-G.o] at C;obtain⟨D,B⟩:=Yj (XT E.o C) (K.o.below C);have e0:u.cell? w=some (Yi 3):=Zw B.o.cell;have e1:u.cell? ⟨w,1,none⟩=some (.string ⟨data.toArray⟩):=Zw B.o.cell;have e2:u.cell? ⟨w,2,none⟩=some (.slice ea ne ec):=Zw B.o.cell;have e3:u.cell? ⟨w,3,none⟩=some (Yu t1):=Zw B.o.cell;have e4:u.cell? ⟨w,4,none⟩=some (Yu t2):=Zw B.o.cell;have e5:u.cell? ⟨w,5,none⟩=some (.slice pa n pc):=Zw B.o.cell;have e6:u.cell? ⟨w,6,none⟩=some (.string ⟨X.toArray⟩):=Zw B.o.cell;have e7:u.cell? ⟨w,7,none⟩=some (Yi Y):=Zw B.o.cell;have e8:u.cell? ⟨w,8,none⟩=some (.string ⟨Z.toArray⟩):=Zw B.o.cell;clear C;go_wp2_with fail;refine(P.o _ D.o).mono ?_;rintro e u2 ⟨rfl,C⟩;have N:=Qf (XT D.o C);clear C;go_wp2;go_ret;exact⟨Zw H.o,N.o⟩
    ·rw[if_neg J] at F;have k3:(V==3)=false:=Zu J;by_cases T:(65536:Int)<data.length
     ·have H:Qg (R=4):=Qf (by rw[F,if_pos Zo]);have dd:decide ((65536:Int)<(data.length:Int))=true:=Zu T;clear F O I J;go_enter func215,ntmps215;go_wp2_with fail;refine(L.o _).mono ?_;rintro e u ⟨rfl,C⟩;rw[<-G.o] at C;obtain⟨D,B⟩:=Yj (XT E.o C) (K.o.below C);have e0:u.cell? w=some (Yi V):=Zw B.o.cell;have e1:u.cell? ⟨w,1,none⟩=some (.string ⟨data.toArray⟩):=Zw B.o.cell;clear C;go_wp2;go_ret;exact⟨Zw H.o,D.o⟩
     ·have H:Qg (R=0):=Qf (by rw[F,if_neg Zo]);have dd:decide ((65536:Int)<(data.length:Int))=false:=Zu T;clear F O I J;go_enter func215,ntmps215;go_wp2_with fail;refine(L.o _).mono ?_;rintro e u ⟨rfl,C⟩;rw[<-G.o] at C;obtain⟨D,B⟩:=Yj (XT E.o C) (K.o.below C);have e0:u.cell? w=some (Yi V):=Zw B.o.cell;have e1:u.cell? ⟨w,1,none⟩=some (.string ⟨data.toArray⟩):=Zw B.o.cell;clear C;go_wp2;go_ret;exact⟨Zw H.o,D.o⟩
theorem AJ(o:Ob):gJ o=dz o\/(dz o=0/\gJ o=4/\(o.kind=1\/o.kind=4)/\65536<o.data.length):=by
 have e1:∀l:Qb,(0<l.length)=(l.isEmpty=false):=fun l=>by cases l <;> simp
 unfold gJ dz Cv;by_cases B:o.kind=1\/o.kind=4
 ·rw[if_neg Zo,if_pos B];have k2:(o.kind==2)=false:=Zy XK;have k3:(o.kind==3)=false:=Zy XK;rw[k2,k3,if_neg (show ¬o.kind=2 by omega),if_neg (show ¬o.kind=3 by omega)];by_cases A:0<o.ents.length\/Kj o=true
  ·left;rw[if_pos A,if_pos];rcases A with A | A
   ·simp[A]
   ·simp[A]
  ·rw[if_neg A];obtain⟨C,D⟩:=not_or.1 A;rw[if_neg (by simp[C,D])];by_cases G:65536<o.data.length
   ·right; exact⟨rfl,by rw[if_pos G],B,G⟩
   ·left; rw[if_neg G]
 ·by_cases E:o.kind=2
  ·left;rw[if_neg Zo,if_neg B,if_pos E,if_pos E,E];by_cases A:0<o.data.length\/Kj o=true
   ·rw[if_pos A,if_pos];rw[e1] at A;rcases A with A | A
    ·simp[A]
    ·simp[A]
   ·rw[if_neg A];rw[e1] at A;obtain⟨C,D⟩:=not_or.1 A;rw[if_neg (by simp[C,D])]
  ·by_cases F:o.kind=3
   ·left;rw[if_neg Zo,if_neg B,if_neg E,if_neg E,if_pos F,if_pos F,F];by_cases A:0<o.data.length\/0<o.ents.length
    ·rw[if_pos A,if_pos];rw[e1] at A;rcases A with A | A
     ·simp[A]
     ·simp[A]
    ·rw[if_neg A];rw[e1] at A;obtain⟨C,D⟩:=not_or.1 A;rw[if_neg (by simp[C,D])]
   ·left;rw[if_pos Zo,if_neg B,if_neg E,if_neg F]
theorem Jl(h:gJ o=0):dz o=0/\((o.kind=1\/o.kind=4)->o.data.length<=65536):=by
 rcases AJ o with A | ⟨_,A,_⟩
 ·refine⟨A▸h,fun C=>?_⟩;unfold gJ at h;rw[if_neg Zo] at h;obtain⟨B,h⟩:=uh h Zd;rw[if_neg Zo,if_neg Zo] at h;obtain⟨B,h⟩:=uh h Zd;omega
 ·rw[h] at A; cases A
theorem zI(o:Ob):(if gJ o≠0 then gJ o else if 65536<(gZ o).length then 4 else 0)=(aR o).2:=by
 unfold aR;rcases AJ o with A | ⟨C,A,E,D⟩
 ·rw[A];by_cases B:dz o=0
  ·simp only[B,ne_eq,not_true_eq_false,if_false];split <;> rfl
  ·simp only[ne_eq,B,not_false_eq_true,if_true]
 ·rw[if_pos (by rw[A]; decide),if_neg (Zu C),if_pos,A];unfold gZ;rw[if_neg Zo,if_neg Zo];simp only[fF,af];omega
theorem Hl{A B C:Qb}(h:C=A++B)(D:(A.length:Int)<=8388608)(E:(B.length:Int)<=8388608)(W:World):(Op.stringOp .add ⟨A.toArray⟩ ⟨B.toArray⟩).run prog W=.ok (.string ⟨C.toArray⟩) W:=by
 rw[h]; exact run_string_add_lists W A B D E
theorem jZ(s:Qb):(fF s).length<=10+s.length:=by
 have:=aG s.length;rw[fF,af]; omega
theorem tK(o:Ob)(ea:Qa)(ec:Nat)(pa:Qa)(pc:Nat)(w:World)(h:Dw w o ea ec pa pc)(F1:OkO o)(hf:gJ o=0):
  Qh 181 #[o.val ea ec pa pc] w (Xz (.string ⟨(gZ o).toArray⟩) w):=by
 obtain⟨hc,V⟩:=Jl hf;have hk:=eP hc;have h2:=fun hk=>ME hc hk
 have h3:=fun hk=>rz (MC hc hk)
 obtain⟨C9,D2⟩:=Yj h.ents h.pars;obtain⟨R,hR⟩:=Qe (gZ o);rw[<-hR];unfold gZ at hR;clear hf hc h;obtain⟨B3,data,B9,⟨t1,t2⟩,C1,A5,B7,B8⟩:=o;obtain⟨F0,C5,C6⟩:=F1;simp only[Ob.val,OkD,Ku] at V hk h2 h3 C9 D2 hR F0 C5 C6 ⊢;obtain⟨E5,E6⟩:=Yj C5 C6;clear C5 C6;obtain⟨ne,C4⟩:=Qe B9.length;obtain⟨n,hn⟩:=Qe C1.length;rw[<-C4] at h2 hR ⊢;rw[<-hn] at h3 hR ⊢;obtain⟨D0,D1,HR⟩:=Yk C4 hn hR;clear C4 hn hR;obtain⟨w0,B6⟩:=Qe (w.alloc (.cells #[Yi B3,data,.slice ea ne ec,Yu t1,Yu t2,.slice pa n pc,A5,Yi B7,B8] 59));have A6:Qg (BK w #[Yi B3,data,.slice ea ne ec,Yu t1,Yu t2,.slice pa n pc,A5,Yi B7,B8] 59 w0):=Qf (B6▸BK.new _ _ _);have U:Qg (PM w w0):=Qf (B6▸ba w _);have A8:=Qf B6;clear B6;have A2:=Qf (fun W=>oF B3 Zo Zo W);obtain⟨P0,C0⟩:=Qe (Cw.enc B3.toNat);have l0:P0.length<=10:=C0▸aG _;rw[<-C0] at A2 HR;clear C0;by_cases T:B3=2
 ·obtain⟨F5,E0⟩:=h2 T;have E4:=Qf E0;have k2:(B3==2)=true:=Zu T;have G:Qg (R=P0++(Cw.enc ne++B9.flatMap ru)):=Qf (by rw[HR.o,if_pos T]);clear h2 h3 V E0 T;have O:=Qf (fun W=>oF (ne:Int) Zo Zo W);rw[aj] at O;have l1:=aG ne;generalize Cw.enc ne=E1 at O G l1;obtain⟨P1,S⟩:=Qe (P0++E1);have p1:P1.length<=20:=by rw[S,af]; omega
  have s1:=Hl S Zo Zo;have B2:Qg (R=P1++B9.flatMap ru):=Qf (by rw[G.o,S,ay]);clear S G HR;go_enter func181,ntmps181;go_wp2_with fail;refine(A2.o _).mono ?_;rintro e u ⟨rfl,H⟩;rw[<-A8.o] at H;obtain⟨J,N⟩:=Yj (XT U.o H) (A6.o.below H);obtain⟨e0,e1,e2,e3,e4,e5,e6,e7,e8⟩:=BK.c9 N.o;clear H;go_wp2_with fail;refine(O.o _).mono ?_;rintro e u1 ⟨rfl,H⟩;obtain⟨Y,A7⟩:=Yj (XT J.o H) (N.o.below H);clear H e0 e1 e2 e3 e4 e5 e6 e7 e8 U A6 A8 J N;go_wp2;go_loopw [3,4] (fun s i wr=>∃(k:Nat) (l:Qb),k<=ne/\i=Yi k/\s=.string ⟨l.toArray⟩/\l.length<=20+60*k/\Qg (l=P1++(B9.take k).flatMap ru)/\Qg (PM w wr)/\Qg (BK w #[Yi B3,data,.slice ea ne ec,Yu t1,Yu t2,.slice pa n pc,A5,Yi B7,B8] 59 wr)) (fun _ i _=>ne-(intOf i).toNat)
  case atStart=>exact⟨0,P1,Zo,rfl,rfl,Zo,Qf Zs,Y,A7⟩
  case round=>
   clear Y A7 s1 O A2;obtain⟨k,l,hk,rfl,rfl,hl,HL,HB,HX⟩:=hrel;have e2:wr.cell? ⟨w,2,none⟩=some (.slice ea ne ec):=Zw HX.out.cell;by_cases C3:k<ne
   ·have h1:k<B9.length:=D0.o▸C3;obtain⟨b0,o0,rfl,E7,c0,c1,c2,c3⟩:=(C9.o.below HB.out nr) k h1;have F:=Qf (AU B9 k h1);have D9:=di (E4.o _ (ak h1));have B1:=E6.o _ (ak h1);generalize B9[k]=en at c0 c1 c2 c3 F D9 B1;obtain⟨nm,C2,d1,d2⟩:=en;simp only at c0 c1 c2 c3 F D9 B1;have A4:=uN ⟨nm,C2,(d1,d2)⟩ Zp;have E8:(k:Int)<(ne:Int):=Zo;obtain⟨HT,M⟩:=Yj (fun W=>ou nm Zo W) (fun W=>pX d1 d2 Zo Zo W);have B5:=jZ nm;have B0:=bX (d1,d2);have A3:=Qf (fun W=>oF ((vG C2:Nat):Int) Zo (by cases C2 <;> simp[vG]) W);rw[aj] at A3;have V:=aG (vG C2);have D8:ru ⟨nm,C2,(d1,d2)⟩=fF nm++(Cw.enc (vG C2)++beD (d1,d2)):=rfl;rw[D8] at F A4;clear D8;generalize fF nm=X1 at HT F B5 A4;generalize beD (d1,d2)=X3 at M F B0 A4;generalize Cw.enc (vG C2)=X2 at A3 F V A4;obtain⟨Q1,C⟩:=Qe (l++X1);obtain⟨Q2,L⟩:=Qe (Q1++X2);obtain⟨Q3,A0⟩:=Qe (Q2++X3);have q1:Q1.length<=54+60*k:=by rw[C,af]; omega
    have q2:Q2.length<=64+60*k:=by rw[L,af]; omega
    have q3:Q3.length<=20+60*(k+1):=by
     rw[A0,L,C];simp only[af] at A4 ⊢;omega
    have s1:=Hl C Zo Zo;have s2:=Hl L Zo Zo;have s3:=Hl A0 Zo Zo;have K:Qg (Q3=P1++(B9.take (k+1)).flatMap ru):=Qf (by rw[A0,L,C,HL.out,F.o]; simp);clear C L A0 F B5 B0 V A4 HL;have C7:=YG e2;have f0:=YG c0;have f1:=YG c1;have f2:=YG c2;have f3:=YG c3;obtain⟨D,I⟩:=Yj (fun d os=>YJ (w:=wr) (d:=d) (os:=os) (HT.o _)) (fun d os=>YJ (w:=wr) (d:=d) (os:=os) (M.o _));cases C2 with
    | true=>
     rw[show((vG true:Nat):Int)=1 from rfl] at A3;have B:=Qf (fun d os=>YJ (w:=wr) (d:=d) (os:=os) (A3.o _));go_wp2_with fail;refine YH Zk Zk ?_
     repeat (any_goals (first | go_big_quiet_step (first | (with_reducible exact D.o _ _) | (with_reducible exact B.o _ _) | (with_reducible exact I.o _ _)) | quiet_step (first | (with_reducible exact D.o _ _) | (with_reducible exact B.o _ _) | (with_reducible exact I.o _ _))))
     refine YI ?_;intro w2 E;obtain⟨Z,A9⟩:=Yj (XT HB.out (aX E)) (HX.out.below (aX E));clear E D B I C7 f0 f1 f2 f3;go_wp2;go_roundw
     case rel=>exact⟨k+1,Q3,Zo,Zg,rfl,q3,K,Z,A9⟩
     case measure=>exact Yr
    | false=>
     rw[show((vG false:Nat):Int)=0 from rfl] at A3;have B:=Qf (fun d os=>YJ (w:=wr) (d:=d) (os:=os) (A3.o _));go_wp2_with fail;refine YH Zk Zk ?_
     repeat (any_goals (first | go_big_quiet_step (first | (with_reducible exact D.o _ _) | (with_reducible exact B.o _ _) | (with_reducible exact I.o _ _)) | quiet_step (first | (with_reducible exact D.o _ _) | (with_reducible exact B.o _ _) | (with_reducible exact I.o _ _))))
     refine YI ?_;intro w2 E;obtain⟨Z,A9⟩:=Yj (XT HB.out (aX E)) (HX.out.below (aX E));clear E D B I C7 f0 f1 f2 f3;go_wp2;go_roundw
     case rel=>exact⟨k+1,Q3,Zo,Zg,rfl,q3,K,Z,A9⟩
     case measure=>exact Yr
   ·have HF:Qg (l=R):=Qf (by rw[HL.out,B2.o,ag (by rw[<-D0.o]; omega)]);go_wp2;go_ret;exact⟨Zw HF.o,HB.out⟩
 ·have k2:(B3==2)=false:=Zu T;by_cases A1:B3=3
  ·obtain⟨G1,D7,F6,F7,F4⟩:=h3 A1;have F9:=di D7;have k3:(B3==3)=true:=Zu A1;have G:Qg (R=P0++(beD (t1,t2)++(Cw.enc n++(C1.flatMap beD++(fF A5++(Cw.enc B7.toNat++fF B8)))))):=Qf (by rw[HR.o,if_neg T,if_pos A1]);clear h2 h3 V T A1 HR D7;have O:=Qf (fun W=>oF (n:Int) Zo Zo W);rw[aj] at O;have l1:=aG n;have M:=Qf (fun W=>pX t1 t2 Zo Zo W);have lb:=bX (t1,t2);generalize Cw.enc n=E1 at O G l1;generalize beD (t1,t2)=E2 at M G lb;obtain⟨P1,S⟩:=Qe (P0++E2);obtain⟨P2,B4⟩:=Qe (P1++E1);have p1:P1.length<=26:=by rw[S,af]; omega
   have p2:P2.length<=36:=by rw[B4,af]; omega
   have s1:=Hl S Zo Zo;have s2:=Hl B4 Zo Zo;have B2:Qg (R=P2++(C1.flatMap beD++(fF A5++(Cw.enc B7.toNat++fF B8)))):=Qf (by rw[G.o,B4,S]; simp);clear S B4 G;go_enter func181,ntmps181;go_wp2_with fail;refine(A2.o _).mono ?_;rintro e u ⟨rfl,H⟩;rw[<-A8.o] at H;obtain⟨J,N⟩:=Yj (XT U.o H) (A6.o.below H);obtain⟨e0,e1,e2,e3,e4,e5,e6,e7,e8⟩:=BK.c9 N.o;clear H;have f3:=YG e3;have f4:=YG e4;have f5:=YG e5;obtain⟨D,B⟩:=Yj (fun d os=>YJ (w:=u) (d:=d) (os:=os) (M.o _)) (fun d os=>YJ (w:=u) (d:=d) (os:=os) (O.o _));go_wp2_with fail;refine YH Zk Zk ?_
   repeat (any_goals (first | go_big_quiet_step (first | (with_reducible exact D.o _ _) | (with_reducible exact B.o _ _)) | quiet_step (first | (with_reducible exact D.o _ _) | (with_reducible exact B.o _ _))))
   refine YI ?_;intro w2 E;obtain⟨Y,A7⟩:=Yj (XT J.o (aX E)) (N.o.below (aX E));clear E D B f3 f4 f5 e0 e1 e2 e3 e4 e5 e6 e7 e8 U A6 A8 J N s1 s2;go_wp2;go_loopw [3,6] (fun s i wr=>∃(k:Nat) (l:Qb),k<=n/\i=Yi k/\s=.string ⟨l.toArray⟩/\l.length<=36+16*k/\Qg (l=P2++(C1.take k).flatMap beD)/\Qg (PM w wr)/\Qg (BK w #[Yi B3,data,.slice ea ne ec,Yu t1,Yu t2,.slice pa n pc,A5,Yi B7,B8] 59 wr)) (fun _ i _=>n-(intOf i).toNat)
   case atStart=>exact⟨0,P2,Zo,rfl,rfl,Zo,Qf Zs,Y,A7⟩
   case round=>
    clear Y A7 O A2 M;obtain⟨k,l,hk,rfl,rfl,hl,HL,HB,HX⟩:=hrel;have e5:wr.cell? ⟨w,5,none⟩=some (.slice pa n pc):=Zw HX.out.cell;by_cases C3:k<n
    ·have h1:k<C1.length:=D1.o▸C3;obtain⟨b0,o0,rfl,E7,c0,c1⟩:=(D2.o.below HB.out nr) k h1;have F:=Qf (ET C1 k h1);have B1:=E5.o _ (ak h1);generalize C1[k]=dk at c0 c1 F B1;obtain⟨x,y⟩:=dk;simp only at c0 c1 B1;have E8:(k:Int)<(n:Int):=Zo;have M:=Qf (fun W=>pX x y Zo Zo W);have B0:=bX (x,y);generalize beD (x,y)=X3 at M F B0;obtain⟨Q1,C⟩:=Qe (l++X3);have q1:Q1.length<=36+16*(k+1):=by rw[C,af]; omega
     have s1:=Hl C Zo Zo;have K:Qg (Q1=P2++(C1.take (k+1)).flatMap beD):=Qf (by rw[C,HL.out,F.o]; simp);clear C F B0 HL;go_wp2_with fail;refine(M.o _).mono ?_;rintro e u2 ⟨rfl,H⟩;obtain⟨Z,A9⟩:=Yj (XT HB.out H) (HX.out.below H);clear H;go_wp2;go_roundw
     case rel=>exact⟨k+1,Q1,Zo,Zg,rfl,q1,K,Z,A9⟩
     case measure=>exact Yr
    ·have K:Qg (R=l++(fF A5++(Cw.enc B7.toNat++fF B8))):=Qf (by rw[B2.o,HL.out,ag (by rw[<-D1.o]; omega),ay]);have e6:wr.cell? ⟨w,6,none⟩=some (.string ⟨A5.toArray⟩):=Zw HX.out.cell;have e7:wr.cell? ⟨w,7,none⟩=some (Yi B7):=Zw HX.out.cell;have e8:wr.cell? ⟨w,8,none⟩=some (.string ⟨B8.toArray⟩):=Zw HX.out.cell;obtain⟨D4,D5,D6⟩:=Yk (fun W=>ou A5 Zo W) (fun W=>ou B8 Zo W) (fun W=>oF B7 Zo Zo W);have x1:=jZ A5;have x2:=jZ B8;have x3:=aG B7.toNat;generalize fF A5=X1 at D4 K x1;generalize fF B8=X2 at D5 K x2;generalize Cw.enc B7.toNat=X3 at D6 K x3;obtain⟨Q1,C⟩:=Qe (l++X1);obtain⟨Q2,L⟩:=Qe (Q1++X3);have A0:R=Q2++X2:=by rw[K.o,L,C]; simp
     have q1:Q1.length<=1000:=by rw[C,af]; omega
     have q2:Q2.length<=2000:=by rw[L,af]; omega
     have s1:=Hl C Zo Zo;have s2:=Hl L Zo Zo;have s3:=Hl A0 Zo Zo;clear C L A0 K x1 x2 x3 HL B2;have f6:=YG e6;have f7:=YG e7;have f8:=YG e8;obtain⟨D,B,I⟩:=Yk (fun d os=>YJ (w:=wr) (d:=d) (os:=os) (D4.o _)) (fun d os=>YJ (w:=wr) (d:=d) (os:=os) (D5.o _)) (fun d os=>YJ (w:=wr) (d:=d) (os:=os) (D6.o _));go_wp2_with fail;refine YH Zk Zk ?_
     repeat (any_goals (first | go_big_quiet_step (first | (with_reducible exact D.o _ _) | (with_reducible exact B.o _ _) | (with_reducible exact I.o _ _)) | quiet_step (first | (with_reducible exact D.o _ _) | (with_reducible exact B.o _ _) | (with_reducible exact I.o _ _))))
     refine YI ?_;intro w2 E;have Z:=Qf (XT HB.out (aX E));clear E D B I f6 f7 f8;go_wp2;go_ret;exact⟨rfl,Z.o⟩
  ·have k3:(B3==3)=false:=Zu A1;have G:Qg (R=P0++fF data):=Qf (by rw[HR.o,if_neg T,if_neg A1]);have F2:=V Zo;have B5:=jZ data;have HT:=Qf (fun W=>ou data Zo W);generalize fF data=X at HT G B5;have s1:=Hl G.o Zo Zo;clear h2 h3 V T A1 HR G;go_enter func181,ntmps181;go_wp2_with fail;refine(A2.o _).mono ?_;rintro e u ⟨rfl,H⟩;rw[<-A8.o] at H;obtain⟨J,N⟩:=Yj (XT U.o H) (A6.o.below H);obtain⟨e0,e1,e2,e3,e4,e5,e6,e7,e8⟩:=BK.c9 N.o;clear H;go_wp2_with fail;refine(HT.o _).mono ?_;rintro e u1 ⟨rfl,H⟩;have Y:=Qf (XT J.o H);clear H;go_wp2;go_ret;exact⟨rfl,Y.o⟩
theorem FH(o:Ob)(ea:Qa)(ec:Nat)(pa:Qa)(pc:Nat)(w:World)(h:Dw w o ea ec pa pc)(P:OkO o):
  Qh 177 #[o.val ea ec pa pc] w (Xz (Yi (aR o).2) w):=by
 rw[<-zI];obtain⟨I,H⟩:=Yj (fun W (O:PM w W)=>Cb o ea ec pa pc W (h.below O)) (fun W (O:PM w W) (K:gJ o=0)=>tK o ea ec pa pc W (h.below O) P K);clear h P;generalize gJ o=fe at I H ⊢;generalize gZ o=bs at H ⊢;obtain⟨R,J⟩:=Qe (if fe≠0 then fe else if 65536<bs.length then 4 else 0:Int);rw[<-J];obtain⟨Z,data,A2,⟨t1,t2⟩,A3,Y,A0,A1⟩:=o;simp only[Ob.val] at I H ⊢;generalize A2.length=ne at I H ⊢;generalize A3.length=n at I H ⊢;obtain⟨w0,F⟩:=Qe (w.alloc (.cells #[Yi Z,data,.slice ea ne ec,Yu t1,Yu t2,.slice pa n pc,Y,Yi A0,A1] 59));have S:Qg (BK w #[Yi Z,data,.slice ea ne ec,Yu t1,Yu t2,.slice pa n pc,Y,Yi A0,A1] 59 w0):=Qf (F▸BK.new _ _ _);have B:Qg (PM w w0):=Qf (F▸ba w _);have G:=Qf (I.o w0 B.o);rw[F] at G;have N:=Qf F;clear F I;by_cases K:fe=0
 ·subst K;have M:=Qf (fun W O=>H.o W O rfl);clear H;rw[if_neg Zs] at J;have U:=Qf J;clear J;go_enter func177,ntmps177;go_wp2_with fail;refine G.o.mono ?_;rintro e u ⟨rfl,E⟩;rw[<-N.o] at E;obtain⟨C,T⟩:=Yj (XT B.o E) (S.o.below E);obtain⟨e0,e1,e2,e3,e4,e5,e6,e7,e8⟩:=BK.c9 T.o;clear E G;have Q:=Qf (M.o _ C.o);clear M;go_wp2_with fail;refine Q.o.mono ?_;rintro e u2 ⟨rfl,E⟩;have L:=Qf (XT C.o E);clear E;by_cases V:(65536:Int)<bs.length
  ·have D:Qg (R=4):=Qf (by rw[U.o,if_pos Zo]);have d1:decide ((65536:Int)<(bs.length:Int))=true:=Zu V;go_wp2;go_ret;exact⟨Zw D.o,L.o⟩
  ·have D:Qg (R=0):=Qf (by rw[U.o,if_neg Zo]);have d1:decide ((65536:Int)<(bs.length:Int))=false:=Zu V;go_wp2;go_ret;exact⟨Zw D.o,L.o⟩
 ·have D:Qg (R=fe):=Qf (by rw[J,if_pos K]);have X:(fe !=0)=true:=Zu K;clear K H J;go_enter func177,ntmps177;go_wp2_with fail;refine G.o.mono ?_;rintro e u ⟨rfl,E⟩;rw[<-N.o] at E;have C:=Qf (XT B.o E);clear E;go_wp2;go_ret;exact⟨Zw D.o,C.o⟩
theorem KF(o:Ob)(ea:Qa)(ec:Nat)(pa:Qa)(pc:Nat)(w:World)(h:Dw w o ea ec pa pc)(K:OkO o):
  Qh 135 #[o.val ea ec pa pc] w (Xz (.tuple #[.string ⟨(aR o).1.toArray⟩,Yi (aR o).2]) w):=by
 have J:=Qf (fun W (L:PM w W)=>FH o ea ec pa pc W (h.below L) K);have P:(aR o).2=0->gJ o=0:=fun U=>by
  rw[<-zI] at U;split at U
  ·rename_i O; exact absurd U O
  ·rename_i O; simpa using O
 have H:Qg (∀W (L:PM w W) (I:(aR o).2=0),Qh 181 #[o.val ea ec pa pc] W (Xz (.string ⟨(aR o).1.toArray⟩) W)):=Qf (fun W L I=>by
  rw[kG I];exact tK o ea ec pa pc W (h.below L) K (P I))
 have G:Qg ((aR o).2≠0->(aR o).1=[]):=Qf (fun h=>by
  unfold aR at h ⊢;split
  ·rfl
  ·rename_i O;rw[if_neg O] at h;split
   ·rfl
   ·rename_i X; rw[if_neg X] at h; exact absurd rfl h)
 clear h K P;generalize aR o=r at J H G ⊢;obtain⟨bs,er⟩:=r;simp only at J H G ⊢;obtain⟨A0,data,A3,⟨t1,t2⟩,A4,Z,A1,A2⟩:=o;simp only[Ob.val] at J H ⊢;generalize A3.length=ne at J H ⊢;generalize A4.length=n at J H ⊢;obtain⟨w0,E⟩:=Qe (w.alloc (.cells #[Yi A0,data,.slice ea ne ec,Yu t1,Yu t2,.slice pa n pc,Z,Yi A1,A2] 59));have S:Qg (BK w #[Yi A0,data,.slice ea ne ec,Yu t1,Yu t2,.slice pa n pc,Z,Yi A1,A2] 59 w0):=Qf (E▸BK.new _ _ _);have B:Qg (PM w w0):=Qf (E▸ba w _);have F:=Qf (J.o w0 B.o);rw[E] at F;have N:=Qf E;clear E J;by_cases I:er=0
 ·subst I;have M:=Qf (fun W L=>H.o W L rfl);clear H;go_enter func135,ntmps135;go_wp2_with fail;refine F.o.mono ?_;rintro e u ⟨rfl,D⟩;rw[<-N.o] at D;obtain⟨C,T⟩:=Yj (XT B.o D) (S.o.below D);obtain⟨e0,e1,e2,e3,e4,e5,e6,e7,e8⟩:=BK.c9 T.o;clear D F;have R:=Qf (M.o _ C.o);clear M;go_wp2_with fail;refine R.o.mono ?_;rintro e u2 ⟨rfl,D⟩;have Q:=Qf (XT C.o D);clear D;go_wp2;go_ret2;exact⟨rfl,Q.o⟩
 ·have V:=Qf (G.o I);have Y:(er !=0)=true:=Zu I;clear I H G;go_enter func135,ntmps135;go_wp2_with fail;refine F.o.mono ?_;rintro e u ⟨rfl,D⟩;rw[<-N.o] at D;have C:=Qf (XT B.o D);clear D;go_wp2;go_ret2;exact⟨Zw V.o,C.o⟩
abbrev QD(b:Nat)(r:RS)(W:World):Prop:=BK b #[.string ⟨r.1.toArray⟩,.bool r.2] 185 W
theorem Cj(b:Nat)(r:RS)(w:World)(h:QD b r w)(J:(r.1.length:Int)<=140737488355328):
  Qh 132 #[.pointer b] w fun e w'=>e=.returned (Yi (gN r).1)/\Qg (QD b (gN r).2 w')/\Qg (w.grownBy w' (some b)):=by
 obtain⟨l,M⟩:=r;obtain⟨n,u,er,D⟩:∃n u er,Cw.getI l=(n,u,er):=⟨_,_,_,rfl⟩;have B:=Qf (fun X=>qQ (s:=⟨l.toArray⟩) (n:=n) (k:=u) (er:=er) (Zu D) X);have L:=gH D;have F:gN (l,M)=if M=true\/er≠0 then(0,(l,true)) else(n,(l.drop u.toNat,false)):=by unfold gN; simp only[D]
 obtain⟨u0,rfl⟩:∃u0:Nat,u=(u0:Int):=⟨u.toNat,Zo⟩;rw[aj] at F;have I:u0<=l.length:=Zo;have H:=fun W=>jY l u0 I W
 have G:(l:ByteArray).extract u0 l.length=⟨(l.drop u0).toArray⟩:=by rw[dw,ag Zs]
 rw[F];generalize l.drop u0=l' at H G ⊢;have E:=Qf h;have c0:w.cell? b=some (.string ⟨l.toArray⟩):=by rw[BK.cell h]; rfl
 have c1:w.cell? ⟨b,1,none⟩=some (.bool M):=by rw[BK.cell h]; rfl
 have f0:w.frozen? b=false:=BK.frozen h 0;have f1:w.frozen? ⟨b,1,none⟩=false:=BK.frozen h 1;simp only at J;clear D F h;cases M with
 | true=>
  rw[if_pos (.inl rfl)];go_enter func132,ntmps132;go_wp2_with fail;refine(B.o _).mono ?_;rintro e w' ⟨rfl,rfl⟩;go_wp2;go_ret;exact⟨rfl,Qf (BK.set E.o 1 _),Qf (dN _ _ _ _)⟩
 | false=>
  by_cases C:er=0
  ·subst C;rw[if_neg Zs];go_enter func132,ntmps132;go_wp2_with fail;refine(B.o _).mono ?_;rintro e w' ⟨rfl,rfl⟩;go_wp2;go_ret;exact⟨rfl,Qf (BK.set E.o 0 _),Qf (dN _ _ _ _)⟩
  ·rw[if_pos (.inr C)];have K:(er !=0)=true:=Zu C;clear C;go_enter func132,ntmps132;go_wp2_with fail;refine(B.o _).mono ?_;rintro e w' ⟨rfl,rfl⟩;go_wp2;go_ret;exact⟨rfl,Qf (BK.set E.o 1 _),Qf (dN _ _ _ _)⟩
theorem Ib(b:Nat)(r:RS)(w:World)(h:QD b r w)(J:(r.1.length:Int)<=140737488355328):
  Qh 133 #[.pointer b] w fun e w'=>e=.returned (.string ⟨(kL r).1.toArray⟩)/\Qg (QD b (kL r).2 w')/\Qg (w.grownBy w' (some b)):=by
 obtain⟨l,M⟩:=r;obtain⟨n,u,er,D⟩:∃n u er,Cw.getT l=(n,u,er):=⟨_,_,_,rfl⟩;have B:Qg (∀X,Qh 154 #[l] X fun e w'=>e=.returned (.tuple #[n,Yi u,Yi er])/\X=w'):=Qf (fun X=>by
  have:=vN ⟨l.toArray⟩ X (by rw[bH]; exact J);rw[show(l:ByteArray).data.toList=l by simp,D] at this;exact this)
 have L:=lZ D;have F:kL (l,M)=if M=true\/er≠0 then([],(l,true)) else(n,(l.drop u.toNat,false)):=by unfold kL; simp only[D]
 obtain⟨u0,rfl⟩:∃u0:Nat,u=(u0:Int):=⟨u.toNat,Zo⟩;rw[aj] at F;have I:u0<=l.length:=Zo;have H:=fun W=>jY l u0 I W
 have G:(l:ByteArray).extract u0 l.length=⟨(l.drop u0).toArray⟩:=by rw[dw,ag Zs]
 rw[F];generalize l.drop u0=l' at H G ⊢;have E:=Qf h;have c0:w.cell? b=some (.string ⟨l.toArray⟩):=by rw[BK.cell h]; rfl
 have c1:w.cell? ⟨b,1,none⟩=some (.bool M):=by rw[BK.cell h]; rfl
 have f0:w.frozen? b=false:=BK.frozen h 0;have f1:w.frozen? ⟨b,1,none⟩=false:=BK.frozen h 1;simp only at J;clear D F h;cases M with
 | true=>
  rw[if_pos (.inl rfl)];go_enter func133,ntmps133;go_wp2_with fail;refine(B.o _).mono ?_;rintro e w' ⟨rfl,rfl⟩;go_wp2;go_ret;exact⟨rfl,Qf (BK.set E.o 1 _),Qf (dN _ _ _ _)⟩
 | false=>
  by_cases C:er=0
  ·subst C;rw[if_neg Zs];go_enter func133,ntmps133;go_wp2_with fail;refine(B.o _).mono ?_;rintro e w' ⟨rfl,rfl⟩;go_wp2;go_ret;exact⟨rfl,Qf (BK.set E.o 0 _),Qf (dN _ _ _ _)⟩
  ·rw[if_pos (.inr C)];have K:(er !=0)=true:=Zu C;clear C;go_enter func133,ntmps133;go_wp2_with fail;refine(B.o _).mono ?_;rintro e w' ⟨rfl,rfl⟩;go_wp2;go_ret;exact⟨rfl,Qf (BK.set E.o 1 _),Qf (dN _ _ _ _)⟩
theorem Aw(x:Int)(c:UInt8):IntKind.u64.wrap (IntKind.u64.wrap (x*256)+IntKind.u64.wrap (c.toNat:Int))=mI x c:=by
 have A:=c.toNat_lt;rw[Eo,wrap_u64,wrap_u64,wrap_u64];omega
theorem Ck(b:Nat)(r:RS)(w:World)(h:QD b r w)(hl:(r.1.length:Int)<=140737488355328):
  Qh 134 #[.pointer b] w fun e w'=>e=.returned (.agg #[Yu (jh r).1.1,Yu (jh r).1.2])/\Qg (QD b (jh r).2 w')/\Qg (w.grownBy w' (some b)):=by
 obtain⟨l,A0⟩:=r;have K:b<(w:Nat):=h.lt;simp only at hl;have M:=Qf h;have c0:w.cell? b=some (.string ⟨l.toArray⟩):=Zw h.cell;have f0:w.frozen? b=false:=h.frozen 0;have f1:w.frozen? ⟨b,1,none⟩=false:=h.frozen 1;have c1:w.cell? ⟨b,1,none⟩=some (.bool A0):=Zw h.cell;clear h;by_cases B:A0=true
 ·subst B;have H:Qg (jh (l,true)=((0,0),(l,true))):=Qf (by unfold jh; rw[if_pos (.inl rfl)]);rw[H.o];go_enter func134,ntmps134;go_wp2;refine XB (v:=.agg #[Yu 0,Yu 0]) (by simp[results,results134,go_sem]) rfl ⟨rfl,Qf ?_,Qf ?_⟩
  ·exact((M.o.set 1 _).alloc _).alloc _
  ·exact bu (bu (dN _ _ _ _) (XZ _ _ _)) (XZ _ _ _)
 ·obtain rfl:A0=false:=Zu B;clear B;by_cases O:(l.length:Int)<16
  ·have H:Qg (jh (l,false)=((0,0),(l,true))):=Qf (by unfold jh; rw[if_pos (.inr Zp)]);rw[H.o];have A1:decide ((l.length:Int)<16)=true:=Zu O;go_enter func134,ntmps134;go_wp2;refine XB (v:=.agg #[Yu 0,Yu 0]) (by simp[results,results134,go_sem]) rfl ⟨rfl,Qf ?_,Qf ?_⟩
   ·exact((M.o.set 1 _).alloc _).alloc _
   ·exact bu (bu (dN _ _ _ _) (XZ _ _ _)) (XZ _ _ _)
  ·have I:(16:Int)<=l.length:=Zo;have A1:decide ((l.length:Int)<16)=false:=Zu I;have H:Qg (jh (l,false)=(sJ l 16,(l.drop 16,false))):=Qf (by unfold jh; rw[if_neg Zt,uW]);rw[H.o];go_enter func134,ntmps134;go_wp2;go_loopw [4] (fun i wr=>∃(k:Nat) (x y:Int),k<=16/\i=Yi k/\Qg (PM w wr)/\Qg (BK w #[Yu 0,Yu 0] 54 wr)/\Qg (BK ((w:Nat)+1) #[Yu x,Yu y] 54 wr)/\Qg (sJ l k=(x,y))) (fun i _=>16-(intOf i).toNat)
   case atStart=>exact⟨0,0,0,Zo,rfl,Qf ((ba w _).alloc Zs _),Qf ((BK.new _ _ _).alloc _),Qf (BK.new2 _ _ _ _),Qf (uV l)⟩
   case round=>
    obtain⟨k,x,y,V,rfl,E,G,F,L⟩:=hrel;have g0:wr.cell? b=some (.string ⟨l.toArray⟩):=(E.out.cell (p:=⟨b,0,none⟩) K).trans c0;have g1:wr.cell? ⟨(w:Nat)+1,0,none⟩=some (Yu x):=Zw F.out.cell;have g2:wr.cell? ⟨(w:Nat)+1,1,none⟩=some (Yu y):=Zw F.out.cell;have z1:wr.frozen? ⟨(w:Nat)+1,0,none⟩=false:=F.out.frozen 0;have z2:wr.frozen? ⟨(w:Nat)+1,1,none⟩=false:=F.out.frozen 1;by_cases R:k<16
    ·have Z:k<l.length:=Zo;by_cases Q:k<8
     ·have N:Qg (sJ l (k+1)=(IntKind.u64.wrap (IntKind.u64.wrap (x*256)+IntKind.u64.wrap (l[k].toNat:Int)),y)):=Qf (by rw[Aw,C8 l k Zo Q,L.out]);have S:(k:Int).tdiv 8=0:=by rw[iG Zo]; omega
      have T:(k:Int)/8=0:=Zo;have dk:decide ((k:Int)<16)=true:=Zt;go_wp2;go_region;go_wp2;go_roundw
      case rel=>exact⟨k+1,_,_,Zo,Zg,Qf (E.out.setCell (p:=⟨(w:Nat)+1,0,none⟩) Zs _).drew,Qf (G.out.other Zo _ _),Qf (F.out.set _ _),N⟩
      case measure=>exact Yr
     ·have N:Qg (sJ l (k+1)=(x,IntKind.u64.wrap (IntKind.u64.wrap (y*256)+IntKind.u64.wrap (l[k].toNat:Int)))):=Qf (by rw[Aw,C9 l k Zo Zo R,L.out]);have S:(k:Int).tdiv 8=1:=by rw[iG Zo]; omega
      have T:(k:Int)/8=1:=Zo;have dk:decide ((k:Int)<16)=true:=Zt;go_wp2;go_region;go_wp2;go_roundw
      case rel=>exact⟨k+1,_,_,Zo,Zg,Qf (E.out.setCell (p:=⟨(w:Nat)+1,1,none⟩) Zs _).drew,Qf (G.out.other Zo _ _),Qf (F.out.set _ _),N⟩
      case measure=>exact Yr
    ·obtain rfl:k=16:=Zo;have g3:wr.frozen? b=false:=(E.out.frozen (p:=⟨b,0,none⟩) K).trans f0;have y0:wr.cell? w=some (Yu 0):=Zw G.out.cell;have y1:wr.cell? ⟨w,1,none⟩=some (Yu 0):=Zw G.out.cell;have y2:wr.frozen? w=false:=G.out.frozen 0;have y3:wr.frozen? ⟨w,1,none⟩=false:=G.out.frozen 1;have C:(w:Nat)≠b:=Zo;have X:(w:Nat)+1≠b:=Zo;have P:(l:ByteArray).extract 16 l.length=⟨(l.drop 16).toArray⟩:=by rw[dw,ag Zs]
     have U:=fun W=>jY l 16 Zo W
     obtain⟨l',D⟩:∃l',l'=l.drop 16:=⟨_,rfl⟩;rw[<-D] at P U;have Y:=Qf D;clear D;go_wp2;refine XB (v:=.agg #[Yu x,Yu y]) (by simp[results,results134,go_sem,y0,y1]) rfl ⟨Zx L.out,Qf ?_,Qf ?_⟩
     ·rw[<-Y.o];exact(((M.o.below E.out).set 0 _).other C _ _).other C _ _
     ·have J:=E.out;exact⟨J.os,J.tape,J.output,Zu J.size,fun k V hr=>(Below.heap_setCell _ _ _ _ Zt).trans ((Below.heap_setCell _ _ _ _ Zt).trans ((Below.heap_setCell _ _ _ _ (fun e=>hr (by rw[e]))).trans (J.block k V)))⟩
theorem iO{n:Int}(C:gN r=(n,r'))(h:QD b r w)(B:(r.1.length:Int)<=140737488355328):
  Qh 132 #[.pointer b] w fun e w'=>e=.returned (Yi n)/\Qg (QD b r' w')/\Qg (w.grownBy w' (some b)):=by
 have:=Cj b r w h B; rw[C] at this; exact this
theorem lL{n:Qb}(C:kL r=(n,r'))(h:QD b r w)(B:(r.1.length:Int)<=140737488355328):
  Qh 133 #[.pointer b] w fun e w'=>e=.returned (.string ⟨n.toArray⟩)/\Qg (QD b r' w')/\Qg (w.grownBy w' (some b)):=by
 have:=Ib b r w h B; rw[C] at this; exact this
theorem p9{d1 d2:Int}(C:jh r=((d1,d2),r'))(h:QD b r w)(B:(r.1.length:Int)<=140737488355328):
  Qh 134 #[.pointer b] w fun e w'=>e=.returned (.agg #[Yu d1,Yu d2])/\Qg (QD b r' w')/\Qg (w.grownBy w' (some b)):=by
 have:=Ck b r w h B; rw[C] at this; exact this
structure KS (w:World) (oc:Array Value) (r:RS) (W:World):Prop where
 rd:QD ((w:Nat)+1) r W
 obj:BK ((w:Nat)+2) oc 59 W
 res:BK w #[Yi 0,Ye,(),Yu 0,Yu 0,(),Ye,Yi 0,Ye] 59 W
 bel:PM w W
theorem KS.lt(h:KS w oc r W):(w:Nat)+3<=(W:Nat):=h.obj.lt
theorem KS.call(h:KS w oc r W)(B:QD ((w:Nat)+1) r' W')(A:W.grownBy W' (some ((w:Nat)+1))):KS w oc r' W':=
 ⟨B,h.obj.grow1 A Zo,h.res.grow1 A Zo,bE h.bel A Zo⟩
theorem KS.set(h:KS w oc r W)(j:Nat)(v:Value):KS w (oc.setIfInBounds j v) r (W.setCell ⟨(w:Nat)+2,j,none⟩ v):=
 ⟨h.rd.other Zo _ _,h.obj.set _ _,h.res.other Zo _ _,h.bel.setCell Zs _⟩
theorem KS.alloc(h:KS w oc r W)(o:Obj):KS w oc r (W.alloc o):=
 ⟨h.rd.alloc _,h.obj.alloc _,h.res.alloc _,h.bel.alloc h.bel.size _⟩
theorem KS.setx(h:KS w oc r W)(A:(w:Nat)+3<=b)(j:Nat)(v:Value):KS w oc r (W.setCell ⟨b,j,none⟩ v):=
 ⟨h.rd.other Zo _ _,h.obj.other Zo _ _,h.res.other Zo _ _,h.bel.setCell Zt _⟩
theorem KS.grow{row:Option Nat}(h:KS w oc r W)(A:W.grownBy W' row)(B:∀k,row=some k->(w:Nat)+3<=k):KS w oc r W':=
 ⟨h.rd.grow A (fun k e=>Zh (B k e)),h.obj.grow A (fun k e=>Zh (B k e)),h.res.grow A (fun k e=>Zh (B k e)),h.bel.grown A h.bel.size (fun k e=>Zh (B k e))⟩
theorem KS.drew(h:KS w oc r W):KS w oc r W.drew:=⟨h.rd,h.obj,h.res,h.bel.drew⟩
theorem ik(r:RS):(gN r).2.1.length<=r.1.length:=by unfold gN; split <;> simp
theorem wL(r:RS):0<=(gN r).1/\(gN r).1<=1099511627776:=by
 unfold gN;split
 ·simp
 ·obtain⟨n,u,er,A⟩:∃n u er,Cw.getI r.1=(n,u,er):=⟨_,_,_,rfl⟩;have:=gH A;simp only[A];omega
theorem rY{e:TypeId}{z:Nat}{xs:List Value}(h:W.ownsRow base e z v n xs)(A:∀j,v.ownBlock=some j->j≠b)(j:Nat)(u:Value):(W.setCell ⟨b,j,none⟩ u).ownsRow base e z v n xs:=
 h.kept (dN _ _ _ _) (by
  cases C:v.ownBlock with
  | none=>exact .inl rfl
  | some k=>right; intro B; cases B; exact A b C rfl)
theorem jl(r:RS):(kL r).2.1.length<=r.1.length/\(kL r).1.length<=65536:=by
 unfold kL;split
 ·simp
 ·obtain⟨n,u,er,A⟩:∃n u er,Cw.getT r.1=(n,u,er):=⟨_,_,_,rfl⟩;have:=lZ A;simp only[A];refine⟨Zs,this.2.2⟩
theorem oK(r:RS):(jh r).2.1.length<=r.1.length/\((jh r).2.2=false->(jh r).2.1.length+1<=r.1.length):=by
 unfold jh;split
 ·simp
 ·rename_i h;have:=(not_or.1 h).2;simp only[ah];omega
theorem DY(r:RS):(BJ r).2.1.length<=r.1.length/\((BJ r).2.2=false->(BJ r).2.1.length+1<=r.1.length):=by
 have B:=jl r;have C:=ik (kL r).2;have A:=oK (gN (kL r).2).2;unfold BJ;simp only;exact⟨Zo,fun h=>Zh (A.2 h)⟩
theorem nE{α:Type}{get:RS->α×RS}(h:∀r,(get r).2.1.length<=r.1.length/\((get r).2.2=false->(get r).2.1.length+1<=r.1.length)):∀(n:Nat) (r:RS),(dH get n r).1.length<=r.1.length+1
 | 0,r=>by simp[dH]
 | n+1,r=>by
  rw[dH];split
  ·simp
  ·have C:=nE h n (get r).2;have B:=h r;simp only[az];cases A:(get r).2.2 with
   | false=>have:=B.2 A; omega
   | true=>
    have:(dH get n (get r).2).1=[]:=by
     cases n with
     | zero=>rfl
     | succ n=>rw[dH,if_pos A]
    rw[this]; simp
structure QB (m:Nat) (o:Ob):Prop where
 elen:o.ents.length<=m+1
 enam:∀e∈o.ents,e.name.length<=65536
 plen:o.pars.length<=m+1
 dlen:o.data.length<=65536
 alen:o.author.length<=65536
 mlen:o.msg.length<=65536
theorem Nb(s:Qb):QB s.length (jr s).1:=by
 have C:=ik (s,false);unfold jr;split
 ·have A:=nE DY (gN (gN (s,false)).2).1.toNat (gN (gN (s,false)).2).2;have B:=ik (gN (s,false)).2;exact⟨by simp only[nD] at *; omega,(jJ (P:=fun e:Ent=>e.name.length<=65536) (fun r=>(jl r).2) _ _).2,by simp[obZ],by simp[obZ],by simp[obZ],by simp[obZ]⟩
 ·split
  ·have A:=nE oK (gN (jh (gN (s,false)).2).2).1.toNat (gN (jh (gN (s,false)).2).2).2;have B:=ik (jh (gN (s,false)).2).2;have D:=(oK (gN (s,false)).2).1;exact⟨by simp[qC],by simp[qC],by simp only[qC,nD] at *; omega,by simp[qC],(jl _).2,(jl _).2⟩
  ·exact⟨by simp[obZ],by simp[obZ],by simp[obZ],(jl _).2,by simp[obZ],by simp[obZ]⟩
theorem Jv(s:Qb):ObB (bI s).1:=by
 unfold bI;split
 ·exact Ip
 ·exact Hz s
structure QSt (w:World) (o:Ob) (r:RS) (W:World) (ea:Qa) (ec:Nat) (pa:Qa) (pc:Nat):Prop where
 ks:KS w (o.arr ea ec pa pc) r W
 eo:W.ownsRow ((w:Nat)+3) 164 4 (.slice ea o.ents.length ec) o.ents.length (bT o.ents)
 po:W.ownsRow ((w:Nat)+3) 54 2 (.slice pa o.pars.length pc) o.pars.length (aW o.pars)
def QX(w:World)(o:Ob)(r:RS)(W:World):Prop:=∃ea ec pa pc,QSt w o r W ea ec pa pc
theorem QSt.inn{ea:Qa}{ec:Nat}{pa:Qa}{pc:Nat}(h:QSt w o r W ea ec pa pc){m:Nat}(B:QB m o)(A:OkO o)(E:m<=1000000):Dw W o ea ec pa pc:=
 ⟨qU h.eo,iy h.po,Ij h.po,Zh B.elen,fun e C=>Zh (B.enam e C),fun e C=>⟨(A.2.2 e C).1.1,(A.2.2 e C).2.1⟩,Zh B.plen,fun d D=>⟨(A.2.1 d D).1.1,(A.2.1 d D).2.1⟩,⟨A.1.1.1,A.1.2.1⟩,Zh B.dlen,Zh B.alen,Zh B.mlen⟩
theorem Lv{B:Nat}{a:Qa}{ys:List Ent}(h:BI B W a ys):Src W a (bT ys):=by
 cases D:ys with
 | nil=>exact .inl rfl
 | cons y ys'=>
  rw[<-D];have E:0<ys.length:=Zn D;obtain⟨b,I,rfl,_⟩:=h 0 E;refine .inr ⟨_,rfl,fun j u A=>?_⟩;have F:j<ys.length*4:=by
   have:=(XO.1 A).1
   rwa[pE] at this
  obtain⟨i,r,C,G,rfl⟩:∃i r,i<ys.length/\r<4/\j=i*4+r:=⟨j/4,j%4,Zo,Zo,Zo⟩;obtain⟨b',H,e,_,c0,c1,c2,c3⟩:=h i C;cases e;obtain⟨d0,d1,d2,d3⟩:=uP ys i C;rw[XD];rcases(by omega:r=0\/r=1\/r=2\/r=3) with rfl | rfl | rfl | rfl
  ·rw[show i*4+0=i*4 from rfl,d0] at A; cases A; exact c0
  ·rw[d1] at A; cases A; rw[<-aP]; exact c1
  ·rw[d2] at A; cases A; rw[<-aP]; exact c2
  ·rw[d3] at A; cases A; rw[<-aP]; exact c3
theorem Gj(xs:List Ent):∀v∈bT xs,v.oneCell'=true:=by
 intro v A;simp only[bT,List.mem_flatMap] at A;obtain⟨x,_,A⟩:=A;simp at A;rcases A with rfl | rfl | rfl | rfl <;> rfl
theorem Dq(W:World)(base:Nat)(ty:TypeId)(v:Value)(xs:List Ent)(C:W.ownsRow base 164 4 v xs.length (bT xs))(a:Qa)(ys:List Ent)(c:Nat)(M:BI (W:Nat) W a ys)
  (G:((xs.length+ys.length:Nat):Int)<=1000000000) (B:base<=(W:Nat)) :
  ∃v' W',(Builtin.append_ #[57,57] ty #[v,.slice a ys.length c]).run prog W=.ok v' W'/\W'.ownsRow base 164 4 v' (xs++ys).length (bT (xs++ys))/\W.grownBy W' v.ownBlock/\(v'.ownBlock=v.ownBlock\/v'.ownBlock=some (W:Nat)):=by
 obtain⟨i0,L,D,E,F⟩:=XR IX;obtain⟨v',W',H,I,J,K⟩:=mD (P:=prog) W base 57 ty 164 i0 _ 4 40 underlying57 L D E F rfl Zd v xs.length (bT xs) C a ys.length c (bT ys) (pE _) (Lv M) (Gj _) Zm Zo B;exact⟨v',W',H,by rw[kH,af]; exact I,J,K⟩
theorem GI{xs:List Ent}(C:W.ownsRow base 164 4 v xs.length (bT xs))(nm:Qb)(dir:Bool)(d1 d2:Int)(E:(xs.length:Int)<=2000000)(D:base<=(W:Nat)):
  ∃v' W',(Builtin.append_ #[57,57] 57 #[v,.slice W 1 1]).run prog (W.alloc (.cells #[nm,.bool dir,Yu d1,Yu d2] 164))=.ok v' W'/\W'.ownsRow base 164 4 v' (xs++[(⟨nm,dir,(d1,d2)⟩:Ent)]).length (bT (xs++[(⟨nm,dir,(d1,d2)⟩:Ent)]))/\(W.alloc (.cells #[nm,.bool dir,Yu d1,Yu d2] 164)).grownBy W' v.ownBlock:=by
 obtain⟨v',W',F,G,H,_⟩:=Dq (W.alloc (.cells #[nm,.bool dir,Yu d1,Yu d2] 164)) base 57 v xs (C.alloc _) (some ⟨W,0,none⟩) [⟨nm,dir,(d1,d2)⟩] 1 (fun i I=>by
  obtain rfl:i=0:=by simp at I; omega
  have B:=BK.new W #[nm,.bool dir,Yu d1,Yu d2] 164;exact⟨_,0,rfl,B.lt,by rw[dG,B.cell]; rfl,by rw[dG,B.cell]; rfl,by rw[dG,B.cell]; rfl,by rw[dG,B.cell]; rfl⟩) Zt Zt
 exact⟨v',W',F,G,H⟩
theorem bN{P:Program}{w:World}{ops:Array Oper}{o:Oper}{a:Act}{K:Act->World->Prop}{Q:Exit->Act->World->Prop}{E:Prop}(A:o.guard=none)(s x:Operand)(t tn:TypeId)
  (B:o.op=.call { callee:=.builtin .append,args:=#[s,x],argTypes:=#[t,tn] }) (vs vx:Value) (hs:a.eval s=vs) (F:a.eval x=vx) (v':Value) (w':World) (C:(Builtin.append_ #[t,tn] o.type #[vs,vx]).run P w=.ok v' w') (h:K (a.put o.dst v') w') :
  if Region.wanted o (yielded ops a.tmps)=true then Oper.wp P o a w K Q else E:=by
 have D:Region.wanted o (yielded ops a.tmps)=true:=by simp[Region.wanted,A]
 rw[if_pos D];exact Lib.wp_append_run w s x t tn B vs vx hs F v' w' C h
theorem KJ{w wr y:World}{t1 t2:Int}{pa:Qa}{k pc:Nat}{l:Qb}{q:RS}{ps:Qd}{d1 d2:Int}(L:KS w #[Yi 3,Ye,(),Yu t1,Yu t2,.slice pa k pc,Ye,Yi 0,Ye] (l,false) wr)(K:wr.ownsRow ((w:Nat)+3) 54 2 (.slice pa k pc) k (aW ps))(I:k=ps.length)
  (O:QD ((w:Nat)+1) q y) (J:wr.drew.grownBy y (some ((w:Nat)+1))) (N:(k:Int)<=1000000) :
  ∃(a2:Qa) (c2:Nat) (z:World),Qg ((Builtin.append_ #[24,24] 24 #[.slice pa k pc,.slice y 1 1]).run prog (y.alloc (.cells #[Yu d1,Yu d2] 54))=.ok (.slice a2 (k+1) c2) z)/\Qg (KS w #[Yi 3,Ye,(),Yu t1,Yu t2,.slice pa k pc,Ye,Yi 0,Ye] q z)/\
   Qg (z.ownsRow ((w:Nat)+3) 54 2 (.slice a2 (k+1) c2) (k+1) (aW (ps++[(d1,d2)])))/\Qg (k+1=(ps++[(d1,d2)]).length)/\y.cell? ⟨(w:Nat)+2,5,none⟩=some (.slice pa k pc)/\z.cell? ⟨(w:Nat)+2,5,none⟩=some (.slice pa k pc)/\z.frozen? ⟨(w:Nat)+2,5,none⟩=false:=by
 have F:=L.drew.call O J;have B:=bD K.drew J Zo;rw[I] at B;obtain⟨v',z,D,C,H,_⟩:=gz B d1 d2 Zo (Zh F.lt);have G:KS w #[Yi 3,Ye,(),Yu t1,Yu t2,.slice pa k pc,Ye,Yi 0,Ye] q z:=(F.alloc _).grow H (fun j M=>(B.lt j M).1);obtain⟨a2,c2,rfl,_⟩:=aB C;have E:k+1=(ps++[(d1,d2)]).length:=by rw[af,I]; rfl
 rw[<-E] at D C;rw[<-I] at D;exact⟨a2,c2,z,Qf D,Qf G,Qf C,Qf E,Zw F.obj.cell,Zw G.obj.cell,G.obj.frozen 5⟩
theorem tO(s:Qb)(w:World)(hs:(s.length:Int)<=1000000):
  Qh 75 #[s] w (Kq w (bI s).1 (bI s).2):=by
 obtain⟨F7,D4,C4⟩:=Yk (Jv s) (Nb s) (DU s);have D9:=ik (s,false);have Z:Qg (jr s=if(gN (s,false)).1=2 then({ obZ with kind:=2,ents:=(nD BJ (gN (s,false)).2).1 },(nD BJ (gN (s,false)).2).2) else if(gN (s,false)).1=3 then qC (gN (s,false)).2 else({ obZ with kind:=(gN (s,false)).1,data:=(kL (gN (s,false)).2).1 },(kL (gN (s,false)).2).2)):=Qf rfl;have H:Qg (bI s=if(jr s).2.2=true\/(aR (jr s).1).2≠0\/(aR (jr s).1).1≠s then(obZ,13) else((jr s).1,0)):=Qf (by rw[<-Gn]; rfl);generalize bI s=D at H F7 ⊢;generalize jr s=RO at Z H D4 C4;obtain⟨kd,r1,hq⟩:∃kd r1,gN (s,false)=(kd,r1):=⟨_,_,rfl⟩;obtain⟨y0,F0⟩:=Qe (((w.alloc (.cells #[Yi 0,Ye,(),Yu 0,Yu 0,(),Ye,Yi 0,Ye] 59)).alloc (.cells #[s,.bool false] 185)).alloc (.cells #[Yi 0,Ye,(),Yu 0,Yu 0,(),Ye,Yi 0,Ye] 59));have F9:Qg (KS w #[Yi 0,Ye,(),Yu 0,Yu 0,(),Ye,Yi 0,Ye] (s,false) y0):=Qf (by
  rw[F0];have h3:=BK.new ((w.alloc (.cells #[Yi 0,Ye,(),Yu 0,Yu 0,(),Ye,Yi 0,Ye] 59)).alloc (.cells #[s,.bool false] 185)) #[Yi 0,Ye,(),Yu 0,Yu 0,(),Ye,Yi 0,Ye] 59;rw[show((w.alloc (.cells #[Yi 0,Ye,(),Yu 0,Yu 0,(),Ye,Yi 0,Ye] 59)).alloc (.cells #[s,.bool false] 185)).heap.size=(w:Nat)+2 by simp] at h3;exact⟨(BK.new2 _ _ _ _).alloc _,h3,((BK.new _ _ _).alloc _).alloc _,((ba w _).alloc Zs _).alloc Zt _⟩)
 have F5:=Qf (iO hq F9.o.rd Zp);rw[hq] at Z D9;obtain⟨OB,q⟩:=RO;simp only at H D4 C4 Z D9;rw[F0] at F5;have I0:=Qf F0;clear hq F0;go_enter func75,ntmps75;go_wp2_with fail;refine F5.o.mono ?_;rintro e x1 ⟨rfl,I4,G6⟩;rw[<-I0.o] at G6;have D5:Qg (KS w #[Yi 0,Ye,(),Yu 0,Yu 0,(),Ye,Yi 0,Ye] r1 x1):=Qf (F9.o.call I4.out G6.out);have J7:=D5.o.lt;clear I4 G6 F5 I0 F9;obtain⟨p0,p1,p2,p3,p4,p5,p6,p7,p8⟩:=BK.c9 D5.o.obj;obtain⟨A4,B1,B3,D6,E1,E3,F1,F2,G3⟩:=BK.f9 (D5.o.obj);go_upto_block 0 with(fail)
 clear p0 p1 p2 p3 p4 p5 p6 p7 p8 A4 B1 B3 D6 E1 E3 F1 F2 G3;have F:Qg (KS w #[Yi kd,Ye,(),Yu 0,Yu 0,(),Ye,Yi 0,Ye] r1 (x1.setCell ⟨(w:Nat)+2,0,none⟩ (Yi kd))):=Qf (D5.o.set 0 _);generalize x1.setCell ⟨(w:Nat)+2,0,none⟩ (Yi kd)=x2 at F ⊢;clear D5 J7;go_cut [6,7,8,9,10] from 20 to 92 (fun _ _ _ _ _ wx=>QX w OB q wx)
 case rest=>
  clear Z F;obtain⟨ea,ec,pa,pc,hS⟩:=hcut;obtain⟨J,HC⟩:=Yj hS (KF OB ea ec pa pc wc (hS.inn D4.o C4.o Zo) C4.o);clear hS D4 C4;obtain⟨l,bd⟩:=q;simp only at H;have K5:=J.o.ks.lt;obtain⟨o0,o1,o2,o3,o4,o5,o6,o7,o8⟩:=BK.c9 J.o.ks.obj;generalize aR OB=EN at H HC;obtain⟨T,er⟩:=EN;simp only at H HC;go_wp2_with fail;refine HC.o.mono ?_;rintro e w1 ⟨rfl,hb⟩;have HB:=Qf hb;have K6:=hb.size;obtain⟨A9,I8,I9⟩:=Yk (J.o.ks.res.below hb) (J.o.ks.obj.below hb) (J.o.ks.rd.below hb);have E2:Qg (PM w w1):=Qf (J.o.ks.bel.trans (hb.mono Zo));clear hb HC o0 o1 o2 o3 o4 o5 o6 o7 o8;have q0:w1.cell? ⟨(w:Nat)+1,1,none⟩=some (.bool bd):=Zw I9.o.cell;cases bd with
  | true=>
   have HF:Qg (D=(obZ,13)):=Qf (by rw[H.o,if_pos (.inl rfl)]);clear H;obtain⟨r0,r1,r2,r3,r4,r5,r6,r7,r8⟩:=BK.c9 A9.o;obtain⟨K7,K8,K9,L0,L1,L2,L3,L4,L5⟩:=BK.f9 (A9.o);go_wp2;refine XB (v:=.tuple #[obZ.val none 0 none 0,Yi 13]) (by simp[results,results75,go_sem,obZ,r0,r1,r2,r3,r4,r5,r6,r7,r8]) rfl ?_;rw[HF.o];exact⟨none,0,none,0,rfl,dZ.zero _ _,((((((((E2.o.setCell Zs _).setCell Zs _).setCell Zs _).setCell Zs _).setCell Zs _).setCell Zs _).setCell Zs _).setCell Zs _).setCell Zs _⟩
  | false=>
   by_cases he:er=0
   ·subst he;cases I5:(T==s) with
    | false=>
     have HF:Qg (D=(obZ,13)):=Qf (by rw[H.o,if_pos (.inr (.inr (by intro h; simp[h] at I5)))]);clear H;obtain⟨r0,r1,r2,r3,r4,r5,r6,r7,r8⟩:=BK.c9 A9.o;obtain⟨K7,K8,K9,L0,L1,L2,L3,L4,L5⟩:=BK.f9 (A9.o);go_wp2;refine XB (v:=.tuple #[obZ.val none 0 none 0,Yi 13]) (by simp[results,results75,go_sem,obZ,r0,r1,r2,r3,r4,r5,r6,r7,r8]) rfl ?_;rw[HF.o];exact⟨none,0,none,0,rfl,dZ.zero _ _,((((((((E2.o.setCell Zs _).setCell Zs _).setCell Zs _).setCell Zs _).setCell Zs _).setCell Zs _).setCell Zs _).setCell Zs _).setCell Zs _⟩
    | true=>
     have HF:Qg (D=(OB,0)):=Qf (by rw[H.o,if_neg (by simp; simpa using I5)]);clear H;obtain⟨o0,o1,o2,o3,o4,o5,o6,o7,o8⟩:=BK.c9 I8.o;obtain⟨r0,r1,r2,r3,r4,r5,r6,r7,r8⟩:=BK.c9 A9.o;obtain⟨K7,K8,K9,L0,L1,L2,L3,L4,L5⟩:=BK.f9 (A9.o);go_wp2;refine XB (v:=.tuple #[OB.val ea ec pa pc,Yi 0]) (by simp[results,results75,go_sem,r0,r1,r2,r3,r4,r5,r6,r7,r8]) rfl ?_;have I3:=F7.o;rw[HF.o] at I3 ⊢;have U:dZ ((w:Nat)+3) w1 OB ea ec pa pc:=⟨I3,PO J.o.eo HB.o,PO J.o.po HB.o⟩;exact⟨ea,ec,pa,pc,rfl,(U.kept (fM (fM (fM (fM (fM (fM (fM (fM (dN _ _ _ _) _ _) _ _) _ _) _ _) _ _) _ _) _ _) _ _) Zo).le Zo,((((((((E2.o.setCell Zs _).setCell Zs _).setCell Zs _).setCell Zs _).setCell Zs _).setCell Zs _).setCell Zs _).setCell Zs _).setCell Zs _⟩
   ·have HF:Qg (D=(obZ,13)):=Qf (by rw[H.o,if_pos (.inr (.inl he))]);have K4:(er !=0)=true:=Zu he;clear H he;obtain⟨r0,r1,r2,r3,r4,r5,r6,r7,r8⟩:=BK.c9 A9.o;obtain⟨K7,K8,K9,L0,L1,L2,L3,L4,L5⟩:=BK.f9 (A9.o);go_wp2;refine XB (v:=.tuple #[obZ.val none 0 none 0,Yi 13]) (by simp[results,results75,go_sem,obZ,r0,r1,r2,r3,r4,r5,r6,r7,r8]) rfl ?_;rw[HF.o];exact⟨none,0,none,0,rfl,dZ.zero _ _,((((((((E2.o.setCell Zs _).setCell Zs _).setCell Zs _).setCell Zs _).setCell Zs _).setCell Zs _).setCell Zs _).setCell Zs _).setCell Zs _⟩
 case first=>
  clear H F7 D4 C4;have D7:(r1.1.length:Int)<=1000000:=Zo;clear D9;by_cases h2:kd=2
  ·subst h2;obtain⟨n,r2,hq⟩:∃n r2,gN r1=(n,r2):=⟨_,_,rfl⟩;have B0:=ik r1;have B6:=(wL r1).1;have G:Qg ((OB,q)=({ obZ with kind:=2,ents:=(dH BJ n.toNat r2).1 },(dH BJ n.toNat r2).2)):=Qf (by
    have:=Z.o;rw[if_pos rfl] at this;unfold nD at this;rw[hq] at this;exact this)
   have A5:=Qf (iO hq F.o.rd Zo);rw[hq] at B0 B6;obtain⟨N,rfl⟩:∃N:Nat,n=(N:Int):=⟨n.toNat,by simp only at B6; omega⟩;rw[aj] at G;obtain⟨RL,B5⟩:=Qe (dH BJ N r2);rw[<-B5] at G;obtain⟨l2,L6⟩:=r2;have D2:Qg (LR BJ RL N [] (l2,L6)):=Qf (B5▸LR.start _ _ _);simp only at B0;clear hq Z B5 B6;obtain⟨p0,p1,p2,p3,p4,p5,p6,p7,p8⟩:=BK.c9 F.o.obj;go_wp2_with fail;refine A5.o.mono ?_;rintro e x3 ⟨rfl,C,B⟩;have P:=Qf (F.o.call C.out B.out);clear C B F A5 p0 p1 p2 p3 p4 p5 p6 p7 p8;go_wp2;go_loopw [7] (fun i wr=>∃(m k:Nat) (es:List Ent) (l:Qb) (bd:Bool) (ea:Qa) (ec:Nat),i=Yi k/\k+m=N/\k+l.length<=1000001/\Qg (k=es.length)/\Qg (bd=false->k+l.length<=1000000)/\Qg (KS w #[Yi 2,Ye,.slice ea k ec,Yu 0,Yu 0,(),Ye,Yi 0,Ye] (l,bd) wr)/\Qg (wr.ownsRow ((w:Nat)+3) 164 4 (.slice ea k ec) k (bT es))/\Qg (LR BJ RL m es (l,bd))) (fun i _=>N-(intOf i).toNat)
   case atStart=>exact⟨N,0,[],l2,L6,none,0,rfl,Zo,Zo,Qf rfl,Qf (fun _=>Zo),P,Qf (XE _ _ _ _),D2⟩
   case round=>
    clear P D2;obtain⟨m,k,es,l,bd,ea,ec,rfl,J4,J3,HK,C3,J,HO,HL⟩:=hrel;have E0:=J.o.lt;have b1:wr.cell? ⟨(w:Nat)+1,1,none⟩=some (.bool bd):=Zw J.o.rd.cell;have F4:Qg (m=0\/bd=true->QX w OB q wr):=Qf (fun h=>by
     have h1:=HL.out.stop h;have h2:=G.o;rw[h1] at h2;obtain⟨rfl,rfl⟩:=Prod.mk.inj h2;have h3:=HO.out;have h4:=J.o;rw[HK.out] at h3 h4;exact⟨ea,ec,none,0,h4,h3,XE _ _ _ _⟩)
    by_cases hm:m=0
    ·subst hm;have d1:decide ((k:Int)<(N:Int))=false:=Zt;have d2:decide (k<N)=false:=Zt;have HF:=Qf (F4.o (.inl rfl));go_wp2_with fail;go_meet
     case rel=>exact HF.o
    ·have d1:decide ((k:Int)<(N:Int))=true:=Zt;have d2:decide (k<N)=true:=Zt;cases bd with
     | true=>
      have HF:=Qf (F4.o (.inr rfl));go_wp2_with fail;go_meet
      case rel=>exact HF.o
     | false=>
      clear F4;obtain⟨m',rfl⟩:∃m',m=m'+1:=⟨m-1,Zo⟩;have J5:=C3.out rfl;obtain⟨O,E⟩:=Yj (HL.out.next rfl) (DY (l,false));unfold BJ at O E;obtain⟨nm,q1,G8⟩:∃nm q1,kL (l,false)=(nm,q1):=⟨_,_,rfl⟩;have D7:=jl (l,false);rw[G8] at O E D7;obtain⟨dn,q2,B2⟩:∃dn q2,gN q1=(dn,q2):=⟨_,_,rfl⟩;have B0:=ik q1;simp only at O E D7;rw[B2] at O E B0;obtain⟨G5,I6,q3,B7⟩:∃d1 d2 q3,jh q2=((d1,d2),q3):=⟨_,_,_,rfl⟩;simp only at O E B0;rw[B7] at O E;obtain⟨l3,G4⟩:=q3;simp only at O E;have J9:=D7.1;have G7:=E.o.1;have G9:Qg (G4=false->k+1+l3.length<=1000000):=Qf (fun h=>Zh (E.o.2 h));clear D7 E HL C3;obtain⟨y1,C6⟩:=Qe (wr.alloc (.cells #[Ye,.bool false,Yu 0,Yu 0] 164));have K:Qg (KS w #[Yi 2,Ye,.slice ea k ec,Yu 0,Yu 0,(),Ye,Yi 0,Ye] (l,false) y1):=Qf (C6▸J.o.alloc _);have H7:Qg (BK wr #[Ye,.bool false,Yu 0,Yu 0] 164 y1):=Qf (C6▸BK.new _ _ _);have A6:Qg (y1.ownsRow ((w:Nat)+3) 164 4 (.slice ea k ec) k (bT es)):=Qf (C6▸HO.out.alloc _);have D3:Qg (∀j,(Value.slice ea k ec).ownBlock=some j->j<(wr:Nat)):=Qf (fun j hj=>(HO.out.lt j hj).2);have Q:=Qf (lL G8 K.o.rd Zp);rw[C6] at Q;have H1:=Qf C6;clear C6 G8 J HO;go_wp2_with fail;refine Q.o.mono ?_;rintro e y2 ⟨rfl,C,B⟩;rw[<-H1.o] at B;obtain⟨A0,E6,X⟩:=Yk (K.o.call C.out B.out) (H7.o.grow1 B.out Zo) (bD A6.o B.out Zo);clear C B Q H1 K H7 A6;obtain⟨x0,x1,x2,x3⟩:=BK.c4 E6.o;obtain⟨I7,J1,J6,J8⟩:=BK.f4 (E6.o);obtain⟨y3,C7⟩:=Qe (y2.setCell wr (.string ⟨nm.toArray⟩));have L:Qg (KS w #[Yi 2,Ye,.slice ea k ec,Yu 0,Yu 0,(),Ye,Yi 0,Ye] q1 y3):=Qf (C7▸A0.o.setx E0 0 _);have H8:Qg (BK wr #[nm,.bool false,Yu 0,Yu 0] 164 y3):=Qf (C7▸E6.o.set 0 _);have A7:Qg (y3.ownsRow ((w:Nat)+3) 164 4 (.slice ea k ec) k (bT es)):=Qf (by rw[C7]; exact rY X.o (fun j hj=>Zh (D3.o j hj)) 0 _);have R:=Qf (iO B2 L.o.rd Zo);rw[C7] at R;have H2:=Qf C7;clear C7 B2 A0 E6 X;go_wp2_with fail;refine R.o.mono ?_;rintro e y4 ⟨rfl,C,B⟩;rw[<-H2.o] at B;obtain⟨A1,B4,Y⟩:=Yk (L.o.call C.out B.out) (H8.o.grow1 B.out Zo) (bD A7.o B.out Zo);clear C B R H2 L H8 A7 x0 x1 x2 x3 I7 J1 J6 J8;obtain⟨x0,x1,x2,x3⟩:=BK.c4 B4.o;obtain⟨I7,J1,J6,J8⟩:=BK.f4 (B4.o);obtain⟨y5,C8⟩:=Qe (y4.setCell ⟨wr,1,none⟩ (.bool (dn==1)));have M:Qg (KS w #[Yi 2,Ye,.slice ea k ec,Yu 0,Yu 0,(),Ye,Yi 0,Ye] q2 y5):=Qf (C8▸A1.o.setx E0 1 _);have H9:Qg (BK wr #[nm,.bool (dn==1),Yu 0,Yu 0] 164 y5):=Qf (C8▸B4.o.set 1 _);have A8:Qg (y5.ownsRow ((w:Nat)+3) 164 4 (.slice ea k ec) k (bT es)):=Qf (by rw[C8]; exact rY Y.o (fun j hj=>Zh (D3.o j hj)) 1 _);have S:=Qf (p9 B7 M.o.rd Zo);rw[C8] at S;have H3:=Qf C8;clear C8 B7 A1 B4 Y;go_wp2_with fail;refine S.o.mono ?_;rintro e y6 ⟨rfl,C,B⟩;rw[<-H3.o] at B;obtain⟨E8,E7,H4⟩:=Yk (M.o.call C.out B.out) (H9.o.grow1 B.out Zo) (bD A8.o B.out Zo);clear C B S H3 M H9 A8 x0 x1 x2 x3 I7 J1 J6 J8;obtain⟨x0,x1,x2,x3⟩:=BK.c4 E7.o;obtain⟨I7,J1,J6,J8⟩:=BK.f4 (E7.o);obtain⟨y7,C9⟩:=Qe ((y6.setCell ⟨wr,2,none⟩ (Yu G5)).setCell ⟨wr,3,none⟩ (Yu I6));have G2:Qg (KS w #[Yi 2,Ye,.slice ea k ec,Yu 0,Yu 0,(),Ye,Yi 0,Ye] (l3,G4) y7):=Qf (C9▸(E8.o.setx E0 2 _).setx E0 3 _);have J0:Qg (BK wr #[nm,.bool (dn==1),Yu G5,Yu I6] 164 y7):=Qf (C9▸(E7.o.set 2 _).set 3 _);have H5:Qg (y7.ownsRow ((w:Nat)+3) 164 4 (.slice ea k ec) k (bT es)):=Qf (by rw[C9]; exact rY (rY H4.o (fun j hj=>Zh (D3.o j hj)) 2 _) (fun j hj=>Zh (D3.o j hj)) 3 _);have A3:=H5.o;rw[HK.out] at A3;obtain⟨v',z,C2,U,I2⟩:=GI A3 nm (dn==1) G5 I6 (Zh HK.out) G2.o.lt;have F3:(y7:Nat)=(y6:Nat):=Zn C9;have HZ:Qg (KS w #[Yi 2,Ye,.slice ea k ec,Yu 0,Yu 0,(),Ye,Yi 0,Ye] (l3,G4) z):=Qf ((G2.o.alloc _).grow I2 (fun j hj=>(A3.lt j hj).1));obtain⟨a2,c2,rfl,_⟩:=aB U;have E4:Qg (k+1=(es++[(⟨nm,dn==1,(G5,I6)⟩:Ent)]).length):=Qf (by rw[af,HK.out]; rfl);rw[<-E4.o] at C2 U;rw[<-HK.out,F3,C9] at C2;obtain⟨C1,E5⟩:=Yj C2 U;have F8:Qg ((z.setCell ⟨(w:Nat)+2,2,none⟩ (.slice a2 (k+1) c2)).ownsRow ((w:Nat)+3) 164 4 (.slice a2 (k+1) c2) (k+1) (bT (es++[(⟨nm,dn==1,(G5,I6)⟩:Ent)]))):=Qf (bD U (dN _ _ _ _) Zo);have G1:Qg (KS w #[Yi 2,Ye,.slice a2 (k+1) c2,Yu 0,Yu 0,(),Ye,Yi 0,Ye] (l3,G4) (z.setCell ⟨(w:Nat)+2,2,none⟩ (.slice a2 (k+1) c2))):=Qf (HZ.o.set 2 _);obtain⟨p0,p1,p2,p3,p4,p5,p6,p7,p8⟩:=BK.c9 E8.o.obj;obtain⟨A4,B1,B3,D6,E1,E3,F1,F2,G3⟩:=BK.f9 (E8.o.obj);obtain⟨s0,s1,s2,s3,s4,s5,s6,s7,s8⟩:=BK.c9 HZ.o.obj;obtain⟨M0,M1,M2,M3,M4,M5,M6,M7,M8⟩:=BK.f9 (HZ.o.obj);have K1:(wr:Nat)≠(w:Nat)+2:=Zo;have K2:(w:Nat)+2≠(wr:Nat):=Zo;clear C2 U I2 A3 F3 C9 E8 E7 H4 G2 J0 H5 HZ E5 D3;go_wp2_with (at_builtin; refine Lib.wpList_append_run _ rfl _ _ _ _ rfl _ _ rfl rfl _ _ C1.o ?_);go_roundw
      case rel=>exact⟨m',k+1,_,l3,G4,a2,c2,Zg,Zo,Zo,E4,G9,G1,F8,O⟩
      case measure=>exact Yr
  ·have k2:(kd==2)=false:=Zu h2;by_cases h3:kd=3
   ·subst h3;obtain⟨t1,t2,r2,hq⟩:∃t1 t2 r2,jh r1=((t1,t2),r2):=⟨_,_,_,rfl⟩;have B0:=(oK r1).1;obtain⟨n,r3,B2⟩:∃n r3,gN r2=(n,r3):=⟨_,_,rfl⟩;have G7:=ik r2;have B6:=(wL r2).1;have G:Qg ((OB,q)=(⟨3,[],[],(t1,t2),(dH jh n.toNat r3).1,(kL (dH jh n.toNat r3).2).1,(gN (kL (dH jh n.toNat r3).2).2).1,(kL (gN (kL (dH jh n.toNat r3).2).2).2).1⟩,(kL (gN (kL (dH jh n.toNat r3).2).2).2).2)):=Qf (by
     have:=Z.o;rw[if_neg Zd,if_pos rfl] at this;unfold qC nD at this;rw[hq] at this;simp only at this;rw[B2] at this;exact this)
    have A5:=Qf (p9 hq F.o.rd Zo);rw[hq] at B0;rw[B2] at G7 B6;obtain⟨N,rfl⟩:∃N:Nat,n=(N:Int):=⟨n.toNat,by simp only at B6; omega⟩;rw[aj] at G;obtain⟨RL,B5⟩:=Qe (dH jh N r3);rw[<-B5] at G;obtain⟨l3,G4⟩:=r3;have D2:Qg (LR jh RL N [] (l3,G4)):=Qf (B5▸LR.start _ _ _);simp only at B0 G7;have K0:l3.length<=1000000:=Zo;clear hq Z B5 B6;obtain⟨p0,p1,p2,p3,p4,p5,p6,p7,p8⟩:=BK.c9 F.o.obj;obtain⟨A4,B1,B3,D6,E1,E3,F1,F2,G3⟩:=BK.f9 (F.o.obj);go_wp2_with fail;refine A5.o.mono ?_;rintro e x3 ⟨rfl,C,B⟩;have P:=Qf (F.o.call C.out B.out);clear C B F A5 p0 p1 p2 p3 p4 p5 p6 p7 p8 A4 B1 B3 D6 E1 E3 F1 F2 G3;obtain⟨p0,p1,p2,p3,p4,p5,p6,p7,p8⟩:=BK.c9 P.o.obj;obtain⟨A4,B1,B3,D6,E1,E3,F1,F2,G3⟩:=BK.f9 (P.o.obj);obtain⟨x4,E9⟩:=Qe ((x3.setCell ⟨(w:Nat)+2,3,none⟩ (Yu t1)).setCell ⟨(w:Nat)+2,4,none⟩ (Yu t2));have G0:Qg (KS w #[Yi 3,Ye,(),Yu t1,Yu t2,(),Ye,Yi 0,Ye] r2 x4):=Qf (E9▸(P.o.set 3 _).set 4 _);have F6:=Qf (iO B2 G0.o.rd Zo);rw[E9] at F6;have B4:=Qf E9;clear E9 B2 P;go_wp2_with fail;refine F6.o.mono ?_;rintro e x5 ⟨rfl,C,B⟩;rw[<-B4.o] at B;have H6:=Qf (G0.o.call C.out B.out);clear C B B4 F6 G0 p0 p1 p2 p3 p4 p5 p6 p7 p8 A4 B1 B3 D6 E1 E3 F1 F2 G3;go_wp2;go_loopw [10] (fun i wr=>∃(m k:Nat) (ps:Qd) (l:Qb) (bd:Bool) (pa:Qa) (pc:Nat),i=Yi k/\k+m=N/\k+l.length<=1000001/\Qg (k=ps.length)/\Qg (bd=false->k+l.length<=1000000)/\Qg (KS w #[Yi 3,Ye,(),Yu t1,Yu t2,.slice pa k pc,Ye,Yi 0,Ye] (l,bd) wr)/\Qg (wr.ownsRow ((w:Nat)+3) 54 2 (.slice pa k pc) k (aW ps))/\Qg (LR jh RL m ps (l,bd))) (fun i _=>N-(intOf i).toNat)
    case atStart=>exact⟨N,0,[],l3,G4,none,0,rfl,Zo,Zo,Qf rfl,Qf (fun _=>Zo),H6,Qf (XE _ _ _ _),D2⟩
    case round=>
     clear H6 D2;obtain⟨m,k,ps,l,bd,pa,pc,rfl,J4,J3,HK,C3,J,HO,HL⟩:=hrel;have E0:=J.o.lt;have b1:wr.cell? ⟨(w:Nat)+1,1,none⟩=some (.bool bd):=Zw J.o.rd.cell;by_cases hm:m=0
     ·subst hm;have d1:decide ((k:Int)<(N:Int))=false:=Zt;have d2:decide (k<N)=false:=Zt;have A2:=Qf (HL.out.stop (.inl rfl));clear HL;have I:=Qf (by have:=G.o; rw[A2.o] at this; exact this);obtain⟨au,r4,B8⟩:∃au r4,kL (l,bd)=(au,r4):=⟨_,_,rfl⟩;have C5:=(jl (l,bd)).1;rw[B8] at I C5;obtain⟨ti,r5,B9⟩:∃ti r5,gN r4=(ti,r5):=⟨_,_,rfl⟩;have D8:=ik r4;simp only at I C5;rw[B9] at I D8;obtain⟨ms,r6,C0⟩:∃ms r6,kL r5=(ms,r6):=⟨_,_,rfl⟩;simp only at I D8;rw[C0] at I;simp only at I;have Q:=Qf (lL B8 J.o.rd Zp);obtain⟨p0,p1,p2,p3,p4,p5,p6,p7,p8⟩:=BK.c9 J.o.obj;obtain⟨A4,B1,B3,D6,E1,E3,F1,F2,G3⟩:=BK.f9 (J.o.obj);go_wp2_with fail;refine Q.o.mono ?_;rintro e y1 ⟨rfl,C,B⟩;obtain⟨K,A6⟩:=Yj (J.o.call C.out B.out) (bD HO.out B.out Zo);clear C B Q B8 p0 p1 p2 p3 p4 p5 p6 p7 p8 A4 B1 B3 D6 E1 E3 F1 F2 G3;obtain⟨p0,p1,p2,p3,p4,p5,p6,p7,p8⟩:=BK.c9 K.o.obj;obtain⟨A4,B1,B3,D6,E1,E3,F1,F2,G3⟩:=BK.f9 (K.o.obj);obtain⟨y2,V⟩:=Qe (y1.setCell ⟨(w:Nat)+2,6,none⟩ (.string ⟨au.toArray⟩));have A0:Qg (KS w #[Yi 3,Ye,(),Yu t1,Yu t2,.slice pa k pc,au,Yi 0,Ye] r4 y2):=Qf (V▸K.o.set 6 _);have X:=Qf (bD A6.o (dN y1 ((w:Nat)+2) 6 (.string ⟨au.toArray⟩)) Zo);rw[<-V] at X;have R:=Qf (iO B9 A0.o.rd Zo);rw[V] at R;have D0:=Qf V;clear V B9 K A6;go_wp2_with fail;refine R.o.mono ?_;rintro e y3 ⟨rfl,C,B⟩;rw[<-D0.o] at B;obtain⟨L,A7⟩:=Yj (A0.o.call C.out B.out) (bD X.o B.out Zo);clear C B R D0 A0 X p0 p1 p2 p3 p4 p5 p6 p7 p8 A4 B1 B3 D6 E1 E3 F1 F2 G3;obtain⟨p0,p1,p2,p3,p4,p5,p6,p7,p8⟩:=BK.c9 L.o.obj;obtain⟨A4,B1,B3,D6,E1,E3,F1,F2,G3⟩:=BK.f9 (L.o.obj);obtain⟨y4,W⟩:=Qe (y3.setCell ⟨(w:Nat)+2,7,none⟩ (Yi ti));have A1:Qg (KS w #[Yi 3,Ye,(),Yu t1,Yu t2,.slice pa k pc,au,Yi ti,Ye] r5 y4):=Qf (W▸L.o.set 7 _);have Y:=Qf (bD A7.o (dN y3 ((w:Nat)+2) 7 (Yi ti)) Zo);rw[<-W] at Y;have S:=Qf (lL C0 A1.o.rd Zo);rw[W] at S;have D1:=Qf W;clear W C0 L A7;go_wp2_with fail;refine S.o.mono ?_;rintro e y5 ⟨rfl,C,B⟩;rw[<-D1.o] at B;obtain⟨M,A8⟩:=Yj (A1.o.call C.out B.out) (bD Y.o B.out Zo);clear C B S D1 A1 Y p0 p1 p2 p3 p4 p5 p6 p7 p8 A4 B1 B3 D6 E1 E3 F1 F2 G3;obtain⟨p0,p1,p2,p3,p4,p5,p6,p7,p8⟩:=BK.c9 M.o.obj;obtain⟨A4,B1,B3,D6,E1,E3,F1,F2,G3⟩:=BK.f9 (M.o.obj);have HF:Qg (QX w OB q (y5.setCell ⟨(w:Nat)+2,8,none⟩ (.string ⟨ms.toArray⟩))):=Qf (by
       obtain⟨rfl,rfl⟩:=Prod.mk.inj I.o;have h3:=bD A8.o (dN y5 ((w:Nat)+2) 8 (.string ⟨ms.toArray⟩)) Zo;have h4:=M.o.set 8 (.string ⟨ms.toArray⟩);rw[HK.out] at h3 h4;exact⟨none,0,pa,pc,h4,XE _ _ _ _,h3⟩)
      clear M A8;go_wp2_with fail;go_meet
      case rel=>exact HF.o
     ·have d1:decide ((k:Int)<(N:Int))=true:=Zt;have d2:decide (k<N)=true:=Zt;cases bd with
      | true=>
       have A2:=Qf (HL.out.stop (.inr rfl));clear HL;obtain⟨bd,I1⟩:=Qe true;rw[<-I1] at A2 J C3;clear I1;have I:=Qf (by have:=G.o; rw[A2.o] at this; exact this);obtain⟨au,r4,B8⟩:∃au r4,kL (l,bd)=(au,r4):=⟨_,_,rfl⟩;have C5:=(jl (l,bd)).1;rw[B8] at I C5;obtain⟨ti,r5,B9⟩:∃ti r5,gN r4=(ti,r5):=⟨_,_,rfl⟩;have D8:=ik r4;simp only at I C5;rw[B9] at I D8;obtain⟨ms,r6,C0⟩:∃ms r6,kL r5=(ms,r6):=⟨_,_,rfl⟩;simp only at I D8;rw[C0] at I;simp only at I;have Q:=Qf (lL B8 J.o.rd Zp);obtain⟨p0,p1,p2,p3,p4,p5,p6,p7,p8⟩:=BK.c9 J.o.obj;obtain⟨A4,B1,B3,D6,E1,E3,F1,F2,G3⟩:=BK.f9 (J.o.obj);go_wp2_with fail;refine Q.o.mono ?_;rintro e y1 ⟨rfl,C,B⟩;obtain⟨K,A6⟩:=Yj (J.o.call C.out B.out) (bD HO.out B.out Zo);clear C B Q B8 p0 p1 p2 p3 p4 p5 p6 p7 p8 A4 B1 B3 D6 E1 E3 F1 F2 G3;obtain⟨p0,p1,p2,p3,p4,p5,p6,p7,p8⟩:=BK.c9 K.o.obj;obtain⟨A4,B1,B3,D6,E1,E3,F1,F2,G3⟩:=BK.f9 (K.o.obj);obtain⟨y2,V⟩:=Qe (y1.setCell ⟨(w:Nat)+2,6,none⟩ (.string ⟨au.toArray⟩));have A0:Qg (KS w #[Yi 3,Ye,(),Yu t1,Yu t2,.slice pa k pc,au,Yi 0,Ye] r4 y2):=Qf (V▸K.o.set 6 _);have X:=Qf (bD A6.o (dN y1 ((w:Nat)+2) 6 (.string ⟨au.toArray⟩)) Zo);rw[<-V] at X;have R:=Qf (iO B9 A0.o.rd Zo);rw[V] at R;have D0:=Qf V;clear V B9 K A6;go_wp2_with fail;refine R.o.mono ?_;rintro e y3 ⟨rfl,C,B⟩;rw[<-D0.o] at B;obtain⟨L,A7⟩:=Yj (A0.o.call C.out B.out) (bD X.o B.out Zo);clear C B R D0 A0 X p0 p1 p2 p3 p4 p5 p6 p7 p8 A4 B1 B3 D6 E1 E3 F1 F2 G3;obtain⟨p0,p1,p2,p3,p4,p5,p6,p7,p8⟩:=BK.c9 L.o.obj;obtain⟨A4,B1,B3,D6,E1,E3,F1,F2,G3⟩:=BK.f9 (L.o.obj);obtain⟨y4,W⟩:=Qe (y3.setCell ⟨(w:Nat)+2,7,none⟩ (Yi ti));have A1:Qg (KS w #[Yi 3,Ye,(),Yu t1,Yu t2,.slice pa k pc,au,Yi ti,Ye] r5 y4):=Qf (W▸L.o.set 7 _);have Y:=Qf (bD A7.o (dN y3 ((w:Nat)+2) 7 (Yi ti)) Zo);rw[<-W] at Y;have S:=Qf (lL C0 A1.o.rd Zo);rw[W] at S;have D1:=Qf W;clear W C0 L A7;go_wp2_with fail;refine S.o.mono ?_;rintro e y5 ⟨rfl,C,B⟩;rw[<-D1.o] at B;obtain⟨M,A8⟩:=Yj (A1.o.call C.out B.out) (bD Y.o B.out Zo);clear C B S D1 A1 Y p0 p1 p2 p3 p4 p5 p6 p7 p8 A4 B1 B3 D6 E1 E3 F1 F2 G3;obtain⟨p0,p1,p2,p3,p4,p5,p6,p7,p8⟩:=BK.c9 M.o.obj;obtain⟨A4,B1,B3,D6,E1,E3,F1,F2,G3⟩:=BK.f9 (M.o.obj);have HF:Qg (QX w OB q (y5.setCell ⟨(w:Nat)+2,8,none⟩ (.string ⟨ms.toArray⟩))):=Qf (by
        obtain⟨rfl,rfl⟩:=Prod.mk.inj I.o;have h3:=bD A8.o (dN y5 ((w:Nat)+2) 8 (.string ⟨ms.toArray⟩)) Zo;have h4:=M.o.set 8 (.string ⟨ms.toArray⟩);rw[HK.out] at h3 h4;exact⟨none,0,pa,pc,h4,XE _ _ _ _,h3⟩)
       clear M A8;go_wp2_with fail;go_meet
       case rel=>exact HF.o
      | false=>
       obtain⟨m',rfl⟩:∃m',m=m'+1:=⟨m-1,Zo⟩;have J5:=C3.out rfl;obtain⟨O,E⟩:=Yj (HL.out.next rfl) (oK (l,false));obtain⟨G5,I6,q3,B7⟩:∃d1 d2 q3,jh (l,false)=((d1,d2),q3):=⟨_,_,_,rfl⟩;rw[B7] at O E;obtain⟨l4,K3⟩:=q3;simp only at O E;have C5:=E.o.1;have H0:Qg (K3=false->k+1+l4.length<=1000000):=Qf (fun h=>Zh (E.o.2 h));have Q:=Qf (p9 B7 J.o.drew.rd Zp);have J2:(k:Int)<=1000000:=Zo;clear E HL C3 B7;obtain⟨p0,p1,p2,p3,p4,p5,p6,p7,p8⟩:=BK.c9 J.o.obj;obtain⟨A4,B1,B3,D6,E1,E3,F1,F2,G3⟩:=BK.f9 (J.o.obj);go_wp2_with fail;go_region_law
        (first
        | (refine bN Zr (.tmp 78) (.tmp 81) _ _ Zr _ _ Zr Zr _ _ C1.o ?_)
        | (try go_simp; (with_reducible refine Q.o.mono ?_); rintro e y ⟨rfl,C,B⟩; obtain⟨a2,c2,z,C1,HZ,E5,E4,L7,L9,L8⟩:=KJ (d1:=G5) (d2:=I6) J.o HO.out HK.out C.out B.out J2; (have M9:=fun o=>bP L7 o); clear C B)
        | fail)
       all_goals
        have G1:Qg (KS w #[Yi 3,Ye,(),Yu t1,Yu t2,.slice a2 (k+1) c2,Ye,Yi 0,Ye] (l4,K3) (z.setCell ⟨(w:Nat)+2,5,none⟩ (.slice a2 (k+1) c2))):=Qf (HZ.o.set 5 _);have F8:=Qf (bD E5.o (dN z ((w:Nat)+2) 5 (.slice a2 (k+1) c2)) Zo);clear HZ E5 C1 L7 L9 L8;go_wp2;go_roundw
        case rel=>exact⟨m',k+1,_,l4,K3,a2,c2,Zg,Zo,Zo,E4,H0,G1,F8,O⟩
        case measure=>exact Yr
   ·have k3:(kd==3)=false:=Zu h3;obtain⟨nm,r2,hq⟩:∃nm r2,kL r1=(nm,r2):=⟨_,_,rfl⟩;have G:Qg ((OB,q)=({ obZ with kind:=kd,data:=nm },r2)):=Qf (by
     have:=Z.o;rw[if_neg (Zu h2),if_neg (Zu h3)] at this;rw[hq] at this;exact this)
    have A5:=Qf (lL hq F.o.rd Zo);clear hq Z h2 h3;obtain⟨p0,p1,p2,p3,p4,p5,p6,p7,p8⟩:=BK.c9 F.o.obj;obtain⟨A4,B1,B3,D6,E1,E3,F1,F2,G3⟩:=BK.f9 (F.o.obj);go_wp2_with fail;refine A5.o.mono ?_;rintro e x3 ⟨rfl,C,B⟩;have P:=Qf (F.o.call C.out B.out);clear C B F A5 p0 p1 p2 p3 p4 p5 p6 p7 p8 A4 B1 B3 D6 E1 E3 F1 F2 G3;obtain⟨p0,p1,p2,p3,p4,p5,p6,p7,p8⟩:=BK.c9 P.o.obj;obtain⟨A4,B1,B3,D6,E1,E3,F1,F2,G3⟩:=BK.f9 (P.o.obj);have HF:Qg (QX w OB q (x3.setCell ⟨(w:Nat)+2,1,none⟩ (.string ⟨nm.toArray⟩))):=Qf (by
     obtain⟨rfl,rfl⟩:=Prod.mk.inj G.o;exact⟨none,0,none,0,P.o.set 1 _,XE _ _ _ _,XE _ _ _ _⟩)
    clear P;go_wp2_with fail;go_meet
    case rel=>exact HF.o
