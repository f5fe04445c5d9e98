/- Lemmas. -/
import Derived.Test.YtkedhdcnakhbgaaGreatG6
import Derived.Test.YtkedhdcnakhbgaaGreatP3
import Derived.Test.YtkedhdcnakhbgaaGreatW2
import Derived.Test.YtkedhdcnakhbgaaGreatW3
import Derived.Test.YtkedhdcnakhbgaaGreatG4
import Derived.Test.YtkedhdcnakhbgaaGreatP1
set_option linter.unusedSimpArgs false
set_option maxRecDepth 100000
set_option maxHeartbeats 16000000
namespace Go.Proofs.YtkedhdcnakhbgaaGreat
open Tryz
open Go.RowKit Go.Shelf
set_option linter.unusedVariables false
variable {id size tot:Int}{Q xs:List Itm}{ms:List Msg}{ps:List P}{m:Msg}{B b c k n:Nat}{r:Option Nat}{a:Qa}{D s:Qb}{W W':World}
def PV(xs:List Itm)(l:Qd):Bool:=l.all (I7 xs)&&decide ((dh xs l).2=[])
theorem RU(a:Qa)(xs:List Itm)(c:Nat)(la:Qa)(l:Qd)(lc:Nat)(w:World)(hp:jQ w a xs c)(ha:Asc xs)(hl:dE w w la l)(U:∀d∈l,OkD d)(X:(xs.length:Int)<=5000)(T:(l.length:Int)<=10000):
  Qh 41 #[.slice a xs.length c,.slice la l.length lc] w (Xz (.bool (PV xs l)) w):=by
 obtain⟨F,HL,B⟩:=Yk (fun x y W (hb:PM w W)=>I6 a xs c x y W (hp.below hb) ha) hl (fun W (hW:PM w W)=>zH a xs c la l lc W (hp.below hW) ha (hl.ahead hW) U X T);obtain⟨R,Z⟩:=Qe (PV xs l);rw[<-Z];unfold PV at Z;have H:=Qf Z;generalize dh xs l=rr at B H;obtain⟨ra,rb⟩:=rr;simp only at H;obtain⟨n,hn⟩:=Qe l.length;have HN:=Qf hn;obtain⟨m,hm⟩:=Qe rb.length;have HM:=Qf hm;rw[<-hn] at B T ⊢;generalize xs.length=nx at F B ⊢;have K:=Qf (Below.refl (w:Nat) w);clear hp ha hl U X Z hn hm;go_enter func41,ntmps41;go_wp2;go_loopw [11] (fun i wr=>∃k:Nat,k<=n/\i=Yi k/\Qg (PM w wr)/\Qg (∀d∈l.take k,I7 xs d=true)) (fun i _=>n-(intOf i).toNat)
 case atStart=>exact⟨0,Zo,rfl,K,Qf Zs⟩
 case round=>
  clear K;obtain⟨k,hk,rfl,C,Y⟩:=hrel;by_cases C3:k<n
  ·have A9:(k:Int)<(n:Int):=Zo;have I:k<l.length:=Zh HN.o;obtain⟨b0,A0,A8,C2,q0,q1⟩:=(HL.o.ahead C.out) k I;have A6:=HL;subst A8;have Q:Qg (l.take (k+1)=l.take k++[l[k]]):=Qf (ai I);have O:Qg (l[k]∈l):=Qf (ak I);generalize l[k]=d at q0 q1 Q O;obtain⟨d1,d2⟩:=d;simp only at q0 q1;obtain⟨v,hv⟩:=Qe (wr.alloc (.cells #[Yu d1,Yu d2] 54));have S:PM wr v:=hv▸(bf _).alloc nr _;have D:=Qf (XT C.out S);have HC:=Qf (F.o d1 d2 v D.o);rw[hv] at HC;have HV:=Qf hv;clear hv S C A6;go_wp2_with fail;refine HC.o.mono ?_;rintro e u ⟨rfl,G⟩;rw[<-HV.o] at G;have M:=Qf (XT D.o G);clear HC HV G D q0 q1;cases hh:I7 xs (d1,d2) with
   | false=>
    have E:Qg (R=false):=Qf (by
     rw[H.o];have:l.all (I7 xs)=false:=by
      rw[Bool.eq_false_iff];intro h;rw[P5.1 h _ O.o] at hh;cases hh
     rw[this]; rfl)
    clear H;go_wp2;go_ret;exact⟨Zw E.o,M.o⟩
   | true=>
    have A4:Qg (∀d∈l.take (k+1),I7 xs d=true):=Qf (fun d hd=>by
     rw[Q.o] at hd;rcases aD.1 hd with h | h
     ·exact Y.out d h
     ·rw[aH.1 h]; exact hh)
    clear Y hh;go_wp2;go_roundw
    case rel=>exact⟨k+1,Zo,Zg,M,A4⟩
    case measure=>exact Yr
  ·have A9:¬(k:Int)<(n:Int):=Zo;have E:Qg (R=decide (rb=[])):=Qf (by
    have I:=Y.out;rw[show l.take k=l from ag (Zh HN.o)] at I;rw[H.o,P5.2 I,Bool.true_and])
   obtain⟨x0,V⟩:=Qe wr;rw[<-V] at C ⊢;have N:=Qf (B.o x0 C.out);clear V H B HL F Y;go_wp2_with fail;refine N.o.mono ?_;rintro e u1 ⟨pa,pc,sa,sc,rfl,B3,B4,hb⟩;have L:=Qf (XT C.out hb);simp only;rw[<-HM.o];have P:Qg (R=(m==0)):=Qf (by
    rw[E.o];have:=HM.o;cases rb with
    | nil=>simp at this; simp[this]
    | cons x y=>simp at this; simp[this])
   clear B3 B4 hb N C E;cases J:(m==0) with
   | true=>
    have B1:((m:Int)==0)=true:=by simp at J; simp[J]
    go_wp2;go_ret;exact⟨by rw[P.o,J]; rfl,L.o⟩
   | false=>
    have B1:((m:Int)==0)=false:=by simp at J; simp[J]
    go_wp2;go_ret;exact⟨by rw[P.o,J]; rfl,L.o⟩
def QR(xs:List Itm):Qd->Qd->Int
 | _,[]=>0
 | met,d::l=>if(aF xs d).2≠0 then(aF xs d).2 else if d∈met then QR xs met l else if(dh xs [d]).2≠[] then 8 else QR xs (met++(dh xs [d]).1) l
theorem Wv{l met:Qd}(h:k<l.length):QR xs met (l.drop k)=if(aF xs l[k]).2≠0 then(aF xs l[k]).2 else if l[k]∈met then QR xs met (l.drop (k+1)) else if(dh xs [l[k]]).2≠[] then 8 else QR xs (met++(dh xs [l[k]]).1) (l.drop (k+1)):=by
 rw[aN h,QR]
theorem Q9{x y:Int}{t:TypeId}(h:BK b #[Yu x,Yu y] t W):dE W W (some ⟨b,0,none⟩) [(x,y)]:=by
 intro i A;have:i=0:=by simp at A; omega
 subst this;exact⟨b,0,rfl,h.lt,Zw h.cell,Zw h.cell⟩
theorem Rs(a:Qa)(xs:List Itm)(c:Nat)(la:Qa)(l:Qd)(lc:Nat)(w:World)(hp:jQ w a xs c)(ha:Asc xs)(hl:dE w w la l)(C9:∀d∈l,OkD d)(F6:(xs.length:Int)<=100)(E9:(l.length:Int)<=1000):
  Qh 40 #[.slice a xs.length c,.slice la l.length lc] w (Xz (Yi (QR xs [] l)) w):=by
 obtain⟨B6,C0⟩:=Yj (fun p q W (hW:PM w W)=>Gr a xs c p q W (hp.below hW) ha) (fun b x y W (hW:PM w W) (N:BK b #[Yu x,Yu y] 54 W) (ho:OkD (x,y))=>zH a xs c (some ⟨b,0,none⟩) [(x,y)] 1 W (hp.below hW) ha (Q9 N) (Zu ho) Zo Zs);obtain⟨M,hM⟩:∃M:Nat,M=100001:=⟨_,rfl⟩;have D8:Qg (∀d,OkD d->(dh xs [d]).1.length<=M/\∀e∈(dh xs [d]).1,OkD e):=Qf (fun d hd=>by
  obtain⟨h1,h2⟩:=Cg xs [d];have h3:jC xs [d]<=M:=by unfold jC; simp only[az,aK]; omega
  exact⟨Zo,fun e he=>H7 (Zu hd) (((gW xs [d]).2.2 e).1.1 he).1⟩)
 obtain⟨HL,E0⟩:=Yj hl C9;have F0:=@run_makeMap prog;obtain⟨R,hR⟩:=Qe (QR xs [] l);rw[<-hR];have HR:=Qf hR;obtain⟨n,hn⟩:=Qe l.length;have HN:=Qf hn;rw[<-hn] at E9 ⊢;have C1:Qg (mW (w:Nat) [] (w.alloc (.map #[] 0))):=Qf (mW.made w);have B4:Qg (PM w (w.alloc (.map #[] 0))):=Qf ((bf w).alloc nr _);generalize xs.length=nx at B6 C0 ⊢;have B7:=Qf hM;clear hp ha hl C9 F6 hR hn hM;go_enter func40,ntmps40;go_wp2;go_loopw [17] (fun i wr=>∃(k:Nat) (A6:Qd),k<=n/\i=Yi k/\A6.length<=k*M/\Qg (mW (w:Nat) A6 wr)/\Qg (PM w wr)/\Qg (R=QR xs A6 (l.drop k))) (fun i _=>n-(intOf i).toNat)
 case atStart=>exact⟨0,[],Zo,rfl,Zs,C1,B4,Qf (Zw HR.o)⟩
 case round=>
  clear C1 B4 F0 HR;obtain⟨k,A6,hk,rfl,H1,HS,O,HR⟩:=hrel;by_cases H0:k<n
  ·have E8:(k:Int)<(n:Int):=Zo;have h1:k<l.length:=Zh HN.o;obtain⟨b0,E3,T,E6,q0,q1⟩:=(HL.o.ahead O.out) k h1;have D9:=HL;subst T;have A0:=E0.o _ (ak h1);have F:=Qf (HR.o.trans (Wv h1));generalize l[k]=d at q0 q1 A0 F;obtain⟨d1,d2⟩:=d;simp only at q0 q1;have H:=Qf (D8.o _ A0);obtain⟨v,hv⟩:=Qe (wr.alloc (.cells #[Yu d1,Yu d2] 54));have E:PM wr v:=hv▸(bf _).alloc nr _;have A8:Qg (BK wr #[Yu d1,Yu d2] 54 v):=Qf (hv▸BK.new _ _ _);obtain⟨X,C4⟩:=Yj (XT O.out E) (HS.out.below E);have HC:=Qf (B6.o d1 d2 v X.o);generalize aF xs (d1,d2)=CR at HC F;obtain⟨⟨D3,data,D1,⟨t1,t2⟩,D4,B3,D5,D6⟩,er⟩:=CR;simp only at HC F;obtain⟨q,hq⟩:=Qe (wr:Nat);have HQ:Qg (q=(wr:Nat)):=Qf hq;have H4:(w:Nat)<=q:=hq▸O.out.size;rw[<-hq] at A8;rw[hv] at HC;have HV:=Qf hv;clear hv E O HS D9 HR hq;go_wp2_with fail;refine HC.o.mono ?_;rintro e u ⟨ea,ec,pa,pc,rfl,F3,N⟩;rw[<-HV.o] at N;simp only[Ob.val];obtain⟨A4,C7,C3⟩:=Yk (XT X.o N) (A8.o.below N) (C4.o.below N);generalize D4.length=np;generalize D1.length=ne;obtain⟨v2,B1⟩:=Qe (u.alloc (.cells #[Yi D3,data,.slice ea ne ec,Yu t1,Yu t2,.slice pa np pc,B3,Yi D5,D6] 59));have E:PM u v2:=B1▸(bf _).alloc nr _;obtain⟨P,A7,Z,G⟩:=Yl (XT A4.o E) (C7.o.below E) (C3.o.below E) B1;rw[<-HQ.o];clear F3 N E B1 HC HV X A8 C4 A4 C7 C3 q0 q1 HQ;by_cases he:er=0
   ·subst he;have C:=Qf (F.o.trans (if_neg Zs));have B:=Z.o.look A0;obtain⟨x0,x1⟩:=BK.c2 A7.o;rw[G.o] at B x0 x1;clear F;cases K:decide ((d1,d2)∈A6) with
    | true=>
     rw[K] at B;have D:=Qf (C.o.trans (if_pos (Zu K)));clear C K A7;go_wp2_with fail;rw[<-G.o];go_roundw
     case rel=>exact⟨k+1,A6,Zo,Zg,Zy rM,Z,P,D⟩
     case measure=>exact Yr
    | false=>
     rw[K] at B;have D:=Qf (C.o.trans (if_neg (Zu K)));obtain⟨v3,V⟩:=Qe (v2.alloc (.cells #[Yu d1,Yu d2] 54));have A9:PM v2 v3:=V▸(bf _).alloc nr _;obtain⟨I,S⟩:=Yj (XT P.o A9) (Z.o.below A9);have J:=Qf (C0.o (v2:Nat) d1 d2 v3 I.o (V▸BK.new _ _ _) A0);generalize dh xs [(d1,d2)]=rr at J D H;obtain⟨ra,rb⟩:=rr;simp only at J D H;have F5:=H.o.1;obtain⟨B2,U⟩:=Qe ra.length;have Q:=Qf U;obtain⟨B5,A1⟩:=Qe rb.length;have Y:=Qf A1;rw[<-U] at F5;have G6:(B2:Int)<=200000:=Zh B7.o;have D2:(v2:Nat)=(u:Nat)+1:=Zn G.o;rw[D2,V,G.o] at J;have C6:=Qf (V.trans (Zx G.o));simp only[az,aK,aZ] at J;clear C K A7 P Z V A9 U A1 D2;go_wp2_with fail;refine J.o.mono ?_;rintro e u3 ⟨pa,pc,sa,sc,rfl,L,F2,N⟩;rw[<-C6.o] at N L;simp only at L ⊢;rw[<-Q.o] at L ⊢;rw[<-Y.o];obtain⟨A3,C2,B8⟩:=Yk (XT I.o N) (S.o.below N) (kr Q.o L);have B9:Qg (∀ad,pa=some ad->ad.block≠(w:Nat)):=Qf (fun ad e=>by
      subst e;have h5:=(L.lt ad.block rfl).1;have h6:=S.o.lt
      omega)
     clear L F2 N J I S C6 B x0 x1 G;by_cases hz:0<B5
     ·have F8:(0:Int)<(B5:Int):=Zo;have A5:Qg (R=8):=Qf (D.o.trans (if_pos (fun e=>by have:=Y.o; rw[e] at this; simp at this; omega)));clear D;go_wp2;go_ret;exact⟨Zw A5.o,A3.o⟩
     ·have F8:¬(0:Int)<(B5:Int):=Zo;have A5:Qg (R=QR xs (A6++ra) (l.drop (k+1))):=Qf (D.o.trans (if_neg (fun e=>e (by have:=Y.o; cases rb with | nil=>rfl | cons a b=>simp at this; omega))));clear D Y;go_wp2;go_loopw [45] (fun i wr=>∃j:Nat,j<=B2/\i=Yi j/\Qg (mW (w:Nat) (A6++ra.take j) wr)/\Qg (PM w wr)/\Qg (dE wr.heap.size wr pa ra)) (fun i _=>B2-(intOf i).toNat)
      case atStart=>exact⟨0,Zo,rfl,Qf (C2.o.eq Zs),A3,B8⟩
      case round=>
       clear A3 C2 B8;obtain⟨j,hj,rfl,HS,O,HE⟩:=hrel;by_cases G5:j<B2
       ·have E7:(j:Int)<(B2:Int):=Zo;have h2:j<ra.length:=Zh Q.o;obtain⟨b0,E3,T,E6,q0,q1⟩:=HE.out j h2;have C8:some (w:Nat)≠some b0:=fun e=>B9.o _ T (by injection e with e; exact e.symm)
        have E1:=B9;have A2:=H.o.2 _ (ak h2);have C5:Qg (ra.take (j+1)=ra.take j++[ra[j]]):=Qf (ai h2);generalize ra[j]=g at q0 q1 A2 C5;obtain⟨g1,g2⟩:=g;simp only at q0 q1;obtain⟨u1,H3,D0,B0,F7⟩:=(HS.out.alloc (.cells #[Yu g1,Yu g2] 54)).put A2 (by
         rw[af,aA];have h9:k*M<=1000*M:=pK _ Zo;have G7:=B7.o
         omega)
        have S:Qg (mW (w:Nat) (A6++ra.take (j+1)) u1):=Qf (D0.eq (by rw[C5.o,ay]));have I:Qg (PM w u1):=Qf (FU (O.out.alloc O.out.size _) B0 nr);have D7:Qg (dE u1 u1 pa ra):=Qf (dE.kept (((HE.out.below ((Below.refl (wr:Nat) wr).alloc nr _) nr)).mono Zs) B0 (fun _ ad e=>by rw[T] at e; cases e; exact C8));subst T;clear D0 B0 F7 HS O HE E1 C8;go_wp2;go_roundw
        case rel=>exact⟨j+1,Zo,Zg,S,I,D7⟩
        case measure=>exact Yr
       ·have E7:¬(j:Int)<(B2:Int):=Zo;have E2:Qg (mW (w:Nat) (A6++ra) wr):=Qf (HS.out.eq (by rw[ag (Zh Q.o)]));clear HS;go_wp2;go_roundw
        case rel=>exact⟨k+1,A6++ra,Zo,Zg,by rw[af,<-Q.o,rM]; omega,E2,O,A5⟩
        case measure=>exact Yr
   ·have G9:(er !=0)=true:=Zu he;have C:Qg (R=er):=Qf (F.o.trans (if_pos he));clear F he;go_wp2_with fail;rw[<-G.o];go_ret;exact⟨Zw C.o,P.o⟩
  ·have E8:¬(k:Int)<(n:Int):=Zo;have C:Qg (R=0):=Qf (by rw[HR.o,kR (Zh HN.o),QR]);go_wp2;go_ret;exact⟨Zw C.o,O.out⟩
structure Ses where
 xs:List Itm
 want:Qd
 com:Qd
 id:Int
 tot:Int
 ps:List P
 asked:Bool
 done:Bool
structure QF where
 ha:Qa
 hc:Nat
 wa:Qa
 wc:Nat
 ca:Qa
 cc:Nat
 pa:Qa
 pc:Nat
abbrev Ses.val(s:Ses)(A:QF):Value:=.agg #[.slice A.ha s.xs.length A.hc,.slice A.wa s.want.length A.wc,.slice A.ca s.com.length A.cc,Yi s.id,Yi s.tot,.slice A.pa s.ps.length A.pc,.bool s.asked,.bool s.done]
abbrev Ses.cl(s:Ses)(A:QF)(acc:Int):Array Value:=#[.slice A.ha s.xs.length A.hc,.slice A.wa s.want.length A.wc,.slice A.ca s.com.length A.cc,Yi s.id,Yi s.tot,.slice A.pa s.ps.length A.pc,.bool s.asked,.bool s.done,Yi acc]
def WJ(s:Ses)(m:Msg):Int×Int×List P:=if s.ps=[]\/s.id≠m.id\/s.tot≠m.tot then(0,0,[]) else(s.id,s.tot,s.ps)
def Us(s:Ses)(T:Qb):Ses:=
 if(tu T s.xs).2=0/\PV (tu T s.xs).1 s.want=true then { s with xs:=(tu T s.xs).1,id:=0,tot:=0,ps:=[],done:=true } else { s with id:=0,tot:=0,ps:=[] }
def Vt(s:Ses)(m:Msg):Int×Int×Int×List P:=nJ (WJ s m).1 (WJ s m).2.1 (WJ s m).2.2 m.kind m.id m.off m.tot m.ds.length m.data
def Rl(s:Ses)(g:Int×Int×List P):Ses:=if(y9 g.1 g.2.1 g.2.2).2=true then Us { s with id:=g.1,tot:=g.2.1,ps:=g.2.2 } (y9 g.1 g.2.1 g.2.2).1 else { s with id:=g.1,tot:=g.2.1,ps:=g.2.2 }
def Qk(s:Ses)(m:Msg):Ses×Bool:=
 if s.done=true\/m.kind≠2 then(s,false) else if(Vt s m).1≠0 then(s,false) else({ Rl s (Vt s m).2 with asked:=decide (0<(Rl s (Vt s m).2).ps.length) },true)
def Ql:Ses->List Msg->Ses×Nat
 | s,[]=>(s,0)
 | s,m::ms=>((Ql (Qk s m).1 ms).1,(if(Qk s m).2=true then 1 else 0)+(Ql (Qk s m).1 ms).2)
theorem SX:∀(ms:List Msg) (s:Ses) (m:Msg),Ql s (ms++[m])=((Qk (Ql s ms).1 m).1,(Ql s ms).2+if(Qk (Ql s ms).1 m).2=true then 1 else 0)
 | [],s,m=>by
  simp only[aY,Ql,aZ,QI];rfl
 | x::ms,s,m=>by
  rw[bz,Ql,SX ms,Ql];simp only[aP]
theorem Its.grown(h:Its B W a xs)(J:B<=(W:Nat))(H:W.grownBy W' r)(D:∀ad,a=some ad->0<xs.length->r≠some ad.block):Its B W' a xs:=by
 intro i I;obtain⟨b,K,rfl,C,E,F,G⟩:=h i I;have A:=H.block b Zo (fun e=>D _ rfl Zo e.symm);exact⟨b,K,rfl,C,(XM (a:=⟨b,K+i*3,none⟩) A).trans E,(XM (a:=⟨b,K+i*3+1,none⟩) A).trans F,(XM (a:=⟨b,K+i*3+2,none⟩) A).trans G⟩
theorem jQ.grown(h:jQ W a xs c)(B:W.grownBy W' r)(A:∀ad,a=some ad->0<xs.length->r≠some ad.block):jQ W' a xs c:=⟨(h.its.grown nr B A).mono B.size,h.cap,h.len,h.dat⟩
theorem Pcs.grown(h:Pcs B W a ps)(I:B<=(W:Nat))(G:W.grownBy W' r)(C:∀ad,a=some ad->0<ps.length->r≠some ad.block):Pcs B W' a ps:=by
 intro i H;obtain⟨b,J,rfl,A,E,F⟩:=h i H;have D:=G.block b Zo (fun e=>C _ rfl Zo e.symm);exact⟨b,J,rfl,A,(XM (a:=⟨b,J+i*2,none⟩) D).trans E,(XM (a:=⟨b,J+i*2+1,none⟩) D).trans F⟩
structure PQ (W:World) (s:Ses) (A:QF) (b:Nat):Prop where
 hp:jQ W A.ha s.xs A.hc
 hr:Ps s.xs A.hc
 hw:dE W W A.wa s.want
 hc:dE W W A.ca s.com
 hq:Pcs W W A.pa s.ps
 cq:s.ps.length<=A.pc
 cw:s.want.length<=A.wc
 cc:s.com.length<=A.cc
 nh:∀ad,A.ha=some ad->0<s.xs.length->some b≠some ad.block
 nw:0<s.want.length->∀ad,A.wa=some ad->some b≠some ad.block
 nc:0<s.com.length->∀ad,A.ca=some ad->some b≠some ad.block
 nq:∀ad,A.pa=some ad->0<s.ps.length->some b≠some ad.block
 ow:∀d∈s.want,OkD d
 oc:∀d∈s.com,OkD d
 ck:∀x∈s.xs,vg x=0
 lx:s.xs.length<=2000
 ly:s.done=false->s.xs.length<=1000
 lw:s.want.length<=1000
 lc:s.com.length<=1000
 vp:gm s.id s.tot s.ps=true
theorem PQ.grown{s:Ses}{A:QF}(h:PQ W s A b)(B:W.grownBy W' (some b)):PQ W' s A b:=
 ⟨h.hp.grown B h.nh,h.hr,h.hw.kept B h.nw,h.hc.kept B h.nc,(h.hq.grown nr B h.nq).mono B.size,h.cq,h.cw,h.cc,h.nh,h.nw,h.nc,h.nq,h.ow,h.oc,h.ck,h.lx,h.ly,h.lw,h.lc,h.vp⟩
theorem PQ.below{s:Ses}{A:QF}(h:PQ W s A b)(B:PM W W'):PQ W' s A b:=
 h.grown ⟨B.os,B.tape,B.output,B.size,fun k C _=>B.block k C⟩
theorem PQ.nop{s:Ses}{A:QF}(h:PQ W s A b):PQ W { s with id:=0,tot:=0,ps:=[] } { A with pa:=none,pc:=0 } b:=
 ⟨h.hp,h.hr,h.hw,h.hc,fun i B=>(by simp at B),nr,h.cw,h.cc,h.nh,h.nw,h.nc,fun ad e=>(by cases e),h.ow,h.oc,h.ck,h.lx,h.ly,h.lw,h.lc,rfl⟩
theorem TK{tot:Int}:∀{ps:List P} {e:Int},vgo tot e ps=true->ps=[]\/2*(ps.length:Int)<=tot-e
 | [],_,_=>.inl rfl
 | p::ps,e,h=>by
  rw[vgo] at h;simp only[XF,XJ] at h;obtain⟨⟨⟨⟨C,A⟩,D⟩,E⟩,B⟩:=h;have G:0<p.2.length:=bJ.2 (Zu A);right;rcases TK B with rfl | F
  ·simp only[az,aK]; omega
  ·simp only[az]; omega
theorem Qi(h:gm id tot ps=true):(ps.length:Int)<=1048576:=by
 cases ps with
 | nil=>simp
 | cons p ps=>
  obtain⟨A,_,_,B,C⟩:=QS h;rcases TK A with h | h
  ·cases h
  ·omega
theorem WN(h:m.why=0):vM m.kind m.off m.tot m.ds.length m.data.length=true:=by
 unfold Msg.why Uv at h;split at h
 ·cases h
 ·split at h
  ·cases h
  ·split at h
   ·cases h
   ·rename_i A; simpa using A
theorem QY(m:Msg):((Qc m).1.length:Int)<=200000:=by
 unfold Qc;by_cases h:m.why=0
 ·rw[if_pos h];obtain⟨_,_,_,_,_,_,A,B⟩:=zk (WN h);have:=Bn m A B;unfold O9;simp only[af,bY];omega
 ·rw[if_neg h]; simp
theorem Wu{l:Qb}(h:Jw l=some m):vM m.kind m.off m.tot m.ds.length m.data.length=true:=by
 unfold Jw at h;split at h
 ·split at h
  ·cases h
  ·unfold Pk at h;split at h
   ·cases h
   ·split at h
    ·rename_i A; cases h; exact A
    ·cases h
 ·cases h
theorem U0{u:Nat}(h:pg s=some (m,u)):vM m.kind m.off m.tot m.ds.length m.data.length=true:=by
 unfold pg at h;split at h
 ·cases h
 ·split at h
  ·cases h
  ·split at h
   ·cases h
   ·simp only[Option.map_eq_some_iff,XC] at h;obtain⟨m',A,rfl,_⟩:=h;exact Wu A
theorem Vl(h:BG s ms n):∀m∈ms,vM m.kind m.off m.tot m.ds.length m.data.length=true:=by
 induction h with
 | stop h=>intro m A; cases A
 | step h r ih=>
  intro m A;rcases XG.1 A with rfl | A
  ·exact U0 h
  ·exact ih m A
theorem Qp{x:Itm}(h:vg x=0):(bI x.data).2=0/\iY x.data=x.d:=by
 unfold vg at h;by_cases A:(bI x.data).2=0
 ·rw[if_neg (Zu A)] at h;by_cases B:iY x.data=x.d
  ·exact⟨A,B⟩
  ·rw[if_pos B] at h; cases h
 ·rw[if_pos A] at h; cases h
theorem Wt(h:(bI s).2=0):s.length<=65536:=by
 have A:=(kI (o:=(bI s).1) (Prod.ext rfl h)).1;unfold aR at A;split at A
 ·simp only[XC] at A; omega
 ·split at A
  ·simp at A
  ·simp only[XC] at A;rw[<-A.1]; omega
theorem PQ.far{s:Ses}{A:QF}(h:PQ W s A b)(E:(W:Nat)<=B):PQ W s A B:=
 ⟨h.hp,h.hr,h.hw,h.hc,h.hq,h.cq,h.cw,h.cc,fun ad e C=>by
  obtain⟨k,o,e2,D,_⟩:=h.hp.its 0 C;rw[e] at e2; cases e2;intro e3; injection e3 with e3; have e4:B=k:=e3; omega,fun C ad e=>by
  obtain⟨k,o,e2,D,_⟩:=h.hw 0 C;rw[e] at e2; cases e2;intro e3; injection e3 with e3; have e4:B=k:=e3; omega,fun C ad e=>by
  obtain⟨k,o,e2,D,_⟩:=h.hc 0 C;rw[e] at e2; cases e2;intro e3; injection e3 with e3; have e4:B=k:=e3; omega,fun ad e C=>by
  obtain⟨k,o,e2,D,_⟩:=h.hq 0 C;rw[e] at e2; cases e2;intro e3; injection e3 with e3; have e4:B=k:=e3; omega,h.ow,h.oc,h.ck,h.lx,h.ly,h.lw,h.lc,h.vp⟩
theorem Vg{s:Ses}{A:QF}(h:PQ W s A b){T:Qb}(G:tu T s.xs=(Q,0)):Q.length<=s.xs.length+1000/\(∀x∈Q,vg x=0)/\Asc Q/\OU Q (s.xs.map (·.d))=s.xs/\∀c,Q.length<=c->Q.length<=100000->Ps Q c:=by
 have D:=OD h.hr.asc h.ck G;obtain⟨C,E⟩:=PP D.chk;have H:(bi T).1.length<=1000:=(uM (Prod.ext rfl D.ent)).2.1;exact⟨Zh D.len,C,E,D.keep,fun c F I=>⟨E,fun x B=>(Qp (C x B)).1,fun x B=>by rw[<-(Qp (C x B)).2]; exact TE _,Zo,fun x B=>Zh (Wt (Qp (C x B)).1),F⟩⟩
def VH(b:Nat)(s:Ses)(acc:Int)(w:World)(e:Ending)(w':World):Prop:=∃A,e=.returned (.tuple #[])/\BK b (s.cl A acc) 96 w'/\PQ w' s A b/\w.grownBy w' (some b)
theorem P7(h:PM W W'):W.grownBy W' (some b):=⟨h.os,h.tape,h.output,h.size,fun k A _=>h.block k A⟩
theorem PQ.pool{w w':World}{s:Ses}{A:QF}(h:PQ w s A b)(J:b<(w:Nat))(C:iF w A.ha s.xs Q a c w')(D:Ps Q c)(E:∀x∈Q,vg x=0)(H:Q.length<=2000):
  PQ w' { s with xs:=Q,id:=0,tot:=0,ps:=[],done:=true } { A with ha:=a,hc:=c,pa:=none,pc:=0 } b:=by
 have B:=(h.below C.2.2.2).nop;refine⟨⟨C.1,C.2.1,Zp,fun x I=>D.xd x I⟩,D,B.hw,B.hc,B.hq,B.cq,B.cw,B.cc,fun ad e F=>?_,B.nw,B.nc,B.nq,B.ow,B.oc,E,H,fun e=>(by cases e),B.lw,B.lc,B.vp⟩;rcases C.2.2.1 with⟨e1,e2⟩ | G
 ·subst e2; rw[e1] at e; exact h.nh ad e F
 ·have:=G ad e; intro e3; injection e3 with e3; omega
theorem Ur(b:Nat)(s:Ses)(A:QF)(acc:Int)(T:Qb)(w:World)(hb:BK b (s.cl A acc) 96 w)(X:PQ w s A b)(hT:(T.length:Int)<=1048576)(hd:s.done=false):
  Qh 105 #[.pointer b,T] w (VH b (Us s T) acc w):=by
 have HI:=Qf X;obtain⟨xs,A1,A9,id,C1,ps,A4,dn⟩:=s;obtain⟨Y,Z,wa,wk,ca,cc,pa,pc⟩:=A;simp only at hd;subst hd;obtain⟨W1,I⟩:=Qe (((w.setCell ⟨b,3,none⟩ (Yi 0)).setCell ⟨b,4,none⟩ (Yi 0)).setCell ⟨b,5,none⟩ (.slice none 0 0));have O:BK b #[.slice Y xs.length Z,.slice wa A1.length wk,.slice ca A9.length cc,Yi 0,Yi 0,(),.bool A4,.bool false,Yi acc] 96 W1:=I▸((hb.set 3 _).set 4 _).set 5 _;have W:w.grownBy W1 (some b):=I▸bu (bu (dN _ _ _ _) (dN _ _ _ _)) (dN _ _ _ _);have B:=(X.grown W).nop;have HU:=Qf (Nc T xs Y Z W1 Zo B.hp.its B.hr (by have:=B.lx; simp only at this; omega));have A8:∀Q,tu T xs=(Q,0)->_:=fun Q h=>Vg B h
 have B6:=B.ly rfl;obtain⟨c0,c1,c2,c3,c4,c5,c6,c7,c8⟩:=BK.c9 hb;obtain⟨B0,B1,B2,B3,B4,B5,B8,B9,C0⟩:=BK.f9 (hb);obtain⟨d0,d1,d2,d3,d4,d5,d6,d7,d8⟩:=BK.c9 O;obtain⟨G,hG⟩:=Qe (VH b (Us ⟨xs,A1,A9,id,C1,ps,A4,false⟩ T) acc w);rw[<-hG];unfold Us at hG;simp only at hG;obtain⟨P,N⟩:=Yj hG A8;clear A8 hG;generalize tu T xs=U at HU N P;obtain⟨Q,er⟩:=U;simp only at P;have A5:=O.lt;obtain⟨A0,R,F,A3⟩:=Yl O W B I;rw[I] at HU d0 d1 d2 d3 d4 d5 d6 d7 d8;obtain⟨q,hq⟩:=Qe Q.length;have HQ:=Qf hq;clear hb X O W B I hq hT;go_enter func105,ntmps105;go_wp2_with fail;refine HU.o.mono ?_;rintro e u ⟨a,c,rfl,J⟩;rw[<-A3.o] at J;simp only;rw[<-HQ.o];have D:=Qf (A0.o.below J.2.2.2);have L:Qg (w.grownBy u (some b)):=Qf (bu R.o (P7 J.2.2.2));have C:=Qf J;clear HU J d0 d1 d2 d3 d4 d5 d6 d7 d8 A0 c0 c1 c2 c3 c4 c5 c6 c7 c8 B0 B1 B2 B3 B4 B5 B8 B9 C0 A3;obtain⟨c0,c1,c2,c3,c4,c5,c6,c7,c8⟩:=BK.c9 D.o;obtain⟨B0,B1,B2,B3,B4,B5,B8,B9,C0⟩:=BK.f9 (D.o);by_cases he:er=0
 ·subst he;obtain⟨g1,g2,g3,g4,g5⟩:=N.o Q rfl;have C3:Q.length<=xs.length+1000:=g1;have A6:xs.length<=1000:=B6;have B7:Q.length<=2000:=Zo;have A7:=g5 c C.o.2.1 Zo;obtain⟨H,A2⟩:=Yj (F.o.pool A5 C.o A7 g2 B7) (F.o.below C.o.2.2.2);have HH:=Qf (RU a Q c wa A1 wk u H.o.hp g3 H.o.hw H.o.ow Zo (by have h8:A1.length<=1000:=HI.o.lw; omega));rw[<-HQ.o] at HH;clear N C F HI R g1 g2 g3 g4 g5 A7 C3 A6;go_wp2_with fail;refine HH.o.mono ?_;rintro e v ⟨rfl,K⟩;have E:=Qf (D.o.below K);have M:Qg (w.grownBy v (some b)):=Qf (bu L.o (P7 K));obtain⟨V,S⟩:=Yj (H.o.below K) (A2.o.below K);clear HH K D L H A2 c0 c1 c2 c3 c4 c5 c6 c7 c8 B0 B1 B2 B3 B4 B5 B8 B9 C0;cases hh:PV Q A1 with
  | true=>
   have HF:Qg (G (.returned (.tuple #[])) ((v.setCell b (.slice a q c)).setCell ⟨b,7,none⟩ (.bool true))):=Qf (by
    rw[P.o,if_pos ⟨trivial,hh⟩,HQ.o];exact⟨⟨a,c,wa,wk,ca,cc,none,0⟩,rfl,by exact(E.o.set 0 (.slice a Q.length c)).set 7 (.bool true),V.o.grown (bu (dN _ _ _ _) (dN _ _ _ _)),bu M.o (bu (dN _ _ _ _) (dN _ _ _ _))⟩)
   obtain⟨c0,c1,c2,c3,c4,c5,c6,c7,c8⟩:=BK.c9 E.o;obtain⟨B0,B1,B2,B3,B4,B5,B8,B9,C0⟩:=BK.f9 (E.o);clear P E M V S hh;go_wp2;refine XB (v:=.tuple #[]) (by simp[results,results105,go_sem]) rfl HF.o
  | false=>
   have HF:Qg (G (.returned (.tuple #[])) v):=Qf (by
    rw[P.o,if_neg (fun h=>by have h2:=h.2; rw[hh] at h2; cases h2)];exact⟨_,rfl,E.o,S.o,M.o⟩)
   clear P E M V S hh;go_wp2;refine XB (v:=.tuple #[]) (by simp[results,results105,go_sem]) rfl HF.o
 ·have C2:(er==0)=false:=Zu he;have HF:Qg (G (.returned (.tuple #[])) u):=Qf (by
   rw[P.o,if_neg (fun h=>he h.1)];exact⟨_,rfl,D.o,F.o.below C.o.2.2.2,L.o⟩)
  clear P N C D F HI R L;go_wp2;refine XB (v:=.tuple #[]) (by simp[results,results105,go_sem]) rfl HF.o
theorem UA(h:gm id tot ps=true):(y9 id tot ps).2=true->((y9 id tot ps).1.length:Int)<=1048576:=fun e=>by
 match ps,h with
 | [],h=>cases e
 | [p],h=>
  rw[EY] at e ⊢;split
  ·have:=(P6 h).2 p Zs; simp only; omega
  ·simp
 | p::q::r,h=>cases e
theorem Wp(s:Ses)(T:Qb):(Us s T).ps=[]:=by unfold Us; split <;> rfl
theorem PQ.ask{s:Ses}{A:QF}(h:PQ W s A b)(v:Bool):PQ W { s with asked:=v } A b:=
 ⟨h.hp,h.hr,h.hw,h.hc,h.hq,h.cq,h.cw,h.cc,h.nh,h.nw,h.nc,h.nq,h.ow,h.oc,h.ck,h.lx,h.ly,h.lw,h.lc,h.vp⟩
def tkN(s:Ses)(m:Msg):Int:=if(Qk s m).2=true then 1 else 0
theorem Vj(b:Nat)(s:Ses)(A:QF)(acc:Int)(m:Msg)(ma:Qa)(mc:Nat)(w:World)(hb:BK b (s.cl A acc) 96 w)(R:PQ w s A b)(J7:0<=acc)(J8:acc<=1000000000000)(hT:(m.data.length:Int)<=1048576):
  Qh 56 #[.pointer b,m.val ma mc] w (VH b (Qk s m).1 (acc+tkN s m) w):=by
 obtain⟨V,D6⟩:=Yj R hb;obtain⟨xs,A5,D3,id,C1,ps,asked,dn⟩:=s;obtain⟨F4,D1,E8,A4,ds,data⟩:=m;obtain⟨ha,hc,wa,wk,ca,cc,pa,pc⟩:=A;obtain⟨G,hG⟩:=Qe (VH b (Qk ⟨xs,A5,D3,id,C1,ps,asked,dn⟩ ⟨F4,D1,E8,A4,ds,data⟩).1 (acc+tkN ⟨xs,A5,D3,id,C1,ps,asked,dn⟩ ⟨F4,D1,E8,A4,ds,data⟩) w);rw[<-hG];obtain⟨u1,B⟩:=Qe (w.alloc (.cells #[Yi F4,Yi D1,Yi E8,Yi A4,.slice ma ds.length mc,data] 73));have C:PM w u1:=B▸(bf _).alloc nr _;have A2:BK w #[Yi F4,Yi D1,Yi E8,Yi A4,.slice ma ds.length mc,data] 73 u1:=B▸BK.new _ _ _;have D:=hb.below C;have W:Qg (Qk ⟨xs,A5,D3,id,C1,ps,asked,dn⟩ ⟨F4,D1,E8,A4,ds,data⟩=(⟨xs,A5,D3,id,C1,ps,asked,dn⟩,false)->G (.returned (.tuple #[])) u1):=Qf (fun h=>by
  rw[hG]; unfold tkN; rw[h];exact⟨⟨ha,hc,wa,wk,ca,cc,pa,pc⟩,rfl,Zu D,V.o.below C,P7 C⟩)
 obtain⟨c0,c1,c2,c3,c4,c5,c6,c7,c8⟩:=BK.c9 D;obtain⟨F5,F6,H2,I3,I8,I9,J0,J1,J2⟩:=BK.f9 (D);obtain⟨m0,m1,m2,m3,m4,m5⟩:=BK.c6 A2;obtain⟨n,hn⟩:=Qe ps.length;have HN:=Qf hn;cases dn with
 | true=>
  have E:=W.o (by unfold Qk; rw[if_pos (.inl rfl)]);rw[B] at E c7 c0 c1 c2 c3 c4 c5 c6 c8;have D7:=Qf E;clear W V D6 hG B C A2 D R hb E;go_enter func56,ntmps56;go_wp2;refine XB (v:=.tuple #[]) (by simp[results,results56,go_sem]) rfl D7.o
 | false=>
  by_cases hk:F4=2
  ·subst hk;obtain⟨u2,C5⟩:=Qe (u1.alloc (.cells #[Yi id,Yi C1,.slice pa n pc] 32));have B8:PM u1 u2:=C5▸(bf _).alloc nr _;have I5:BK u1 #[Yi id,Yi C1,.slice pa n pc] 32 u2:=C5▸BK.new _ _ _;have I2:(w:Nat)<(u1:Nat):=Zn B;have D0:=hb.lt;obtain⟨B4,F7,B0,L⟩:=Yl (XT C B8) (D.below B8) (A2.below B8) I5;have E3:=Qf (V.o.below B4.o);obtain⟨mb,C3⟩:=Qe (w:Nat);obtain⟨ob,C4⟩:=Qe ((w:Nat)+1);have D2:(u1:Nat)=ob:=by rw[C4,B]; simp
   rw[<-C3] at B0;rw[D2] at L;obtain⟨E1,G2⟩:=Yj C3 C4;have J9:b<mb/\mb<ob:=by rw[C3,C4]; exact⟨D0,Zo⟩
   obtain⟨G9,HG,G8⟩:=Yk (C5.trans (Zx B)) hG R;obtain⟨O,hO⟩:=Qe (WJ ⟨xs,A5,D3,id,C1,ps,asked,false⟩ ⟨2,D1,E8,A4,ds,data⟩);obtain⟨o1,o2,os⟩:=O;have G3:=Qf hO;have E9:(n=0\/id≠D1\/C1≠A4)->(o1,o2,os)=(0,0,[]):=fun h=>by
    rw[hO]; unfold WJ;rw[if_pos (h.imp (fun e=>by rw[hn] at e; exact aU e) (fun e=>e))]
   have F0:¬(n=0\/id≠D1\/C1≠A4)->(o1,o2,os)=(id,C1,ps):=fun h=>by
    rw[hO]; unfold WJ;rw[if_neg (fun e=>h (e.imp (fun e=>by simp only at e; rw[hn,e]; rfl) (fun e=>e)))]
   have E6:Qg (gm o1 o2 os=true):=Qf (by
    by_cases h:n=0\/id≠D1\/C1≠A4
    ·have:=E9 h; cases this; rfl
    ·have:=F0 h; cases this; exact R.vp)
   obtain⟨G1,C9⟩:=Yj E9 F0;rw[<-hn] at c5;rw[B] at c0 c1 c2 c3 c4 c5 c6 c7 c8 m0 m1 m2 m3 m4 m5;clear W V D6 hG B C A2 D R hb B8 I5 C5 I2 D0 C3 C4 D2 hn hO E9 F0;go_enter func56,ntmps56;go_upto_region 3 with fail
   rw[<-G9.o,<-G2.o,<-E1.o];clear c0 c1 c2 c3 c4 c5 c6 c7 c8 m0 m1 m2 m3 m4 m5 F5 F6 H2 I3 I8 I9 J0 J1 J2 G9 G2;obtain⟨p0,p1,p2⟩:=BK.c3 L.o;obtain⟨L0,L1,L2⟩:=BK.f3 (L.o);obtain⟨m0,m1,m2,m3,m4,m5⟩:=BK.c6 B0.o;go_cut [41] from 24 (fun c wx=>c=.bool (decide (n=0\/id≠D1\/C1≠A4))/\u2=wx)
   case first=>
    by_cases h0:n=0
    ·have g1:((n:Int)==0)=true:=Zj h0;have S:Qg (decide (n=0\/id≠D1\/C1≠A4)=true):=Qf (XI (.inl h0));clear h0;go_wp2_with fail;go_meet
     case rel=>exact⟨congrArg Value.bool S.o.symm,rfl⟩
    ·have g1:((n:Int)==0)=false:=Zt;by_cases hi:id=D1
     ·have g2:(id !=D1)=false:=Zu hi;by_cases ht:C1=A4
      ·have g3:(C1 !=A4)=false:=Zu ht;have S:Qg (decide (n=0\/id≠D1\/C1≠A4)=false):=Qf (XN (fun h=>h.elim h0 (fun h=>h.elim (fun h=>h hi) (fun h=>h ht))));clear h0 hi ht;go_wp2_with fail;go_meet
       case rel=>exact⟨congrArg Value.bool S.o.symm,rfl⟩
      ·have g3:(C1 !=A4)=true:=Zu ht;have S:Qg (decide (n=0\/id≠D1\/C1≠A4)=true):=Qf (XI (.inr (.inr ht)));clear h0 hi ht;go_wp2_with fail;go_meet
       case rel=>exact⟨congrArg Value.bool S.o.symm,rfl⟩
     ·have g2:(id !=D1)=true:=Zu hi;have S:Qg (decide (n=0\/id≠D1\/C1≠A4)=true):=Qf (XI (.inr (.inl hi)));clear h0 hi;go_wp2_with fail;go_meet
      case rel=>exact⟨congrArg Value.bool S.o.symm,rfl⟩
   case rest=>
   obtain⟨rfl,rfl⟩:=hcut;go_upto_if 41 with fail
   go_cut [] from 41 (fun wx=>∃oa oc,Qg (BK ob #[Yi o1,Yi o2,.slice oa os.length oc] 32 wx/\Pcs wx.heap.size wx oa os/\os.length<=oc)/\Qg (u2.grownBy wx (some ob)))
   case first=>
    cases hz:decide (n=0\/id≠D1\/C1≠A4) with
    | true=>
     have S:=Qf (G1.o (Zu hz));clear hz;go_wp2_with fail;go_meet
     case rel=>
      have he:=S.o;cases he;exact⟨none,0,Qf ⟨((L.o.set 0 _).set 1 _).set 2 _,fun i hi=>by simp at hi,nr⟩,Qf (bu (bu (dN _ _ _ _) (dN _ _ _ _)) (dN _ _ _ _))⟩
    | false=>
     have S:=Qf (C9.o (Zu hz));clear hz;go_wp2_with fail;go_meet
     case rel=>
      have he:=S.o;cases he;exact⟨pa,pc,Qf ⟨by have h5:=L.o; rw[HN.o] at h5; exact h5,E3.o.hq,E3.o.cq⟩,Qf ⟨rfl,rfl,rfl,nr,fun k _ _=>rfl⟩⟩
   case rest=>
   obtain⟨oa,oc,A6,G0⟩:=hcut;have C0:=G0.out;have H4:ob≠b:=Zo;have H5:ob≠mb:=Zo;have D4:Qg (BK b #[.slice ha xs.length hc,.slice wa A5.length wk,.slice ca D3.length cc,Yi id,Yi C1,.slice pa n pc,.bool asked,.bool false,Yi acc] 96 wc):=Qf (HN.o▸F7.o.grow1 C0 H4);have E0:=Qf (B0.o.grow1 C0 H5);have I7:(w:Nat)<=ob:=Zh E1.o;have B5:=Qf (B4.o.grown C0 B4.o.size (fun k e=>by cases e; exact I7));obtain⟨G4,E2,U⟩:=Yk (G8.o.below B5.o) A6.out.1 (Ou o1 o2 oa os oc 2 D1 E8 A4 ma ds.length mc data wc A6.out.2.1 A6.out.2.2 (Qi E6.o) (P6 E6.o).2 hT);obtain⟨g,hg⟩:=Qe (nJ o1 o2 os 2 D1 E8 A4 ds.length data);rw[<-hg] at U;have A8:Qg (Vt ⟨xs,A5,D3,id,C1,ps,asked,false⟩ ⟨2,D1,E8,A4,ds,data⟩=g):=Qf (by unfold Vt; rw[<-G3.o,hg]);obtain⟨ge,g1,g2,gs⟩:=g;have D9:=Qf hg;obtain⟨gn,H9⟩:=Qe gs.length;have K:=Qf H9;obtain⟨on,I6⟩:=Qe os.length;rw[<-I6] at E2 U;obtain⟨nd,I4⟩:=Qe ds.length;rw[<-I4] at E0 U;clear hg H9 I6 I4 A6 G0 C0 I7 F7 B0 B4 E3 L G1 C9 G3 E6 E1 G8 p0 p1 p2 L0 L1 L2 m0 m1 m2 m3 m4 m5;obtain⟨p0,p1,p2⟩:=BK.c3 E2.o;obtain⟨m0,m1,m2,m3,m4,m5⟩:=BK.c6 E0.o;go_wp2_with fail;refine U.o.mono ?_;rintro e u4 ⟨ga,gc,rfl,F2,B9,A1,A3⟩;simp only at F2 A1 A3 ⊢;rw[<-K.o];obtain⟨E7,D5,G5⟩:=Yk (XT B5.o B9) (D4.o.below B9) (G4.o.below B9);have J4:b<(wc:Nat):=D4.o.lt;have H:Qg (∀ad,ga=some ad->b<ad.block):=Qf (fun ad e=>Zh (A3 ad e));obtain⟨G7,C8⟩:=Yj F2 A1;clear F2 A1 A3 B9 U D4 G4 B5 E0 E2 p0 p1 p2 m0 m1 m2 m3 m4 m5;obtain⟨u5,C6⟩:=Qe (u4.alloc (.cells #[Yi g1,Yi g2,.slice ga gn gc] 32));have P:PM u4 u5:=C6▸(bf _).alloc nr _;have B7:Qg (BK u4 #[Yi g1,Yi g2,.slice ga gn gc] 32 u5):=Qf (C6▸BK.new _ _ _);obtain⟨I,B1,B6,X⟩:=Yl (D5.o.below P) (G5.o.below P) (XT E7.o P) ((G7.o.below P nr).mono P.size);have J3:(u4:Nat)≠b:=Zh D5.o.lt;have Z:=Qf C6;clear D5 G5 E7 G7 P C6;by_cases he:ge=0
   ·subst he;obtain⟨L3,L4,J5,K5,_⟩:=Ot D9.o.symm;subst L3;subst L4;obtain⟨u7,C7⟩:=Qe ((((u5.setCell ⟨b,8,none⟩ (Yi (acc+1))).setCell ⟨b,3,none⟩ (Yi g1)).setCell ⟨b,4,none⟩ (Yi g2)).setCell ⟨b,5,none⟩ (.slice ga gn gc));have Q:u5.grownBy u7 (some b):=C7▸bu (bu (bu (dN _ _ _ _) (dN _ _ _ _)) (dN _ _ _ _)) (dN _ _ _ _);have F8:Qg (BK b #[.slice ha xs.length hc,.slice wa A5.length wk,.slice ca D3.length cc,Yi g1,Yi g2,.slice ga gn gc,.bool asked,.bool false,Yi (acc+1)] 96 u7):=Qf (C7▸(((I.o.set 8 _).set 3 _).set 4 _).set 5 _);have H1:Qg (BK u4 #[Yi g1,Yi g2,.slice ga gn gc] 32 u7):=Qf (B7.o.grow1 Q (Ne.symm J3));have Y:=Qf ((X.o.grown nr Q (fun ad e _ e2=>by have:=H.o ad e; injection e2 with e2; omega)).mono Q.size);have G6:Qg (PQ u7 ⟨xs,A5,D3,g1,g2,gs,asked,false⟩ ⟨ha,hc,wa,wk,ca,cc,ga,gc⟩ b):=Qf (by
     have h:=B1.o.grown Q;exact⟨h.hp,h.hr,h.hw,h.hc,Y.o,C8.o,h.cw,h.cc,h.nh,h.nw,h.nc,fun ad e _ e2=>by have:=H.o ad e; injection e2 with e2; omega,h.ow,h.oc,h.ck,h.lx,h.ly,h.lw,h.lc,J5⟩)
    have F9:Qg (w.grownBy u7 (some b)):=Qf (bu (P7 B6.o) Q);have I0:0<gn:=K.o▸bJ.2 K5;have N:=Qf (Oz g1 g2 ga gs gc u7 Y.o (Qi J5) (P6 J5).2);rw[<-K.o] at N;have B3:Qg (Qk ⟨xs,A5,D3,id,C1,ps,asked,false⟩ ⟨2,g1,E8,g2,ds,data⟩=({ Rl ⟨xs,A5,D3,id,C1,ps,asked,false⟩ (g1,g2,gs) with asked:=decide (0<(Rl ⟨xs,A5,D3,id,C1,ps,asked,false⟩ (g1,g2,gs)).ps.length) },true)):=Qf (by
     unfold Qk;rw[if_neg Zs,A8.o,if_neg Zs])
    have E4:Qg ((y9 g1 g2 gs).2=true->((y9 g1 g2 gs).1.length:Int)<=1048576):=Qf (UA J5);obtain⟨WH,F3⟩:=Qe (y9 g1 g2 gs);rw[<-F3] at N E4;have H0:=Qf F3;obtain⟨T,ok⟩:=WH;simp only at E4 N;have K3:IntKind.i64.wrap (acc+1)=acc+1:=ZV;have E5:=Qf (C7.trans (Zx Z.o));obtain⟨c0,c1,c2,c3,c4,c5,c6,c7,c8⟩:=BK.c9 I.o;obtain⟨F5,F6,H2,I3,I8,I9,J0,J1,J2⟩:=BK.f9 (I.o);obtain⟨x0,x1,x2⟩:=BK.c3 H1.o;obtain⟨y0,y1,y2⟩:=BK.c3 B7.o;rw[Z.o] at c0 c1 c2 c3 c4 c5 c6 c7 c8 F5 F6 H2 I3 I8 I9 J0 J1 J2 y0 y1 y2;rw[E5.o] at x0 x1 x2 N;clear F3 I B7 X B1 B6 Q C7 Y J5 K5 D9 A8 H C8;go_wp2_with fail;refine N.o.mono ?_;rintro e u8 ⟨rfl,A0⟩;rw[<-E5.o] at A0;obtain⟨J,B2⟩:=Yj (F8.o.below A0) (G6.o.below A0);have A7:Qg (w.grownBy u8 (some b)):=Qf (bu F9.o (P7 A0));clear A0 F8 G6 F9 H1 N E5 Z c0 c1 c2 c3 c4 c5 c6 c7 c8 F5 F6 H2 I3 I8 I9 J0 J1 J2 x0 x1 x2 y0 y1 y2;cases ok with
    | true=>
     have D8:=Qf (Ur b ⟨xs,A5,D3,g1,g2,gs,asked,false⟩ ⟨ha,hc,wa,wk,ca,cc,ga,gc⟩ (acc+1) T u8 (by have h:=J.o; rw[K.o] at h; exact h) B2.o (E4.o rfl) rfl);have M:Qg (Rl ⟨xs,A5,D3,id,C1,ps,asked,false⟩ (g1,g2,gs)=Us ⟨xs,A5,D3,g1,g2,gs,asked,false⟩ T):=Qf (by unfold Rl; simp only; rw[<-H0.o]; rfl);have F1:=Wp ⟨xs,A5,D3,g1,g2,gs,asked,false⟩ T;generalize Us ⟨xs,A5,D3,g1,g2,gs,asked,false⟩ T=F at D8 M F1;obtain⟨fx,fw,fc,fi,ft,fp,fa,fd⟩:=F;simp only at F1;subst F1;go_wp2_with fail;refine D8.o.mono ?_;rintro e u9 ⟨A9,rfl,C2,I1,H8⟩;obtain⟨H3,H7,K8,K9,J6,K4,K6,K7⟩:=A9;have E:Qg (G (.returned (.tuple #[])) (u9.setCell ⟨b,6,none⟩ (.bool false))):=Qf (by
      rw[HG.o]; unfold tkN; rw[B3.o,M.o];exact⟨⟨H3,H7,K8,K9,J6,K4,K6,K7⟩,rfl,C2.set 6 _,(I1.ask _).grown (dN _ _ _ _),bu A7.o (bu H8 (dN _ _ _ _))⟩)
     obtain⟨c0,c1,c2,c3,c4,c5,c6,c7,c8⟩:=BK.c9 C2;obtain⟨F5,F6,H2,I3,I8,I9,J0,J1,J2⟩:=BK.f9 (C2);clear C2 I1 H8 D8 M B3 HG J B2 A7;go_wp2;refine XB (v:=.tuple #[]) (by simp[results,results56,go_sem]) rfl E.o
    | false=>
     have M:Qg (Rl ⟨xs,A5,D3,id,C1,ps,asked,false⟩ (g1,g2,gs)=⟨xs,A5,D3,g1,g2,gs,asked,false⟩):=Qf (by unfold Rl; simp only; rw[<-H0.o]; rfl);have K1:(0:Int)<(gn:Int):=Zo;have E:Qg (G (.returned (.tuple #[])) (u8.setCell ⟨b,6,none⟩ (.bool true))):=Qf (by
      rw[HG.o]; unfold tkN; rw[B3.o,M.o];have h5:=J.o;rw[K.o] at h5;have h6:decide (0<gs.length)=true:=K.o▸XI I0;simp only[h6];exact⟨⟨ha,hc,wa,wk,ca,cc,ga,gc⟩,rfl,h5.set 6 _,(B2.o.ask _).grown (dN _ _ _ _),bu A7.o (dN _ _ _ _)⟩)
     obtain⟨c0,c1,c2,c3,c4,c5,c6,c7,c8⟩:=BK.c9 J.o;obtain⟨F5,F6,H2,I3,I8,I9,J0,J1,J2⟩:=BK.f9 (J.o);clear M B3 HG J B2 A7;go_wp2;refine XB (v:=.tuple #[]) (by simp[results,results56,go_sem]) rfl E.o
   ·have K0:(ge !=0)=true:=Zu he;have E:Qg (G (.returned (.tuple #[])) u5):=Qf (by
     have ht:Qk ⟨xs,A5,D3,id,C1,ps,asked,false⟩ ⟨2,D1,E8,A4,ds,data⟩=(⟨xs,A5,D3,id,C1,ps,asked,false⟩,false):=by
      unfold Qk;rw[if_neg Zs,A8.o,if_pos he]
     rw[HG.o]; unfold tkN; rw[ht];have H6:=I.o;rw[HN.o] at H6;exact⟨⟨ha,hc,wa,wk,ca,cc,pa,pc⟩,rfl,Zu H6,B1.o,P7 B6.o⟩)
    rw[Z.o] at E;clear HG A8 D9 H B7 I B1 B6 X Z he;go_wp2;refine XB (v:=.tuple #[]) (by simp[results,results56,go_sem]) rfl E.o
  ·have K2:(F4 !=2)=true:=Zu hk;have E:=W.o (by unfold Qk; rw[if_pos (.inr hk)]);rw[B] at E c7 c0 c1 c2 c3 c4 c5 c6 c8 m0;have D7:=Qf E;clear W V D6 hG B C A2 D R hb E hk;go_enter func56,ntmps56;go_wp2;refine XB (v:=.tuple #[]) (by simp[results,results56,go_sem]) rfl D7.o
theorem UY{s:Ses}{A:QF}{acc:Int}(I:BK b (s.cl A acc) 96 W)(J:GQ W W a ms)(D:W.grownBy W' (some b)):GQ W' W' a ms:=by
 have K:∀(j:Nat) (v:Value),W.cell? ⟨b,j,none⟩=some v->(∀t,v≠.string t)/\∀x,v≠Yu x:=fun j v h=>by
  rw[I.cell] at h;rcases j with _ | _ | _ | _ | _ | _ | _ | _ | _ | j
  all_goals first | (simp at h; subst h; exact⟨fun t e=>(by cases e),fun x e=>(by cases e)⟩) | (simp at h)
 intro i H;obtain⟨k,o,da,cd,rfl,B,c0,c1,c2,c3,c4,c5,F⟩:=J i H;have E:k≠b:=fun e=>by subst e; exact(K _ _ c5).1 _ rfl
 have C:=D.block k B (fun e=>E (by cases e; rfl));have mv:∀j,W'.cell? ⟨k,j,none⟩=W.cell? ⟨k,j,none⟩:=fun j=>XM (a:=⟨k,j,none⟩) C
 refine⟨k,o,da,cd,rfl,aO B D.size,(mv _).trans c0,(mv _).trans c1,(mv _).trans c2,(mv _).trans c3,(mv _).trans c4,(mv _).trans c5,F.kept D (fun G ad e=>?_)⟩;obtain⟨k2,o2,e2,_,q0,_⟩:=F 0 G;rw[e] at e2; cases e2;intro e3;cases e3;exact(K _ _ q0).2 _ rfl
def Xp(b:Nat)(s:Ses)(acc:Int)(L:Qb)(w:World)(e:Ending)(w':World):Prop:=∃ms n A,BG L ms n/\e=.returned (.tuple #[])/\BK b ((Ql s ms).1.cl A (acc+(Ql s ms).2)) 96 w'/\PQ w' (Ql s ms).1 A b/\w.grownBy w' (some b)
theorem Tt:∀(ms:List Msg) (s:Ses),(Ql s ms).2<=ms.length
 | [],_=>nr
 | m::ms,s=>by
  rw[Ql];have:=Tt ms (Qk s m).1;simp only[az];split <;> omega
theorem Vy(b:Nat)(s:Ses)(A:QF)(acc:Int)(L:Qb)(w:World)(hb:BK b (s.cl A acc) 96 w)(C:PQ w s A b)(C6:0<=acc)(C7:acc<=100000000000)(hL:(L.length:Int)<=100000000000):
  Qh 55 #[L,.func (.func 56) #[.pointer b] #[]] w (Xp b s acc L w):=by
 obtain⟨HS,T,Q⟩:=Yk (PD L w Zo) C hb;clear C hb;go_enter func55,ntmps55;go_wp2_with fail;refine HS.o.mono ?_;rintro e u ⟨ms,n,a,c,H,rfl,hm,F,hc,B1,A9⟩;have A3:=H.le;obtain⟨A7,A6⟩:=Yj (Vl H) H;obtain⟨N,hN⟩:=Qe ms.length;have HN:=Qf hN;rw[<-hN];have C5:(N:Int)<=100000000000:=Zo;have V:Qg (∃A',BK b ((Ql s (ms.take 0)).1.cl A' (acc+(Ql s (ms.take 0)).2)) 96 u/\PQ u (Ql s (ms.take 0)).1 A' b/\w.grownBy u (some b)/\GQ u u a ms):=Qf ⟨A,by simpa[Ql] using Q.o.below F,by simpa[Ql] using T.o.below F,P7 F,hm⟩;clear H hm F hc B1 A9 HS T Q hN A3;go_wp2;go_loopw [15] (fun i wr=>∃k:Nat,k<=N/\i=Yi k/\Qg (∃A',BK b ((Ql s (ms.take k)).1.cl A' (acc+(Ql s (ms.take k)).2)) 96 wr/\PQ wr (Ql s (ms.take k)).1 A' b/\w.grownBy wr (some b)/\GQ wr.heap.size wr a ms)) (fun i _=>N-(intOf i).toNat)
 case atStart=>exact⟨0,Zo,rfl,V⟩
 case round=>
  clear V;obtain⟨k,hk,rfl,U⟩:=hrel;by_cases D0:k<N
  ·have B2:(k:Int)<(N:Int):=Zo;have X:k<ms.length:=Zh HN.o;obtain⟨A',E,C,Z,P⟩:=U.out;obtain⟨b0,B7,da,cd,Y,C8,q0,q1,q2,q3,q4,q5,O⟩:=P k X;have D:ms.take (k+1)=ms.take k++[ms[k]]:=ai X;have J:=A7.o _ (ak X);have B3:=Tt (ms.take k) s;have B4:(ms.take k).length<=k:=List.length_take_le _ _;have I:=SX (ms.take k) s ms[k];rw[<-D] at I;generalize ms[k]=m at q0 q1 q2 q3 q4 q5 O D J I;obtain⟨A4,B5,B6,A8,dd,data⟩:=m;simp only at q0 q1 q2 q3 q4 q5 O J;have B0:=(zk J).2.2.2.2.2.2.2;obtain⟨v,hv⟩:=Qe (wr.alloc (.cells #[Yi A4,Yi B5,Yi B6,Yi A8,.slice da dd.length cd,data] 73));have B:PM wr v:=hv▸(bf _).alloc nr _;obtain⟨M,W,R⟩:=Yk (Vj b (Ql s (ms.take k)).1 A' (acc+(Ql s (ms.take k)).2) ⟨A4,B5,B6,A8,dd,data⟩ da cd v (E.below B) (C.below B) Zo Zo Zp) (UY E P (P7 B)) (E.below B);have S:Qg (w.grownBy v (some b)):=Qf (bu Z (P7 B));obtain⟨HV,K⟩:=Yj hv I;rw[hv] at M;have B8:=Y;subst Y;clear hv B E C Z P U I D J B3 B4 B0 O;go_wp2_with fail;refine M.o.mono ?_;rintro e u2 ⟨A2,rfl,A1,A0,G⟩;rw[<-HV.o] at G;have A5:Qg (∃A',BK b ((Ql s (ms.take (k+1))).1.cl A' (acc+(Ql s (ms.take (k+1))).2)) 96 u2/\PQ u2 (Ql s (ms.take (k+1))).1 A' b/\w.grownBy u2 (some b)/\GQ u2 u2 (some ⟨b0,B7,none⟩) ms):=Qf ⟨A2,by
    rw[K.o];have h5:acc+((Ql s (ms.take k)).2+if(Qk (Ql s (ms.take k)).1 ⟨A4,B5,B6,A8,dd,data⟩).2=true then 1 else 0:Nat)=acc+(Ql s (ms.take k)).2+tkN (Ql s (ms.take k)).1 ⟨A4,B5,B6,A8,dd,data⟩:=by
     unfold tkN; split <;> omega
    simp only;rw[h5]; exact A1,K.o▸A0,bu S.o G,UY R.o W.o G⟩
   clear M A1 A0 G K S R W HV;go_wp2;go_roundw
   case rel=>exact⟨k+1,Zo,Zg,A5⟩
   case measure=>exact Yr
  ·have B2:¬(k:Int)<(N:Int):=Zo;have D:ms.take k=ms:=ag (Zh HN.o);rw[D] at U;have HF:Qg (Xp b s acc L w (.returned (.tuple #[])) wr):=Qf (by
    obtain⟨A',X,h2,h3,_⟩:=U.out;exact⟨ms,n,A',A6.o,rfl,X,h2,h3⟩)
   clear U;go_wp2;refine XB (v:=.tuple #[]) (by simp[results,results55,go_sem]) rfl HF.o
theorem PQ.kind{s:Ses}{A:QF}(h:PQ W s A b)(C:∀(j:Nat) (v:Value),W.cell? ⟨c,j,none⟩=some v->(∀t,v≠.string t)/\∀x,v≠Yu x):PQ W s A c:=
 ⟨h.hp,h.hr,h.hw,h.hc,h.hq,h.cq,h.cw,h.cc,fun ad e B=>by
  obtain⟨k,o,e2,_,q0,_⟩:=h.hp.its 0 B;rw[e] at e2; cases e2;intro e3; injection e3 with e3; have e4:c=k:=e3; subst e4
  exact(C _ _ q0).2 _ rfl,fun B ad e=>by
  obtain⟨k,o,e2,_,q0,_⟩:=h.hw 0 B;rw[e] at e2; cases e2;intro e3; injection e3 with e3; have e4:c=k:=e3; subst e4
  exact(C _ _ q0).2 _ rfl,fun B ad e=>by
  obtain⟨k,o,e2,_,q0,_⟩:=h.hc 0 B;rw[e] at e2; cases e2;intro e3; injection e3 with e3; have e4:c=k:=e3; subst e4
  exact(C _ _ q0).2 _ rfl,fun ad e B=>by
  obtain⟨k,o,e2,_,_,q1⟩:=h.hq 0 B;rw[e] at e2; cases e2;intro e3; injection e3 with e3; have e4:c=k:=e3; subst e4
  exact(C _ _ q1).1 _ rfl,h.ow,h.oc,h.ck,h.lx,h.ly,h.lw,h.lc,h.vp⟩
def UJ:Ses:=⟨[],[],[],0,0,[],false,false⟩
def Xo(s:Ses)(L:Qb)(w:World)(e:Ending)(w':World):Prop:=
 (s.done=true/\e=.returned (.tuple #[UJ.val ⟨none,0,none,0,none,0,none,0⟩,Yi 0,Yi 18])/\PM w w')\/
 (s.done=false/\∃ms n A,BG L ms n/\e=.returned (.tuple #[(Ql s ms).1.val A,Yi (Ql s ms).2,Yi 0])/\PQ w' (Ql s ms).1 A (w':Nat)/\PM w w')
theorem QL(s:Ses)(A:QF)(b:Nat)(L:Qb)(w:World)(O:PQ w s A b)(hL:(L.length:Int)<=100000000000):
  Qh 23 #[s.val A,L] w (Xo s L w):=by
 have B1:=Qf O;obtain⟨G,hG⟩:=Qe (Xo s L w);rw[<-hG];obtain⟨xs,A9,B3,id,C0,ps,A8,dn⟩:=s;obtain⟨I,M,wa,wk,ca,cc,pa,pc⟩:=A;obtain⟨u1,B⟩:=Qe (w.alloc (.cells #[.slice I xs.length M,.slice wa A9.length wk,.slice ca B3.length cc,Yi id,Yi C0,.slice pa ps.length pc,.bool A8,.bool dn] 34));have J:PM w u1:=B▸(bf _).alloc nr _;have U:BK w #[.slice I xs.length M,.slice wa A9.length wk,.slice ca B3.length cc,Yi id,Yi C0,.slice pa ps.length pc,.bool A8,.bool dn] 34 u1:=B▸BK.new _ _ _;obtain⟨u2,C⟩:=Qe (u1.alloc (.cells #[(),(),(),Yi 0,Yi 0,(),.bool false,.bool false] 34));have K:PM u1 u2:=C▸(bf _).alloc nr _;have T:(u1:Nat)=(w:Nat)+1:=Zn B;have R:BK ((w:Nat)+1) #[(),(),(),Yi 0,Yi 0,(),.bool false,.bool false] 34 u2:=by rw[<-T,C]; exact BK.new _ _ _
 have H:=(XT J K);cases dn with
 | true=>
  obtain⟨r0,r1,r2,r3,r4,r5,r6,r7⟩:=BK.c8 R;have HF:Qg (G (.returned (.tuple #[UJ.val ⟨none,0,none,0,none,0,none,0⟩,Yi 0,Yi 18])) u2):=Qf (by rw[hG]; exact .inl ⟨rfl,rfl,H⟩);rw[C,B] at HF r0 r1 r2 r3 r4 r5 r6 r7;clear hG O U B1 J B C K T R H;go_enter func23,ntmps23;go_wp2;refine XB (v:=.tuple #[UJ.val ⟨none,0,none,0,none,0,none,0⟩,Yi 0,Yi 18]) (by simp[results,results23,go_sem,UJ,r0,r1,r2,r3,r4,r5,r6,r7]) rfl HF.o
 | false=>
  obtain⟨q,hq⟩:=Qe ((w:Nat)+1+1);obtain⟨u3,F⟩:=Qe (u2.alloc (.cells #[.slice I xs.length M,.slice wa A9.length wk,.slice ca B3.length cc,Yi id,Yi C0,.slice pa ps.length pc,.bool A8,.bool false,Yi 0] 96));have A2:PM u2 u3:=F▸(bf _).alloc nr _;have B9:(u2:Nat)=q:=by rw[hq,C]; simp[T]
  have B6:BK q #[.slice I xs.length M,.slice wa A9.length wk,.slice ca B3.length cc,Yi id,Yi C0,.slice pa ps.length pc,.bool A8,.bool false,Yi 0] 96 u3:=by rw[<-B9,F]; exact BK.new _ _ _
  have A7:=(XT H A2);obtain⟨X,Z,A1,HG,HQ⟩:=Ym (Vy q ⟨xs,A9,B3,id,C0,ps,A8,false⟩ ⟨I,M,wa,wk,ca,cc,pa,pc⟩ 0 L u3 B6 ((O.far Zo).below A7) Zo Zo hL) (R.below A2) A7 hG hq;obtain⟨x0,x1,x2,x3,x4,x5,x6,x7⟩:=BK.c8 U;obtain⟨y0,y1,y2,y3,y4,y5,y6,y7⟩:=BK.c8 (U.below K);rw[B] at x7;rw[C,B] at y0 y1 y2 y3 y4 y5 y6 y7;rw[F,C,B,hq] at X;have B2:Qg (u3=((w.alloc (.cells #[.slice I xs.length M,.slice wa A9.length wk,.slice ca B3.length cc,Yi id,Yi C0,.slice pa ps.length pc,.bool A8,.bool false] 34)).alloc (.cells #[(),(),(),Yi 0,Yi 0,(),.bool false,.bool false] 34)).alloc (.cells #[.slice I xs.length M,.slice wa A9.length wk,.slice ca B3.length cc,Yi id,Yi C0,.slice pa ps.length pc,.bool A8,.bool false,Yi 0] 96)):=Qf (by rw[F,C,B]);clear hG O U B1 J B C K T R H F A2 B9 B6 A7 hq x0 x1 x2 x3 x4 x5 x6;go_enter func23,ntmps23;go_wp2_with fail;refine X.o.mono ?_;rintro e u4 ⟨ms,n,A4,A6,rfl,P,A5,N⟩;simp only;rw[<-B2.o] at N;obtain⟨pb,Q⟩:=Qe ((w:Nat)+1);rw[<-HQ.o];rw[<-Q] at Z ⊢;have C3:pb≠q:=by rw[HQ.o,Q]; omega
  have V:PM w u4:=A1.o.grown N A1.o.size (fun k e=>by cases e; have:=HQ.o; omega);have S:=Z.o.grow1 N (Zh HQ.o);have B8:=Tt ms ⟨xs,A9,B3,id,C0,ps,A8,false⟩;have C5:=A6.le;rw[Int.zero_add] at P;have HF:Qg (∀(A:QF) (u:World),PQ u (Ql ⟨xs,A9,B3,id,C0,ps,A8,false⟩ ms).1 A u.heap.size->PM w u->G (.returned (.tuple #[(Ql ⟨xs,A9,B3,id,C0,ps,A8,false⟩ ms).1.val A,Yi (Ql ⟨xs,A9,B3,id,C0,ps,A8,false⟩ ms).2,Yi 0])) u):=Qf (fun A u h1 h2=>by rw[HG.o]; exact .inr ⟨rfl,ms,n,A,A6,rfl,h1,h2⟩);generalize Ql ⟨xs,A9,B3,id,C0,ps,A8,false⟩ ms=RS at P A5 HF B8;obtain⟨⟨fx,fw,fc,fi,ft,fp,fa,fd⟩,D3⟩:=RS;obtain⟨D,E,D0,D2,C1,C6,C8,C9⟩:=A4;obtain⟨B0,W⟩:=Yj A5 V;have Y:Qg (BK q #[.slice D fx.length E,.slice D0 fw.length D2,.slice C1 fc.length C6,Yi fi,Yi ft,.slice C8 fp.length C9,.bool fa,.bool fd,Yi (D3:Int)] 96 u4):=Qf (HQ.o▸P);obtain⟨c0,c1,c2,c3,c4,c5,c6,c7,c8⟩:=BK.c9 Y.o;obtain⟨D4,D5,D6,D7,D8,D9,E0,E1,E2⟩:=BK.f9 (Y.o);obtain⟨r0,r1,r2,r3,r4,r5,r6,r7⟩:=BK.c8 S;obtain⟨E3,E4,E5,E6,E7,E8,E9,F0⟩:=BK.f8 (S);have C4:(w:Nat)<=pb:=Zy Q;have D1:prog.follows .mixedOrders=true:=Zk;obtain⟨A0,C7⟩:=Yj S C3;clear A6 P A5 N X B2 A1 Z HG HQ C5 B8 S V y0 y1 y2 y3 y4 y5 y6 y7 x7 Q;go_wp2;go_region;obtain⟨v,hv⟩:=Qe ((((((((u4.setCell pb (.slice D fx.length E)).setCell ⟨pb,1,none⟩ (.slice D0 fw.length D2)).setCell ⟨pb,2,none⟩ (.slice C1 fc.length C6)).setCell ⟨pb,3,none⟩ (Yi fi)).setCell ⟨pb,4,none⟩ (Yi ft)).setCell ⟨pb,5,none⟩ (.slice C8 fp.length C9)).setCell ⟨pb,6,none⟩ (.bool fa)).setCell ⟨pb,7,none⟩ (.bool fd));rw[<-hv];have B7:BK pb #[.slice D fx.length E,.slice D0 fw.length D2,.slice C1 fc.length C6,Yi fi,Yi ft,.slice C8 fp.length C9,.bool fa,.bool fd] 34 v:=hv▸((((((((A0.o.set 0 _).set 1 _).set 2 _).set 3 _).set 4 _).set 5 _).set 6 _).set 7 _);have A3:u4.grownBy v (some pb):=hv▸fM (fM (fM (fM (fM (fM (fM (dN _ _ _ _) _ _) _ _) _ _) _ _) _ _) _ _) _ _;have B5:PQ v ⟨fx,fw,fc,fi,ft,fp,fa,fd⟩ ⟨D,E,D0,D2,C1,C6,C8,C9⟩ pb:=(B0.o.kind (fun j v h=>by
   rw[A0.o.cell] at h;rcases j with _ | _ | _ | _ | _ | _ | _ | _ | j
   all_goals first | (simp at h; subst h; exact⟨fun t e=>(by cases e),fun x e=>(by cases e)⟩) | (simp at h))).grown A3
  have B4:PM w v.drew:=(W.o.grown A3 W.o.size (fun k e=>by cases e; exact C4)).drew;have C2:=Qf (HF.o ⟨D,E,D0,D2,C1,C6,C8,C9⟩ v.drew ((B5.below (bf _).drew).far nr) B4);clear r0 r1 r2 r3 r4 r5 r6 r7 E3 E4 E5 E6 E7 E8 E9 F0 c0 c1 c2 c3 c4 c5 c6 c7 c8 D4 D5 D6 D7 D8 D9 E0 E1 E2;obtain⟨r0,r1,r2,r3,r4,r5,r6,r7⟩:=BK.c8 B7;clear B7 A3 B5 B4 hv B0 W HF Y A0;go_wp2;refine XB (v:=.tuple #[.agg #[.slice D fx.length E,.slice D0 fw.length D2,.slice C1 fc.length C6,Yi fi,Yi ft,.slice C8 fp.length C9,.bool fa,.bool fd],Yi D3,Yi 0]) (by simp[results,results23,go_sem,r0,r1,r2,r3,r4,r5,r6,r7]) rfl C2.o
def Qm(xs:List Itm)(want com:Qd):Ses×Int:=
 if(1000:Int)<(want.length:Int)+com.length then(UJ,4) else if QR xs [] com≠0 then(UJ,QR xs [] com) else(⟨xs,want,com,0,0,[],false,PV xs want⟩,0)
theorem Sy{want com:Qd}(A:¬(1000:Int)<(want.length:Int)+com.length)(B:QR xs [] com=0):Qm xs want com=(⟨xs,want,com,0,0,[],false,PV xs want⟩,0):=by
 unfold Qm; rw[if_neg A,if_neg (Zn B)]
def Uy(r:Ses×Int)(A:QF):QF:=if r.2=0 then A else⟨none,0,none,0,none,0,none,0⟩
theorem Qx(a:Qa)(xs:List Itm)(c:Nat)(wa:Qa)(want:Qd)(wk:Nat)(ca:Qa)(com:Qd)(cc:Nat)(w:World)(hp:jQ w a xs c)(ha:Asc xs)(hw:dE w w wa want)(hc:dE w w ca com)(ow:∀d∈want,OkD d)(oc:∀d∈com,OkD d)(A9:(xs.length:Int)<=100)(B8:(want.length:Int)<=1000000000)(B6:(com.length:Int)<=1000000000):
  Qh 12 #[.slice a xs.length c,.slice wa want.length wk,.slice ca com.length cc] w (Xz (.tuple #[(Qm xs want com).1.val (Uy (Qm xs want com) ⟨a,c,wa,wk,ca,cc,none,0⟩),Yi (Qm xs want com).2]) w):=by
 obtain⟨u1,I⟩:=Qe (w.alloc (.cells #[(),(),(),Yi 0,Yi 0,(),.bool false,.bool false] 34));have M:PM w u1:=I▸(bf _).alloc nr _;have P:BK w #[(),(),(),Yi 0,Yi 0,(),.bool false,.bool false] 34 u1:=I▸BK.new _ _ _;obtain⟨C,G⟩:=Yj (fun(h:(com.length:Int)<=1000)=>Rs a xs c ca com cc u1 (hp.below M) ha (hc.ahead M) oc A9 h) (fun(h:(want.length:Int)<=1000) W (hW:PM w W)=>RU a xs c wa want wk W (hp.below hW) ha (hw.ahead hW) ow Zo Zo);obtain⟨R,V⟩:=Qe (Qm xs want com);rw[<-V];have A3:=Qf (Sy (xs:=xs) (want:=want) (com:=com));unfold Qm at V;obtain⟨nw,Z⟩:=Qe want.length;obtain⟨nc,Y⟩:=Qe com.length;rw[<-Z] at B8 V G ⊢;rw[<-Y] at B6 V C ⊢;obtain⟨A6,A5⟩:=Yj Z Y;generalize B5:QR xs [] com=ck at V C;obtain⟨HR,F,U,K⟩:=Yl V M P I;obtain⟨r0,r1,r2,r3,r4,r5,r6,r7⟩:=BK.c8 P;obtain⟨A1,A7,B0,B1,B2,B4,B7,B9⟩:=BK.f8 (P);rw[I] at r0 r1 r2 r3 r4 r5 r6 r7 A1 A7 B0 B1 B2 B4 B7 B9 C;clear hp ha hw hc ow oc A9 V Z Y B5 I M P;obtain⟨nx,A0⟩:=Qe xs.length;rw[<-A0] at C G ⊢;have B3:=Qf A0;clear A0;by_cases hs:(1000:Int)<(nw:Int)+(nc:Int)
 ·have D:=Qf (HR.o.trans (if_pos hs));rw[K.o] at F;clear HR G C U K;go_enter func12,ntmps12;go_wp2;refine XB (v:=.tuple #[.agg #[(),(),(),Yi 0,Yi 0,(),.bool false,.bool false],Yi 4]) (by simp[results,results12,go_sem,r0,r1,r2,r3,r4,r5,r6,r7]) rfl ⟨Zw D.o,F.o⟩
 ·obtain⟨D,A4,T,C1⟩:=Yl (HR.o.trans (if_neg hs)) (C.o Zo) (fun W hW=>G.o Zo W hW) (A3.o (by rw[<-A6.o,<-A5.o]; exact hs));clear HR C G A3;go_enter func12,ntmps12;go_wp2_with fail;refine A4.o.mono ?_;rintro e u2 ⟨rfl,N⟩;rw[<-K.o] at N;obtain⟨E,B⟩:=Yj (U.o.below N) (XT F.o N);clear N U F K A4 r0 r1 r2 r3 r4 r5 r6 r7 A1 A7 B0 B1 B2 B4 B7 B9;by_cases hz:ck=0
  ·subst hz;obtain⟨S,J⟩:=Yj (T.o u2 B.o) (D.o.trans (if_neg Zs));obtain⟨hb,A8⟩:=Qe (PV xs want);rw[<-A8] at S J;clear A8 T D;go_wp2_with fail;refine S.o.mono ?_;rintro e u3 ⟨rfl,X⟩;obtain⟨L,A2⟩:=Yj (E.o.below X) (XT B.o X);clear X S E B;obtain⟨r0,r1,r2,r3,r4,r5,r6,r7⟩:=BK.c8 L.o;obtain⟨A1,A7,B0,B1,B2,B4,B7,B9⟩:=BK.f8 (L.o);obtain⟨v,O⟩:=Qe ((((((((u3.setCell w (.slice a nx c)).setCell ⟨w,1,none⟩ (.slice wa nw wk)).setCell ⟨w,2,none⟩ (.slice ca nc cc)).setCell ⟨w,3,none⟩ (Yi 0)).setCell ⟨w,4,none⟩ (Yi 0)).setCell ⟨w,5,none⟩ (.slice none 0 0)).setCell ⟨w,6,none⟩ (.bool false)).setCell ⟨w,7,none⟩ (.bool hb));have H:BK w #[.slice a nx c,.slice wa nw wk,.slice ca nc cc,Yi 0,Yi 0,(),.bool false,.bool hb] 34 v:=O▸((((((((L.o.set 0 _).set 1 _).set 2 _).set 3 _).set 4 _).set 5 _).set 6 _).set 7 _);have Q:Qg (PM w v):=Qf (by rw[O]; exact A2.o.grown (fM (fM (fM (fM (fM (fM (fM (dN _ _ _ _) _ _) _ _) _ _) _ _) _ _) _ _) _ _) A2.o.size (fun k e=>by cases e; exact nr));have HV:=Qf O;obtain⟨q0,q1,q2,q3,q4,q5,q6,q7⟩:=BK.c8 H;clear H O L;go_wp2_with fail;rw[<-HV.o];clear r0 r1 r2 r3 r4 r5 r6 r7 A1 A7 B0 B1 B2 B4 B7 B9 HV;refine XB (v:=.tuple #[.agg #[.slice a nx c,.slice wa nw wk,.slice ca nc cc,Yi 0,Yi 0,(),.bool false,.bool hb],Yi 0]) (by simp[results,results12,go_sem,q0,q1,q2,q3,q4,q5,q6,q7]) rfl ⟨by rw[J.o,B3.o,A6.o,A5.o]; rfl,Q.o⟩
  ·have C3:(ck !=0)=true:=Zu hz;have J:=Qf (D.o.trans (if_pos hz));obtain⟨r0,r1,r2,r3,r4,r5,r6,r7⟩:=BK.c8 E.o;obtain⟨A1,A7,B0,B1,B2,B4,B7,B9⟩:=BK.f8 (E.o);obtain⟨v,O⟩:=Qe ((((((((u2.setCell w (.slice none 0 0)).setCell ⟨w,1,none⟩ (.slice none 0 0)).setCell ⟨w,2,none⟩ (.slice none 0 0)).setCell ⟨w,3,none⟩ (Yi 0)).setCell ⟨w,4,none⟩ (Yi 0)).setCell ⟨w,5,none⟩ (.slice none 0 0)).setCell ⟨w,6,none⟩ (.bool false)).setCell ⟨w,7,none⟩ (.bool false));have H:BK w #[(),(),(),Yi 0,Yi 0,(),.bool false,.bool false] 34 v:=O▸((((((((E.o.set 0 _).set 1 _).set 2 _).set 3 _).set 4 _).set 5 _).set 6 _).set 7 _);have Q:Qg (PM w v):=Qf (by rw[O]; exact B.o.grown (fM (fM (fM (fM (fM (fM (fM (dN _ _ _ _) _ _) _ _) _ _) _ _) _ _) _ _) _ _) B.o.size (fun k e=>by cases e; exact nr));obtain⟨HV,HZ⟩:=Yj O hz;obtain⟨q0,q1,q2,q3,q4,q5,q6,q7⟩:=BK.c8 H;clear H O E hz T D B;go_wp2_with fail;rw[<-HV.o];clear r0 r1 r2 r3 r4 r5 r6 r7 A1 A7 B0 B1 B2 B4 B7 B9 HV;refine XB (v:=.tuple #[.agg #[(),(),(),Yi 0,Yi 0,(),.bool false,.bool false],Yi ck]) (by simp[results,results12,go_sem,q0,q1,q2,q3,q4,q5,q6,q7]) rfl ⟨by rw[J.o]; unfold Uy; rw[if_neg HZ.o]; rfl,Q.o⟩
theorem QV(s:Ses)(A:QF)(w:World):
  Qh 18 #[s.val A] w (Xz (.tuple #[if s.done=true then .slice A.ha s.xs.length A.hc else .slice none 0 0,Yi (if s.done=true then 0 else 18)]) w):=by
 obtain⟨xs,G,H,id,I,ps,F,dn⟩:=s;obtain⟨D,E,wa,wk,ca,cc,pa,pc⟩:=A;have B:PM w (w.alloc (.cells #[.slice D xs.length E,.slice wa G.length wk,.slice ca H.length cc,Yi id,Yi I,.slice pa ps.length pc,.bool F,.bool dn] 34)):=(bf _).alloc nr _;cases dn with
 | true=>
  have C:=Qf B;clear B;go_enter func18,ntmps18;go_wp2;go_ret2;exact⟨rfl,C.o⟩
 | false=>
  have C:=Qf B;clear B;go_enter func18,ntmps18;go_wp2;go_ret2;exact⟨rfl,C.o⟩
def PX(want com:Qd):Msg:=⟨1,0,want.length,0,want++com,[]⟩
def Vd(s:Ses):Msg:=⟨3,s.id,(O8 s.id s.tot s.ps).1,(O8 s.id s.tot s.ps).2.1,[],[]⟩
def Rx(s:Ses):Qb×Int:=
 if s.done=true then([],18) else if(Qc (PX s.want s.com)).2≠0 then([],(Qc (PX s.want s.com)).2) else
 if s.ps=[]\/(O8 s.id s.tot s.ps).2.2=false then((Qc (PX s.want s.com)).1,0) else
 if(Qc (Vd s)).2≠0 then([],(Qc (Vd s)).2) else((Qc (PX s.want s.com)).1++(Qc (Vd s)).1,0)
theorem Qt(s:Ses)(A:QF)(b:Nat)(w:World)(Q:PQ w s A b):
  Qh 16 #[s.val A] w (Xz (.tuple #[.string ⟨(Rx s).1.toArray⟩,Yi (Rx s).2]) w):=by
 have HI:=Qf Q;obtain⟨R,hR⟩:=Qe (Rx s);rw[<-hR];have HR:=Qf hR;have B9:=Q.lw;have B8:=Q.lc;have C2:=P6 Q.vp;have D3:=Qf C2;obtain⟨xs,A7,D9,id,C7,ps,A3,dn⟩:=s;obtain⟨N,O,wa,wc,ca,cc,pa,pc⟩:=A;unfold Rx at hR;simp only at hR B9 B8 ⊢;cases dn with
 | true=>
  have C:Qg (R=([],18)):=Qf (Zw hR);have E7:=Qf ((Below.refl (w:Nat) w).alloc nr (.cells #[.slice N xs.length O,.slice wa A7.length wc,.slice ca D9.length cc,Yi id,Yi C7,.slice pa ps.length pc,.bool A3,.bool true] 34));clear HR hR Q B9 B8 C2 HI D3;go_enter func16,ntmps16;go_wp2;go_ret2;exact⟨Zw C.o,E7.o⟩
 | false=>
  rw[if_neg Zs] at hR;have M:=Qf hR;have F5:=HI.o.hq;have A6:=Qf (fun W (hb:PM w W)=>Wm id C7 pa ps pc W ((HI.o.hq.below hb nr).mono hb.size) (Zu (Qi HI.o.vp)) D3.o.2);obtain⟨nw,G⟩:=Qe A7.length;obtain⟨nc,J⟩:=Qe D9.length;obtain⟨np,C1⟩:=Qe ps.length;obtain⟨D1,F4,F3⟩:=Yk C1 G J;obtain⟨u0,A1⟩:=Qe (w.alloc (.cells #[.slice N xs.length O,.slice wa nw wc,.slice ca nc cc,Yi id,Yi C7,.slice pa np pc,.bool A3,.bool false] 34));have B2:PM w u0:=A1▸(bf _).alloc nr _;have C3:BK w #[.slice N xs.length O,.slice wa nw wc,.slice ca nc cc,Yi id,Yi C7,.slice pa np pc,.bool A3,.bool false] 34 u0:=A1▸BK.new _ _ _;obtain⟨i0,hi,E3,E4,E5⟩:=XR ul;rw[<-G] at B9;rw[<-J] at B8;obtain⟨u1,C0,I,hg⟩:=run_make_own (P:=prog) u0 (u0:Nat) 24 54 i0 _ 2 underlying24 hi E3 E4 .i64 .i64 (nw+nc) (Zy E5) Zm nr;have Y:(w:Nat)<(u0:Nat):=Zn A1;obtain⟨Z,hZ⟩:=Qe (Value.slice (some ⟨u0,0,none⟩) 0 (nw+nc));rw[<-hZ] at I C0;have B3:PM w u1:=B2.grown hg B2.size (fun k e=>by cases e);have C4:=C3.grow hg (fun k e=>by cases e);obtain⟨v2,u2,X,D,A5,_⟩:=dM u1 (u0:Nat) 24 _ [] I wa A7 wc (HI.o.hw.ahead B3) (by simp only[aK,<-G]; omega) hg.size;have B4:=gM B3 I A5 (Nat.le_of_lt Y);have C5:=C4.grow A5 (fun k e he=>Zh ((I.lt k e).1));rw[aY] at D;obtain⟨a2,c2,rfl,_⟩:=aB D;obtain⟨v3,u3,H,K,B7,_⟩:=dM u2 (u0:Nat) 24 _ A7 D ca D9 cc (HI.o.hc.ahead B4) (by rw[<-G,<-J]; omega) (aC hg.size A5.size);have D6:=gM B4 D B7 (Nat.le_of_lt Y);have C6:=C5.grow B7 (fun k e he=>Zh ((D.lt k e).1));obtain⟨a3,c3,rfl,_⟩:=aB K;have D8:∀d∈A7++D9,0<=d.1/\0<=d.2:=fun d hd=>by
   rcases aD.1 hd with h | h
   ·have:=HI.o.ow d h; unfold OkD Ku at this; omega
   ·have:=HI.o.oc d h; unfold OkD Ku at this; omega
  obtain⟨nt,A0⟩:=Qe ((A7++D9).length);have E1:nt=nw+nc:=by rw[A0,af,G,J]
  obtain⟨E,T⟩:=Yj (MV (PX A7 D9) a3 c3 u3 (kr rfl K) D8 (by show((A7++D9).length:Int)<=_; rw[<-A0]; omega) (by show(([]:Qb).length:Int)<=_; simp)) (QY (PX A7 D9));have D2:Qg ((PX A7 D9).val a3 c3=.agg #[Yi 1,Yi 0,Yi (nw:Int),Yi 0,.slice a3 nt c3,Ye]):=Qf (by rw[G,A0]; rfl);rw[D2.o] at E;rw[<-A0] at H;rw[<-G] at X H;rw[<-J] at H;generalize Qc (PX A7 D9)=ew at E T M;obtain⟨S1,e1⟩:=ew;simp only at E T M;have A8:(Instr.makeSlice 24 (Yi 0) (Yi ((nw:Int)+(nc:Int)))).run prog u0=.ok Z u1:=Zu C0;have A9:=Qf D6;have D4:Qg (BK w #[.slice N xs.length O,.slice wa nw wc,.slice ca nc cc,Yi id,Yi C7,.slice pa np pc,.bool A3,.bool false] 34 u3):=Qf C6;have F2:=bH S1;obtain⟨c0,c1,c2,c3,c4,c5,c6,c7⟩:=BK.c8 C3;obtain⟨d0,d1,d2,d3,d4,d5,d6,d7⟩:=BK.c8 C4;obtain⟨f0,f1,f2,f3,f4,f5,f6,f7⟩:=BK.c8 C5;obtain⟨g0,g1,g2,g3,g4,g5,g6,g7⟩:=BK.c8 C6;rw[A1] at A8 c0 c1 c2 c3 c4 c5 c6 c7
  show Calls _ _ #[.agg #[.slice N xs.length O,.slice wa A7.length wc,.slice ca D9.length cc,Yi id,Yi C7,.slice pa ps.length pc,.bool A3,.bool false]] w _;rw[<-G,<-J,<-C1];clear G J E1 C0 I hg hZ B2 B3 B4 D6 C3 C4 C5 C6 A1 D K A5 B7 D8 hi E3 E4 E5 i0 D2 C2 Q C1 A0 Y hR;obtain⟨C8,C9⟩:=Yj X H;clear X H;go_enter func16,ntmps16;go_wp2_with (at_builtin; first | (refine Lib.wpList_append_run _ rfl _ _ _ _ rfl _ _ rfl rfl _ _ C8.o ?_) | (refine Lib.wpList_append_run _ rfl _ _ _ _ rfl _ _ rfl rfl _ _ C9.o ?_));refine E.o.mono ?_;rintro e u4 ⟨rfl,B5⟩;obtain⟨L,B1⟩:=Yj (XT A9.o B5) (D4.o.below B5);clear B5 A9 D4 E c0 c1 c2 c3 c4 c5 c6 c7 d0 d1 d2 d3 d4 d5 d6 d7 f0 f1 f2 f3 f4 f5 f6 f7 g0 g1 g2 g3 g4 g5 g6 g7 A8 C8 C9;by_cases he:e1=0
  ·subst he;have C:=Qf (M.o.trans (if_neg Zs));have V:Qg (ps=[]↔np=0):=Qf (D1.o▸Qr.symm);obtain⟨c0,c1,c2,c3,c4,c5,c6,c7⟩:=BK.c8 (show BK _ #[.slice N xs.length O,.slice wa nw wc,.slice ca nc cc,Yi id,Yi C7,.slice pa np pc,.bool A3,.bool false] _ _ from B1.o);clear M;by_cases hz:np=0
   ·have g1:((np:Int)==0)=true:=Zj hz;have F:Qg (R=(S1,0)):=Qf (C.o.trans (if_pos (.inl (V.o.2 hz))));clear C hz;go_wp2;go_ret2;exact⟨Zw F.o,L.o⟩
   ·have g1:((np:Int)==0)=false:=Zt;have HZ:Qg (ps≠[]):=Qf (fun e=>hz (V.o.1 e));have S:=Qf (A6.o u4 L.o);have E0:Vd ⟨xs,A7,D9,id,C7,ps,A3,false⟩=⟨3,id,(O8 id C7 ps).1,(O8 id C7 ps).2.1,[],[]⟩:=rfl;rw[E0] at C;rw[<-D1.o] at S;generalize O8 id C7 ps=gg at S C;obtain⟨E2,E6,gb⟩:=gg;simp only at S C;clear hz E0 V A6;go_wp2_with fail;refine S.o.mono ?_;rintro e u5 ⟨rfl,B6⟩;obtain⟨A2,D5⟩:=Yj (XT L.o B6) (B1.o.below B6);obtain⟨d0,d1,d2,d3,d4,d5,d6,d7⟩:=BK.c8 (show BK _ #[.slice N xs.length O,.slice wa nw wc,.slice ca nc cc,Yi id,Yi C7,.slice pa np pc,.bool A3,.bool false] _ _ from D5.o);clear B6 L B1 S c0 c1 c2 c3 c4 c5 c6 c7;cases gb with
    | false=>
     have F:Qg (R=(S1,0)):=Qf (C.o.trans (if_pos (.inr rfl)));clear C;go_wp2;go_ret2;exact⟨Zw F.o,A2.o⟩
    | true=>
     obtain⟨F,E,U⟩:=Yk (C.o.trans (if_neg (fun h=>h.elim HZ.o (fun h=>by cases h)))) (MV ⟨3,id,E2,E6,[],[]⟩ none 0 u5 (fun i hi=>by simp at hi) (fun d hd=>by cases hd) Zs Zs) (QY ⟨3,id,E2,E6,[],[]⟩);generalize Qc ⟨3,id,E2,E6,[],[]⟩=ew at E U F;obtain⟨S2,e2⟩:=ew;simp only[Msg.val,aK] at E U F;clear C;go_wp2_with fail;refine E.o.mono ?_;rintro e u6 ⟨rfl,D7⟩;have D0:=Qf (XT A2.o D7);clear D7 A2 D5 E d0 d1 d2 d3 d4 d5 d6 d7;by_cases A4:e2=0
     ·subst A4;have B0:Qg (R=(S1++S2,0)):=Qf (F.o.trans (if_neg Zs));have F8:=Hl (A:=S1) (B:=S2) rfl (Zh T.o) (Zh U.o);clear F;go_wp2;go_ret2;exact⟨Zw B0.o,D0.o⟩
     ·have E9:(e2 !=0)=true:=Zu A4;have B0:Qg (R=([],e2)):=Qf (F.o.trans (if_pos A4));clear F A4;go_wp2;go_ret2;exact⟨Zw B0.o,D0.o⟩
  ·have E9:(e1 !=0)=true:=Zu he;have C:Qg (R=([],e1)):=Qf (M.o.trans (if_pos he));clear M he;go_wp2;go_ret2;exact⟨Zw C.o,L.o⟩
def okM(ms:List Msg)(n len:Nat):Bool:=match ms with
 | [a]=>decide (n=len)&&decide (a.kind=1)
 | [a,b]=>decide (n=len)&&decide (a.kind=1)&&decide (b.kind=3)
 | _=>false
def WF(L:Qb)(w:World)(e:Ending)(w':World):Prop:=∃ms n,BG L ms n/\PM w w'/\((okM ms n L.length=true/\∃a c,e=.returned (.tuple #[.slice a ms.length c,.bool true])/\GQ w' w' a ms/\Xm w' a ms)\/(okM ms n L.length=false/\e=.returned (.tuple #[(),.bool false])))
theorem UX(L:Qb)(w:World)(hL:(L.length:Int)<=1000000000000):
  Qh 47 #[L] w (WF L w):=by
 have HS:=Qf (PD L w hL);have Z:=bH L;obtain⟨N,U⟩:=Qe L.length;rw[<-U] at Z;have HN:=Qf U;clear U;go_enter func47,ntmps47;go_wp2_with fail;refine HS.o.mono ?_;rintro e u ⟨ms,n,a,c,R,rfl,hm,hb,K,V,P⟩;obtain⟨G,E,T,M⟩:=Yl R hm hb P;clear R hm hb V P HS;have C:Qg (okM ms n L.length=false->WF L w (.returned (.tuple #[(),.bool false])) u):=Qf (fun h=>⟨ms,n,G.o,T.o,.inr ⟨h,rfl⟩⟩);have B:Qg (okM ms n L.length=true->WF L w (.returned (.tuple #[.slice a ms.length c,.bool true])) u):=Qf (fun h=>⟨ms,n,G.o,T.o,.inl ⟨h,a,c,rfl,E.o,M.o⟩⟩);rw[<-HN.o] at C B;clear HN G T M;by_cases S:n=N
 ·subst S;have X:((n:Int) !=(n:Int))=false:=Zs
  match ms,E,C,B,K with
  | [],E,C,B,K=>
   simp only[aK];have D:=C.o rfl;go_wp2;go_ret2;exact D
  | [m0],E,C,B,K=>
   obtain⟨b0,o0,da,cd,H,W,q0,q1,q2,q3,q4,q5,A6⟩:=E.o 0 Zs;subst H;simp only[az,aK,aZ];simp only[aS,dG,QI] at q0;have F:Qg (okM [m0] n n=decide (m0.kind=1)):=Qf (by simp[okM]);generalize m0.kind=k0 at q0 F;by_cases I:k0=1
   ·subst I;have D:=B.o (Zw F.o);simp only[az,aK,aZ] at D;clear E C B F;go_wp2;go_ret2;exact D
   ·have Q:(k0 !=1)=true:=Zu I;have D:=C.o (by rw[F.o]; simpa using I);clear E C B F;go_wp2;go_ret2;exact D
  | [m0,m1],E,C,B,K=>
   obtain⟨b0,o0,da,cd,H,W,q0,_,_,_,_,_,_⟩:=E.o 0 Zs;obtain⟨b1,o1,A1,A0,O,A3,r0,_,_,_,_,_,_⟩:=E.o 1 Zs;subst H;cases O;simp only[az,aK,aZ,Nat.reduceAdd];simp only[aS,bK,dG,Nat.one_mul,QI] at q0 r0;have F:Qg (okM [m0,m1] n n=(decide (m0.kind=1)&&decide (m1.kind=3))):=Qf (by simp[okM]);generalize m0.kind=k0 at q0 F;generalize m1.kind=k1 at r0 F;by_cases I:k0=1
   ·subst I;by_cases J:k1=3
    ·subst J;have D:=B.o (Zw F.o);simp only[az,aK,aZ,Nat.reduceAdd] at D;clear E C B F;go_wp2;go_ret2;exact D
    ·have Q:(k1 !=3)=true:=Zu J;have D:=C.o (by rw[F.o]; simpa using J);clear E C B F;go_wp2;go_ret2;exact D
   ·have Q:(k0 !=1)=true:=Zu I;have D:=C.o (by rw[F.o]; simp[I]);clear E C B F;go_wp2;go_ret2;exact D
  | m0::m1::m2::r,E,C,B,K=>
   have D:=C.o rfl;obtain⟨q,Y⟩:=Qe ((m0::m1::m2::r).length);rw[<-Y] at K ⊢;have A8:(2:Int)<(q:Int):=by rw[Y]; simp only[az]; omega
   have A7:¬(q:Int)<1:=Zo;clear E C B Y;go_wp2;go_ret2;exact D
 ·have X:((n:Int) !=(N:Int))=true:=Zt;have D:=C.o (by
   match ms with
   | []=>rfl
   | [m0]=>simp[okM,S]
   | [m0,m1]=>simp[okM,S]
   | m0::m1::m2::r=>rfl)
  clear E C B S;go_wp2;go_ret2;exact D
def Rz(n f:Nat):List Msg->Qb->Qb×Int
 | [],acc=>(acc,0)
 | m::ms,acc=>if(Qc ⟨m.kind,m.id,m.off+f,n,m.ds,m.data⟩).2≠0 then([],(Qc ⟨m.kind,m.id,m.off+f,n,m.ds,m.data⟩).2) else Rz n f ms (acc++(Qc ⟨m.kind,m.id,m.off+f,n,m.ds,m.data⟩).1)
def Uw(id:Int)(d:Qb)(f t:Nat)(size:Int):Qb×Int:=if(ww id ((d.drop f).take (t-f)) size).2≠0 then([],(ww id ((d.drop f).take (t-f)) size).2) else Rz d.length f (ww id ((d.drop f).take (t-f)) size).1 []
theorem Vo{f:Nat}{acc:Qb}(h:k<ms.length):Rz n f (ms.drop k) acc=if(Qc ⟨ms[k].kind,ms[k].id,ms[k].off+f,n,ms[k].ds,ms[k].data⟩).2≠0 then([],(Qc ⟨ms[k].kind,ms[k].id,ms[k].off+f,n,ms[k].ds,ms[k].data⟩).2) else Rz n f (ms.drop (k+1)) (acc++(Qc ⟨ms[k].kind,ms[k].id,ms[k].off+f,n,ms[k].ds,ms[k].data⟩).1):=by
 rw[aN h,Rz]
theorem UG(h:m∈(ww id D size).1):m.ds=[]/\m.data.length<=D.length/\0<=m.off/\m.off<=1099511627776:=by
 unfold ww at h;split at h
 ·cases h
 ·split at h
  ·cases h
  ·obtain⟨i,C,rfl⟩:=bV.1 h;refine⟨rfl,by simp only[part,aA,ah]; omega,by simp only[part]; omega,?_⟩;have A:=List.mem_range.1 C;simp only[part];obtain⟨z,E⟩:=Qe size.toNat;rw[<-E] at A ⊢;have F:1<=z:=Zo;have G:i*z<=D.length+z:=by
    have B:(i+1)*z<=D.length+z-1:=aC (pK z A) (Nat.div_mul_le_self _ _);rw[rM] at B;omega
   have:((i*z:Nat):Int)<=1099511627776:=Zo;exact this
theorem UH:((ww id D size).1.length:Int)<=D.length+100000:=by
 unfold ww;split
 ·simp; omega
 ·split
  ·simp; omega
  ·rename_i A B;simp only[Rn,fC,List.length_range];have:=Nat.div_le_self (D.length+size.toNat-1) size.toNat;omega
theorem Wq(h:(Qc m).2=0):(Qc m).1≠[]:=by
 unfold Qc at h ⊢;by_cases A:m.why=0
 ·rw[if_pos A];intro e;have:=congrArg List.length e;simp only[O9,af,bY,aK] at this;omega
 ·rw[if_neg A] at h; exact absurd h A
theorem UO(id:Int)(d:Qb)(f t:Nat)(size:Int)(w:World)(D7:f<=t)(B9:t<=d.length)(hd:(d.length:Int)<=1048576):
  Qh 51 #[Yi id,d,Yi f,Yi t,Yi size] w (Xz (.tuple #[.string ⟨(Uw id d f t size).1.toArray⟩,Yi (Uw id d f t size).2]) w):=by
 obtain⟨R,Y⟩:=Qe (Uw id d f t size);rw[<-Y];unfold Uw at Y;obtain⟨D,hD⟩:=Qe ((d.drop f).take (t-f));rw[<-hD] at Y;have B6:D.length<=d.length:=by rw[hD,aA,ah]; omega
 have E1:=bH d;have D6:(d:ByteArray).extract f t=⟨D.toArray⟩:=by rw[dw,<-hD]
 have B8:=fun W=>DD d f t D7 B9 W
 rw[<-hD] at B8;obtain⟨J,V⟩:=Yj (OH id D size w Zo) (fun m (h:m∈(ww id D size).1)=>UG h);have P:=UH (id:=id) (D:=D) (size:=size);generalize ww id D size=SP at J V Y P;obtain⟨ms,er⟩:=SP;simp only at J V Y P;have I:=Qf Y;obtain⟨n,hn⟩:=Qe d.length;rw[<-hn] at I B9 hd B6 E1;obtain⟨N,hN⟩:=Qe ms.length;rw[<-hN] at P;have HN:=Qf hN;have C5:Qg ((D.length:Int)<=1048576):=Qf Zo;have F4:(N:Int)<=1200000:=Zo;clear Y hD hn hN B6 P;go_enter func51,ntmps51;go_wp2_with fail;refine J.o.mono ?_;rintro e u1 ⟨a,c,rfl,B7,B4,hc⟩;rw[<-HN.o];obtain⟨C7,C⟩:=Yj B7 B4;clear B7 B4 hc J B8 D6;by_cases he:er=0
 ·subst he;have B:=Qf (I.o.trans (if_neg Zs));obtain⟨b,M⟩:=Qe (u1:Nat);obtain⟨u2,Q⟩:=Qe (u1.alloc (.cells #[.pointer none,()] 118));have F:PM u1 u2:=Q▸(bf _).alloc nr _;have A0:u2.heap[b]? = some (.cells #[.pointer none,()] 118 (0,0)):=by rw[Q,M]; exact YL _ _
  obtain⟨C6,A5,A7,A4⟩:=Yl A0 (BW.start F (M▸nr) A0) Q M;clear F A0 Q M I;go_wp2_with fail;rw[<-A7.o,<-A4.o];clear A7 A4;go_loopw [34] (fun i wr=>∃(k:Nat) (B0:Qb),k<=N/\i=Yi (k:Int)/\B0.length<=k*200000/\Qg (BW u1 u2 b B0 wr)/\Qg (R=Rz n f (ms.drop k) B0)/\Qg (k=0->wr=u2/\B0=[])/\Qg (0<k->B0≠[])) (fun i _=>N-(intOf i).toNat)
  case atStart=>exact⟨0,[],Zo,rfl,Zs,A5,B,Qf (fun _=>⟨rfl,rfl⟩),Qf (fun h=>Zo)⟩
  case round=>
   clear A5 B;obtain⟨k,B0,hk,rfl,D3,X,I,HZ,K⟩:=hrel;by_cases F0:k<N
   ·have D9:(k:Int)<(N:Int):=Zo;have h1:k<ms.length:=Zh HN.o;obtain⟨b0,C8,da,cd,B1,E6,q0,q1,q2,q3,q4,q5,Z⟩:=(C7.o.below X.out.bel nr) k h1;have A2:=V.o _ (ak h1);have G:=I.o.trans (Vo h1);generalize ms[k]=m at q0 q1 q2 q3 q4 q5 Z A2 G;obtain⟨C0,C2,C1,C3,dd,data⟩:=m;simp only at q0 q1 q2 q3 q4 q5 Z A2 G;obtain⟨rfl,F1,F2,F3⟩:=A2;have E8:(data.length:Int)<=1048576:=Zh C5.o;have A3:IntKind.i64.wrap (C1+(f:Int))=C1+(f:Int):=ZV;obtain⟨v,hv⟩:=Qe (wr.alloc (.cells #[Yi C0,Yi C2,Yi (C1+(f:Int)),Yi (n:Int),.slice da 0 cd,data] 73));have B5:PM wr v:=hv▸(bf _).alloc nr _;obtain⟨A9,H,T,U⟩:=Yl (X.out.below B5) (MV ⟨C0,C2,C1+(f:Int),n,[],data⟩ da cd v (fun i hi=>by simp at hi) (fun d hd=>by cases hd) Zs Zp) (QY ⟨C0,C2,C1+(f:Int),n,[],data⟩) (Wq (m:=⟨C0,C2,C1+(f:Int),n,[],data⟩));generalize Qc ⟨C0,C2,C1+(f:Int),n,[],data⟩=ew at H T U G;obtain⟨S1,e1⟩:=ew;simp only[Msg.val,aK] at H T U G q4;have L:=Qf G;rw[hv] at H;have HV:=Qf hv;have B2:=B1;subst B1;clear hv B5 X I HZ K G Z B2;go_wp2_with fail;refine H.o.mono ?_;rintro e v2 ⟨rfl,F⟩;rw[<-HV.o] at F;have E:=Qf (A9.o.below F);clear H F A9 HV q0 q1 q2 q3 q4 q5;by_cases O:e1=0
    ·subst O;have B:=Qf (L.o.trans (if_neg Zs));have E0:=T.o;have D8:k*200000<=1200000*200000:=pK _ Zo;have A8:=Qf (cz E.o S1 Zo);have A6:Qg (0<k+1->B0++S1≠[]):=Qf (fun _ h=>U.o rfl (List.append_eq_nil_iff.1 h).2);have B3:(B0++S1).length<=(k+1)*200000:=by rw[af,rM]; omega
     clear L E D8 E0 D3;go_wp2_with fail;refine A8.o.mono ?_;rintro e v3 ⟨rfl,C9⟩;clear A8;go_wp2;go_roundw
     case rel=>exact⟨k+1,B0++S1,Zo,Zg,B3,C9,B,Qf (fun h=>Zo),A6⟩
     case measure=>exact Yr
    ·have D5:(e1 !=0)=true:=Zu O;have B:Qg (R=([],e1)):=Qf (L.o.trans (if_pos O));have C4:=Qf (XT C.o E.o.bel);clear L E O;go_wp2;go_ret2;exact⟨Zw B.o,C4.o⟩
   ·obtain rfl:k=N:=Zo;have D9:¬(k:Int)<(k:Int):=Zo;have B:Qg (R=(B0,0)):=Qf (by rw[I.o,kR (Zh HN.o),Rz]);clear I;by_cases A1:k=0
    ·obtain⟨A3,D2⟩:=HZ.out A1;subst D2;have HB:=Qf (XT C.o X.out.bel);rw[A3] at HB ⊢;obtain⟨J,E4⟩:=Yj (Bo C6.o) A1;clear X HZ K A3 A1;go_wp2_with fail;refine J.o.mono ?_;rintro e v1 ⟨rfl,hb⟩;have S:=Qf (XT HB.o hb);clear hb J;go_wp2;go_ret2;exact⟨Zw B.o,S.o⟩
    ·have J:=Qf (vC X.out (K.out Zo));clear X HZ K;go_wp2_with fail;refine J.o.mono ?_;rintro e v1 ⟨rfl,E⟩;have S:=Qf (XT C.o E.o.bel);clear E J;go_wp2;go_ret2;exact⟨Zw B.o,S.o⟩
 ·have D5:(er !=0)=true:=Zu he;have B:Qg (R=([],er)):=Qf (I.o.trans (if_pos he));clear I he;go_wp2;go_ret2;exact⟨Zw B.o,C.o⟩
theorem Xi(a:Qa)(n c f m:Nat)(h:f<=n)(J:n<=c)(H:m=n-f):∃(A1:Qa) (c1:Nat),(∀B W (ds:Qd),ds.length=n->dE B W a ds->dE B W A1 (ds.drop f))/\∀W,(Instr.slice 24 (.slice a n c) (some (Yi f)) none none).run prog W=.ok (.slice A1 m c1) W:=by
 refine⟨if c=f then a else a.map (·.add (f*2)),c-f,fun B W ps K I=>?_,fun W=>?_⟩
 ·split
  ·rw[dV Zo]; exact dE.nil _ _ _
  ·intro i G;have C:f+i<ps.length:=by simp at G; omega
   obtain⟨b,L,rfl,D,E,F⟩:=I (f+i) C;refine⟨b,L+f*2,by simp[XD],D,?_⟩;rw[eF];rw[show L+f*2+i*2=L+(f+i)*2 by omega];exact⟨E,F⟩
 ·rw[run_slice_l (P:=prog) W 24 a n c Zk .i64 f Zo Zo,DJ];subst H;simp[sliced,Result.andThen]
def Ux(T:Qb):Int:=(iY T).1%1099511627777
theorem SG{mi:Int}(a:Qa)(xs:List Itm)(c:Nat)(L:Qb)(size:Int)(w:World)(f n nd:Nat)(ds l base:Qd)(T:Qb)(hp:jQ w a xs c)(hA:Asc xs)(D2:xs.length<=90)(C7:BG L [⟨1,mi,(f:Int),0,ds,[]⟩] n)(hn:n=L.length)(hL:(L.length:Int)<=1000000)(hf:f<=ds.length)(O:∀d∈ds,OkD d)(E2:ds.length<=400)(G0:1<=size)(G1:size<=65536)
  (C8:M6 xs (ds.take f) (ds.drop f)=(l,0)) (C0:(dh xs (ds.drop f)).1=base) (hT:(T.length:Int)<=1048576)
  (C5:∀la lc ba bc W,Its W.heap.size W a xs->dE W.heap.size W la l->dE W.heap.size W ba base->Qh 49 #[.slice a xs.length c,.slice la l.length lc,.slice ba base.length bc] W (Xz (.tuple #[T,Yi 0]) W)) :
  Qh 21 #[.slice a xs.length c,L,Yi size] w (Xz (.tuple #[.string ⟨(Uw (Ux T) T 0 T.length size).1.toArray⟩,Yi (Uw (Ux T) T 0 T.length size).2]) w):=by
 obtain⟨B5,D8,E,J,I,B2⟩:=Yn (UX L w Zo) C7 (fun wa wc ca cc W (hW:PM w W) hw hc=>Pz a xs c wa (ds.take f) wc ca (ds.drop f) cc W (hp.below hW) hA D2 hw (fun d hd=>O d (dK hd)) (Zy aA) hc (fun d hd=>O d (List.mem_of_mem_drop hd)) (Zy ah)) (fun ca cc W (hW:PM w W) hc=>zH a xs c ca (ds.drop f) cc W (hp.below hW) hA hc (fun d hd=>O d (List.mem_of_mem_drop hd)) Zo (Zy ah)) C5 hp.its;have X:=Qf (fun W=>by
  have h:=UO (Ux T) T 0 T.length size W Zo Zo hT;rw[Int.natCast_zero] at h;exact h)
 have B4:=Qf (fun W=>qV T W Zo);have E7:=bH T;rw[C8] at E;obtain⟨tn,D1⟩:=Qe T.length;rw[<-D1] at hT E7 X ⊢;have R:wrap64 ((iY T).1.tmod 1099511627777)=Ux T:=by
  rw[Int.tmod_eq_emod_of_nonneg (LH T)];unfold Ux wrap64;omega
 have A4:(ds.take f).length=f:=Zy aA;obtain⟨nc,A6⟩:=Qe (ds.length-f);have A3:(ds.drop f).length=nc:=by rw[ah,A6]
 rw[A4,A3] at E;rw[A3] at J;obtain⟨F4,F5,D7⟩:=Yk E2 A4 A6;have F8:(f:Int)<=400:=Zo;generalize xs.length=nx at E J I ⊢;obtain⟨ll,A5⟩:=Qe l.length;obtain⟨bl,Y⟩:=Qe base.length;obtain⟨B3,A9,HN,D6⟩:=Yl A5 Y hn C0;rw[<-A5,<-Y] at I;clear hp hA D2 C7 O C8 C5 D1 A4 A6 A3 A5 Y hn C0;go_enter func21,ntmps21;go_wp2_with fail;have hx:=B5.o;refine hx.mono ?_;clear hx B5;rintro e u ⟨ms,n2,C6,C1,Z⟩;obtain⟨rfl,rfl⟩:=D8.o.one C6;rcases Z with⟨hq,a1,c1,rfl,C4,C2⟩ | ⟨hq,rfl⟩
 ·obtain⟨b0,o0,da,cd,B9,E4,q0,q1,q2,q3,q4,q5,M⟩:=C4 0 Zs;obtain⟨C3,D9,D4,D3,Q,B6,A0⟩:=C2 0 Zs;rw[B9] at Q;cases Q;simp only[aS,dG,QI] at q0 q1 q2 q3 q4 q5 M B6 A0;rw[q4] at B6;cases B6;subst B9;obtain⟨A1,k1,B7,C9⟩:=Js da ds.length cd f Zo;obtain⟨A2,k2,B8,D0⟩:=Xi da ds.length cd f nc hf A0 D7.o;obtain⟨B0,B1,V⟩:=Yk (B7 _ _ _ M) (B8 _ _ _ rfl M) C1;simp only[az,aK,aZ];have F9:prog.follows .mixedOrders=true:=Zk;clear hq C4 C2 C6 E4 M A0 B7 B8 C1;go_wp2;go_region;obtain⟨v,hv⟩:=Qe u.drew;rw[<-hv];have K:PM u v:=hv▸(bf _).drew;obtain⟨H,D⟩:=Yj (XT V.o K) (B1.o.ahead K);have HS:=Qf (E.o A1 k1 A2 k2 v H.o (B0.o.ahead K) D.o);clear hv K B0 B1 V C9 D0 E q0 q1 q2 q3 q4 q5;go_wp2_with fail;refine HS.o.mono ?_;rintro e u2 ⟨la,lc,rfl,C,B⟩;simp only at C ⊢;rw[<-B3.o] at C ⊢;obtain⟨F,P⟩:=Yj (XT H.o B) (kr B3.o C);have HR:=Qf (J.o A2 k2 u2 F.o (D.o.ahead B));clear C B HS H D J;go_wp2_with fail;refine HR.o.mono ?_;rintro e u3 ⟨pa,pc,sa,sc,rfl,N,E5,B⟩;rw[D6.o] at N ⊢;rw[<-A9.o] at N ⊢;have G:=Qf (XT F.o B);have HP:=Qf (I.o la lc pa pc u3 (B2.o.ahead G.o) (P.o.ahead B) (kr A9.o N));clear N E5 B HR F P I B2;go_wp2_with fail;refine HP.o.mono ?_;rintro e u4 ⟨rfl,B⟩;obtain⟨S,HO⟩:=Yj (XT G.o B) (B4.o u4);clear B HP G B4;generalize (iY T).1=g1 at R HO;generalize (iY T).2=g2 at HO;go_wp2_with fail;refine HO.o.mono ?_;rintro e u5 ⟨rfl,B⟩;have A8:=Qf (XT S.o B);clear B HO S;have E3:∀W,(Instr.index 54 (.agg #[Yu g1,Yu g2]) (Yi 0)).run prog W=.ok (Yu g1) W:=fun W=>Zk
  go_wp2;go_region;obtain⟨v6,A7⟩:=Qe u5.drew;rw[<-A7];have U:Qg (PM w v6):=Qf (A7▸A8.o.drew);have HR:=Qf (X.o v6);clear A7 A8 X E3;go_wp2_with fail;rw[R];refine HR.o.mono ?_;rintro e u7 ⟨rfl,B⟩;have D5:=Qf (XT U.o B);clear B HR U;go_wp2;go_ret2;exact⟨rfl,D5.o⟩
 ·exfalso;simp[okM,HN.o] at hq
