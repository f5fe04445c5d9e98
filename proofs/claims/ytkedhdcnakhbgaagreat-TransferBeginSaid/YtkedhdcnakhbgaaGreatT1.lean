/- Joined texts: TrA, TrP, TrQ. -/
import Derived.Test.YtkedhdcnakhbgaaGreatN2
import Derived.Test.YtkedhdcnakhbgaaGreatP4
import Derived.Test.YtkedhdcnakhbgaaGreatW2
import Derived.Test.YtkedhdcnakhbgaaGreatW5
import Derived.Test.YtkedhdcnakhbgaaGreatW4
/- transfer.hasAll and checkCommon. -/
set_option linter.unusedSimpArgs false
set_option maxRecDepth 100000
set_option maxHeartbeats 16000000
namespace Go.Proofs.YtkedhdcnakhbgaaGreat
open Go.RowKit Go.Shelf
set_option linter.unusedVariables false
variable {xs:List Itm}{ps:List P}{m:Msg}{B b:Nat}{r:Option Nat}{a:Qa}{s:Qb}{W W':World}
def fullS(xs:List Itm)(l:Qd):Bool:=l.all (I7 xs)&&decide ((dh xs l).2=[])
theorem hasAll_any(a:Qa)(xs:List Itm)(c:Nat)(la:Qa)(l:Qd)(lc:Nat)(w:World)(hp:jQ w a xs c)(ha:Asc xs)(hl:dE w.heap.size w la l)(U:∀d∈l,OkD d)(X:(xs.length:Int)<=5000)(T:(l.length:Int)<=10000):
  Qh 41 #[.slice a xs.length c,.slice la l.length lc] w fun e w'=>e=.returned (.bool (fullS xs l))/\PM w w':=by
 have F:=Qf (fun x y W (hb:PM w W)=>I6 a xs c x y W (hp.below hb) ha);have HL:=Qf hl;have B:=Qf (fun W (hW:PM w W)=>zH a xs c la l lc W (hp.below hW) ha (hl.ahead hW) U X T);obtain⟨R,Z⟩:=Qe (fullS xs l);rw[<-Z];unfold fullS at Z;have H:=Qf Z;generalize dh xs l=rr at B H;obtain⟨ra,rb⟩:=rr;simp only at H;obtain⟨n,hn⟩:=Qe l.length;have HN:=Qf hn;obtain⟨m,hm⟩:=Qe rb.length;have HM:=Qf hm;rw[<-hn] at B T ⊢;generalize xs.length=nx at F B ⊢;have K:=Qf (Below.refl w.heap.size w);clear hp ha hl U X Z hn hm;go_enter Tryz.func41,Tryz.ntmps41;go_wp2_with fail;go_loopw [11] (fun i wr=>∃k:Nat,k<=n/\i=.int .i64 k/\Qg (PM w wr)/\Qg (∀d∈l.take k,I7 xs d=true)) (fun i _=>n-(intOf i).toNat)
 case atStart=>exact⟨0,by omega,rfl,K,Qf (by simp)⟩
 case round=>
  clear K;obtain⟨k,hk,rfl,C,Y⟩:=hrel;by_cases C3:k<n
  ·have A9:(k:Int)<(n:Int):=by omega
   have I:k<l.length:=by have:=HN.o; omega
   obtain⟨b0,of0,A8,C2,q0,q1⟩:=(HL.o.ahead C.out) k I;have A6:=HL;subst A8;have Q:Qg (l.take (k+1)=l.take k++[l[k]]):=Qf (ai I);have O:Qg (l[k]∈l):=Qf (ak I);generalize l[k]=d at q0 q1 Q O;obtain⟨d1,d2⟩:=d;simp only at q0 q1;obtain⟨v,hv⟩:=Qe (wr.alloc (.cells #[.int .u64 d1,.int .u64 d2] 54));have S:PM wr v:=by rw[hv]; exact ba _ _
   have D:=Qf (C.out.trans (S.mono C.out.size));have HC:=Qf (F.o d1 d2 v D.o);rw[hv] at HC;have HV:=Qf hv;clear hv S C A6;go_wp2_with fail
   refine HC.o.mono ?_;rintro e u ⟨rfl,G⟩
   rw[<-HV.o] at G;have M:=Qf (D.o.trans (G.mono D.o.size));clear HC HV G D q0 q1;cases hh:I7 xs (d1,d2) with
   | false=>
    have E:Qg (R=false):=Qf (by
     rw[H.o];have:l.all (I7 xs)=false:=by
      rw[Bool.eq_false_iff];intro h;rw[List.all_eq_true.1 h _ O.o] at hh;cases hh
     rw[this]; rfl)
    clear H;go_wp2_with fail;go_ret;exact⟨by rw[E.o]; rfl,M.o⟩
   | true=>
    have A4:Qg (∀d∈l.take (k+1),I7 xs d=true):=Qf (fun d hd=>by
     rw[Q.o] at hd;rcases aD.1 hd with h | h
     ·exact Y.out d h
     ·rw[aH.1 h]; exact hh)
    clear Y hh;go_wp2_with fail;go_roundw
    case rel=>exact⟨k+1,by omega,by go_num,M,A4⟩
    case measure=>simp[intOf] <;> omega
  ·have A9:¬(k:Int)<(n:Int):=by omega
   have E:Qg (R=decide (rb=[])):=Qf (by
    have I:=Y.out;rw[show l.take k=l from ag (by have:=HN.o; omega)] at I;rw[H.o,List.all_eq_true.2 I,Bool.true_and])
   obtain⟨x0,V⟩:=Qe wr;rw[<-V] at C ⊢;have N:=Qf (B.o x0 C.out);clear V H B HL F Y;go_wp2_with fail
   refine N.o.mono ?_;rintro e u1 ⟨pa,pc,sa,sc,rfl,B3,B4,hb⟩
   have L:=Qf (C.out.trans (hb.mono C.out.size));simp only;rw[<-HM.o];have P:Qg (R=(m==0)):=Qf (by
    rw[E.o];have:=HM.o;cases rb with
    | nil=>simp at this; simp[this]
    | cons x y=>simp at this; simp[this])
   clear B3 B4 hb N C E;cases J:(m==0) with
   | true=>
    have B1:((m:Int)==0)=true:=by simp at J; simp[J]
    go_wp2_with fail;go_ret;exact⟨by rw[P.o,J]; rfl,L.o⟩
   | false=>
    have B1:((m:Int)==0)=false:=by simp at J; simp[J]
    go_wp2_with fail;go_ret;exact⟨by rw[P.o,J]; rfl,L.o⟩
def ckcS(xs:List Itm):Qd->Qd->Int
 | _,[]=>0
 | met,d::l=>if(aF xs d).2≠0 then(aF xs d).2 else if d∈met then ckcS xs met l else if(dh xs [d]).2≠[] then 8 else ckcS xs (met++(dh xs [d]).1) l
theorem ckcS_at{l met:Qd}{k:Nat}(h:k<l.length):ckcS xs met (l.drop k)=if(aF xs l[k]).2≠0 then(aF xs l[k]).2 else if l[k]∈met then ckcS xs met (l.drop (k+1)) else if(dh xs [l[k]]).2≠[] then 8 else ckcS xs (met++(dh xs [l[k]]).1) (l.drop (k+1)):=by
 rw[aN h,ckcS]
theorem digs_bx1{x y:Int}{t:TypeId}(h:BK b #[.int .u64 x,.int .u64 y] t W):dE W.heap.size W (some ⟨b,0,none⟩) [(x,y)]:=by
 intro i A;have:i=0:=by simp at A; omega
 subst this;exact⟨b,0,rfl,h.lt,by rw[h.cell]; rfl,by rw[h.cell]; rfl⟩
theorem checkCommon_any(a:Qa)(xs:List Itm)(c:Nat)(la:Qa)(l:Qd)(lc:Nat)(w:World)(hp:jQ w a xs c)(ha:Asc xs)(hl:dE w.heap.size w la l)(C9:∀d∈l,OkD d)(F6:(xs.length:Int)<=100)(E9:(l.length:Int)<=1000):
  Qh 40 #[.slice a xs.length c,.slice la l.length lc] w fun e w'=>e=.returned (.int .i64 (ckcS xs [] l))/\PM w w':=by
 have B6:=Qf (fun p q W (hW:PM w W)=>Gr a xs c p q W (hp.below hW) ha);have C0:=Qf (fun b x y W (hW:PM w W) (N:BK b #[.int .u64 x,.int .u64 y] 54 W) (ho:OkD (x,y))=>zH a xs c (some ⟨b,0,none⟩) [(x,y)] 1 W (hp.below hW) ha (digs_bx1 N) (by simpa using ho) (by omega) (by simp));obtain⟨M,hM⟩:∃M:Nat,M=100001:=⟨_,rfl⟩;have D8:Qg (∀d,OkD d->(dh xs [d]).1.length<=M/\∀e∈(dh xs [d]).1,OkD e):=Qf (fun d hd=>by
  obtain⟨h1,h2⟩:=Cg xs [d];have h3:jC xs [d]<=M:=by unfold jC; simp only[az,aK]; omega
  exact⟨by omega,fun e he=>H7 (by simpa using hd) (((gW xs [d]).2.2 e).1.1 he).1⟩)
 have HL:=Qf hl;have E0:=Qf C9;have F0:=@run_makeMap Tryz.prog;obtain⟨R,hR⟩:=Qe (ckcS xs [] l);rw[<-hR];have HR:=Qf hR;obtain⟨n,hn⟩:=Qe l.length;have HN:=Qf hn;rw[<-hn] at E9 ⊢;have C1:Qg (mW w.heap.size [] (w.alloc (.map #[] 0))):=Qf (mW.made w);have B4:Qg (PM w (w.alloc (.map #[] 0))):=Qf (ba w _);generalize xs.length=nx at B6 C0 ⊢;have B7:=Qf hM;clear hp ha hl C9 F6 hR hn hM;go_enter Tryz.func40,Tryz.ntmps40;go_wp2_with fail;go_loopw [17] (fun i wr=>∃(k:Nat) (met:Qd),k<=n/\i=.int .i64 k/\met.length<=k*M/\Qg (mW w.heap.size met wr)/\Qg (PM w wr)/\Qg (R=ckcS xs met (l.drop k))) (fun i _=>n-(intOf i).toNat)
 case atStart=>exact⟨0,[],by omega,rfl,by simp,C1,B4,Qf (by rw[HR.o]; rfl)⟩
 case round=>
  clear C1 B4 F0 HR;obtain⟨k,met,hk,rfl,H1,HS,O,HR⟩:=hrel;by_cases H0:k<n
  ·have E8:(k:Int)<(n:Int):=by omega
   have h1:k<l.length:=by have:=HN.o; omega
   obtain⟨b0,of0,T,E6,q0,q1⟩:=(HL.o.ahead O.out) k h1;have D9:=HL;subst T;have A0:=E0.o _ (ak h1);have F:=Qf (HR.o.trans (ckcS_at h1));generalize l[k]=d at q0 q1 A0 F;obtain⟨d1,d2⟩:=d;simp only at q0 q1;have H:=Qf (D8.o _ A0);obtain⟨v,hv⟩:=Qe (wr.alloc (.cells #[.int .u64 d1,.int .u64 d2] 54));have E:PM wr v:=by rw[hv]; exact ba _ _
   have A8:Qg (BK wr.heap.size #[.int .u64 d1,.int .u64 d2] 54 v):=Qf (by rw[hv]; exact BK.new _ _ _);have X:=Qf (O.out.trans (E.mono O.out.size));have C4:=Qf (HS.out.below E);have HC:=Qf (B6.o d1 d2 v X.o);generalize aF xs (d1,d2)=CR at HC F;obtain⟨⟨kind,data,ents,⟨t1,t2⟩,pars,author,time,msg⟩,er⟩:=CR;simp only at HC F;obtain⟨q,hq⟩:=Qe wr.heap.size;have HQ:Qg (q=wr.heap.size):=Qf hq;have H4:w.heap.size<=q:=by rw[hq]; exact O.out.size
   rw[<-hq] at A8;rw[hv] at HC;have HV:=Qf hv;clear hv E O HS D9 HR hq;go_wp2_with fail
   refine HC.o.mono ?_;rintro e u ⟨ea,ec,pa,pc,rfl,F3,N⟩
   rw[<-HV.o] at N;simp only[Ob.val];have A4:=Qf (X.o.trans (N.mono X.o.size));have C7:=Qf (A8.o.below N);have C3:=Qf (C4.o.below N);generalize pars.length=np;generalize ents.length=ne;obtain⟨v2,B1⟩:=Qe (u.alloc (.cells #[.int .i64 kind,.string ⟨data.toArray⟩,.slice ea ne ec,.int .u64 t1,.int .u64 t2,.slice pa np pc,.string ⟨author.toArray⟩,.int .i64 time,.string ⟨msg.toArray⟩] 59));have E:PM u v2:=by rw[B1]; exact ba _ _
   have P:=Qf (A4.o.trans (E.mono A4.o.size));have A7:=Qf (C7.o.below E);have Z:=Qf (C3.o.below E);have G:=Qf B1;rw[<-HQ.o];clear F3 N E B1 HC HV X A8 C4 A4 C7 C3 q0 q1 HQ;by_cases he:er=0
   ·subst he
    have C:=Qf (F.o.trans (if_neg (by simp)));have B:=Z.o.look A0;obtain⟨x0,x1⟩:=BK.c2 A7.o;rw[G.o] at B x0 x1;clear F;cases K:decide ((d1,d2)∈met) with
    | true=>
     rw[K] at B;have D:=Qf (C.o.trans (if_pos (by simpa using K)));clear C K A7;go_wp2_with fail;rw[<-G.o];go_roundw
     case rel=>exact⟨k+1,met,by omega,by go_num,by rw[rM]; omega,Z,P,D⟩
     case measure=>simp[intOf] <;> omega
    | false=>
     rw[K] at B;have D:=Qf (C.o.trans (if_neg (by simpa using K)));obtain⟨v3,V⟩:=Qe (v2.alloc (.cells #[.int .u64 d1,.int .u64 d2] 54));have A9:PM v2 v3:=by rw[V]; exact ba _ _
     have I:=Qf (P.o.trans (A9.mono P.o.size));have S:=Qf (Z.o.below A9);have J:=Qf (C0.o v2.heap.size d1 d2 v3 I.o (by rw[V]; exact BK.new _ _ _) A0);generalize dh xs [(d1,d2)]=rr at J D H;obtain⟨ra,rb⟩:=rr;simp only at J D H;have F5:=H.o.1;obtain⟨nra,U⟩:=Qe ra.length;have Q:=Qf U;obtain⟨nrb,A1⟩:=Qe rb.length;have Y:=Qf A1;rw[<-U] at F5;have G6:(nra:Int)<=200000:=by have:=B7.o; omega
     have D2:v2.heap.size=u.heap.size+1:=by rw[G.o]; simp
     rw[D2,V,G.o] at J;have C6:=Qf (V.trans (by rw[G.o]));simp only[az,aK,aZ] at J;clear C K A7 P Z V A9 U A1 D2;go_wp2_with fail
     refine J.o.mono ?_;rintro e u3 ⟨pa,pc,sa,sc,rfl,L,F2,N⟩
     rw[<-C6.o] at N L;simp only at L ⊢;rw[<-Q.o] at L ⊢;rw[<-Y.o];have A3:=Qf (I.o.trans (N.mono I.o.size));have C2:=Qf (S.o.below N);have B8:=Qf (kr Q.o L);have B9:Qg (∀ad,pa=some ad->ad.block≠w.heap.size):=Qf (fun ad e=>by
      subst e;have h5:=(L.lt ad.block rfl).1;have h6:=S.o.lt
      omega)
     clear L F2 N J I S C6 B x0 x1 G;by_cases hz:0<nrb
     ·have F8:(0:Int)<(nrb:Int):=by omega
      have A5:Qg (R=8):=Qf (D.o.trans (if_pos (fun e=>by have:=Y.o; rw[e] at this; simp at this; omega)));clear D;go_wp2_with fail;go_ret;exact⟨by rw[A5.o]; rfl,A3.o⟩
     ·have F8:¬(0:Int)<(nrb:Int):=by omega
      have A5:Qg (R=ckcS xs (met++ra) (l.drop (k+1))):=Qf (D.o.trans (if_neg (fun e=>e (by have:=Y.o; cases rb with | nil=>rfl | cons a b=>simp at this; omega))));clear D Y;go_wp2_with fail;go_loopw [45] (fun i wr=>∃j:Nat,j<=nra/\i=.int .i64 j/\Qg (mW w.heap.size (met++ra.take j) wr)/\Qg (PM w wr)/\Qg (dE wr.heap.size wr pa ra)) (fun i _=>nra-(intOf i).toNat)
      case atStart=>exact⟨0,by omega,rfl,Qf (C2.o.eq (by simp)),A3,B8⟩
      case round=>
       clear A3 C2 B8;obtain⟨j,hj,rfl,HS,O,HE⟩:=hrel;by_cases G5:j<nra
       ·have E7:(j:Int)<(nra:Int):=by omega
        have h2:j<ra.length:=by have:=Q.o; omega
        obtain⟨b0,of0,T,E6,q0,q1⟩:=HE.out j h2;have C8:some w.heap.size≠some b0:=fun e=>B9.o _ T (by injection e with e; exact e.symm)
        have E1:=B9;have A2:=H.o.2 _ (ak h2);have C5:Qg (ra.take (j+1)=ra.take j++[ra[j]]):=Qf (ai h2);generalize ra[j]=g at q0 q1 A2 C5;obtain⟨g1,g2⟩:=g;simp only at q0 q1;obtain⟨u1,H3,D0,B0,F7⟩:=(HS.out.alloc (.cells #[.int .u64 g1,.int .u64 g2] 54)).put A2 (by
         rw[af,aA];have h9:k*M<=1000*M:=pK _ (by omega);have G7:=B7.o
         omega)
        have S:Qg (mW w.heap.size (met++ra.take (j+1)) u1):=Qf (D0.eq (by rw[C5.o,ay]));have I:Qg (PM w u1):=Qf (FU (O.out.alloc O.out.size _) B0 nr);have D7:Qg (dE u1.heap.size u1 pa ra):=Qf (dE.kept (((HE.out.below ((Below.refl wr.heap.size wr).alloc nr _) nr)).mono (by simp)) B0 (fun _ ad e=>by rw[T] at e; cases e; exact C8));subst T;clear D0 B0 F7 HS O HE E1 C8;go_wp2_with fail;go_roundw
        case rel=>exact⟨j+1,by omega,by go_num,S,I,D7⟩
        case measure=>simp[intOf] <;> omega
       ·have E7:¬(j:Int)<(nra:Int):=by omega
        have E2:Qg (mW w.heap.size (met++ra) wr):=Qf (HS.out.eq (by rw[ag (by have:=Q.o; omega)]));clear HS;go_wp2_with fail;go_roundw
        case rel=>exact⟨k+1,met++ra,by omega,by go_num,by rw[af,<-Q.o,rM]; omega,E2,O,A5⟩
        case measure=>simp[intOf] <;> omega
   ·have G9:(er !=0)=true:=by simpa using he
    have C:Qg (R=er):=Qf (F.o.trans (if_pos he));clear F he;go_wp2_with fail;rw[<-G.o];go_ret;exact⟨by rw[C.o]; rfl,P.o⟩
  ·have E8:¬(k:Int)<(n:Int):=by omega
   have C:Qg (R=0):=Qf (by rw[HR.o,kR (by have:=HN.o; omega),ckcS]);go_wp2_with fail;go_ret;exact⟨by rw[C.o]; rfl,O.out⟩
structure Ses where
 xs:List Itm
 want:Qd
 com:Qd
 id:Int
 tot:Int
 ps:List P
 asked:Bool
 done:Bool
structure SesA where
 ha:Qa
 hc:Nat
 wa:Qa
 wc:Nat
 ca:Qa
 cc:Nat
 pa:Qa
 pc:Nat
abbrev Ses.val(s:Ses)(A:SesA):Value:=.agg #[.slice A.ha s.xs.length A.hc,.slice A.wa s.want.length A.wc,.slice A.ca s.com.length A.cc,.int .i64 s.id,.int .i64 s.tot,.slice A.pa s.ps.length A.pc,.bool s.asked,.bool s.done]
abbrev Ses.cl(s:Ses)(A:SesA)(acc:Int):Array Value:=#[.slice A.ha s.xs.length A.hc,.slice A.wa s.want.length A.wc,.slice A.ca s.com.length A.cc,.int .i64 s.id,.int .i64 s.tot,.slice A.pa s.ps.length A.pc,.bool s.asked,.bool s.done,.int .i64 acc]
def oldS(s:Ses)(m:Msg):Int×Int×List P:=if s.ps=[]\/s.id≠m.id\/s.tot≠m.tot then(0,0,[]) else(s.id,s.tot,s.ps)
def finS(s:Ses)(T:Qb):Ses:=
 if(tu T s.xs).2=0/\fullS (tu T s.xs).1 s.want=true then { s with xs:=(tu T s.xs).1,id:=0,tot:=0,ps:=[],done:=true } else { s with id:=0,tot:=0,ps:=[] }
def gatS(s:Ses)(m:Msg):Int×Int×Int×List P:=nJ (oldS s m).1 (oldS s m).2.1 (oldS s m).2.2 m.kind m.id m.off m.tot m.ds.length m.data
def putPS(s:Ses)(g:Int×Int×List P):Ses:=if(y9 g.1 g.2.1 g.2.2).2=true then finS { s with id:=g.1,tot:=g.2.1,ps:=g.2.2 } (y9 g.1 g.2.1 g.2.2).1 else { s with id:=g.1,tot:=g.2.1,ps:=g.2.2 }
def takeS(s:Ses)(m:Msg):Ses×Bool:=
 if s.done=true\/m.kind≠2 then(s,false) else if(gatS s m).1≠0 then(s,false) else({ putPS s (gatS s m).2 with asked:=decide (0<(putPS s (gatS s m).2).ps.length) },true)
def recS:Ses->List Msg->Ses×Nat
 | s,[]=>(s,0)
 | s,m::ms=>((recS (takeS s m).1 ms).1,(if(takeS s m).2=true then 1 else 0)+(recS (takeS s m).1 ms).2)
theorem recS_snoc:∀(ms:List Msg) (s:Ses) (m:Msg),recS s (ms++[m])=((takeS (recS s ms).1 m).1,(recS s ms).2+if(takeS (recS s ms).1 m).2=true then 1 else 0)
 | [],s,m=>by
  simp only[aY,recS,aZ,Nat.add_zero];rfl
 | x::ms,s,m=>by
  rw[bz,recS,recS_snoc ms,recS];simp only[aP]
theorem Its.grown(h:Its B W a xs)(J:B<=W.heap.size)(H:W.grownBy W' r)(D:∀ad,a=some ad->0<xs.length->r≠some ad.block):Its B W' a xs:=by
 intro i I;obtain⟨b,off,rfl,C,E,F,G⟩:=h i I;have A:=H.block b (by omega) (fun e=>D _ rfl (by omega) e.symm);exact⟨b,off,rfl,C,(World.cell?_of_block (a:=⟨b,off+i*3,none⟩) A).trans E,(World.cell?_of_block (a:=⟨b,off+i*3+1,none⟩) A).trans F,(World.cell?_of_block (a:=⟨b,off+i*3+2,none⟩) A).trans G⟩
theorem jQ.grown{c:Nat}(h:jQ W a xs c)(B:W.grownBy W' r)(A:∀ad,a=some ad->0<xs.length->r≠some ad.block):jQ W' a xs c:=⟨(h.its.grown nr B A).mono B.size,h.cap,h.len,h.dat⟩
theorem Pcs.grown(h:Pcs B W a ps)(I:B<=W.heap.size)(G:W.grownBy W' r)(C:∀ad,a=some ad->0<ps.length->r≠some ad.block):Pcs B W' a ps:=by
 intro i H;obtain⟨b,off,rfl,A,E,F⟩:=h i H;have D:=G.block b (by omega) (fun e=>C _ rfl (by omega) e.symm);exact⟨b,off,rfl,A,(World.cell?_of_block (a:=⟨b,off+i*2,none⟩) D).trans E,(World.cell?_of_block (a:=⟨b,off+i*2+1,none⟩) D).trans F⟩
structure SesIn (W:World) (s:Ses) (A:SesA) (b:Nat):Prop where
 hp:jQ W A.ha s.xs A.hc
 hr:Ps s.xs A.hc
 hw:dE W.heap.size W A.wa s.want
 hc:dE W.heap.size W A.ca s.com
 hq:Pcs W.heap.size W A.pa s.ps
 cq:s.ps.length<=A.pc
 cw:s.want.length<=A.wc
 cc:s.com.length<=A.cc
 nh:∀ad,A.ha=some ad->0<s.xs.length->some b≠some ad.block
 nw:0<s.want.length->∀ad,A.wa=some ad->some b≠some ad.block
 nc:0<s.com.length->∀ad,A.ca=some ad->some b≠some ad.block
 nq:∀ad,A.pa=some ad->0<s.ps.length->some b≠some ad.block
 ow:∀d∈s.want,OkD d
 oc:∀d∈s.com,OkD d
 ck:∀x∈s.xs,vg x=0
 lx:s.xs.length<=2000
 ly:s.done=false->s.xs.length<=1000
 lw:s.want.length<=1000
 lc:s.com.length<=1000
 vp:gm s.id s.tot s.ps=true
theorem SesIn.grown{s:Ses}{A:SesA}(h:SesIn W s A b)(B:W.grownBy W' (some b)):SesIn W' s A b:=
 ⟨h.hp.grown B h.nh,h.hr,h.hw.kept B h.nw,h.hc.kept B h.nc,(h.hq.grown nr B h.nq).mono B.size,h.cq,h.cw,h.cc,h.nh,h.nw,h.nc,h.nq,h.ow,h.oc,h.ck,h.lx,h.ly,h.lw,h.lc,h.vp⟩
theorem SesIn.below{s:Ses}{A:SesA}(h:SesIn W s A b)(B:PM W W'):SesIn W' s A b:=
 h.grown ⟨B.os,B.tape,B.output,B.size,fun k C _=>B.block k C⟩
theorem SesIn.nop{s:Ses}{A:SesA}(h:SesIn W s A b):SesIn W { s with id:=0,tot:=0,ps:=[] } { A with pa:=none,pc:=0 } b:=
 ⟨h.hp,h.hr,h.hw,h.hc,fun i B=>(by simp at B),nr,h.cw,h.cc,h.nh,h.nw,h.nc,fun ad e=>(by cases e),h.ow,h.oc,h.ck,h.lx,h.ly,h.lw,h.lc,rfl⟩
theorem vgo_len2{tot:Int}:∀{ps:List P} {e:Int},vgo tot e ps=true->ps=[]\/2*(ps.length:Int)<=tot-e
 | [],_,_=>.inl rfl
 | p::ps,e,h=>by
  rw[vgo] at h;simp only[Bool.and_eq_true,decide_eq_true_eq] at h;obtain⟨⟨⟨⟨C,A⟩,D⟩,E⟩,B⟩:=h;have G:0<p.2.length:=bJ.2 (by simpa using A);right;rcases vgo_len2 B with rfl | F
  ·simp only[az,aK]; omega
  ·simp only[az]; omega
theorem vParts_len1{id tot:Int}(h:gm id tot ps=true):(ps.length:Int)<=1048576:=by
 cases ps with
 | nil=>simp
 | cons p ps=>
  obtain⟨A,_,_,B,C⟩:=vParts_vgo h;rcases vgo_len2 A with h | h
  ·cases h
  ·omega
theorem why_vM(h:m.why=0):vM m.kind m.off m.tot m.ds.length m.data.length=true:=by
 unfold Msg.why whyM at h;split at h
 ·cases h
 ·split at h
  ·cases h
  ·split at h
   ·cases h
   ·rename_i A; simpa using A
theorem enc_len(m:Msg):((encS m).1.length:Int)<=200000:=by
 unfold encS;by_cases h:m.why=0
 ·rw[if_pos h]
  obtain⟨_,_,_,_,_,_,A,B⟩:=zk (why_vM h);have:=Bn m A B;unfold O9;simp only[af,bY];omega
 ·rw[if_neg h]; simp
theorem decS_vM{l:Qb}(h:Jw l=some m):vM m.kind m.off m.tot m.ds.length m.data.length=true:=by
 unfold Jw at h;split at h
 ·split at h
  ·cases h
  ·unfold Pk at h
   split at h
   ·cases h
   ·split at h
    ·rename_i A; cases h; exact A
    ·cases h
 ·cases h
theorem frameS_vM{u:Nat}(h:pg s=some (m,u)):vM m.kind m.off m.tot m.ds.length m.data.length=true:=by
 unfold pg at h;split at h
 ·cases h
 ·split at h
  ·cases h
  ·split at h
   ·cases h
   ·simp only[Option.map_eq_some_iff,Prod.mk.injEq] at h
    obtain⟨m',A,rfl,_⟩:=h;exact decS_vM A
theorem scans_vM{ms:List Msg}{n:Nat}(h:BG s ms n):∀m∈ms,vM m.kind m.off m.tot m.ds.length m.data.length=true:=by
 induction h with
 | stop h=>intro m A; cases A
 | step h r ih=>
  intro m A;rcases List.mem_cons.1 A with rfl | A
  ·exact frameS_vM h
  ·exact ih m A
theorem chk_parts{x:Itm}(h:vg x=0):(bI x.data).2=0/\iY x.data=x.d:=by
 unfold vg at h;by_cases A:(bI x.data).2=0
 ·rw[if_neg (by simpa using A)] at h
  by_cases B:iY x.data=x.d
  ·exact⟨A,B⟩
  ·rw[if_pos B] at h; cases h
 ·rw[if_pos A] at h; cases h
theorem dec_len(h:(bI s).2=0):s.length<=65536:=by
 have A:=(kI (o:=(bI s).1) (Prod.ext rfl h)).1;unfold aR at A;split at A
 ·simp only[Prod.mk.injEq] at A; omega
 ·split at A
  ·simp at A
  ·simp only[Prod.mk.injEq] at A
   rw[<-A.1]; omega
theorem SesIn.far{s:Ses}{A:SesA}(h:SesIn W s A b)(E:W.heap.size<=B):SesIn W s A B:=
 ⟨h.hp,h.hr,h.hw,h.hc,h.hq,h.cq,h.cw,h.cc,fun ad e C=>by
  obtain⟨k,o,e2,D,_⟩:=h.hp.its 0 C;rw[e] at e2; cases e2;intro e3; injection e3 with e3; have e4:B=k:=e3; omega,fun C ad e=>by
  obtain⟨k,o,e2,D,_⟩:=h.hw 0 C;rw[e] at e2; cases e2;intro e3; injection e3 with e3; have e4:B=k:=e3; omega,fun C ad e=>by
  obtain⟨k,o,e2,D,_⟩:=h.hc 0 C;rw[e] at e2; cases e2;intro e3; injection e3 with e3; have e4:B=k:=e3; omega,fun ad e C=>by
  obtain⟨k,o,e2,D,_⟩:=h.hq 0 C;rw[e] at e2; cases e2;intro e3; injection e3 with e3; have e4:B=k:=e3; omega,h.ow,h.oc,h.ck,h.lx,h.ly,h.lw,h.lc,h.vp⟩
theorem unp_pool{s:Ses}{A:SesA}(h:SesIn W s A b){T:Qb}{Q:List Itm}(G:tu T s.xs=(Q,0)):Q.length<=s.xs.length+1000/\(∀x∈Q,vg x=0)/\Asc Q/\OU Q (s.xs.map (·.d))=s.xs/\∀c,Q.length<=c->Q.length<=100000->Ps Q c:=by
 have D:=OD h.hr.asc h.ck G;obtain⟨C,E⟩:=checkP_zero D.chk;have H:(bi T).1.length<=1000:=(uM (Prod.ext rfl D.ent)).2.1;exact⟨by have:=D.len; omega,C,E,D.keep,fun c F I=>⟨E,fun x B=>(chk_parts (C x B)).1,fun x B=>by rw[<-(chk_parts (C x B)).2]; exact digS_ok _,by omega,fun x B=>by have:=dec_len (chk_parts (C x B)).1; omega,F⟩⟩
