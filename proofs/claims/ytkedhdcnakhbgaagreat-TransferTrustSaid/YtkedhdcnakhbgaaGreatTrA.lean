/- transfer.hasAll and checkCommon. -/
import Derived.Test.YtkedhdcnakhbgaaGreatN2
set_option linter.unusedSimpArgs false
set_option maxRecDepth 100000
set_option maxHeartbeats 16000000
open Go.Lib (hid)
namespace Go.Proofs.YtkedhdcnakhbgaaGreat
open Go.RowKit Go.Shelf
set_option linter.unusedVariables false
def fullS(xs:List Itm)(l:Qd):Bool:=l.all (I7 xs)&&decide ((dh xs l).2=[])
theorem hasAll_any(a:Qa)(xs:List Itm)(c:Nat)(la:Qa)(l:Qd)(lc:Nat)(w:World)(hp:jQ w a xs c)(ha:Asc xs)(hl:dE w.heap.size w la l)(U:∀d∈l,OkD d)(X:(xs.length:Int)<=5000)(T:(l.length:Int)<=10000):
  Calls Tryz.prog 41 #[.slice a xs.length c,.slice la l.length lc] w fun e w'=>e=.returned (.bool (fullS xs l))/\PM w w':=by
 have F:=hid (fun x y W (hb:PM w W)=>I6 a xs c x y W (hp.below hb) ha);have HL:=hid hl;have B:=hid (fun W (hW:PM w W)=>zH a xs c la l lc W (hp.below hW) ha (hl.ahead hW) U X T);obtain⟨R,Z⟩:=Qe (fullS xs l);rw[<-Z];unfold fullS at Z;have H:=hid Z;generalize dh xs l=rr at B H;obtain⟨ra,rb⟩:=rr;simp only at H;obtain⟨n,hn⟩:=Qe l.length;have HN:=hid hn;obtain⟨m,hm⟩:=Qe rb.length;have HM:=hid hm;rw[<-hn] at B T ⊢;generalize xs.length=nx at F B ⊢;have K:=hid (Below.refl w.heap.size w);clear hp ha hl U X Z hn hm;go_enter Tryz.func41,Tryz.ntmps41;go_wp2_with fail;go_loopw [11] (fun i wr=>∃k:Nat,k<=n/\i=.int .i64 k/\Hid (PM w wr)/\Hid (∀d∈l.take k,I7 xs d=true)) (fun i _=>n-(intOf i).toNat)
 case atStart=>exact⟨0,by omega,rfl,K,hid (by simp)⟩
 case round=>
  clear K;obtain⟨k,hk,rfl,C,Y⟩:=hrel;by_cases C3:k<n
  ·have A9:(k:Int)<(n:Int):=by omega
   have I:k<l.length:=by have:=HN.out; omega
   obtain⟨b0,of0,A8,C2,q0,q1⟩:=(HL.out.ahead C.out) k I;have A6:=HL;subst A8;have Q:Hid (l.take (k+1)=l.take k++[l[k]]):=hid (ai I);have O:Hid (l[k]∈l):=hid (ak I);generalize l[k]=d at q0 q1 Q O;obtain⟨d1,d2⟩:=d;simp only at q0 q1;obtain⟨v,hv⟩:=Qe (wr.alloc (.cells #[.int .u64 d1,.int .u64 d2] 54));have S:PM wr v:=by rw[hv]; exact ba _ _
   have D:=hid (C.out.trans (S.mono C.out.size));have HC:=hid (F.out d1 d2 v D.out);rw[hv] at HC;have HV:=hid hv;clear hv S C A6;go_wp2_with fail
   refine HC.out.mono ?_;rintro e u ⟨rfl,G⟩
   rw[<-HV.out] at G;have M:=hid (D.out.trans (G.mono D.out.size));clear HC HV G D q0 q1;cases hh:I7 xs (d1,d2) with
   | false=>
    have E:Hid (R=false):=hid (by
     rw[H.out];have:l.all (I7 xs)=false:=by
      rw[Bool.eq_false_iff];intro h;rw[List.all_eq_true.1 h _ O.out] at hh;cases hh
     rw[this]; rfl)
    clear H;go_wp2_with fail;go_ret;exact⟨by rw[E.out]; rfl,M.out⟩
   | true=>
    have A4:Hid (∀d∈l.take (k+1),I7 xs d=true):=hid (fun d hd=>by
     rw[Q.out] at hd;rcases aD.1 hd with h | h
     ·exact Y.out d h
     ·rw[aH.1 h]; exact hh)
    clear Y hh;go_wp2_with fail;go_roundw
    case rel=>exact⟨k+1,by omega,by go_num,M,A4⟩
    case measure=>simp[intOf] <;> omega
  ·have A9:¬(k:Int)<(n:Int):=by omega
   have E:Hid (R=decide (rb=[])):=hid (by
    have I:=Y.out;rw[show l.take k=l from ag (by have:=HN.out; omega)] at I;rw[H.out,List.all_eq_true.2 I,Bool.true_and])
   obtain⟨x0,V⟩:=Qe wr;rw[<-V] at C ⊢;have N:=hid (B.out x0 C.out);clear V H B HL F Y;go_wp2_with fail
   refine N.out.mono ?_;rintro e u1 ⟨pa,pc,sa,sc,rfl,B3,B4,hb⟩
   have L:=hid (C.out.trans (hb.mono C.out.size));simp only;rw[<-HM.out];have P:Hid (R=(m==0)):=hid (by
    rw[E.out];have:=HM.out;cases rb with
    | nil=>simp at this; simp[this]
    | cons x y=>simp at this; simp[this])
   clear B3 B4 hb N C E;cases J:(m==0) with
   | true=>
    have B1:((m:Int)==0)=true:=by simp at J; simp[J]
    go_wp2_with fail;go_ret;exact⟨by rw[P.out,J]; rfl,L.out⟩
   | false=>
    have B1:((m:Int)==0)=false:=by simp at J; simp[J]
    go_wp2_with fail;go_ret;exact⟨by rw[P.out,J]; rfl,L.out⟩
def ckcS(xs:List Itm):Qd->Qd->Int
 | _,[]=>0
 | met,d::l=>if(aF xs d).2≠0 then(aF xs d).2 else if d∈met then ckcS xs met l else if(dh xs [d]).2≠[] then 8 else ckcS xs (met++(dh xs [d]).1) l
theorem ckcS_at{xs:List Itm}{l met:Qd}{k:Nat}(h:k<l.length):ckcS xs met (l.drop k)=if(aF xs l[k]).2≠0 then(aF xs l[k]).2 else if l[k]∈met then ckcS xs met (l.drop (k+1)) else if(dh xs [l[k]]).2≠[] then 8 else ckcS xs (met++(dh xs [l[k]]).1) (l.drop (k+1)):=by
 rw[aN h,ckcS]
theorem digs_bx1{W:World}{b:Nat}{x y:Int}{t:TypeId}(h:BK b #[.int .u64 x,.int .u64 y] t W):dE W.heap.size W (some ⟨b,0,none⟩) [(x,y)]:=by
 intro i A;have:i=0:=by simp at A; omega
 subst this;exact⟨b,0,rfl,h.lt,by rw[h.cell]; rfl,by rw[h.cell]; rfl⟩
theorem checkCommon_any(a:Qa)(xs:List Itm)(c:Nat)(la:Qa)(l:Qd)(lc:Nat)(w:World)(hp:jQ w a xs c)(ha:Asc xs)(hl:dE w.heap.size w la l)(C9:∀d∈l,OkD d)(F6:(xs.length:Int)<=100)(E9:(l.length:Int)<=1000):
  Calls Tryz.prog 40 #[.slice a xs.length c,.slice la l.length lc] w fun e w'=>e=.returned (.int .i64 (ckcS xs [] l))/\PM w w':=by
 have B6:=hid (fun p q W (hW:PM w W)=>Gr a xs c p q W (hp.below hW) ha);have C0:=hid (fun b x y W (hW:PM w W) (N:BK b #[.int .u64 x,.int .u64 y] 54 W) (ho:OkD (x,y))=>zH a xs c (some ⟨b,0,none⟩) [(x,y)] 1 W (hp.below hW) ha (digs_bx1 N) (by simpa using ho) (by omega) (by simp));obtain⟨M,hM⟩:∃M:Nat,M=100001:=⟨_,rfl⟩;have D8:Hid (∀d,OkD d->(dh xs [d]).1.length<=M/\∀e∈(dh xs [d]).1,OkD e):=hid (fun d hd=>by
  obtain⟨h1,h2⟩:=Cg xs [d];have h3:jC xs [d]<=M:=by unfold jC; simp only[az,aK]; omega
  exact⟨by omega,fun e he=>H7 (by simpa using hd) (((gW xs [d]).2.2 e).1.1 he).1⟩)
 have HL:=hid hl;have E0:=hid C9;have F0:=@run_makeMap Tryz.prog;obtain⟨R,hR⟩:=Qe (ckcS xs [] l);rw[<-hR];have HR:=hid hR;obtain⟨n,hn⟩:=Qe l.length;have HN:=hid hn;rw[<-hn] at E9 ⊢;have C1:Hid (mW w.heap.size [] (w.alloc (.map #[] 0))):=hid (mW.made w);have B4:Hid (PM w (w.alloc (.map #[] 0))):=hid (ba w _);generalize xs.length=nx at B6 C0 ⊢;have B7:=hid hM;clear hp ha hl C9 F6 hR hn hM;go_enter Tryz.func40,Tryz.ntmps40;go_wp2_with fail;go_loopw [17] (fun i wr=>∃(k:Nat) (met:Qd),k<=n/\i=.int .i64 k/\met.length<=k*M/\Hid (mW w.heap.size met wr)/\Hid (PM w wr)/\Hid (R=ckcS xs met (l.drop k))) (fun i _=>n-(intOf i).toNat)
 case atStart=>exact⟨0,[],by omega,rfl,by simp,C1,B4,hid (by rw[HR.out]; rfl)⟩
 case round=>
  clear C1 B4 F0 HR;obtain⟨k,met,hk,rfl,H1,HS,O,HR⟩:=hrel;by_cases H0:k<n
  ·have E8:(k:Int)<(n:Int):=by omega
   have h1:k<l.length:=by have:=HN.out; omega
   obtain⟨b0,of0,T,E6,q0,q1⟩:=(HL.out.ahead O.out) k h1;have D9:=HL;subst T;have A0:=E0.out _ (ak h1);have F:=hid (HR.out.trans (ckcS_at h1));generalize l[k]=d at q0 q1 A0 F;obtain⟨d1,d2⟩:=d;simp only at q0 q1;have H:=hid (D8.out _ A0);obtain⟨v,hv⟩:=Qe (wr.alloc (.cells #[.int .u64 d1,.int .u64 d2] 54));have E:PM wr v:=by rw[hv]; exact ba _ _
   have A8:Hid (BK wr.heap.size #[.int .u64 d1,.int .u64 d2] 54 v):=hid (by rw[hv]; exact BK.new _ _ _);have X:=hid (O.out.trans (E.mono O.out.size));have C4:=hid (HS.out.below E);have HC:=hid (B6.out d1 d2 v X.out);generalize aF xs (d1,d2)=CR at HC F;obtain⟨⟨kind,data,ents,⟨t1,t2⟩,pars,author,time,msg⟩,er⟩:=CR;simp only at HC F;obtain⟨q,hq⟩:=Qe wr.heap.size;have HQ:Hid (q=wr.heap.size):=hid hq;have H4:w.heap.size<=q:=by rw[hq]; exact O.out.size
   rw[<-hq] at A8;rw[hv] at HC;have HV:=hid hv;clear hv E O HS D9 HR hq;go_wp2_with fail
   refine HC.out.mono ?_;rintro e u ⟨ea,ec,pa,pc,rfl,F3,N⟩
   rw[<-HV.out] at N;simp only[Ob.val];have A4:=hid (X.out.trans (N.mono X.out.size));have C7:=hid (A8.out.below N);have C3:=hid (C4.out.below N);generalize pars.length=np;generalize ents.length=ne;obtain⟨v2,B1⟩:=Qe (u.alloc (.cells #[.int .i64 kind,.string ⟨data.toArray⟩,.slice ea ne ec,.int .u64 t1,.int .u64 t2,.slice pa np pc,.string ⟨author.toArray⟩,.int .i64 time,.string ⟨msg.toArray⟩] 59));have E:PM u v2:=by rw[B1]; exact ba _ _
   have P:=hid (A4.out.trans (E.mono A4.out.size));have A7:=hid (C7.out.below E);have Z:=hid (C3.out.below E);have G:=hid B1;rw[<-HQ.out];clear F3 N E B1 HC HV X A8 C4 A4 C7 C3 q0 q1 HQ;by_cases he:er=0
   ·subst he
    have C:=hid (F.out.trans (if_neg (by simp)));have B:=Z.out.look A0;obtain⟨x0,x1⟩:=BK.c2 (show BK _ #[.int .u64 d1,.int .u64 d2] _ _ from A7.out);rw[G.out] at B x0 x1;clear F;cases K:decide ((d1,d2)∈met) with
    | true=>
     rw[K] at B;have D:=hid (C.out.trans (if_pos (by simpa using K)));clear C K A7;go_wp2_with fail;rw[<-G.out];go_roundw
     case rel=>exact⟨k+1,met,by omega,by go_num,by rw[rM]; omega,Z,P,D⟩
     case measure=>simp[intOf] <;> omega
    | false=>
     rw[K] at B;have D:=hid (C.out.trans (if_neg (by simpa using K)));obtain⟨v3,V⟩:=Qe (v2.alloc (.cells #[.int .u64 d1,.int .u64 d2] 54));have A9:PM v2 v3:=by rw[V]; exact ba _ _
     have I:=hid (P.out.trans (A9.mono P.out.size));have S:=hid (Z.out.below A9);have J:=hid (C0.out v2.heap.size d1 d2 v3 I.out (by rw[V]; exact BK.new _ _ _) A0);generalize dh xs [(d1,d2)]=rr at J D H;obtain⟨ra,rb⟩:=rr;simp only at J D H;have F5:=H.out.1;obtain⟨nra,U⟩:=Qe ra.length;have Q:=hid U;obtain⟨nrb,A1⟩:=Qe rb.length;have Y:=hid A1;rw[<-U] at F5;have G6:(nra:Int)<=200000:=by have:=B7.out; omega
     have D2:v2.heap.size=u.heap.size+1:=by rw[G.out]; simp
     rw[D2,V,G.out] at J;have C6:=hid (V.trans (by rw[G.out]));simp only[az,aK,aZ] at J;clear C K A7 P Z V A9 U A1 D2;go_wp2_with fail
     refine J.out.mono ?_;rintro e u3 ⟨pa,pc,sa,sc,rfl,L,F2,N⟩
     rw[<-C6.out] at N L;simp only at L ⊢;rw[<-Q.out] at L ⊢;rw[<-Y.out];have A3:=hid (I.out.trans (N.mono I.out.size));have C2:=hid (S.out.below N);have B8:=hid (kr Q.out L);have B9:Hid (∀ad,pa=some ad->ad.block≠w.heap.size):=hid (fun ad e=>by
      subst e;have h5:=(L.lt ad.block rfl).1;have h6:=S.out.lt
      omega)
     clear L F2 N J I S C6 B x0 x1 G;by_cases hz:0<nrb
     ·have F8:(0:Int)<(nrb:Int):=by omega
      have A5:Hid (R=8):=hid (D.out.trans (if_pos (fun e=>by have:=Y.out; rw[e] at this; simp at this; omega)));clear D;go_wp2_with fail;go_ret;exact⟨by rw[A5.out]; rfl,A3.out⟩
     ·have F8:¬(0:Int)<(nrb:Int):=by omega
      have A5:Hid (R=ckcS xs (met++ra) (l.drop (k+1))):=hid (D.out.trans (if_neg (fun e=>e (by have:=Y.out; cases rb with | nil=>rfl | cons a b=>simp at this; omega))));clear D Y;go_wp2_with fail;go_loopw [45] (fun i wr=>∃j:Nat,j<=nra/\i=.int .i64 j/\Hid (mW w.heap.size (met++ra.take j) wr)/\Hid (PM w wr)/\Hid (dE wr.heap.size wr pa ra)) (fun i _=>nra-(intOf i).toNat)
      case atStart=>exact⟨0,by omega,rfl,hid (C2.out.eq (by simp)),A3,B8⟩
      case round=>
       clear A3 C2 B8;obtain⟨j,hj,rfl,HS,O,HE⟩:=hrel;by_cases G5:j<nra
       ·have E7:(j:Int)<(nra:Int):=by omega
        have h2:j<ra.length:=by have:=Q.out; omega
        obtain⟨b0,of0,T,E6,q0,q1⟩:=HE.out j h2;have C8:some w.heap.size≠some b0:=fun e=>B9.out _ T (by injection e with e; exact e.symm)
        have E1:=B9;have A2:=H.out.2 _ (ak h2);have C5:Hid (ra.take (j+1)=ra.take j++[ra[j]]):=hid (ai h2);generalize ra[j]=g at q0 q1 A2 C5;obtain⟨g1,g2⟩:=g;simp only at q0 q1;obtain⟨u1,H3,D0,B0,F7⟩:=(HS.out.alloc (.cells #[.int .u64 g1,.int .u64 g2] 54)).put A2 (by
         rw[af,aA];have h9:k*M<=1000*M:=pK _ (by omega);have G7:=B7.out
         omega)
        have S:Hid (mW w.heap.size (met++ra.take (j+1)) u1):=hid (D0.eq (by rw[C5.out,ay]));have I:Hid (PM w u1):=hid (FU (O.out.alloc O.out.size _) B0 nr);have D7:Hid (dE u1.heap.size u1 pa ra):=hid (dE.kept (((HE.out.below ((Below.refl wr.heap.size wr).alloc nr _) nr)).mono (by simp)) B0 (fun _ ad e=>by rw[T] at e; cases e; exact C8));subst T;clear D0 B0 F7 HS O HE E1 C8;go_wp2_with fail;go_roundw
        case rel=>exact⟨j+1,by omega,by go_num,S,I,D7⟩
        case measure=>simp[intOf] <;> omega
       ·have E7:¬(j:Int)<(nra:Int):=by omega
        have E2:Hid (mW w.heap.size (met++ra) wr):=hid (HS.out.eq (by rw[ag (by have:=Q.out; omega)]));clear HS;go_wp2_with fail;go_roundw
        case rel=>exact⟨k+1,met++ra,by omega,by go_num,by rw[af,<-Q.out,rM]; omega,E2,O,A5⟩
        case measure=>simp[intOf] <;> omega
   ·have G9:(er !=0)=true:=by simpa using he
    have C:Hid (R=er):=hid (F.out.trans (if_pos he));clear F he;go_wp2_with fail;rw[<-G.out];go_ret;exact⟨by rw[C.out]; rfl,P.out⟩
  ·have E8:¬(k:Int)<(n:Int):=by omega
   have C:Hid (R=0):=hid (by rw[HR.out,kR (by have:=HN.out; omega),ckcS]);go_wp2_with fail;go_ret;exact⟨by rw[C.out]; rfl,O.out⟩
