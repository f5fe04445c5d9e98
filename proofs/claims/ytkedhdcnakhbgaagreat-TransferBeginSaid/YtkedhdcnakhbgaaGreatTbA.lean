/- ref17.All. -/
import Derived.Test.YtkedhdcnakhbgaaGreatT1
import Derived.Test.YtkedhdcnakhbgaaGreatK9
set_option linter.unusedSimpArgs false
set_option maxRecDepth 100000
set_option maxHeartbeats 16000000
namespace Go.Proofs.YtkedhdcnakhbgaaGreat
open Go.RowKit Go.Shelf
set_option linter.unusedVariables false
theorem rall17_any(a:Qa)(xs:List Itm)(c:Nat)(la:Qa)(l:Qd)(lc:Nat)(w:World)(hp:Its w.heap.size w a xs)(ha:Asc xs)(hl:dE w.heap.size w la l)(U:(xs.length:Int)<=80)(S:(l.length:Int)<=10000)(Q:∀x∈xs,(x.data.length:Int)<=1000000):
  Qh 31 #[.slice a xs.length c,.slice la l.length lc] w fun e w'=>e=.returned (.bool (fullS xs l))/\PM w w':=by
 have E:=Qf (fun x y W (Y:PM w W)=>rhas_any a xs c x y W (hp.ahead Y) ha (by omega));have HL:=Qf hl;have B:=Qf (fun W (hW:PM w W)=>rreach_any a xs c la l lc W (hp.ahead hW) ha (hl.ahead hW) U S Q);obtain⟨R,X⟩:=Qe (fullS xs l);rw[<-X];unfold fullS at X;have F:=Qf X;generalize dh xs l=rr at B F;obtain⟨ra,rb⟩:=rr;simp only at F;obtain⟨n,hn⟩:=Qe l.length;have HN:=Qf hn;obtain⟨m,hm⟩:=Qe rb.length;have HM:=Qf hm;rw[<-hn] at B S ⊢;generalize xs.length=nx at E B ⊢;have I:=Qf (Below.refl w.heap.size w);clear hp ha hl U X hn hm Q;go_enter Tryz.func31,Tryz.ntmps31;go_wp2_with fail;go_loopw [5] (fun i wr=>∃k:Nat,k<=n/\i=.int .i64 k/\Qg (PM w wr)/\Qg (∀d∈l.take k,I7 xs d=true)) (fun i _=>n-(intOf i).toNat)
 case atStart=>exact⟨0,by omega,rfl,I,Qf (by simp)⟩
 case round=>
  clear I;obtain⟨k,hk,rfl,C,V⟩:=hrel;by_cases B8:k<n
  ·have A3:(k:Int)<(n:Int):=by omega
   have G:k<l.length:=by have:=HN.o; omega
   obtain⟨b0,of0,A2,B7,q0,q1⟩:=(HL.o.ahead C.out) k G;subst A2;have O:Qg (l.take (k+1)=l.take k++[l[k]]):=Qf (ai G);have M:Qg (l[k]∈l):=Qf (ak G);generalize l[k]=d at q0 q1 O M;obtain⟨d1,d2⟩:=d;simp only at q0 q1;have HC:=Qf (E.o d1 d2 wr C.out);go_wp2_with fail
   refine HC.o.mono ?_;rintro e u ⟨rfl,P⟩
   have K:=Qf (C.out.trans (P.mono C.out.size));clear HC P C q0 q1;cases Z:I7 xs (d1,d2) with
   | false=>
    have D:Qg (R=false):=Qf (by
     rw[F.o];have:l.all (I7 xs)=false:=by
      rw[Bool.eq_false_iff];intro h;rw[List.all_eq_true.1 h _ M.o] at Z;cases Z
     rw[this]; rfl)
    clear F;go_wp2_with fail;go_ret;exact⟨by rw[D.o]; rfl,K.o⟩
   | true=>
    have A0:Qg (∀d∈l.take (k+1),I7 xs d=true):=Qf (fun d hd=>by
     rw[O.o] at hd;rcases aD.1 hd with h | h
     ·exact V.out d h
     ·rw[aH.1 h]; exact Z)
    clear V Z;go_wp2_with fail;go_roundw
    case rel=>exact⟨k+1,by omega,by go_num,K,A0⟩
    case measure=>simp[intOf] <;> omega
  ·have A3:¬(k:Int)<(n:Int):=by omega
   have D:Qg (R=decide (rb=[])):=Qf (by
    have G:=V.out;rw[show l.take k=l from ag (by have:=HN.o; omega)] at G;rw[F.o,List.all_eq_true.2 G,Bool.true_and])
   obtain⟨x0,T⟩:=Qe wr;rw[<-T] at C ⊢;have L:=Qf (B.o x0 C.out);clear T F B HL E V;go_wp2_with fail
   refine L.o.mono ?_;rintro e u1 ⟨pa,pc,sa,sc,rfl,A7,A8,Y⟩
   have J:=Qf (C.out.trans (Y.mono C.out.size));simp only;rw[<-HM.o];have N:Qg (R=(m==0)):=Qf (by
    rw[D.o];have:=HM.o;cases rb with
    | nil=>simp at this; simp[this]
    | cons x y=>simp at this; simp[this])
   clear A7 A8 Y L C D;cases H:(m==0) with
   | true=>
    have A5:((m:Int)==0)=true:=by simp at H; simp[H]
    go_wp2_with fail;go_ret;exact⟨by rw[N.o,H]; rfl,J.o⟩
   | false=>
    have A5:((m:Int)==0)=false:=by simp at H; simp[H]
    go_wp2_with fail;go_ret;exact⟨by rw[N.o,H]; rfl,J.o⟩
