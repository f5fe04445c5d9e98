/- transfer: parse, reply, Serve. -/
import Derived.Test.YtkedhdcnakhbgaaGreatTrC
import Derived.Test.YtkedhdcnakhbgaaGreatW2
import Derived.Test.YtkedhdcnakhbgaaGreatP1
set_option linter.unusedSimpArgs false
set_option maxRecDepth 100000
set_option maxHeartbeats 16000000
namespace Go.Proofs.YtkedhdcnakhbgaaGreat
open Go.RowKit Go.Shelf
set_option linter.unusedVariables false
def okM(ms:List Msg)(n len:Nat):Bool:=match ms with
 | [a]=>decide (n=len)&&decide (a.kind=1)
 | [a,b]=>decide (n=len)&&decide (a.kind=1)&&decide (b.kind=3)
 | _=>false
def GotPr(L:Qb)(w:World)(e:Ending)(w':World):Prop:=∃ms n,BG L ms n/\PM w w'/\((okM ms n L.length=true/\∃a c,e=.returned (.tuple #[.slice a ms.length c,.bool true])/\GQ w'.heap.size w' a ms/\MsCap w' a ms)\/(okM ms n L.length=false/\e=.returned (.tuple #[.slice none 0 0,.bool false])))
theorem parse_any(L:Qb)(w:World)(hL:(L.length:Int)<=1000000000000):
  Qh 47 #[.string ⟨L.toArray⟩] w (GotPr L w):=by
 have HS:=Qf (PD L w hL);have Z:=bH L;obtain⟨N,U⟩:=Qe L.length;rw[<-U] at Z;have HN:=Qf U;clear U;go_enter Tryz.func47,Tryz.ntmps47;go_wp2_with fail
 refine HS.o.mono ?_;rintro e u ⟨ms,n,a,c,R,rfl,hm,hb,K,V,P⟩
 have G:=Qf R;have E:=Qf hm;have T:=Qf hb;have M:=Qf P;clear R hm hb V P HS;have C:Qg (okM ms n L.length=false->GotPr L w (.returned (.tuple #[.slice none 0 0,.bool false])) u):=Qf (fun h=>⟨ms,n,G.o,T.o,.inr ⟨h,rfl⟩⟩);have B:Qg (okM ms n L.length=true->GotPr L w (.returned (.tuple #[.slice a ms.length c,.bool true])) u):=Qf (fun h=>⟨ms,n,G.o,T.o,.inl ⟨h,a,c,rfl,E.o,M.o⟩⟩);rw[<-HN.o] at C B;clear HN G T M;by_cases S:n=N
 ·subst S
  have X:((n:Int) !=(n:Int))=false:=by simp
  match ms,E,C,B,K with
  | [],E,C,B,K=>
   simp only[aK];have D:=C.o rfl;go_wp2_with fail;go_ret2;exact D
  | [m0],E,C,B,K=>
   obtain⟨b0,o0,da,cd,H,W,q0,q1,q2,q3,q4,q5,A6⟩:=E.o 0 (by simp);subst H;simp only[az,aK,aZ];simp only[aS,dG,Nat.add_zero] at q0;have F:Qg (okM [m0] n n=decide (m0.kind=1)):=Qf (by simp[okM]);generalize m0.kind=k0 at q0 F;by_cases I:k0=1
   ·subst I
    have D:=B.o (by rw[F.o]; rfl);simp only[az,aK,aZ] at D;clear E C B F;go_wp2_with fail;go_ret2;exact D
   ·have Q:(k0 !=1)=true:=by simpa using I
    have D:=C.o (by rw[F.o]; simpa using I);clear E C B F;go_wp2_with fail;go_ret2;exact D
  | [m0,m1],E,C,B,K=>
   obtain⟨b0,o0,da,cd,H,W,q0,_,_,_,_,_,_⟩:=E.o 0 (by simp);obtain⟨b1,o1,da1,cd1,O,A3,r0,_,_,_,_,_,_⟩:=E.o 1 (by simp);subst H;cases O;simp only[az,aK,aZ,Nat.reduceAdd];simp only[aS,bK,dG,Nat.one_mul,Nat.add_zero] at q0 r0;have F:Qg (okM [m0,m1] n n=(decide (m0.kind=1)&&decide (m1.kind=3))):=Qf (by simp[okM]);generalize m0.kind=k0 at q0 F;generalize m1.kind=k1 at r0 F;by_cases I:k0=1
   ·subst I
    by_cases J:k1=3
    ·subst J
     have D:=B.o (by rw[F.o]; rfl);simp only[az,aK,aZ,Nat.reduceAdd] at D;clear E C B F;go_wp2_with fail;go_ret2;exact D
    ·have Q:(k1 !=3)=true:=by simpa using J
     have D:=C.o (by rw[F.o]; simpa using J);clear E C B F;go_wp2_with fail;go_ret2;exact D
   ·have Q:(k0 !=1)=true:=by simpa using I
    have D:=C.o (by rw[F.o]; simp[I]);clear E C B F;go_wp2_with fail;go_ret2;exact D
  | m0::m1::m2::r,E,C,B,K=>
   have D:=C.o rfl;obtain⟨q,Y⟩:=Qe ((m0::m1::m2::r).length);rw[<-Y] at K ⊢;have A8:(2:Int)<(q:Int):=by rw[Y]; simp only[az]; omega
   have A7:¬(q:Int)<1:=by omega
   clear E C B Y;go_wp2_with fail;go_ret2;exact D
 ·have X:((n:Int) !=(N:Int))=true:=by simp; omega
  have D:=C.o (by
   match ms with
   | []=>rfl
   | [m0]=>simp[okM,S]
   | [m0,m1]=>simp[okM,S]
   | m0::m1::m2::r=>rfl)
  clear E C B S;go_wp2_with fail;go_ret2;exact D
