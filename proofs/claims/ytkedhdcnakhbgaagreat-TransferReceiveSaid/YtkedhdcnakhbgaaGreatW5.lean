/- Lemmas. -/
import Derived.Test.YtkedhdcnakhbgaaGreatW2
import Derived.Deep.RegionHeld3
import Derived.BigRegion
import Derived.Test.YtkedhdcnakhbgaaGreatW3
import Derived.Deep.AppendLies
import Derived.Laws.AppendOwnNone
set_option linter.unusedSimpArgs false
set_option maxRecDepth 100000
set_option maxHeartbeats 16000000
namespace Go.Proofs.YtkedhdcnakhbgaaGreat
open Tryz
open Go.RowKit
variable {id mid mtot off po tot:Int}{as_ bs ps:List P}{b6 base k n nd:Nat}{a b p:P}{PT data:Qb}{v v7 v8:Value}{u w w' z:World}
def agr(a b:P):Bool:=
 decide (min (PU a) (PU b)<=max a.1 b.1)||decide ((a.2.drop (max a.1 b.1-a.1).toNat).take (min (PU a) (PU b)-max a.1 b.1).toNat=(b.2.drop (max a.1 b.1-b.1).toNat).take (min (PU a) (PU b)-max a.1 b.1).toNat)
theorem agree_any(oa ob:Int)(A B:Qb)(w:World)(A0:0<=oa)(A1:oa<=1048576)(A2:0<=ob)(A3:ob<=1048576)(hA:(A.length:Int)<=1048576)(hB:(B.length:Int)<=1048576):
  Qh 161 #[.agg #[Yi oa,A],.agg #[Yi ob,B]] w (Xz (.bool (agr (oa,A) (ob,B))) w):=by
 obtain⟨R,K⟩:=Qe (agr (oa,A) (ob,B));rw[<-K];unfold agr at K;simp only[PU] at K;obtain⟨lo,G⟩:=Qe (max oa ob);obtain⟨C,F⟩:=Qe (min (oa+(A.length:Int)) (ob+(B.length:Int)));rw[<-G,<-F] at K;have B1:(if oa<ob then ob else oa)=lo:=by rw[G]; split <;> omega
 have B0:(if ob+(B.length:Int)<oa+(A.length:Int) then ob+(B.length:Int) else oa+(A.length:Int))=C:=by rw[F]; split <;> omega
 have S:max oa ob=lo:=G.symm;have Q:min (oa+(A.length:Int)) (ob+(B.length:Int))=C:=F.symm;have A7:oa<=lo:=Zo;have A8:ob<=lo:=Zo;have A4:C<=oa+A.length:=Zo;have A5:C<=ob+B.length:=Zo;have A9:lo<=1048576:=Zo;have A6:0<=C:=Zo;have N:=Qf K;clear G F K;obtain⟨W,H⟩:∃W:World,(w.alloc (.cells #[Yi oa,A] 78)).alloc (.cells #[Yi ob,B] 78)=W:=⟨_,rfl⟩;have E:Qg (PM w W):=Qf (H▸(ba w _).alloc (by simp) _);have w0:W.cell? w=some (Yi oa):=by rw[<-H]; simp[go_sem]
 have w1:W.cell? ⟨w,1,none⟩=some (.string ⟨A.toArray⟩):=by rw[<-H]; simp[go_sem]
 have w2:W.cell? ⟨(w:Nat)+1,0,none⟩=some (Yi ob):=by rw[<-H]; simp[go_sem]
 have w3:W.cell? ⟨(w:Nat)+1,1,none⟩=some (.string ⟨B.toArray⟩):=by rw[<-H]; simp[go_sem]
 have q1:IntKind.i64.wrap (oa+(A.length:Int))=oa+(A.length:Int):=IntWalk.i64_in _ Zo;have q2:IntKind.i64.wrap (ob+(B.length:Int))=ob+(B.length:Int):=IntWalk.i64_in _ Zo;have P:=Qf H;clear H;by_cases D:C<=lo
 ·have O:Qg (R=true):=Qf (by rw[N.o,XI D,Bool.true_or]);have d0:decide (C<=lo)=true:=Zu D;clear N D;go_enter func161,ntmps161;go_wp2_with fail;rw[P.o];go_quiet (fail);go_wp2_with fail;go_quiet (fail);go_wp2_with fail;go_ret;exact⟨Zw O.o,by first | exact below_drewN (below_drewN E.o _) _ | exact below_drewN E.o _⟩
 ·have d0:decide (C<=lo)=false:=Zu D;obtain⟨sa,I⟩:∃sa:Nat,lo-oa=(sa:Int):=⟨(lo-oa).toNat,Zo⟩;obtain⟨ea,L⟩:∃ea:Nat,C-oa=(ea:Int):=⟨(C-oa).toNat,Zo⟩;obtain⟨sb,J⟩:∃sb:Nat,lo-ob=(sb:Int):=⟨(lo-ob).toNat,Zo⟩;obtain⟨eb,M⟩:∃eb:Nat,C-ob=(eb:Int):=⟨(C-ob).toNat,Zo⟩;obtain⟨X,V,T⟩:∃X:Qb,Qg (X=(A.drop sa).take (ea-sa))/\∀W,(Instr.slice 9 (.string ⟨A.toArray⟩) (some (Yi sa)) (some (Yi ea)) none).run prog W=.ok (.string ⟨X.toArray⟩) W:=
   ⟨_,Qf rfl,fun W=>DD A sa ea Zo Zo W⟩
  obtain⟨Y,Z,U⟩:∃Y:Qb,Qg (Y=(B.drop sb).take (eb-sb))/\∀W,(Instr.slice 9 (.string ⟨B.toArray⟩) (some (Yi sb)) (some (Yi eb)) none).run prog W=.ok (.string ⟨Y.toArray⟩) W:=
   ⟨_,Qf rfl,fun W=>DD B sb eb Zo Zo W⟩
  have O:Qg (R=(X==Y)):=Qf (by
   rw[N.o,d0,Bool.false_or,V.out,Z.out,I,J,aj,aj,show(C-lo).toNat=ea-sa by omega,show ea-sa=eb-sb by omega];rw[YF]; simp)
  have q3:IntKind.i64.wrap (lo-oa)=(sa:Int):=I▸IntWalk.i64_in _ (by omega);have q4:IntKind.i64.wrap (C-oa)=(ea:Int):=L▸IntWalk.i64_in _ (by omega);have q5:IntKind.i64.wrap (lo-ob)=(sb:Int):=J▸IntWalk.i64_in _ (by omega);have q6:IntKind.i64.wrap (C-ob)=(eb:Int):=M▸IntWalk.i64_in _ (by omega);have l1:(sa:Int)<=(ea:Int):=Zo;have l2:(ea:Int)<=(A.length:Int):=Zo;have l3:(sb:Int)<=(eb:Int):=Zo;have l4:(eb:Int)<=(B.length:Int):=Zo;clear N D I L J M;go_enter func161,ntmps161;go_wp2_with fail;rw[P.o];go_quiet (fail);go_wp2_with fail;go_quiet (fail);go_wp2_with fail;go_ret;exact⟨Zw O.o,by first | exact below_drewN (below_drewN E.o _) _ | exact below_drewN E.o _⟩
def rjo(a b:P):P:=if PU b<=PU a then a else(a.1,a.2.take (b.1-a.1).toNat++b.2)
def rjoin(a b:P):P:=if b.1<a.1 then rjo b a else rjo a b
def Rj(w:World)(r:P)(e:Ending)(w':World):Prop:=e=.returned (.agg #[Yi r.1,.string ⟨r.2.toArray⟩])/\PM w w'
theorem Rj.mk{r:P}{o:Int}{T:Qb}(h:r=(o,T))(A:PM w w'):Rj w r (.returned (.agg #[Yi o,T])) w':=by subst h; exact⟨rfl,A⟩
theorem refJoin_ord(oa ob:Int)(A B:Qb)(w:World)(Q:0<=oa)(S:oa<=1048576)(T:0<=ob)(U:ob<=1048576)(Y:(A.length:Int)<=1048576)(hB:(B.length:Int)<=1048576)(ho:oa<=ob)(ht:ob<=oa+A.length):
  Qh 162 #[.agg #[Yi oa,A],.agg #[Yi ob,B]] w (Rj w (rjo (oa,A) (ob,B))):=by
 obtain⟨R,D⟩:=Qe (rjo (oa,A) (ob,B));rw[<-D];unfold rjo at D;simp only[PU] at D;have V:¬ob<oa:=Zo;obtain⟨W,C⟩:∃W:World,(((w.alloc (.cells #[Yi oa,A] 78)).alloc (.cells #[Yi ob,B] 78)).alloc (.cells #[Yi 0,Ye] 78))=W:=⟨_,rfl⟩;have H:Qg (PM w W):=Qf (by rw[<-C]; exact((ba w _).alloc Zs _).alloc Zt _);have w0:W.cell? w=some (Yi oa):=by rw[<-C]; simp[go_sem]
 have w1:W.cell? ⟨w,1,none⟩=some (.string ⟨A.toArray⟩):=by rw[<-C]; simp[go_sem]
 have w2:W.cell? ⟨(w:Nat)+1,0,none⟩=some (Yi ob):=by rw[<-C]; simp[go_sem]
 have w3:W.cell? ⟨(w:Nat)+1,1,none⟩=some (.string ⟨B.toArray⟩):=by rw[<-C]; simp[go_sem]
 have w4:W.cell? ⟨(w:Nat)+1+1,0,none⟩=some (Yi 0):=by rw[<-C]; simp[go_sem]
 have w5:W.cell? ⟨(w:Nat)+1+1,1,none⟩=some (.string ⟨#[]⟩):=by rw[<-C]; simp[go_sem]
 have f4:W.frozen? ⟨(w:Nat)+1+1,0,none⟩=false:=by rw[<-C]; simp[go_sem]
 have f5:W.frozen? ⟨(w:Nat)+1+1,1,none⟩=false:=by rw[<-C]; simp[go_sem]
 have O:(w:Nat)+3<=(W:Nat):=by rw[<-C]; simp[go_sem]
 have L:=Qf C;clear C;by_cases N:ob+(B.length:Int)<=oa+A.length
 ·have F:Qg (R=(oa,A)):=Qf (by rw[D,if_pos N]);clear D;go_enter func162,ntmps162;go_wp2_with fail
  try rw[L.o]
  refine XB (v:=.agg #[Yi oa,A]) (by simp[results,results162,go_sem]) rfl (Rj.mk F.o ?_);exact((ba w _).alloc Zs _).alloc Zt _
 ·obtain⟨st,E⟩:∃st:Nat,ob-oa=(st:Int):=⟨(ob-oa).toNat,Zo⟩;have F:Qg (R=(oa,A.take st++B)):=Qf (by rw[D,if_neg N,E,aj]);have q1:IntKind.i64.wrap (ob-oa)=(st:Int):=E▸IntWalk.i64_in _ (by omega);have J:=fun W=>OJ A st Zo W
  obtain⟨Z,I⟩:=Qe (A.take st);rw[<-I] at J F;have P:(Z.length:Int)<=1048576:=by rw[I,aA]; omega
  have M:∀W,(Op.stringOp .add ⟨Z.toArray⟩ ⟨B.toArray⟩).run prog W=.ok (.string ⟨(Z++B).toArray⟩) W:=fun W=>run_string_add_lists W Z B Zo Zo
  have l1:(0:Int)<=(st:Int):=Zo;have l2:(st:Int)<=(A.length:Int):=Zo;clear D I;go_enter func162,ntmps162;go_wp2_with fail
  try rw[L.o]
  clear E;have K:Qg (∀X,Below ((w:Nat)+2) W X->X.cell? w=some (Yi oa)/\X.cell? ⟨w,1,none⟩=some (.string ⟨A.toArray⟩)/\X.cell? ⟨(w:Nat)+1,0,none⟩=some (Yi ob)/\X.cell? ⟨(w:Nat)+1,1,none⟩=some (.string ⟨B.toArray⟩)):=Qf (fun X G=>
   ⟨(G.cell (p:=⟨w,0,none⟩) Zs).trans w0,(G.cell (p:=⟨w,1,none⟩) Zs).trans w1,(G.cell (p:=⟨(w:Nat)+1,0,none⟩) Zs).trans w2,(G.cell (p:=⟨(w:Nat)+1,1,none⟩) Zs).trans w3⟩)
  go_region_held3 (fun w'=>w'.cell? w=some (Yi oa)/\w'.cell? ⟨w,1,none⟩=some (.string ⟨A.toArray⟩)/\w'.cell? ⟨(w:Nat)+1,0,none⟩=some (Yi ob)/\w'.cell? ⟨(w:Nat)+1,1,none⟩=some (.string ⟨B.toArray⟩))
   (first
    | exact K.o _ (bf _).drew
    | exact K.o _ (((bf _).setCell Zs _).setCell Zs _).drew)
   (fail)
  all_goals
   go_wp2;refine XB (v:=.agg #[Yi oa,(Z++B)]) (by simp[results,results162,go_sem,w4,w5]) rfl (Rj.mk F.o ?_);exact((H.o.setCell Zt _).setCell Zt _).drew
theorem refJoin_any(oa ob:Int)(A B:Qb)(w:World)(D:0<=oa)(E:oa<=1048576)(F:0<=ob)(G:ob<=1048576)(J:(A.length:Int)<=1048576)(K:(B.length:Int)<=1048576)(M:ob<=oa+A.length)(H:oa<=ob+B.length):
  Qh 162 #[.agg #[Yi oa,A],.agg #[Yi ob,B]] w (Rj w (rjoin (oa,A) (ob,B))):=by
 by_cases h:ob<oa
 ·rw[show rjoin (oa,A) (ob,B)=rjo (ob,B) (oa,A) from if_pos h];have I:=Qf (fun X=>refJoin_ord ob oa B A X F G D E K J Zo H);generalize rjo (ob,B) (oa,A)=R at I;obtain⟨ro,RT⟩:=R;go_enter func162,ntmps162;go_wp2_with fail;refine(I.o _).mono ?_;rintro e x ⟨rfl,C⟩;have L:=Qf C;have y4:x.cell? ⟨(w:Nat)+1+1,0,none⟩=some (Yi 0):=(C.cell (p:=⟨(w:Nat)+1+1,0,none⟩) Zs).trans (by simp[go_sem]);have y5:x.cell? ⟨(w:Nat)+1+1,1,none⟩=some (.string ⟨#[]⟩):=(C.cell (p:=⟨(w:Nat)+1+1,1,none⟩) Zs).trans (by simp[go_sem]);have z4:x.frozen? ⟨(w:Nat)+1+1,0,none⟩=false:=(C.frozen (p:=⟨(w:Nat)+1+1,0,none⟩) Zs).trans (by simp[go_sem]);have z5:x.frozen? ⟨(w:Nat)+1+1,1,none⟩=false:=(C.frozen (p:=⟨(w:Nat)+1+1,1,none⟩) Zs).trans (by simp[go_sem]);clear C;go_wp2;refine XB (v:=.agg #[Yi ro,RT]) (by simp[results,results162,go_sem,y4,y5]) rfl (Rj.mk rfl ?_);exact(((((ba w _).alloc Zs _).alloc Zt _).trans (L.o.mono Zt)).setCell Zt _).setCell Zt _
 ·rw[show rjoin (oa,A) (ob,B)=rjo (oa,A) (ob,B) from if_neg h];exact refJoin_ord oa ob A B w D E F G J K Zo M
theorem agr_comm(a b:P):agr a b=agr b a:=by
 unfold agr;rw[Int.min_comm (PU a),Int.max_comm a.1];congr 1;rw[decide_eq_decide];exact eq_comm
theorem agr_ord(J:a.1<=b.1)(K:b.1<=PU a):mH a b=if agr a b=true then some (rjo a b) else none:=by
 obtain⟨oa,A⟩:=a;obtain⟨ob,B⟩:=b;simp only[PU] at J K;obtain⟨st,H⟩:∃st:Nat,(st:Int)=ob-oa:=⟨(ob-oa).toNat,Zo⟩;obtain⟨cn,D⟩:∃cn:Nat,min (oa+(A.length:Int)) (ob+(B.length:Int))-ob=(cn:Int):=⟨(min (oa+(A.length:Int)) (ob+(B.length:Int))-ob).toNat,Zo⟩;rw[sw oa ob A B st cn H D];have E:agr (oa,A) (ob,B)=decide ((A.drop st).take cn=B.take cn):=by
  unfold agr;simp only[PU];rw[show max oa ob=ob by omega,D,show(ob-oa).toNat=st by omega,show(ob-ob).toNat=0 by omega,List.drop_zero,aj];by_cases h:min (oa+(A.length:Int)) (ob+(B.length:Int))<=ob
  ·obtain rfl:cn=0:=Zo;simp
  ·rw[XN h,Bool.false_or]
 rw[E];by_cases C:(A.drop st).take cn=B.take cn
 ·rw[if_neg (show ¬((A.drop st).take cn≠B.take cn) by simpa using C),XI C]
  show(if cn=B.length then some (oa,A) else if st=0 then some (ob,B) else some (oa,A++B.drop cn))=some (rjo (oa,A) (ob,B));unfold rjo;simp only[PU];by_cases I:cn=B.length
  ·have F:ob+(B.length:Int)<=oa+(A.length:Int):=Zo;rw[if_pos I,if_pos F]
  ·have G:¬(ob+(B.length:Int)<=oa+(A.length:Int)):=Zo;rw[if_neg I,if_neg G];by_cases hs:st=0
   ·rw[if_pos hs,show(ob-oa).toNat=0 by omega,List.take_zero,aY,show oa=ob by omega]
   ·rw[if_neg hs,show(ob-oa).toNat=st by omega];have L:(A.drop st).take cn=A.drop st:=ag (Zy ah);have M:B=A.drop st++B.drop cn:=by rw[<-L,C,aQ]
    congr 2
    conv=>rhs; rw[M]
    rw[<-ay,aQ]
 ·rw[if_pos (show(A.drop st).take cn≠B.take cn from C),XN C];rfl
theorem agr_join(A:b.1<=PU a)(B:a.1<=PU b):kZ a b=if agr a b=true then some (rjoin a b) else none:=by
 unfold kZ rjoin;by_cases h:b.1<a.1
 ·rw[if_pos h,if_pos h,agr_ord Zo B,agr_comm]
 ·rw[if_neg h,if_neg h,agr_ord Zo A]
theorem agr_apart(h:PU b<a.1\/PU a<b.1):agr a b=true:=by
 unfold agr;rw[XI Zo,Bool.true_or]
def rgo:P->List P->Option (List P×P×List P)
 | p,[]=>some ([],p,[])
 | p,y::ys=>
  if agr p y=false then none
  else if PU y<p.1 then(rgo p ys).map fun r=>(y::r.1,r.2.1,r.2.2)
  else if PU p<y.1 then(rgo p ys).map fun r=>(r.1,r.2.1,y::r.2.2)
  else rgo (rjoin p y) ys
theorem rgo_after:∀{qs:List P} {p:P},(∀q∈qs,PU p<q.1)->rgo p qs=some ([],p,qs)
 | [],_,_=>rfl
 | q::qs,p,h=>by
  have A:=h q Zs;have D:p.1<=PU p:=by simp only[PU]; omega
  have B:q.1<=PU q:=by simp only[PU]; omega
  rw[rgo,agr_apart (.inr A),if_neg Zd,if_neg Zo,if_pos A,rgo_after (fun x C=>h x (Zj C))];rfl
theorem rgo_before{p:P}:∀{ps:List P},rgo p ps=(rgo p (ps.drop (jB p.1 ps))).map fun r=>(ps.take (jB p.1 ps)++r.1,r.2.1,r.2.2)
 | []=>rfl
 | y::ys=>by
  by_cases h:PU y<p.1
  ·rw[jB,if_pos h,List.drop_succ_cons,jS]
   conv=>lhs; rw[rgo,agr_apart (.inl h),if_neg Zd,if_pos h,rgo_before (ps:=ys)]
   rw[Option.map_map];rfl
  ·rw[jB,if_neg h];simp only[List.drop_zero,List.take_zero,aY];cases rgo p (y::ys) <;> rfl
theorem rgo_join{lim tot:Int}:∀{qs:List P} {p:P} {e:Int},vgo tot e qs=true->p.1<=lim->lim<=PU p->(∀q∈qs,p.1<=PU q)->(PU p<=lim\/PU p<=e)->rgo p qs=(lg lim p qs).map fun x=>([],x.1,qs.drop x.2)
 | [],p,_,_,_,_,_,_=>rfl
 | q::qs,p,e,B,R,S,K,G=>by
  rw[vgo] at B;simp only[XF,XJ] at B;obtain⟨⟨⟨⟨N,O⟩,Q⟩,L⟩,B⟩:=B;have A:p.1<=PU q:=K q Zs;have H:=ni B;rw[lg];by_cases J:q.1<=lim
  ·rw[if_pos J,rgo,agr_join Zo A];by_cases C:agr p q=true
   ·have M:kZ p q=some (rjoin p q):=by rw[agr_join Zo A,if_pos C]
    have I:=wW M Zo A;rw[if_pos C,if_neg (by rw[C]; decide),if_neg Zo,if_neg Zo];simp only[Option.bind_some,Option.map_map];rw[rgo_join (lim:=lim) B Zo Zo (fun x E=>by
     have:=(H x E).2.2.2;simp only[PU] at I ⊢; omega) (by
     simp only[PU] at I G ⊢;by_cases T:p.1+(p.2.length:Int)<=q.1+q.2.length
     ·exact .inr Zo
     ·exact .inl Zo)]
    cases lg lim (rjoin p q) qs <;> rfl
   ·have F:agr p q=false:=Zu C;rw[if_neg C,if_pos F];rfl
  ·rw[if_neg J];have D:PU p<q.1:=Zo;have:=rgo_after (p:=p) (qs:=q::qs) (fun x E=>by
    rcases XG.1 E with rfl | E
    ·exact D
    ·have:=(H x E).2.2.2;have:q.1<=q.1+(q.2.length:Int):=Zo
     omega)
   rw[this];rfl
def rRest(off mid mtot:Int)(data:Qb)(ps:List P):Int×Int×Int×List P:=
 match rgo (off,data) ps with
 | none=>(11,0,0,[])
 | some (b,p,a)=>(0,mid,mtot,b++p::a)
theorem rRest_eq{off mid mtot:Int}{data:Qb}(E:vgo tot (-1) ps=true):
  rRest off mid mtot data ps=match lg (off+data.length) (off,data) (ps.drop (jB off ps)) with
  | none=>(11,0,0,[])
  | some (p,k)=>(0,mid,mtot,ps.take (jB off ps)++p::ps.drop (jB off ps+k)):=by
 obtain⟨G,H,F⟩:=uD (off:=off) ps;obtain⟨ga,gp⟩:=xJ.1 E;have A:∀q∈ps.drop (jB off ps),off<=PU q/\q∈ps:=fun q B=>by
  obtain⟨j,D,rfl⟩:=aV B;simp only[ah] at D;rw[eF];refine⟨?_,ak _⟩;cases j with
  | zero=>exact F Zo
  | succ j=>
   have g3:=F Zo;have:=iw gp (show jB off ps<jB off ps+(j+1) by omega) Zo;simp only[PU] at *; omega
 have C:vgo tot (-1) (ps.drop (jB off ps))=true:=xJ.2 ⟨fun q B=>ga q (A q B).2,gp.sublist (List.drop_sublist _ _)⟩;unfold rRest;rw[rgo_before,rgo_join (lim:=off+data.length) (p:=(off,data)) C Zp (by simp[PU]) (fun q B=>(A q B).1) (.inl (by simp[PU]))];cases lg (off+data.length) (off,data) (ps.drop (jB off ps)) with
 | none=>rfl
 | some x=>simp[eY]
set_option linter.unusedVariables false
theorem whyM2(h:v2i id off tot nd n=false):(Uv 2 id off tot nd n !=0)=true:=by
 unfold Uv;rw[if_neg Zd];by_cases A:id<0\/1099511627776<id
 ·rw[if_pos A]; rfl
 ·rw[if_neg A];have B:vM 2 off tot nd n=false:=by
   unfold v2i at h;rw[XI Zo,Bool.true_and] at h;exact h
  rw[if_pos B]; rfl
theorem whyM2'(h:v2i id off tot nd n=true):Uv 2 id off tot nd n=0:=by
 unfold v2i at h;simp only[XF,XJ] at h;unfold Uv;rw[if_neg Zd,if_neg Zo];have A:vM 2 off tot nd n=true:=h.2;rw[if_neg (by rw[A]; decide)]
def RGP(off:Int)(data:Qb)(ps:List P)(k:Nat)(p:P)(bs as_:List P):Prop:=
 rgo (off,data) ps=(rgo p (ps.drop k)).map (fun r=>(bs++r.1,r.2.1,as_++r.2.2))/\0<=p.1/\PU p<=1048576/\bs.length+as_.length<=k
theorem RGP.start(A:0<=off)(B:off+data.length<=1048576):RGP off data ps 0 (off,data) [] []:=by
 refine⟨?_,A,B,Zs⟩;rw[List.drop_zero];cases rgo (off,data) ps <;> rfl
theorem RGP.bad(h:RGP off data ps k p bs as_)(B:k<ps.length)(A:agr p ps[k]=false):rgo (off,data) ps=none:=by
 rw[h.1,aN B,rgo,if_pos A]; rfl
theorem RGP.before(h:RGP off data ps k p bs as_)(C:k<ps.length)(A:agr p ps[k]=true)(B:PU ps[k]<p.1):RGP off data ps (k+1) p (bs++[ps[k]]) as_:=by
 refine⟨?_,h.2.1,h.2.2.1,by have:=h.2.2.2; simp; omega⟩;rw[h.1,aN C]
 conv=>lhs; rw[rgo,if_neg (by rw[A]; decide),if_pos B]
 rw[Option.map_map];congr 1;funext r;simp
theorem RGP.after(h:RGP off data ps k p bs as_)(D:k<ps.length)(A:agr p ps[k]=true)(B:¬PU ps[k]<p.1)(C:PU p<ps[k].1):RGP off data ps (k+1) p bs (as_++[ps[k]]):=by
 refine⟨?_,h.2.1,h.2.2.1,by have:=h.2.2.2; simp; omega⟩;rw[h.1,aN D]
 conv=>lhs; rw[rgo,if_neg (by rw[A]; decide),if_neg B,if_pos C]
 rw[Option.map_map];congr 1;funext r;simp
theorem RGP.join(h:RGP off data ps k p bs as_)(E:k<ps.length)(A:agr p ps[k]=true)(B:¬PU ps[k]<p.1)(C:¬PU p<ps[k].1)(F:0<=ps[k].1)(G:PU ps[k]<=1048576):RGP off data ps (k+1) (rjoin p ps[k]) bs as_:=by
 have D:kZ p ps[k]=some (rjoin p ps[k]):=by rw[agr_join Zo Zo,if_pos A]
 have H:=wW D Zo Zo;refine⟨?_,Zh h.2.1,Zh h.2.2.1,Zh h.2.2.2⟩;rw[h.1,aN E]
 conv=>lhs; rw[rgo,if_neg (by rw[A]; decide),if_neg B,if_neg C]
theorem RGP.fin(h:RGP off data ps k p bs as_)(A:ps.length<=k):rgo (off,data) ps=some (bs,p,as_):=by
 rw[h.1,kR A,rgo]; simp
structure RGW (b6:Nat) (z wr:World) (v7 v8:Value) (po:Int) (PT:Qb) (bs as_:List P):Prop where
 bel:Below b6 z wr
 p0:wr.cell? b6=some (Yi po)
 p1:wr.cell? ⟨b6,1,none⟩=some (.string ⟨PT.toArray⟩)
 f0:wr.frozen? b6=false
 f1:wr.frozen? ⟨b6,1,none⟩=false
 o7:wr.ownsRow (b6+1) 78 2 v7 bs.length (gD bs)
 o8:wr.ownsRow (b6+1) 78 2 v8 as_.length (gD as_)
 dist:∀g,v7.ownBlock=some g->v8.ownBlock≠some g
 nil8:as_=[]->v8=.slice none 0 0
 sz:b6+1<=(wr:Nat)
theorem ownsRow_keep{e:TypeId}{size:Nat}{xs:List Value}(h:w.ownsRow base e size v n xs)(A:PM w w'):w'.ownsRow base e size v n xs:=by
 refine h.kept (row:=none) ⟨A.os,A.tape,A.output,A.size,fun k B _=>A.block k B⟩ ?_;cases C:v.ownBlock with
 | none=>exact .inl rfl
 | some k=>exact .inr Zs
theorem RGW.grow{wr x:World}(h:RGW b6 z wr v7 v8 po PT bs as_)(A:PM wr x):RGW b6 z x v7 v8 po PT bs as_:=
 ⟨h.bel.trans (A.mono (Zh h.sz)),(A.cell (p:=⟨b6,0,none⟩) (by have:=h.sz; simp; omega)).trans h.p0,(A.cell (p:=⟨b6,1,none⟩) (by have:=h.sz; simp; omega)).trans h.p1,(A.frozen (p:=⟨b6,0,none⟩) (by have:=h.sz; simp; omega)).trans h.f0,(A.frozen (p:=⟨b6,1,none⟩) (by have:=h.sz; simp; omega)).trans h.f1,
  ownsRow_keep h.o7 A,ownsRow_keep h.o8 A,h.dist,h.nil8,aC h.sz A.size⟩
theorem grown_cell{row:Option Nat}(C:u.grownBy w' row){b:Nat}(B:b<(u:Nat))(D:row≠some b)(j:Nat):w'.cell? ⟨b,j,none⟩=u.cell? ⟨b,j,none⟩/\w'.frozen? ⟨b,j,none⟩=u.frozen? ⟨b,j,none⟩:=by
 have A:=C.block b B (fun h=>D h.symm);exact⟨XM (a:=⟨b,j,none⟩) A,World.frozen?_of_block (a:=⟨b,j,none⟩) A⟩
theorem RGW.app7{b6:Nat}{z u w':World}{v7 v8:Value}{po:Int}{PT:Qb}{bs as_:List P}(h:RGW b6 z u v7 v8 po PT bs as_){g cap:Nat}{y:P}
  (G:w'.ownsRow (b6+1) 78 2 (.slice g (bs.length+1) cap) (bs.length+1) (gD bs++[Yi y.1,.string ⟨y.2.toArray⟩])) (B:u.grownBy w' v7.ownBlock) (A:v7.ownBlock=some g\/g=(u:Nat)) :
  RGW b6 z w' (.slice g (bs.length+1) cap) v8 po PT (bs++[y]) as_:=by
 have D:v7.ownBlock≠some b6:=fun e=>Zh ((h.o7.lt _ e).1)
 have E:=h.sz;have k8:v8.ownBlock=none\/v8.ownBlock≠v7.ownBlock:=by
  cases e7:v7.ownBlock with
  | none=>cases e8:v8.ownBlock with
   | none=>exact .inl rfl
   | some k=>exact .inr Zs
  | some k=>exact .inr (h.dist k e7)
 refine⟨h.bel.grown B Zo (fun k F=>Zh ((h.o7.lt k F).1)),?_,?_,?_,?_,?_,h.o8.kept B k8,?_,h.nil8,aC E B.size⟩
 ·exact(grown_cell B Zo D 0).1.trans h.p0
 ·exact(grown_cell B Zo D 1).1.trans h.p1
 ·exact(grown_cell B Zo D 0).2.trans h.f0
 ·exact(grown_cell B Zo D 1).2.trans h.f1
 ·rw[xU,af]; exact G
 ·intro g' C e8;simp only[Value.ownBlock,XY] at C;subst C;rcases A with A | A
  ·exact h.dist _ A e8
  ·have:=(h.o8.lt _ e8).2; omega
theorem RGW.app8{b6:Nat}{z u w':World}{v7 v8:Value}{po:Int}{PT:Qb}{bs as_:List P}(h:RGW b6 z u v7 v8 po PT bs as_){g cap:Nat}{y:P}
  (G:w'.ownsRow (b6+1) 78 2 (.slice g (as_.length+1) cap) (as_.length+1) (gD as_++[Yi y.1,.string ⟨y.2.toArray⟩])) (B:u.grownBy w' v8.ownBlock) (A:v8.ownBlock=some g\/g=(u:Nat)) :
  RGW b6 z w' v7 (.slice g (as_.length+1) cap) po PT bs (as_++[y]):=by
 have D:v8.ownBlock≠some b6:=fun e=>Zh ((h.o8.lt _ e).1)
 have E:=h.sz;have k7:v7.ownBlock=none\/v7.ownBlock≠v8.ownBlock:=by
  cases e7:v7.ownBlock with
  | none=>exact .inl rfl
  | some k=>exact .inr (fun e=>h.dist k e7 e.symm)
 refine⟨h.bel.grown B Zo (fun k F=>Zh ((h.o8.lt k F).1)),?_,?_,?_,?_,h.o7.kept B k7,?_,?_,fun e=>by simp at e,aC E B.size⟩
 ·exact(grown_cell B Zo D 0).1.trans h.p0
 ·exact(grown_cell B Zo D 1).1.trans h.p1
 ·exact(grown_cell B Zo D 0).2.trans h.f0
 ·exact(grown_cell B Zo D 1).2.trans h.f1
 ·rw[xU,af]; exact G
 ·intro g' C e8;simp only[Value.ownBlock,XY] at e8;subst e8;rcases A with A | A
  ·exact h.dist _ C A
  ·have:=(h.o7.lt _ C).2; omega
theorem RGW.setp(h:RGW b6 z u v7 v8 po PT bs as_)(po':Int)(PT':Qb):
  RGW b6 z ((u.setCell b6 (Yi po')).setCell ⟨b6,1,none⟩ (.string ⟨PT'.toArray⟩)) v7 v8 po' PT' bs as_:=by
 have A:u.grownBy ((u.setCell b6 (Yi po')).setCell ⟨b6,1,none⟩ (.string ⟨PT'.toArray⟩)) (some b6):=
  ⟨rfl,rfl,rfl,Zs,fun k _ B=>(Below.heap_setCell _ _ _ k (fun e=>B (by rw[e]))).trans (Below.heap_setCell _ _ _ k (fun e=>B (by rw[e])))⟩
 have C:v7.ownBlock≠some b6:=fun e=>Zh ((h.o7.lt _ e).1)
 have D:v8.ownBlock≠some b6:=fun e=>Zh ((h.o8.lt _ e).1)
 exact⟨(h.bel.setCell nr _).setCell nr _,by simp[go_sem,h.p0],by simp[go_sem,h.p1],by simp[go_sem,h.f0],by simp[go_sem,h.f1],h.o7.kept A (.inr C),h.o8.kept A (.inr D),h.dist,h.nil8,Zu h.sz⟩
theorem Pcs.setCell'{B:Nat}{W:World}{a:Qa}{p:Addr}(h:Pcs B W a ps)(C:∀ad,a=some ad->ad.block≠p.block):Pcs B (W.setCell p v) a ps:=by
 intro i G;obtain⟨b,H,rfl,A,E,F⟩:=h i G;have D:(W.setCell p v).heap[b]? = W.heap[b]?:=Below.heap_setCell W p v b (C _ rfl);exact⟨b,H,rfl,A,(XM (a:=⟨b,H+i*2,none⟩) D).trans E,(XM (a:=⟨b,H+i*2+1,none⟩) D).trans F⟩
theorem and_six{a b c d e f G:Prop}(h:a/\b/\c/\d/\e/\f)(k:a->b->c->d->e->f->G):G:=k h.1 h.2.1 h.2.2.1 h.2.2.2.1 h.2.2.2.2.1 h.2.2.2.2.2
theorem gathered_own{y4:World}{R:Int×Int×Int×List P}{qs:List P}{g cap N:Nat}(H:R=(0,mid,mtot,qs))(K:qs.length=N)(A:y4.ownsRow base 78 2 (.slice g N cap) N (gD qs))(I:PM w y4)(E:(w:Nat)+3<=base):
  sQ w R (.returned (.tuple #[.agg #[Yi mid,Yi mtot,.slice g N cap],Yi 0])) (((y4.setCell ⟨(w:Nat)+1+1,0,none⟩ (Yi mid)).setCell ⟨(w:Nat)+1+1,1,none⟩ (Yi mtot)).setCell ⟨(w:Nat)+1+1,2,none⟩ (.slice g N cap)):=by
 subst H K;have M:=(A.lt g rfl).1;have D:qs.length<=cap:=by
  rcases A.2 with⟨B,_⟩ | ⟨g',O,Q,B,_,_,G,_⟩
  ·cases B
  ·cases B; exact G
 refine⟨some ⟨g,0,none⟩,cap,rfl,?_,((I.setCell Zt _).setCell Zt _).setCell Zt _,D,fun ad h=>by cases h; show (w:Nat)<=g; omega⟩;have C:∀ad,some (⟨g,0,none⟩:Addr)=some ad->ad.block≠(w:Nat)+1+1:=fun ad h=>by cases h; show g≠_; omega
 have L:Pcs y4 y4 (some ⟨g,0,none⟩) qs:=by
  intro i J;rcases A.2 with⟨B,_⟩ | ⟨g',O,Q,B,_,F,_⟩
  ·cases B
  ·cases B
   obtain⟨c0,c1⟩:=nH qs i J;refine⟨g,0,rfl,(XA.1 F).1,?_,?_⟩
   ·have:=A.cells (g:=g) rfl _ _ c0; rwa[XD] at this
   ·have:=A.cells (g:=g) rfl _ _ c1; rwa[XD,<-aP] at this
 simpa using((L.setCell' C).setCell' C).setCell' C
theorem step_append_none{P:Program}{w:World}{ops:Array Oper}{o:Oper}{a:Act}{K:Act->World->Prop}{Q:Exit->Act->World->Prop}{E:Prop}(C:o.guard=none)(s x:Operand)(t:TypeId)
  (F:o.op=.call { callee:=.builtin .append,args:=#[s,x],argTypes:=#[t,t] }) (base:Nat) (e:TypeId) (i:TypeInfo) (size:Nat) (G:P.underlying t=some (.slice e)) (D:P.info? e=some i)
  (v:Value) (n:Nat) (xs:List Value) (hs:a.eval s=v) (A:w.ownsRow base e size v n xs) (I:a.eval x=.slice none 0 0) (h:K (a.put o.dst v) w) :
  if Region.wanted o (yielded ops a.tmps)=true then Oper.wp P o a w K Q else E:=by
 have H:Region.wanted o (yielded ops a.tmps)=true:=by simp[Region.wanted,C]
 rw[if_pos H];have B:=run_append_owned_none (P:=P) (w:=w) base t o.type e i size G D v n xs A;unfold Oper.wp;simp[execOp,F,resolve,invoke,builtin,hs,I,B,Result.andThen];exact h
theorem refGather_any(id tot:Int)(a:Qa)(ps:List P)(c:Nat)(kind mid off mtot:Int)(ad:Qa)(nd cd:Nat)(data:Qb)(w:World)
  (F1:Pcs w w a ps) (E9:ps.length<=c) (hn:(ps.length:Int)<=1048576) (F2:∀p∈ps,p.2.length<=1048576) (I8:(data.length:Int)<=1048576) (G9:(nd:Int)<=140737488355328) :
  Qh 106 #[.agg #[Yi id,Yi tot,.slice a ps.length c],.agg #[Yi kind,Yi mid,Yi off,Yi mtot,.slice ad nd cd,data]] w
   (sQ w (nJ id tot ps kind mid off mtot nd data)):=by
 have HS:Qg (∀p∈ps,p.2.length<=1048576):=Qf F2;clear F2;obtain⟨R,hR⟩:=Qe (nJ id tot ps kind mid off mtot nd data);rw[<-hR];have HR:=Qf hR;clear hR;obtain⟨n,C7⟩:=Qe ps.length;obtain⟨HN,Y⟩:=Yj C7 (fun W hp h1 h2=>SQ id tot a ps c W hp h1 h2);rw[<-C7] at hn E9 Y ⊢;clear C7;obtain⟨W,hW⟩:∃W:World,(((w.alloc (.cells #[Yi id,Yi tot,.slice a n c] 32)).alloc (.cells #[Yi kind,Yi mid,Yi off,Yi mtot,.slice ad nd cd,data] 73)).alloc (.cells #[Yi 0,Yi 0,()] 32))=W:=⟨_,rfl⟩;have A9:Qg (PM w W):=Qf (by rw[<-hW]; exact((ba w _).alloc Zs _).alloc Zt _);have HG:Qg (GC (w:Nat) id tot a n c kind mid off mtot ad nd cd data W):=Qf (by
  rw[<-hW];constructor <;> simp[go_sem])
 have C2:Qg (Pcs w W a ps):=Qf (F1.below A9.o nr);have HW:=Qf hW;clear hW F1;have E4:=Qf (Y.o W (C2.o.mono (Zh HG.o.hs)) Zo (fun p hp=>Zh (HS.o p hp)));go_enter func106,ntmps106;go_wp2_with fail;rw[HW.o];refine E4.o.mono ?_;rintro e x ⟨rfl,O⟩;have HX:Qg (GC (w:Nat) id tot a n c kind mid off mtot ad nd cd data x):=Qf (HG.o.below O HG.o.hs);have L:Qg (PM w x):=Qf (XT A9.o O);have D6:Qg (Pcs w x a ps):=Qf (C2.o.below O (Zh HG.o.hs));clear O E4 Y HW HG A9 C2 W;obtain⟨w0,w1,w2,m0,m1,m2,m3,m4,m5,r0,r1,r2,f0,f1,f2,hs⟩:=HX.o;cases H:gm id tot ps with
 | false=>
  have HF:Qg (R=(1,0,0,[])):=Qf (by rw[HR.o,nJ,H]; rfl);clear H;go_wp2;refine XB (v:=.tuple #[.agg #[Yi 0,Yi 0,()],Yi 1]) (by simp[results,results106,go_sem,r0,r1,r2]) rfl (tJ HF.o L.o)
 | true=>
  by_cases hk:kind=2
  ·subst hk;obtain⟨B2,HV⟩:=Yj (show R=if !v2i mid off mtot nd data.length then(1,0,0,[]) else if 0<ps.length/\(id≠mid\/tot≠mtot) then(11,0,0,[]) else Lj off mid mtot data ps from by rw[HR.o,nJ,H]; rfl) H;clear H HR;go_wp2_with fail;refine(Ub 2 mid off mtot ad nd cd data x Zo G9).mono ?_;rintro e y ⟨rfl,O⟩;clear w0 w1 w2 m0 m1 m2 m3 m4 m5 r0 r1 r2 f0 f1 f2;have HY:Qg (GC (w:Nat) id tot a n c 2 mid off mtot ad nd cd data y):=Qf (HX.o.below O hs);have U:Qg (PM w y):=Qf (XT L.o O);have D7:Qg (Pcs w y a ps):=Qf (D6.o.below O Zo);clear O HX L D6 hs x;obtain⟨w0,w1,w2,m0,m1,m2,m3,m4,m5,r0,r1,r2,f0,f1,f2,hs⟩:=HY.o;cases H:v2i mid off mtot nd data.length with
   | false=>
    have HF:Qg (R=(1,0,0,[])):=Qf (by rw[B2.o,H]; rfl);obtain⟨er,A3⟩:=Qe (Uv 2 mid off mtot nd data.length);have I9:(er !=0)=true:=by rw[A3,whyM2 H]
    rw[<-A3];clear H A3;go_wp2;refine XB (v:=.tuple #[.agg #[Yi 0,Yi 0,()],Yi 1]) (by simp[results,results106,go_sem,r0,r1,r2]) rfl (tJ HF.o U.o)
   | true=>
    rw[whyM2' H];go_upto_region 7 with fail
    go_cut [40] from 23 (fun c wx=>c=.bool (decide (0<n/\(id≠mid\/tot≠mtot)))/\y=wx)
    case first=>
     by_cases h0:0<n
     ·have g1:decide (0<n)=true:=Zu h0;by_cases hi:id=mid
      ·have g2:(id==mid)=true:=Zu hi;by_cases ht:tot=mtot
       ·have g3:(tot==mtot)=true:=Zu ht;go_wp2_with fail;go_meet
        case rel=>exact⟨congrArg Value.bool (XN Zo).symm,rfl⟩
       ·have g3:(tot==mtot)=false:=Zu ht;go_wp2_with fail;go_meet
        case rel=>exact⟨congrArg Value.bool (by rw[XI (by omega:0<n/\(id≠mid\/tot≠mtot))]; simpa[bne] using g3),rfl⟩
      ·have g2:(id==mid)=false:=Zu hi;go_wp2_with fail;go_meet
       case rel=>exact⟨congrArg Value.bool (XI Zo).symm,rfl⟩
     ·have g1:decide (0<n)=false:=Zu h0;go_wp2_with fail;go_meet
      case rel=>exact⟨congrArg Value.bool (XN Zo).symm,rfl⟩
    case rest=>
    obtain⟨rfl,rfl⟩:=hcut;by_cases hm:0<n/\(id≠mid\/tot≠mtot)
    ·have HF:Qg (R=(11,0,0,[])):=Qf (by rw[B2.o,H,<-HN.o,if_pos hm]; rfl);have g1:decide (0<n/\(id≠mid\/tot≠mtot))=true:=XI hm;rw[g1];clear H hm g1;go_wp2;refine XB (v:=.tuple #[.agg #[Yi 0,Yi 0,()],Yi 11]) (by simp[results,results106,go_sem,r0,r1,r2]) rfl (tJ HF.o U.o)
    ·have D8:=Qf (show R=Lj off mid mtot data ps from by rw[B2.o,H,<-HN.o,if_neg hm]; rfl);have g1:decide (0<n/\(id≠mid\/tot≠mtot))=false:=XN hm;rw[g1];have H5:(0<=mid/\mid<=1099511627776)/\(1<=data.length/\data.length<=65536/\1<=mtot/\mtot<=1048576/\0<=off/\off<=mtot-data.length/\nd=0):=by
      unfold v2i v2 at H; simpa using H
     clear H B2;obtain⟨⟨H2,H3⟩,J3,J4,J5,J6,H4,J7,rfl⟩:=H5;have E3:Qg (0<n->vgo mtot (-1) ps=true):=Qf (fun h0=>by
      have hi:id=mid:=Zo;have ht:tot=mtot:=Zo;subst hi ht;have:=HV.o
      rwa[zi (HN.o▸h0) ⟨H2,H3,Zo,Zo⟩] at this)
     clear hm g1 HV;obtain⟨z,hz⟩:∃z:World,y.alloc (.cells #[Yi off,data] 78)=z:=⟨_,rfl⟩;have F3:(y:Nat)+1<=z.heap.size:=by rw[<-hz]; simp
     have N:Qg (PM y z):=Qf (hz▸ba y _);have HZ:Qg (GC (w:Nat) id tot a n c 2 mid off mtot ad 0 cd data z):=Qf (HY.o.below N.o hs);have G0:Qg (PM w z):=Qf (XT U.o N.o);have G2:Qg (Pcs w z a ps):=Qf (D7.o.below N.o Zo);have p0:z.cell? y=some (Yi off):=by rw[<-hz]; simp[go_sem]
     have p1:z.cell? ⟨y,1,none⟩=some (.string ⟨data.toArray⟩):=by rw[<-hz]; simp[go_sem]
     have p2:z.frozen? y=false:=by rw[<-hz]; simp[go_sem]
     have p3:z.frozen? ⟨y,1,none⟩=false:=by rw[<-hz]; simp[go_sem]
     have E5:=Qf hz;have E2:Qg (R=rRest off mid mtot data ps):=Qf (by
      rw[D8.o];by_cases h0:0<n
      ·rw[rRest_eq (E3.o h0)]; rfl
      ·have:ps=[]:=Qr.1 (by rw[<-HN.o]; omega);subst this; rfl)
     clear hz D8 w0 w1 w2 m0 m1 m2 m3 m4 m5 r0 r1 r2 f0 f1 f2;obtain⟨w0,w1,w2,m0,m1,m2,m3,m4,m5,r0,r1,r2,f0,f1,f2,_⟩:=HY.o;go_wp2_with fail;rw[E5.o];obtain⟨b6,C5⟩:∃b6,(y:Nat)=b6:=⟨_,rfl⟩;rw[C5] at p0 p1 p2 p3 F3 hs;rw[C5];obtain⟨A5,hi,H6,A7,A8⟩:=XR Ah;have Z:=Qf H6;clear C5 E5 HY U D7 N w0 w1 w2 m0 m1 m2 m3 m4 m5 r0 r1 r2 f0 f1 f2;go_loopw [7,8,9] (fun v7 v8 i wr=>∃(k:Nat) (po:Int) (PT:Qb) (bs as_:List P),k<=n/\i=Yi k/\RGW b6 z wr v7 v8 po PT bs as_/\RGP off data ps k (po,PT) bs as_) (fun _ _ i _=>n-(intOf i).toNat)
     case atStart=>exact⟨0,off,data,[],[],Zo,rfl,⟨bf _,p0,p1,p2,p3,XE _ _ _ _,XE _ _ _ _,(fun g h=>by cases h),(fun _=>rfl),F3⟩,RGP.start H4 Zo⟩
     case round=>
      obtain⟨k,po,PT,bs,as_,hk,rfl,A6,hrel⟩:=hrel;obtain⟨C,V⟩:=Yj A6 hrel;have I3:0<=po:=hrel.2.1;have I4:po+PT.length<=1048576:=hrel.2.2.1;have I1:bs.length+as_.length<=k:=hrel.2.2.2;have B6:b6+1<=(wr:Nat):=A6.sz;obtain⟨HG,C1⟩:=Yj (HZ.o.below A6.bel Zo) (G0.o.trans (A6.bel.mono Zo));obtain⟨_,_,w2,_,_,_,_,_,_,r0,r1,r2,f0,f1,f2,_⟩:=HG.o;clear A6 hrel;by_cases G8:k<n
      ·have G:k<ps.length:=HN.o▸G8;obtain⟨b1,o1,rfl,I7,hc,hd⟩:=(G2.o.below C.o.bel Zo) k G;have D0:=ni (E3.o Zo) ps[k] (ak G);obtain⟨⟨o,T⟩,hp⟩:=Qe (ps[k]);have E:=Qf hp;rw[<-hp] at hc hd D0;simp only[PU] at hc hd D0;obtain⟨H0,_,J2,_⟩:=D0;have q0:=C.o.p0;have q1:=C.o.p1;have B9:=fun x=>bP q0 x
       have C9:=fun x=>bP q1 x
       obtain⟨R9,C4⟩:=Qe (agr (po,PT) (o,T));have D4:=Qf (fun X=>agree_any po o PT T X Zo Zo Zo Zo Zo Zo);rw[<-C4] at D4;have E0:=Qf C4;clear hp C4;go_wp2_with fail;refine(D4.o _).mono ?_;rintro e x ⟨rfl,A2⟩;have B7:PM wr x:=(ba _ _).trans (A2.mono Zs);have t0:x.cell? wr=some (Yi o):=(A2.cell (p:=⟨wr,0,none⟩) Zs).trans Zs;have t1:x.cell? ⟨wr,1,none⟩=some (.string ⟨T.toArray⟩):=(A2.cell (p:=⟨wr,1,none⟩) Zs).trans Zs;have I:=Qf (C.o.grow B7);have J8:(wr:Nat)+1<=(x:Nat):=Zu A2.size;obtain⟨G1,L⟩:=Yj (HG.o.below B7 Zo) (C1.o.trans (B7.mono Zo));obtain⟨_,_,_,_,_,_,_,_,_,r0,r1,r2,f0,f1,f2,_⟩:=G1.o;have s0:=I.o.p0;have s1:=I.o.p1;clear A2 B7 q0 q1 B9 C9 hc hd w2;cases R9 with
       | false=>
        have HF:Qg (R=(11,0,0,[])):=Qf (by
         have:=V.o.bad G (E.o▸E0.o.symm);rw[E2.o,rRest,this])
        go_wp2;refine XB (v:=.tuple #[.agg #[Yi 0,Yi 0,()],Yi 11]) (by simp[results,results106,go_sem,r0,r1,r2]) rfl (tJ HF.o L.o)
       | true=>
        have C0:Qg (agr (po,PT) ps[k]=true):=Qf (E.o▸E0.o.symm);by_cases h1:o+(T.length:Int)<po
        ·have Q:Qg (RGP off data ps (k+1) (po,PT) (bs++[(o,T)]) as_):=Qf (by
          have:=V.o.before G C0.o (E.o▸h1)
          rwa[<-E.o] at this)
         go_wp2_with (at_builtin; refine wpList_append_lies _ rfl _ _ 30 rfl (b6+1) 78 A5 _ 2 24 underlying30 hi Z.o A7 A8 rfl Zd _ _ _ rfl (I.o.o7.alloc _) ⟨x,0,none⟩ 1 1 [Yi o,.string ⟨T.toArray⟩] rfl rfl (World.news_of_block (cs:=#[Yi o,T]) (t:=78) (fr:=(0,0)) (heap_alloc_new x _)) (by simp[Value.oneCell']) Zd Zm Zo Zt _ rfl ?_);intro g B8 w3 K F A0 _;have C3:=Qf ((I.o.grow (ba _ _)).app7 (y:=(o,T)) K F (Zu A0));clear K F A0;go_wp2;go_roundw
         case rel=>exact⟨k+1,po,PT,bs++[(o,T)],as_,Zo,Zg,C3.o,Q.o⟩
         case measure=>exact Yq
        ·by_cases h2:po+(PT.length:Int)<o
         ·have Q:Qg (RGP off data ps (k+1) (po,PT) bs (as_++[(o,T)])):=Qf (by
           have:=V.o.after G C0.o (E.o▸h1) (E.o▸h2)
           rwa[<-E.o] at this)
          go_wp2_with (at_builtin; refine wpList_append_lies _ rfl _ _ 30 rfl (b6+1) 78 A5 _ 2 24 underlying30 hi Z.o A7 A8 rfl Zd _ _ _ rfl (I.o.o8.alloc _) ⟨x,0,none⟩ 1 1 [Yi o,.string ⟨T.toArray⟩] rfl rfl (World.news_of_block (cs:=#[Yi o,T]) (t:=78) (fr:=(0,0)) (heap_alloc_new x _)) (by simp[Value.oneCell']) Zd Zm Zo Zt _ rfl ?_);intro g B8 w3 K F A0 _;have C3:=Qf ((I.o.grow (ba _ _)).app8 (y:=(o,T)) K F (Zu A0));clear K F A0;go_wp2;go_roundw
          case rel=>exact⟨k+1,po,PT,bs,as_++[(o,T)],Zo,Zg,C3.o,Q.o⟩
          case measure=>exact Yq
         ·have Q:Qg (RGP off data ps (k+1) (rjoin (po,PT) (o,T)) bs as_):=Qf (by
           have:=V.o.join G C0.o (E.o▸h1) (E.o▸h2) (E.o▸H0) (by rw[<-E.o]; simp only[PU]; omega)
           rwa[<-E.o] at this)
          have HJ:=Qf (fun X=>refJoin_any po o PT T X Zo Zo Zo Zo Zo Zo Zo Zo);generalize rjoin (po,PT) (o,T)=RJ at Q HJ;obtain⟨ro,RT⟩:=RJ;have g0:=I.o.f0;have g1:=I.o.f1;go_wp2_with fail;refine(HJ.o _).mono ?_;rintro e x2 ⟨rfl,E8⟩;have J:=Qf (I.o.grow E8);have s0:=J.o.p0;have s1:=J.o.p1;have g0:=J.o.f0;have g1:=J.o.f1;clear E8;go_wp2;go_roundw
          case rel=>exact⟨k+1,ro,RT,bs,as_,Zo,Zg,J.o.setp ro RT,Q.o⟩
          case measure=>exact Yq
      ·have E1:Qg (R=(0,mid,mtot,bs++(po,PT)::as_)):=Qf (by
        have:=V.o.fin (by rw[<-HN.o]; omega);rw[E2.o,rRest,this])
       obtain⟨_,_,_,_,m1,_,m3,_,_,_⟩:=HG.o;have q0:=C.o.p0;have q1:=C.o.p1;have HK:Qg (∀X,Below (b6+1) wr X->X.cell? ⟨(w:Nat)+1,1,none⟩=some (Yi mid)/\X.cell? ⟨(w:Nat)+1,3,none⟩=some (Yi mtot)/\X.cell? b6=some (Yi po)/\X.cell? ⟨b6,1,none⟩=some (.string ⟨PT.toArray⟩)):=Qf (fun X S=>
        ⟨(S.cell (p:=⟨(w:Nat)+1,1,none⟩) Zt).trans m1,(S.cell (p:=⟨(w:Nat)+1,3,none⟩) Zt).trans m3,(S.cell (p:=⟨b6,0,none⟩) Zs).trans q0,(S.cell (p:=⟨b6,1,none⟩) Zs).trans q1⟩)
       have D5:Qg (∀X,Below (b6+1) wr X->∀(v0 v1 v2:Value),(((X.setCell ⟨(w:Nat)+1+1,0,none⟩ v0).setCell ⟨(w:Nat)+1+1,1,none⟩ v1).setCell ⟨(w:Nat)+1+1,2,none⟩ v2).cell? ⟨(w:Nat)+1,1,none⟩=some (Yi mid)/\(((X.setCell ⟨(w:Nat)+1+1,0,none⟩ v0).setCell ⟨(w:Nat)+1+1,1,none⟩ v1).setCell ⟨(w:Nat)+1+1,2,none⟩ v2).cell? ⟨(w:Nat)+1,3,none⟩=some (Yi mtot)/\(((X.setCell ⟨(w:Nat)+1+1,0,none⟩ v0).setCell ⟨(w:Nat)+1+1,1,none⟩ v1).setCell ⟨(w:Nat)+1+1,2,none⟩ v2).cell? b6=some (Yi po)/\(((X.setCell ⟨(w:Nat)+1+1,0,none⟩ v0).setCell ⟨(w:Nat)+1+1,1,none⟩ v1).setCell ⟨(w:Nat)+1+1,2,none⟩ v2).cell? ⟨b6,1,none⟩=some (.string ⟨PT.toArray⟩)):=Qf (fun X S v0 v1 v2=>by
        obtain⟨k1,k2,k3,k4⟩:=HK.o X S;have O:∀b,b≠(w:Nat)+1+1->∀j,(((X.setCell ⟨(w:Nat)+1+1,0,none⟩ v0).setCell ⟨(w:Nat)+1+1,1,none⟩ v1).setCell ⟨(w:Nat)+1+1,2,none⟩ v2).cell? ⟨b,j,none⟩=X.cell? ⟨b,j,none⟩:=fun b C6 j=>
         XM (a:=⟨b,j,none⟩) (((Below.heap_setCell _ _ _ b C6).trans (Below.heap_setCell _ _ _ b C6)).trans (Below.heap_setCell _ _ _ b C6))
        exact⟨(O _ Zo _).trans k1,(O _ Zo _).trans k2,(O _ Zo _).trans k3,(O _ Zo _).trans k4⟩)
       have D9:Qg (∀X,Below (b6+1) wr X->X.cell? ⟨(w:Nat)+1+1,0,none⟩=some (Yi 0)/\X.cell? ⟨(w:Nat)+1+1,1,none⟩=some (Yi 0)/\X.cell? ⟨(w:Nat)+1+1,2,none⟩=some (.slice none 0 0)/\X.frozen? ⟨(w:Nat)+1+1,0,none⟩=false/\X.frozen? ⟨(w:Nat)+1+1,1,none⟩=false/\X.frozen? ⟨(w:Nat)+1+1,2,none⟩=false):=Qf (fun X S=>
        ⟨(S.cell (p:=⟨(w:Nat)+1+1,0,none⟩) Zt).trans r0,(S.cell (p:=⟨(w:Nat)+1+1,1,none⟩) Zt).trans r1,(S.cell (p:=⟨(w:Nat)+1+1,2,none⟩) Zt).trans r2,(S.frozen (p:=⟨(w:Nat)+1+1,0,none⟩) Zt).trans f0,(S.frozen (p:=⟨(w:Nat)+1+1,1,none⟩) Zt).trans f1,(S.frozen (p:=⟨(w:Nat)+1+1,2,none⟩) Zt).trans f2⟩)
       clear w2 m1 m3 r0 r1 r2 f0 f1 f2 q0 q1;by_cases B3:as_=[]
       ·have h8:=C.o.nil8 B3;subst h8;subst B3;go_wp2_with fail;go_region_held3 (fun w'=>w'.cell? ⟨(w:Nat)+1,1,none⟩=some (Yi mid)/\w'.cell? ⟨(w:Nat)+1,3,none⟩=some (Yi mtot)/\w'.cell? b6=some (Yi po)/\w'.cell? ⟨b6,1,none⟩=some (.string ⟨PT.toArray⟩))
         (first
          | exact HK.o _ (bf _).drew
          | exact HK.o _ ((bf _).alloc B6 _).drew
          | exact HK.o _ M
          | exact D5.o _ M _ _ _)
         (first
          | (refine step_append_lies _ Zr (.tmp 97) (.tmp 99) _ Zr (b6+1) 78 A5 _ 2 24 underlying30 hi Z.o A7 A8 rfl Zo _ bs.length (gD bs) Zr (C.o.o7.alloc _).drew ⟨wr,0,none⟩ 1 1 [.int .i64 po,.string ⟨PT.toArray⟩] Zr Zr (World.news_of_block (cs:=#[.int .i64 po,.string ⟨PT.toArray⟩]) (t:=78) (fr:=(0,0)) (heap_alloc_new wr _)) (by simp[Value.oneCell']) Zo Zm Zo Zt _ rfl ?_; intro g2 A4 y1 B D A1 F0; have H1:=(C.o.grow (((bf _).alloc nr (.cells #[.int .i64 po,.string ⟨PT.toArray⟩] 78)).drew)).app7 (y:=(po,PT)) B D (Zu A1); have M:Below (b6+1) wr y1:=(((bf _).alloc B6 _).drew).grown D Zt (fun k hk=>(C.o.o7.lt k hk).1))
          | (refine step_append_none Zr (.tmp 100) (.tmp 101) _ Zr (b6+1) 78 A5 2 underlying30 hi (.slice (some ⟨g2,0,none⟩) (bs.length+1) A4) (bs.length+1) (gD bs++[.int .i64 po,.string ⟨PT.toArray⟩]) Zr B Zr ?_; refine and_six (D9.o _ M) ?_; intro e0 e1 e2 e3 e4 e5)
          | fail)
        all_goals
         go_wp2;refine XB (v:=.tuple #[.agg #[Yi mid,Yi mtot,.slice g2 (bs.length+1) A4],Yi 0]) (by simp[results,results106,go_sem,e0,e1,e2]) rfl (gathered_own (base:=b6+1) E1.o Zs ?_ (C1.o.trans (M.mono Zo)) Zo);rw[xU,fV];exact B
       ·have E7:0<as_.length:=bJ.2 B3;obtain⟨g8,B1,h8,_,_⟩:=C.o.o8.form E7;subst h8;clear B3;go_wp2_with fail;go_region_held3 (fun w'=>w'.cell? ⟨(w:Nat)+1,1,none⟩=some (Yi mid)/\w'.cell? ⟨(w:Nat)+1,3,none⟩=some (Yi mtot)/\w'.cell? b6=some (Yi po)/\w'.cell? ⟨b6,1,none⟩=some (.string ⟨PT.toArray⟩))
         (first
          | exact HK.o _ (bf _).drew
          | exact HK.o _ ((bf _).alloc B6 _).drew
          | exact HK.o _ B5
          | exact HK.o _ M
          | exact D5.o _ B5 _ _ _)
         (first
          | (refine step_append_lies _ Zr (.tmp 97) (.tmp 99) _ Zr (b6+1) 78 A5 _ 2 24 underlying30 hi Z.o A7 A8 rfl Zo _ bs.length (gD bs) Zr (C.o.o7.alloc _).drew ⟨wr,0,none⟩ 1 1 [.int .i64 po,.string ⟨PT.toArray⟩] Zr Zr (World.news_of_block (cs:=#[.int .i64 po,.string ⟨PT.toArray⟩]) (t:=78) (fr:=(0,0)) (heap_alloc_new wr _)) (by simp[Value.oneCell']) Zo Zm Zo Zt _ rfl ?_; intro g2 A4 y1 B D A1 F0; have H1:=(C.o.grow (((bf _).alloc nr (.cells #[.int .i64 po,.string ⟨PT.toArray⟩] 78)).drew)).app7 (y:=(po,PT)) B D (Zu A1); have M:Below (b6+1) wr y1:=(((bf _).alloc B6 _).drew).grown D Zt (fun k hk=>(C.o.o7.lt k hk).1))
          | (refine step_append_lies _ Zr (.tmp 100) (.tmp 101) _ Zr (b6+1) 78 A5 _ 2 24 underlying30 hi Z.o A7 A8 rfl Zo (.slice (some ⟨g2,0,none⟩) (bs.length+1) A4) (bs.length+1) (gD bs++[.int .i64 po,.string ⟨PT.toArray⟩]) Zr B ⟨g8,0,none⟩ as_.length B1 (gD as_) Zr (oU _) (H1.o8.cells rfl) (fun v H=>wO H) E7 Zm Zo H1.sz _ rfl ?_; intro g3 B0 y2 C8 B4 I0 I2; have B5:Below (b6+1) wr y2:=M.grown B4 H1.sz (fun k hk=>(B.lt k hk).1); refine and_six (D9.o _ B5) ?_; intro e0 e1 e2 e3 e4 e5)
          | fail)
        all_goals
         go_wp2;refine XB (v:=.tuple #[.agg #[Yi mid,Yi mtot,.slice g3 (bs.length+1+as_.length) B0],Yi 0]) (by simp[results,results106,go_sem,e0,e1,e2]) rfl (gathered_own (base:=b6+1) E1.o Zt ?_ (C1.o.trans (B5.mono Zo)) Zo);rw[xU,fV];have:=C8;rw[ay] at this;exact this
  ·have HF:Qg (R=(9,0,0,[])):=Qf (by rw[HR.o,nJ,H,if_pos hk]; rfl);have J0:(kind==2)=false:=Zu hk;clear H hk;go_wp2;refine XB (v:=.tuple #[.agg #[Yi 0,Yi 0,()],Yi 9]) (by simp[results,results106,go_sem,r0,r1,r2]) rfl (tJ HF.o L.o)
