/- Lemmas. -/
import Derived.Test.YtkedhdcnakhbgaaGreatProg
import Derived.Deep.RegionHeldLaw
import Derived.Test.YtkedhdcnakhbgaaGreatK1
import Derived.Test.YtkedhdcnakhbgaaGreatG1
import Derived.Test.YtkedhdcnakhbgaaGreatG2
import Derived.Test.YtkedhdcnakhbgaaGreatG4
import Derived.Laws.MakeOwn
set_option linter.unusedSimpArgs false
set_option maxRecDepth 100000
set_option maxHeartbeats 16000000
namespace Go.Proofs.YtkedhdcnakhbgaaGreat
open Tryz
open Go
variable {ls:Array Bool}{er v:Int}{d:Int×Int}{ts:List Nat}{B B' b base i j k n p u:Nat}{a l out r s x:Qb}{W w w0 wr:World}
section
variable {P:Program} {ops:Array Oper} {Q:Exit->Act->World->Prop} {md:Region.Mode} {S:World->Prop}
def ClL(md:Region.Mode)(ops:Array Oper)(ls:Array Bool):Prop:=∀j o,ops[j]? = some o->ls.getD j true=true->∀e∈o.after,Region.binds md e=true->ls.getD e.on true=true
def qM(md:Region.Mode)(ops:Array Oper):Nat->Nat->Nat->Bool
 | 0,_,_=>false
 | f+1,j,i=>match ops[j]? with
  | none=>false
  | some o=>o.after.any fun e=>Region.binds md e&&(e.on==i||qM md ops f e.on i)
theorem CL(h:j<ls.size):ls.getD j true=ls.getD j false:=Zj h
theorem ClL.waits(h:ClL md ops ls)(i:Nat):∀(f j:Nat),qM md ops f j i=true->(∀o,ops[j]? = some o->∀e∈o.after,Region.binds md e=true->ls.getD e.on true=true)->ls.getD i true=true
 | 0,j,A,_=>by simp[qM] at A
 | f+1,j,A,G=>by
  rw[qM] at A;cases C:ops[j]? with
  | none=>rw[C] at A; simp at A
  | some o=>
   rw[C] at A;simp only at A;obtain⟨e,H,B⟩:∃e∈o.after,(Region.binds md e&&(e.on==i||qM md ops f e.on i))=true:=by
    rw[Array.any_eq_true] at A;obtain⟨k,I,B⟩:=A;exact⟨_,Array.getElem_mem I,B⟩
   simp only[XF,Bool.or_eq_true,XS] at B;have E:=G o C e H B.1;rcases B.2 with rfl | F
   ·exact E
   ·exact h.waits i f e.on F (fun o' D=>h e.on o' D E)
theorem kW(F:j∈Region.ready md ops ls):ls.getD j true=false/\∀o,ops[j]? = some o->∀e∈o.after,Region.binds md e=true->ls.getD e.on true=true:=by
 obtain⟨C,o,G,A⟩:=mem_ready.1 F;refine⟨C,fun o' B e E D=>?_⟩;rw[G] at B;cases B;have:=A e E D;rcases gB e.on ls.size with h | h
 ·rw[CL h]; simpa using this
 ·simp[h]
theorem ClL.set(h:ClL md ops ls)(F:j∈Region.ready md ops ls):ClL md ops (ls.setIfInBounds j true):=by
 intro k o E D e C B;have H:∀x,ls.getD x true=true->(ls.setIfInBounds j true).getD x true=true:=fun x G=>by
  by_cases ex:j=x
  ·subst ex;rcases gB j ls.size with A | A
   ·simp[A]
   ·simp[A]
  ·rw[getD_set_ne true ex]; exact G
 by_cases ek:j=k
 ·subst ek; exact H _ ((kW F).2 o E e C B)
 ·rw[getD_set_ne true ek] at D; exact H _ (h k o E D e C B)
def uk(ts:List Nat)(ls:Array Bool):Bool:=ts.all fun t=>!(ls.getD t true)
theorem z8:uk ts ls=true↔∀t∈ts,ls.getD t true=false:=by simp[uk]
def Po(P:Program)(md:Region.Mode)(ops:Array Oper)(Q:Exit->Act->World->Prop)(S:World->Prop)(ts:List Nat):Nat->Array Bool->Act->World->Prop
 | 0,ls,a,w=>Region.ready md ops ls=[]/\Q .normal a w
 | f+1,ls,a,w=>(Region.ready md ops ls=[]->Q .normal a w)/\∀i∈Region.ready md ops ls,wpOp P ops Q i (fun a' w'=>(uk ts (ls.setIfInBounds i true)=true->S w')/\Po P md ops Q S ts f (ls.setIfInBounds i true) a' w') a w
def Du(P:Program)(md:Region.Mode)(ops:Array Oper)(Q:Exit->Act->World->Prop)(S:World->Prop)(ts:List Nat)(f:Nat)(ls:Array Bool)(a:Act)(w:World):Prop:=ClL md ops ls->Po P md ops Q S ts f ls a w
theorem yV{ts:List Nat}:∀(f:Nat) (ls:Array Bool) (a:Act) (w:World),Po P md ops Q S ts f ls a w->wpAny P md ops Q f ls a w
 | 0,_,_,_,h=>h
 | f+1,_,_,_,h=>⟨h.1,fun i B=>wpOp_mono (fun a' w' A=>yV f _ a' w' A.2) (h.2 i B)⟩
theorem qG{ts:List Nat}{S':World->Prop}{i:Nat}{oi:Oper}{v:Value}(O:ops[i]? = some oi)(B:∀(j:Nat) (o:Oper) cs b,ops[j]? = some o->o.op≠.select cs b)(Z:∀c a w,Q (.panic c) (a.put oi.dst v) w->Q (.panic c) a w)
  (L:∀(ls:Array Bool) (j:Nat) (w:World),ClL md ops ls->i∈Region.ready md ops ls->j∈Region.ready md ops ls->j≠i->(uk ts ((ls.setIfInBounds j true).setIfInBounds i true)=true->S w)->S' w/\(uk ts (ls.setIfInBounds j true)=true->S w)) :
  ∀(f:Nat) (ls:Array Bool) (a:Act) (w:World),ClL md ops ls->(∀j oj,ops[j]? = some oj->j≠i->ls.getD j true=false->(∀e∈oj.after,Region.binds md e=true->e.on≠i)->oi.apart ops oj=true)->
   i∈Region.ready md ops ls->YieldsIf P ops S' oi v a->S' w->(uk ts (ls.setIfInBounds i true)=true->S w)->Po P md ops Q S ts f (ls.setIfInBounds i true) (a.put oi.dst v) w->Po P md ops Q S ts (f+1) ls a w
 | 0,ls,a,w,T,_,E,R,U,F,H=>by
  refine⟨fun h=>(by rw[h] at E; cases E),fun j I=>?_⟩;by_cases e:j=i
  ·subst e; exact R.wpOp O U ⟨F,H⟩
  ·have:=ready_mono I e;rw[H.1] at this;cases this
 | f+1,ls,a,w,T,A,E,R,U,F,H=>by
  refine⟨fun h=>(by rw[h] at E; cases E),fun j I=>?_⟩;by_cases e:j=i
  ·subst e; exact R.wpOp O U ⟨F,H⟩
  have h1:=H.2 j (ready_mono I e);obtain⟨D,oj,C,A0⟩:=mem_ready.1 I;have K:∀e∈oj.after,Region.binds md e=true->e.on≠i:=fun e he hb V=>by
   have g1:=(kW I).2 oj C e he hb;rw[V,(kW E).1] at g1;cases g1
  have h2:=wpOp_putIf C (A j oj C e D K) (fun cs b=>B i oi cs b O) (fun cs b=>B j oj cs b C) Z R h1;refine wpOp_mono (fun a' w' N=>?_) h2;have G:=Array.setIfInBounds_comm (xs:=ls) true true e;have Y:=L ls j w' T E I e (G▸N.2.1);refine⟨Y.2,qG O B Z L f (ls.setIfInBounds j true) a' w' (T.set I) (fun k ok hk W M X=>?_) (ready_mono E (Ne.symm e)) N.1 Y.1 (G▸N.2.1) ?_⟩
  ·refine A k ok hk W ?_ X;by_cases J:j=k
   ·subst J; exact D
   ·rw[getD_set_ne true J] at M; exact M
  ·rw[G];exact N.2.2
theorem Eb(B:ts.contains i=false)(h:uk ts ls=true):uk ts (ls.setIfInBounds i true)=true:=by
 rw[z8] at h ⊢;intro t A;have e:i≠t:=fun e=>by
  subst e;have:ts.contains i=true:=Zu A;rw[B] at this; cases this
 rw[getD_set_ne true e]; exact h t A
theorem BC{ts:List Nat}{i:Nat}{oi:Oper}{v:Value}{f:Nat}{ls:Array Bool}{a:Act}{w:World}(H:ops[i]? = some oi)(hs:Region.noSelect ops=true)(L:Region.free md ops ls i=true)(I:(Region.ready md ops ls).contains i=true)(E:(!ts.contains i&&ts.all (fun t=>qM md ops ops.size t i))=true)
  (J:∀c a w,Q (.panic c) (a.put oi.dst v) w->Q (.panic c) a w) (U:YieldsIf P ops S oi v a) (G:S w) (h:Du P md ops Q S ts f (ls.setIfInBounds i true) (a.put oi.dst v) w):Du P md ops Q S ts (f+1) ls a w:=fun B=>by
 simp only[XF,Bool.not_eq_true',P5] at E;refine qG H (Region.noSelect_spec hs) J (fun ls j w B C D N R=>?_) f ls a w B (Region.free_spec H L) (Zu I) U G (fun _=>G) (h (B.set (Zu I)));have M:uk ts (ls.setIfInBounds j true)=true:=by
  rw[z8];intro t A;have V:∀t∈ts,(∀o,ops[t]? = some o->∀e∈o.after,Region.binds md e=true->ls.getD e.on true=true)->False:=fun t A K=>by
   have F:=B.waits i _ t (E.2 t A) K;rw[(kW C).1] at F;cases F
  have e:j≠t:=fun e=>by subst e; exact V j A (kW D).2
  rw[getD_set_ne true e];cases T:ls.getD t true with
  | false=>rfl
  | true=>exact(V t A (fun o O=>B t o O T)).elim
 have:=R (Eb E.1 M);exact⟨this,fun _=>this⟩
theorem cu{ts:List Nat}{i:Nat}{o:Oper}{f:Nat}{ls:Array Bool}{a:Act}{w:World}(E:Region.ready md ops ls=[i])(I:ops[i]? = some o)
  (h:∀K':Act->World->Prop,Shut (∀a w,(uk ts (ls.setIfInBounds i true)=true->S w)->((uk ts (ls.setIfInBounds i true)=true->S w)->Du P md ops Q S ts f (ls.setIfInBounds i true) a w)->K' a w)->if Region.wanted o (yielded ops a.tmps)=true then Oper.wp P o a w K' Q else K' (a.put o.dst undef) w):Du P md ops Q S ts (f+1) ls a w:=
 fun F=>⟨fun C=>(by rw[E] at C; cases C),fun j A=>by
  have B:=A;rw[E] at A;obtain rfl:j=i:=Zu A;exact wpOp_step I (fun K' G=>h K' (fun a w D H=>G a w ⟨D,H D (F.set B)⟩))⟩
theorem eQ{a:Act}(A:Region.ready md ops ls=[])(h:Q .normal a w):∀f,Du P md ops Q S ts f ls a w
 | 0=>fun _=>⟨A,h⟩
 | _+1=>fun _=>⟨fun _=>h,Zn A⟩
theorem Au(n j:Nat):(Array.replicate n false).getD j true=true->n<=j:=fun h=>by
 rcases gB j n with A | A
 ·simp[A] at h
 ·exact A
theorem iQ(ts:List Nat){id:Nat}{a:Act}(C:P.follows .mixedOrders=true)(A:S w.drew)(h:S w.drew->Du P .any ops Q S ts ops.size (Array.replicate ops.size false) a w.drew):(Code.region id ops true).wp P Q a w:=
 wp_region_any C (yV _ _ _ _ (h A (fun j o D B=>by
  have E:=Au _ _ B;have F:=(XA.1 D).1
  omega)))
end
section
variable {P:Program} {ops:Array Oper} {Q:Exit->Act->World->Prop} {md:Region.Mode} {S:World->Prop}
theorem Xv{ts:List Nat}(i:Nat){oi:Oper}{v:Value}{f:Nat}{ls:Array Bool}{a a':Act}{w:World}(h:Du P md ops Q S ts f (ls.setIfInBounds i true) a' w)(F:ops[i]? = some oi:=by rfl)(hs:Region.noSelect ops=true:=by kernel_rfl)(E:Region.free md ops ls i=true:=by kernel_rfl)(G:(Region.ready md ops ls).contains i=true:=by kernel_rfl)(H:(!ts.contains i&&ts.all (fun t=>qM md ops ops.size t i))=true:=by kernel_rfl)
  (B:∀c a w,Q (.panic c) (a.put oi.dst v) w->Q (.panic c) a w:=by exact fun _ _ _ h=>h) (I:Region.wanted oi (yielded ops a.tmps)=true:=by rfl) (J:∀w,S w->(execOp a.eval oi).run P w=.ok (.value v) w:=by(intro wx A; (try dsimp only at A); go_simp; try (with_reducible rfl))) (C:S w:=by assumption) (D:a.put oi.dst v=a':=by(simp only[Act.put,zA,zB,zC,zD,zE,zF]; rfl)):Du P md ops Q S ts (f+1) ls a w:=
 BC F hs E G H B (Or.inl ⟨I,J⟩) C (D▸h)
theorem Xw{ts:List Nat}(i:Nat){oi:Oper}{f:Nat}{ls:Array Bool}{a a':Act}{w:World}(h:Du P md ops Q S ts f (ls.setIfInBounds i true) a' w)(E:ops[i]? = some oi:=by rfl)(hs:Region.noSelect ops=true:=by kernel_rfl)(D:Region.free md ops ls i=true:=by kernel_rfl)(F:(Region.ready md ops ls).contains i=true:=by kernel_rfl)(G:(!ts.contains i&&ts.all (fun t=>qM md ops ops.size t i))=true:=by kernel_rfl)
  (A:∀c a w,Q (.panic c) (a.put oi.dst undef) w->Q (.panic c) a w:=by exact fun _ _ _ h=>h) (H:Region.wanted oi (yielded ops a.tmps)=false:=by rfl) (B:S w:=by assumption) (C:a.put oi.dst undef=a':=by(simp only[Act.put,zA,zB,zC,zD,zE,zF]; rfl)):Du P md ops Q S ts (f+1) ls a w:=
 BC E hs D F G A (Or.inr ⟨H,rfl⟩) B (C▸h)
theorem Xx(i:Nat){oi:Oper}{v:Value}{f:Nat}{ls:Array Bool}{a a':Act}{w:World}(h:wpAnyH P md ops Q S f (ls.setIfInBounds i true) a' w)(F:ops[i]? = some oi:=by rfl)(hs:Region.noSelect ops=true:=by kernel_rfl)(E:Region.free md ops ls i=true:=by kernel_rfl)(G:(Region.ready md ops ls).contains i=true:=by kernel_rfl)
  (B:∀c a w,Q (.panic c) (a.put oi.dst v) w->Q (.panic c) a w:=by exact fun _ _ _ h=>h) (H:Region.wanted oi (yielded ops a.tmps)=true:=by rfl) (I:∀w,S w->(execOp a.eval oi).run P w=.ok (.value v) w:=by(intro wx A; (try dsimp only at A); go_simp; try (with_reducible rfl))) (C:S w:=by assumption) (D:a.put oi.dst v=a':=by(simp only[Act.put,zA,zB,zC,zD,zE,zF]; rfl)):wpAnyH P md ops Q S (f+1) ls a w:=
 wpAnyH_take F hs E G B (Or.inl ⟨H,I⟩) C (D▸h)
end
open Go.RowKit
set_option linter.unusedVariables false
structure Dop where
 off:Nat
 len:Nat
 data:Qb
def cZ(o:Dop):Bool:=decide (0<o.len)&&decide (o.data=[])
def wZ(o:Dop):Bool:=decide (o.len=0)&&decide (o.off=0)&&!decide (o.data=[])
def bS(o:Dop):Nat:=if 0<o.len then o.len else o.data.length
def vQ(n:Nat):List Dop->Nat->Int
 | [],_=>0
 | o::l,p=>if cZ o=false/\wZ o=false then 1 else if cZ o=true/\(n<o.len\/n<o.off+o.len) then 2 else if 65536<bS o+p then 4 else vQ n l (p+bS o)
def bW(l:List Dop)(n:Nat):Int:=if 65536<n then 2 else vQ n l 0
def mU(o:Dop):Qb:=Cw.enc o.len++(if cZ o=true then Cw.enc o.off else(putT o.data).1)
def AV(l:List Dop):Qb×Int:=if bW l 65536≠0 then([],bW l 65536) else(Cw.enc l.length++l.flatMap mU,0)
def oO(a:Qb)(o:Dop):Qb:=if cZ o=true then(a.drop o.off).take o.len else o.data
def gP(a:Qb)(l:List Dop):Qb×Int:=if bW l a.length≠0 then([],bW l a.length) else(l.flatMap (oO a),0)
def opS(s:Qb):Option (Dop×Nat):=
 if(Cw.getI s).2.2≠0 then none
 else if 0<(Cw.getI s).1 then
  (if(Cw.getI (s.drop (Cw.getI s).2.1.toNat)).2.2≠0 then none else some (⟨(Cw.getI (s.drop (Cw.getI s).2.1.toNat)).1.toNat,(Cw.getI s).1.toNat,[]⟩,(Cw.getI s).2.1.toNat+(Cw.getI (s.drop (Cw.getI s).2.1.toNat)).2.1.toNat))
 else
  (if(Cw.getT (s.drop (Cw.getI s).2.1.toNat)).2.2≠0 then none else some (⟨0,0,(Cw.getT (s.drop (Cw.getI s).2.1.toNat)).1⟩,(Cw.getI s).2.1.toNat+(Cw.getT (s.drop (Cw.getI s).2.1.toNat)).2.1.toNat))
def jy:Nat->Qb->List Dop->Option (List Dop×Qb)
 | 0,s,l=>some (l,s)
 | n+1,s,l=>match opS s with
  | none=>none
  | some (o,k)=>jy n (s.drop k) (l++[o])
def sK(s:Qb):List Dop×Int:=
 if(Cw.getI s).2.2≠0 then([],13) else match jy (Cw.getI s).1.toNat (s.drop (Cw.getI s).2.1.toNat) [] with
  | none=>([],13)
  | some (l,r)=>if r≠[]\/bW l 65536≠0 then([],13) else(l,0)
theorem qx{n k:Int}(h:Cw.getI l=(n,k,0)):l=Cw.enc n.toNat++l.drop k.toNat/\0<=n/\1<=k/\k<=l.length:=by
 obtain⟨A,B,C⟩:=Cw.getI_canon h;obtain⟨_,_,D,E,_⟩:=bM h;refine⟨?_,A,D,E⟩;rw[B,aj]
 conv=>lhs; rw[<-aQ (Cw.enc n.toNat).length l]
 rw[C]
theorem Ga{k:Int}(h:Cw.getT l=(x,k,0)):l=(Cw.enc x.length++x)++l.drop k.toNat/\1<=k/\k<=l.length/\x.length<=65536:=by
 obtain⟨A,B,C,D⟩:=lY h;refine⟨?_,A,B,C⟩
 conv=>lhs; rw[<-aQ k.toNat l]
 rw[D]
theorem zU{o:Dop}(h:opS s=some (o,k)):s=mU o++s.drop k/\1<=k/\k<=s.length/\o.data.length<=65536/\(0<o.len->o.data=[])/\(o.len=0->o.off=0)/\o.len<=1099511627776/\o.off<=1099511627776:=by
 unfold opS at h;obtain⟨n,u,er,D⟩:∃n u er,Cw.getI s=(n,u,er):=⟨_,_,_,rfl⟩;rw[D] at h;simp only at h;by_cases F:er=0
 ·subst F;obtain⟨g1,g2,g3,g4⟩:=qx D;have g5:=(bM D).2.1;rw[if_neg Zs] at h;by_cases G:0<n
  ·rw[if_pos G] at h;obtain⟨m,v,H,A⟩:∃m v H,Cw.getI (s.drop u.toNat)=(m,v,H):=⟨_,_,_,rfl⟩;rw[A] at h;simp only at h;by_cases B:H=0
   ·subst B;obtain⟨k1,k2,k3,k4⟩:=qx A;have k5:=(bM A).2.1;rw[if_neg Zs] at h;cases h;rw[ah] at k4;refine⟨?_,Zo,Zo,Zs,fun _=>rfl,fun e=>?_,Zp,Zp⟩
    ·have C:cZ ⟨m.toNat,n.toNat,[]⟩=true:=by unfold cZ; simp; omega
     unfold mU;rw[if_pos C];simp only;rw[ay,<-eY,<-k1];exact g1
    ·simp only at e; omega
   ·rw[if_pos B] at h; cases h
  ·rw[if_neg G] at h;obtain⟨x,v,H,A⟩:∃x v H,Cw.getT (s.drop u.toNat)=(x,v,H):=⟨_,_,_,rfl⟩;rw[A] at h;simp only at h;by_cases B:H=0
   ·subst B;obtain⟨k1,k2,k3,k4⟩:=Ga A;rw[if_neg Zs] at h;cases h;rw[ah] at k3;refine⟨?_,Zo,Zo,k4,fun e=>by simp at e,fun _=>rfl,Zs,Zs⟩;have C:cZ ⟨0,0,x⟩=false:=by unfold cZ; simp
    unfold mU;rw[C,if_neg Zs];simp only;unfold putT;rw[if_pos k4];simp only;have E:n.toNat=0:=Zo;rw[E] at g1;rw[ay,<-eY,<-k1];exact g1
   ·rw[if_pos B] at h; cases h
 ·rw[if_pos F] at h; cases h
structure vV (s0:Qb) (k:Nat) (l:List Dop) (s:Qb):Prop where
 len:l.length=k
 cat:s0=l.flatMap mU++s
 room:k+s.length<=s0.length
 small:∀o∈l,o.data.length<=65536/\(0<o.len->o.data=[])/\(o.len=0->o.off=0)/\o.len<=1099511627776/\o.off<=1099511627776
theorem vV.start(s:Qb):vV s 0 [] s:=⟨rfl,rfl,Zo,fun o h=>by simp at h⟩
theorem vV.next{s0:Qb}{l:List Dop}{o:Dop}(h:vV s0 k l s)(E:opS s=some (o,n)):vV s0 (k+1) (l++[o]) (s.drop n):=by
 obtain⟨B,F,G,C⟩:=zU E;have D:=h.len;have H:=h.room;refine⟨Zj D,?_,?_,fun p A=>?_⟩
 ·rw[bg,ay];simp only[bR,List.flatMap_nil,bG];rw[<-B];exact h.cat
 ·rw[ah]; omega
 ·rcases aD.1 A with A | A
  ·exact h.small p A
  ·rw[aH.1 A]; exact C
theorem zR:∀(n k:Nat) {s0 s:Qb} {l l':List Dop} {r:Qb},vV s0 k l s->jy n s l=some (l',r)->vV s0 (k+n) l' r
 | 0,k,s0,s,l,l',r,h,e=>by cases e; exact h
 | n+1,k,s0,s,l,l',r,h,e=>by
  rw[jy] at e;cases A:opS s with
  | none=>rw[A] at e; cases e
  | some p=>
   obtain⟨o,m⟩:=p;rw[A] at e;have:=zR n (k+1) (h.next A) e
   rwa[aP,Nat.add_comm 1 n] at this
theorem JA{l:List Dop}(h:sK s=(l,0)):bW l 65536=0/\(AV l).1=s/\(l.length:Int)<=s.length/\∀o∈l,o.data.length<=65536/\o.len<=1099511627776/\o.off<=1099511627776:=by
 unfold sK at h;obtain⟨n,u,er,H⟩:∃n u er,Cw.getI s=(n,u,er):=⟨_,_,_,rfl⟩;rw[H] at h;simp only at h;by_cases G:er=0
 ·subst G;rw[if_neg Zs] at h;cases E:jy n.toNat (s.drop u.toNat) [] with
  | none=>rw[E] at h; simp at h
  | some p=>
   obtain⟨l',r⟩:=p;rw[E] at h;simp only at h;by_cases D:r≠[]\/bW l' 65536≠0
   ·rw[if_pos D] at h; simp at h
   ·rw[if_neg D] at h;cases h;have F:r=[]:=by
     by_cases e:r=[]
     ·exact e
     ·exact absurd (.inl e) D
    have B:bW l 65536=0:=by
     by_cases e:bW l 65536=0
     ·exact e
     ·exact absurd (.inr e) D
    subst F;have A:=zR _ 0 (vV.start _) E;obtain⟨g1,g2,g3,g4⟩:=qx H;refine⟨B,?_,?_,fun o I=>?_⟩
    ·unfold AV;rw[if_neg (Zj B)];simp only;have C:=A.cat;rw[bG] at C;rw[<-C,A.len,aZ];exact g1.symm
    ·have C:=A.room;have J:=A.len;rw[ah,aK] at C;omega
    ·obtain⟨a1,_,_,a2,a3⟩:=A.small o I;exact⟨a1,a2,a3⟩
 ·rw[if_pos G] at h; simp at h
theorem decD_ref{n u:Int}(E:Cw.getI s=(n,u,0)){l:List Dop}(h:vV (s.drop u.toNat) k l r)(G:k=n.toNat)(C:jy n.toNat (s.drop u.toNat) []=some (l,r)):sK s=if(AV l).2≠0\/(AV l).1≠s then([],13) else(l,0):=by
 unfold sK;rw[E];simp only[ne_eq,not_true_eq_false,if_false];rw[C];simp only;obtain⟨g1,g2,g3,g4⟩:=qx E;unfold AV;by_cases D:bW l 65536=0
 ·simp only[D,ne_eq,not_true_eq_false,if_false,or_false,false_or];have e:(Cw.enc l.length++l.flatMap mU=s)↔r=[]:=by
   rw[h.len,G];constructor
   ·intro e;have A:=h.cat;rw[A,<-ay,e] at g1;have F:=congrArg List.length g1;rw[af] at F;exact Qr.1 Zo
   ·intro e;have A:=h.cat;rw[e,bG] at A;rw[<-A];exact g1.symm
  by_cases B:r=[]
  ·rw[if_neg (Zu B),if_neg (by simpa using e.2 B)]
  ·rw[if_pos B,if_pos (fun h=>B (e.1 h))]
 ·simp[D]
theorem FO{l:List Dop}(k:Nat):∀{s0:Qb},jy k s0 []=some (l,s)->k<n->opS s=none->jy n s0 []=none:=by
 have G:∀(k n:Nat) (s0:Qb) (F:List Dop),jy k s0 F=some (l,s)->k<n->opS s=none->jy n s0 F=none:=by
  intro k;induction k with
  | zero=>
   intro n s0 F h D hs;cases h;obtain⟨m,rfl⟩:∃m,n=m+1:=⟨n-1,Zo⟩;rw[jy,hs]
  | succ k ih=>
   intro n s0 F h D hs;obtain⟨m,rfl⟩:∃m,n=m+1:=⟨n-1,Zo⟩;rw[jy] at h ⊢;cases E:opS s0 with
   | none=>rfl
   | some p=>
    obtain⟨o,j⟩:=p;rw[E] at h;exact ih m _ _ h Zo hs
 intro s0 A B C;exact G k n s0 [] A B C
theorem wP:∀(k:Nat) {s0 s:Qb} {acc l:List Dop} {o:Dop} {m:Nat},jy k s0 acc=some (l,s)->opS s=some (o,m)->jy (k+1) s0 acc=some (l++[o],s.drop m)
 | 0,s0,s,acc,l,o,m,h,A=>by
  cases h
  rw[jy,A];rfl
 | k+1,s0,s,acc,l,o,m,h,A=>by
  rw[jy] at h ⊢;cases B:opS s0 with
  | none=>rw[B] at h; cases h
  | some p=>
   obtain⟨o2,j⟩:=p;rw[B] at h;exact wP k h A
open Go.RowKit Go.Shelf
section
variable {α:Type} {f:α->List Value} {z:Nat}
def gcs(f:α->List Value)(l:List α):List Value:=l.flatMap f
structure Lay (f:α->List Value) (z:Nat):Prop where
 pos:0<z
 len:∀a,(f a).length=z
 one:∀a,∀v∈f a,v.oneCell'=true
theorem Gc(f:α->List Value)(a b:List α):gcs f (a++b)=gcs f a++gcs f b:=by simp[gcs]
theorem kE(f:α->List Value)(a:α)(b:List α):gcs f (a::b)=f a++gcs f b:=by simp[gcs]
theorem Nz(f:α->List Value)(a:α):gcs f [a]=f a:=by simp[gcs]
theorem xq(h:Lay f z):∀l:List α,(gcs f l).length=l.length*z
 | []=>by simp[gcs]
 | a::l=>by rw[kE,af,h.len,xq h l,az,rM]; omega
theorem uF(h:Lay f z):∀(l:List α) (i:Nat) (A:i<l.length) (j:Nat),j<z->(gcs f l)[i*z+j]? = (f l[i])[j]?
 | [],i,A,_,_=>by simp at A
 | a::l,0,_,j,B=>by
  rw[kE,dG,aZ,List.getElem?_append_left (by rw[h.len]; exact B)];rfl
 | a::l,i+1,A,j,B=>by
  rw[kE,YE (by rw[h.len,rM]; omega),h.len,show(i+1)*z+j-z=i*z+j by rw[rM]; omega,uF h l i (Zu A) j B];rfl
theorem yA(h:Lay f z):∀(l:List α) (i:Nat) (A:i<l.length) (j:Nat) (v:Value) (b:α),j<z->f b=(f l[i]).set j v->(gcs f l).set (i*z+j) v=gcs f (l.set i b)
 | [],i,A,_,_,_,_,_=>by simp at A
 | a::l,0,_,j,v,b,C,B=>by
  rw[kE,dG,aZ,List.set_append_left _ _ (by rw[h.len]; exact C),List.set_cons_zero,kE,B];rfl
 | a::l,i+1,A,j,v,b,C,B=>by
  rw[kE,List.set_append_right _ _ (by rw[h.len,rM]; omega),h.len,show(i+1)*z+j-z=i*z+j by rw[rM]; omega,List.set_cons_succ,kE,yA h l i (Zu A) j v b C (Zu B)]
def GIn(f:α->List Value)(z B:Nat)(W:World)(a:Qa)(l:List α):Prop:=
 ∀i (h:i<l.length),∃b off,a=some ⟨b,off,none⟩/\b<B/\∀j v,(f l[i])[j]? = some v->W.cell? ⟨b,off+i*z+j,none⟩=some v
theorem GIn.nil(B:Nat)(W:World)(a:Qa):GIn f z B W a []:=fun i h=>by simp at h
theorem GIn.below{W':World}{a:Qa}{l:List α}(h:GIn f z B W a l)(D:Below B' W W')(H:B<=B'):GIn f z B W' a l:=by
 intro i F;obtain⟨b,I,C,A,E⟩:=h i F;exact⟨b,I,C,A,fun j v G=>(D.cell (p:=⟨b,I+i*z+j,none⟩) Zt).trans (E j v G)⟩
theorem GIn.mono{a:Qa}{l:List α}(h:GIn f z B W a l)(F:B<=B'):GIn f z B' W a l:=by
 intro i D;obtain⟨b,G,A,E,C⟩:=h i D;exact⟨b,G,A,Zo,C⟩
theorem GIn.ahead{a:Qa}{l:List α}(h:GIn f z (w:Nat) w a l)(A:PM w W):GIn f z (W:Nat) W a l:=(h.below A nr).mono A.size
theorem jw{e:TypeId}{a:Qa}{c:Nat}{l:List α}(C:Lay f z)(H:n=l.length)(h:W.ownsRow base e z (.slice a n c) n (gcs f l)):GIn f z (W:Nat) W a l:=by
 subst H;intro i D;rcases h.2 with⟨B,I⟩ | ⟨g,J,K,B,_,F,_⟩
 ·omega
 ·cases B
  refine⟨g,0,rfl,(XA.1 F).1,fun j v E=>?_⟩;have G:j<z:=by rw[<-C.len l[i]]; exact(XO.1 E).1
  have A:i*z+j<l.length*z:=by
   have:(i+1)*z<=l.length*z:=pK _ D;rw[rM] at this; omega
  rw[aZ,h.cellAt _ A,uF C l i D j G,E]
theorem jb{base:Nat}{t e:TypeId}{i0:TypeInfo}{zv:Value}{bytes:Nat}(E:Lay f z)(S:prog.underlying t=some (.slice e))(Q:prog.info? e=some i0)(F:i0.zero=some zv)(G:i0.size=z)(H:i0.bytes=bytes)(I:zv.cells.size=z)
  {W:World} {v:Value} {n:Nat} {l:List α} (U:n=l.length) (B:W.ownsRow base e z v n (gcs f l)) (x:α) (J:(n:Int)<=1000000) (D:bytes<=1000) (C:base<=(W:Nat)) :
  ∃v' W',Qg ((Builtin.append_ #[t,t] t #[v,.slice W 1 1]).run prog (W.alloc (.cells (f x).toArray e))=.ok v' W')/\W'.ownsRow base e z v' (n+1) (gcs f (l++[x]))/\(W.alloc (.cells (f x).toArray e)).grownBy W' v.ownBlock/\(v'.ownBlock=v.ownBlock\/v'.ownBlock=some ((W:Nat)+1)):=by
 have O:(n+1)*bytes<=140737488355328:=aC (Nat.mul_le_mul (show n+1<=1000001 by omega) D) Zd;obtain⟨v',W',K,L,M,N⟩:=mD (P:=prog) (W.alloc (.cells (f x).toArray e)) base t t e i0 zv z bytes S Q F G H I E.pos v n (gcs f l) (B.alloc _) (some ⟨W,0,none⟩) 1 1 (f x) (Zy E.len) (.inr ⟨_,rfl,fun j u T=>by
  have R:=BK.new W (f x).toArray e;rw[XD,R.cell];simpa using T⟩) (E.one x) Zm O Zt
 refine⟨v',W',Qf K,?_,M,Zu N⟩;rw[Gc,Nz];exact L
theorem xW{e:TypeId}{g cap:Nat}{l:List α}(B:Lay f z)(h:W.ownsRow base e z (.slice g n cap) n (gcs f l))(E:n=l.length)(C:i<l.length)(D:j<z)(v:Value)(b:α)(A:f b=(f l[i]).set j v):
  (W.setCell ⟨g,i*z+j,none⟩ v).ownsRow base e z (.slice g n cap) n (gcs f (l.set i b)):=by
 rw[<-yA B l i C j v b D A];exact(h.stored (i*z+j) v).1
end
def jm(o:Dop):List Value:=[Yi (o.off:Int),Yi (o.len:Int),.string ⟨o.data.toArray⟩]
def Dop.val(o:Dop):Value:=.agg #[Yi (o.off:Int),Yi (o.len:Int),o.data]
theorem F3:Lay jm 3:=⟨Zd,fun o=>rfl,fun o v A=>by
 simp only[jm,XG,List.not_mem_nil,or_false] at A;rcases A with rfl | rfl | rfl <;> rfl⟩
theorem xX{a:Qa}{l:List Dop}(h:GIn jm 3 B W a l)(E:k<l.length):∃b F,a=some ⟨b,F,none⟩/\b<B/\W.cell? ⟨b,F+k*3,none⟩=some (Yi (l[k].off:Int))/\W.cell? ⟨b,F+k*3+1,none⟩=some (Yi (l[k].len:Int))/\W.cell? ⟨b,F+k*3+2,none⟩=some (.string ⟨l[k].data.toArray⟩):=by
 obtain⟨b,F,C,D,A⟩:=h k E;exact⟨b,F,C,D,A 0 _ rfl,A 1 _ rfl,A 2 _ rfl⟩
theorem nilB(l:Qb):decide (l=[])=l.isEmpty:=by cases l <;> rfl
theorem LP(o:Dop):cZ o=(decide ((0:Int)<(o.len:Int))&&o.data.isEmpty):=by
 unfold cZ;rw[nilB];congr 1;rw[YF];simp only[XJ];omega
theorem Nw(o:Dop):wZ o=(((o.len:Int)==0)&&((o.off:Int)==0)&&!o.data.isEmpty):=by
 unfold wZ;rw[nilB];congr 2 <;> (rw[YF]; simp)
theorem lW(o:Dop)(w:World):Qh 189 #[o.val] w (Xz (.bool (cZ o)) w):=by
 have C:=Qf (LP o);generalize cZ o=R at C;obtain⟨H,G,data⟩:=o;simp only[Dop.val] at C ⊢;generalize (H:Int)=fo;generalize (G:Int)=le at C;have D:Qg (PM w (w.alloc (.cells #[Yi fo,Yi le,data] 246))):=Qf (ba w _);by_cases F:0<le
 ·have B:Qg (R=data.isEmpty):=Qf (by rw[C.o]; simp[F]);clear C;cases E:data.isEmpty <;> (rw[E] at B; go_enter func189,ntmps189; go_wp2_with fail; go_ret; exact⟨Zw B.o,D.o⟩)
 ·have B:Qg (R=false):=Qf (by rw[C.o]; simp; intro h; omega);clear C;go_enter func189,ntmps189;go_wp2;go_ret;exact⟨Zw B.o,D.o⟩
theorem Ae(o:Dop)(w:World):Qh 222 #[o.val] w (Xz (.bool (wZ o)) w):=by
 have C:=Qf (Nw o);generalize wZ o=R at C;obtain⟨I,H,data⟩:=o;simp only[Dop.val] at C ⊢;generalize (I:Int)=fo at C;generalize (H:Int)=le at C;have D:Qg (PM w (w.alloc (.cells #[Yi fo,Yi le,data] 246))):=Qf (ba w _);cases F:(le==0) with
 | false=>
  have B:Qg (R=false):=Qf (by rw[C.o,F]; rfl);clear C;go_enter func222,ntmps222;go_wp2;go_ret;exact⟨Zw B.o,D.o⟩
 | true=>
  cases E:(fo==0) with
  | false=>
   have B:Qg (R=false):=Qf (by rw[C.o,E]; simp);clear C;go_enter func222,ntmps222;go_wp2;go_ret;exact⟨Zw B.o,D.o⟩
  | true=>
   cases G:data.isEmpty with
   | false=>
    have B:Qg (R=true):=Qf (by rw[C.o,F,E,G]; rfl);clear C;go_enter func222,ntmps222;go_wp2;go_ret;exact⟨Zw B.o,D.o⟩
   | true=>
    have B:Qg (R=false):=Qf (by rw[C.o,F,E,G]; rfl);clear C;go_enter func222,ntmps222;go_wp2;go_ret;exact⟨Zw B.o,D.o⟩
theorem uQ(o:Dop)(w:World):Qh 194 #[o.val] w (Xz (Yi (bS o:Int)) w):=by
 obtain⟨H,G,data⟩:=o;simp only[Dop.val];have hs:(bS ⟨H,G,data⟩:Int)=if(0:Int)<(G:Int) then(G:Int) else(data.length:Int):=by
  unfold bS;simp only;by_cases h:0<G
  ·rw[if_pos h,if_pos Zo]
  ·rw[if_neg h,if_neg Zo]
 obtain⟨S,D⟩:∃S:Int,S=(bS ⟨H,G,data⟩:Int):=⟨_,rfl⟩;rw[<-D];rw[<-D] at hs;have E:=bH data;generalize (data.length:Nat)=dl at E hs;have C:=Qf hs;clear hs D;generalize (H:Int)=fo;generalize (G:Int)=le at C;have B:Qg (PM w (w.alloc (.cells #[Yi fo,Yi le,data] 246))):=Qf (ba w _);by_cases F:0<le
 ·go_enter func194,ntmps194;go_wp2;go_ret;exact⟨by rw[C.o,if_pos F]; rfl,B.o⟩
 ·go_enter func194,ntmps194;go_wp2;go_ret;exact⟨by rw[C.o,if_neg Zo]; rfl,B.o⟩
def Chk(n:Nat)(l:List Dop)(k p:Nat):Prop:=vQ n l 0=vQ n (l.drop k) p/\p<=65536
theorem Chk.start(n:Nat)(l:List Dop):Chk n l 0 0:=⟨rfl,Zo⟩
theorem Chk.at{l:List Dop}(h:Chk n l k p)(A:k<l.length):vQ n l 0=if cZ l[k]=false/\wZ l[k]=false then 1 else if cZ l[k]=true/\(n<l[k].len\/n<l[k].off+l[k].len) then 2 else if 65536<bS l[k]+p then 4 else vQ n (l.drop (k+1)) (p+bS l[k]):=by
 rw[h.1,aN A,vQ]
theorem Chk.fin{l:List Dop}(h:Chk n l k p)(A:l.length<=k):vQ n l 0=0:=by
 rw[h.1,dV A,vQ]
theorem qz(a:Qa)(l:List Dop)(c n:Nat)(w:World)(hl:GIn jm 3 (w:Nat) w a l)(hn:(n:Int)<=9223372036854775807)(C2:(l.length:Int)<=9223372036854775807)(hs:∀o∈l,o.data.length<=1099511627776/\o.len<=1099511627776/\o.off<=1099511627776):
  Qh 187 #[.slice a l.length c,Yi (n:Int)] w (Xz (Yi (bW l n)) w):=by
 obtain⟨R,hR⟩:=Qe (bW l n);rw[<-hR];unfold bW at hR;have HR:=Qf hR;obtain⟨m,hm⟩:=Qe l.length;rw[<-hm] at C2 ⊢;obtain⟨HN,HL,HS⟩:=Yk hm hl hs;clear hR hm hl hs;by_cases L:65536<n
 ·have C0:(65536:Int)<(n:Int):=Zo;have B8:¬(n:Int)<0:=Zo;have B5:Qg (R=2):=Qf (by rw[HR.o,if_pos L]);have HB:=Qf (Below.refl (w:Nat) w);clear HR L;go_enter func187,ntmps187;go_wp2;go_ret;exact⟨Zw B5.o,HB.o⟩
 have C0:¬(65536:Int)<(n:Int):=Zo;have B8:¬(n:Int)<0:=Zo;have U:Qg (R=vQ n l 0):=Qf (by rw[HR.o,if_neg L]);clear HR L;go_enter func187,ntmps187;go_wp2;go_loopw [16,5] (fun i s wr=>∃k p:Nat,k<=m/\i=Yi (k:Int)/\s=Yi (p:Int)/\Qg (PM w wr)/\Qg (Chk n l k p)) (fun i _ _=>m-(intOf i).toNat)
 case atStart=>exact⟨0,0,Zo,rfl,rfl,Qf (bf _),Qf (Chk.start n l)⟩
 case round=>
  obtain⟨k,p,hk,rfl,rfl,HB,HE⟩:=hrel;have hp:=HE.out.2;by_cases C3:k<m
  ·have h1:k<l.length:=HN.o▸C3;have C1:(k:Int)<(m:Int):=Zo;obtain⟨b0,B0,B7,B9,q0,q1,q2⟩:=xX (HL.o.ahead HB.o) h1;subst B7;have B:Qg (R=_):=Qf (U.o.trans (HE.out.at h1));have E:Qg (∀q,65536<bS l[k]+p\/(q=p+bS l[k]->R=vQ n (l.drop (k+1)) q->Chk n l (k+1) q)):=Qf (fun q=>by
    by_cases e:65536<bS l[k]+p
    ·exact .inl e
    ·exact .inr (fun h2 h3=>⟨U.o▸h3,Zo⟩))
   have A8:=HS.o _ (ak h1);generalize l[k]=o at q0 q1 q2 B E A8;have A9:bS o<=1099511627776:=by unfold bS; split <;> omega
   obtain⟨S,A3,P⟩:=Yk (fun W=>lW o W) (fun W=>Ae o W) (fun W=>uQ o W);obtain⟨cb,Y⟩:=Qe (cZ o);obtain⟨ib,Z⟩:=Qe (wZ o);obtain⟨z,hz⟩:=Qe (bS o);rw[<-Y] at S;rw[<-Z] at A3;rw[<-hz] at P A9;rw[<-Y,<-Z,<-hz] at B;rw[<-hz] at E;obtain⟨A4,A2,data⟩:=o;simp only[Dop.val] at *
   clear HE Y Z hz B9;obtain⟨u0,Q⟩:=Qe (wr.alloc (.cells #[Yi (A4:Int),Yi (A2:Int),data] 246));have A7:PM wr u0:=Q▸ba _ _;have V:=Qf (XT HB.o A7);have A5:Qg (BK wr #[Yi (A4:Int),Yi (A2:Int),data] 246 u0):=Qf (Q▸BK.new _ _ _);have D:=Qf (S.o u0);rw[Q] at D;have A6:=Qf Q;have D2:(A2:Int)<=1099511627776/\(A4:Int)<=1099511627776:=Zo;clear Q A7 HL HS A8;go_wp2_with fail;refine D.o.mono ?_;rintro e u2 ⟨rfl,C⟩;rw[<-A6.o] at C;obtain⟨M,O⟩:=Yj (XT V.o C) (A5.o.below C);clear C D A6 V A5 q0 q1 q2
   -- THE ROUND
   cases cb with
   | true=>
    have D:=Qf (S.o u2);obtain⟨k0,k1,k2⟩:=BK.c3 O.o;go_wp2_with fail;refine D.o.mono ?_;rintro e u3 ⟨rfl,C⟩;obtain⟨G,J⟩:=Yj (XT M.o C) (O.o.below C);clear C D M O k0 k1 k2;obtain⟨m0,m1,m2⟩:=BK.c3 J.o;have g0:¬(A4:Int)<0:=Zo;by_cases h3:n<A2
    case pos=>
     have g1:(n:Int)<(A2:Int):=Zo;have F:Qg (R=2):=Qf (by rw[B.o,if_neg Zs,if_pos ⟨Zs,.inl h3⟩]);clear B E;go_wp2;go_ret;exact⟨Zw F.o,G.o⟩
    have g1:¬(n:Int)<(A2:Int):=Zo;have g2:IntKind.i64.wrap ((n:Int)-(A2:Int))=(n:Int)-(A2:Int):=ZV;by_cases h4:n<A4+A2
    case pos=>
     have g3:(n:Int)-(A2:Int)<(A4:Int):=Zo;have F:Qg (R=2):=Qf (by rw[B.o,if_neg Zs,if_pos ⟨Zs,.inr h4⟩]);clear B E;go_wp2;go_ret;exact⟨Zw F.o,G.o⟩
    have g3:¬(n:Int)-(A2:Int)<(A4:Int):=Zo;have B:Qg (R=if 65536<z+p then 4 else vQ n (l.drop (k+1)) (p+z)):=Qf (by rw[B.o,if_neg Zs,if_neg (fun e=>e.2.elim h3 h4)]);clear m0 m1 m2;have D:=Qf (P.o u3);obtain⟨k0,k1,k2⟩:=BK.c3 J.o;go_wp2_with fail;refine D.o.mono ?_;rintro e u4 ⟨rfl,C⟩;obtain⟨I,K⟩:=Yj (XT G.o C) (J.o.below C);clear C D G J k0 k1 k2;by_cases H:65536<z+p
    case pos=>
     have A0:(65536:Int)-(p:Int)<(z:Int):=Zo;have A1:IntKind.i64.wrap ((65536:Int)-(p:Int))=(65536:Int)-(p:Int):=ZV;have F:Qg (R=4):=Qf (by rw[B.o,if_pos H]);clear B E;go_wp2;go_ret;exact⟨Zw F.o,I.o⟩
    have A0:¬(65536:Int)-(p:Int)<(z:Int):=Zo;have A1:IntKind.i64.wrap ((65536:Int)-(p:Int))=(65536:Int)-(p:Int):=ZV;have C5:IntKind.i64.wrap ((p:Int)+(z:Int))=((p+z:Nat):Int):=by rw[ZV]; omega
    have X:Qg (Chk n l (k+1) (p+z)):=Qf (((E.o (p+z)).resolve_left H) rfl (by rw[B.o,if_neg H]));clear H B E;have D:=Qf (P.o u4);obtain⟨k0,k1,k2⟩:=BK.c3 K.o;go_wp2_with fail;refine D.o.mono ?_;rintro e u5 ⟨rfl,C⟩;obtain⟨N,T⟩:=Yj (XT I.o C) (K.o.below C);clear C D I K k0 k1 k2;go_wp2;go_roundw
    case rel=>exact⟨k+1,p+z,Zo,Zg,Zg,N,X⟩
    case measure=>exact Yr
   | false=>
    have D:=Qf (A3.o u2);obtain⟨k0,k1,k2⟩:=BK.c3 O.o;go_wp2_with fail;refine D.o.mono ?_;rintro e u3 ⟨rfl,C⟩;obtain⟨G,J⟩:=Yj (XT M.o C) (O.o.below C);clear C D M O k0 k1 k2;cases ib with
    | false=>
     have F:Qg (R=1):=Qf (by rw[B.o,if_pos ⟨Zs,Zs⟩]);clear B E;go_wp2;go_ret;exact⟨Zw F.o,G.o⟩
    | true=>
     have D:=Qf (S.o u3);obtain⟨k0,k1,k2⟩:=BK.c3 J.o;go_wp2_with fail;refine D.o.mono ?_;rintro e u4 ⟨rfl,C⟩;obtain⟨I,K⟩:=Yj (XT G.o C) (J.o.below C);clear C D G J k0 k1 k2;have B:Qg (R=if 65536<z+p then 4 else vQ n (l.drop (k+1)) (p+z)):=Qf (by rw[B.o,if_neg Zs,if_neg Zs]);have D:=Qf (P.o u4);obtain⟨k0,k1,k2⟩:=BK.c3 K.o;go_wp2_with fail;refine D.o.mono ?_;rintro e u5 ⟨rfl,C⟩;obtain⟨N,T⟩:=Yj (XT I.o C) (K.o.below C);clear C D I K k0 k1 k2;by_cases H:65536<z+p
     case pos=>
      have A0:(65536:Int)-(p:Int)<(z:Int):=Zo;have A1:IntKind.i64.wrap ((65536:Int)-(p:Int))=(65536:Int)-(p:Int):=ZV;have F:Qg (R=4):=Qf (by rw[B.o,if_pos H]);clear B E;go_wp2;go_ret;exact⟨Zw F.o,N.o⟩
     have A0:¬(65536:Int)-(p:Int)<(z:Int):=Zo;have A1:IntKind.i64.wrap ((65536:Int)-(p:Int))=(65536:Int)-(p:Int):=ZV;have C5:IntKind.i64.wrap ((p:Int)+(z:Int))=((p+z:Nat):Int):=by rw[ZV]; omega
     have X:Qg (Chk n l (k+1) (p+z)):=Qf (((E.o (p+z)).resolve_left H) rfl (by rw[B.o,if_neg H]));clear H B E;have D:=Qf (P.o u5);obtain⟨k0,k1,k2⟩:=BK.c3 T.o;go_wp2_with fail;refine D.o.mono ?_;rintro e u6 ⟨rfl,C⟩;obtain⟨B4,D1⟩:=Yj (XT N.o C) (T.o.below C);clear C D N T k0 k1 k2;go_wp2;go_roundw
     case rel=>exact⟨k+1,p+z,Zo,Zg,Zg,B4,X⟩
     case measure=>exact Yr
  ·have C1:¬(k:Int)<(m:Int):=Zo;have F:Qg (R=0):=Qf (by rw[U.o]; exact HE.out.fin (by rw[<-HN.o]; omega));clear HE U;go_wp2;go_ret;exact⟨Zw F.o,HB.o⟩
theorem form_any(o:Dop)(w:World):Qh 243 #[o.val] w (Xz (.bool (cZ o||wZ o)) w):=by
 have C:Qg ((cZ o||wZ o)=_):=Qf (by rw[LP,Nw]);generalize (cZ o||wZ o)=R at C;obtain⟨K,J,data⟩:=o;simp only[Dop.val] at C ⊢;have G:0<=(J:Int):=Zo;generalize (K:Int)=fo at C;generalize (J:Int)=le at C G;have D:Qg (PM w (w.alloc (.cells #[Yi fo,Yi le,data] 246))):=Qf (ba w _);by_cases I:0<le
 ·have F:(le==0)=false:=Zt;cases E:data.isEmpty with
  | true=>
   have B:Qg (R=true):=Qf (by rw[C.o,E,F]; simp[I]);clear C;go_enter func243,ntmps243;go_wp2;go_ret;exact⟨Zw B.o,D.o⟩
  | false=>
   have B:Qg (R=false):=Qf (by rw[C.o,E,F]; simp[I]);clear C;go_enter func243,ntmps243;go_wp2;go_ret;exact⟨Zw B.o,D.o⟩
 ·obtain rfl:le=0:=Zo;cases H:(fo==0) with
  | false=>
   have B:Qg (R=false):=Qf (by rw[C.o,H]; simp);clear C;go_enter func243,ntmps243;go_wp2;go_ret;exact⟨Zw B.o,D.o⟩
  | true=>
   cases E:data.isEmpty with
   | true=>
    have B:Qg (R=false):=Qf (by rw[C.o,H,E]; simp);clear C;go_enter func243,ntmps243;go_wp2;go_ret;exact⟨Zw B.o,D.o⟩
   | false=>
    have B:Qg (R=true):=Qf (by rw[C.o,H,E]; simp);clear C;go_enter func243,ntmps243;go_wp2;go_ret;exact⟨Zw B.o,D.o⟩
theorem rdcheck_any(a:Qa)(l:List Dop)(c n:Nat)(w:World)(hl:GIn jm 3 (w:Nat) w a l)(hn:(n:Int)<=9223372036854775807)(B9:(l.length:Int)<=9223372036854775807)(hs:∀o∈l,o.data.length<=1099511627776/\o.len<=1099511627776/\o.off<=1099511627776):
  Qh 227 #[.slice a l.length c,Yi (n:Int)] w (Xz (Yi (bW l n)) w):=by
 obtain⟨R,hR⟩:=Qe (bW l n);rw[<-hR];unfold bW at hR;have HR:=Qf hR;obtain⟨m,hm⟩:=Qe l.length;rw[<-hm] at B9 ⊢;obtain⟨HN,HL,HS⟩:=Yk hm hl hs;clear hR hm hl hs;by_cases I:65536<n
 ·have B6:(65536:Int)<(n:Int):=Zo;have B5:¬(n:Int)<0:=Zo;have B0:Qg (R=2):=Qf (by rw[HR.o,if_pos I]);have S:=Qf (Below.refl (w:Nat) w);clear HR I;go_enter func227,ntmps227;go_wp2;go_ret;exact⟨Zw B0.o,S.o⟩
 have B6:¬(65536:Int)<(n:Int):=Zo;have B5:¬(n:Int)<0:=Zo;have N:Qg (R=vQ n l 0):=Qf (by rw[HR.o,if_neg I]);clear HR I;go_enter func227,ntmps227;go_wp2;go_loopw [6,5] (fun i s wr=>∃k p:Nat,k<=m/\i=Yi (k:Int)/\s=Yi (p:Int)/\Qg (PM w wr)/\Qg (Chk n l k p)) (fun i _ _=>m-(intOf i).toNat)
 case atStart=>exact⟨0,0,Zo,rfl,rfl,Qf (bf _),Qf (Chk.start n l)⟩
 case round=>
  obtain⟨k,p,hk,rfl,rfl,S,V⟩:=hrel;have hp:=V.out.2;by_cases C0:k<m
  ·have h1:k<l.length:=HN.o▸C0;have B8:(k:Int)<(m:Int):=Zo;obtain⟨b0,A3,B4,O,q0,q1,q2⟩:=xX (HL.o.ahead S.o) h1;have A0:=HL.o.ahead S.o;subst B4;have C:Qg (R=_):=Qf (N.o.trans (V.out.at h1));have E:Qg (∀q,65536<bS l[k]+p\/(q=p+bS l[k]->R=vQ n (l.drop (k+1)) q->Chk n l (k+1) q)):=Qf (fun q=>by
    by_cases e:65536<bS l[k]+p
    ·exact .inl e
    ·exact .inr (fun h2 T=>⟨N.o▸T,Zo⟩))
   have Q:=HS.o _ (ak h1);have M:Qg (∀W',PM wr W'->W'.cell? ⟨b0,A3+k*3,none⟩=some (Yi (l[k].off:Int))/\W'.cell? ⟨b0,A3+k*3+1,none⟩=some (Yi (l[k].len:Int))/\W'.cell? ⟨b0,A3+k*3+2,none⟩=some (.string ⟨l[k].data.toArray⟩)):=Qf (fun W' hW=>by
    exact⟨(hW.cell (p:=⟨b0,A3+k*3,none⟩) O).trans q0,(hW.cell (p:=⟨b0,A3+k*3+1,none⟩) O).trans q1,(hW.cell (p:=⟨b0,A3+k*3+2,none⟩) O).trans q2⟩)
   have B:cZ l[k]=true->bS l[k]=l[k].len+l[k].data.length:=fun h=>by
    unfold cZ at h; unfold bS;simp only[XF,XJ] at h;rw[if_pos h.1,h.2]; simp
   have D:wZ l[k]=true->bS l[k]=l[k].len+l[k].data.length/\l[k].len=0/\l[k].off=0:=fun h=>by
    unfold wZ at h; unfold bS;simp only[XF,XJ] at h;rw[if_neg Zo,h.1.1]; exact⟨Zo,rfl,h.1.2⟩
   generalize l[k]=o at q0 q1 q2 C E Q M B D;have L:=Qf (form_any o wr);obtain⟨cb,J⟩:=Qe (cZ o);obtain⟨ib,P⟩:=Qe (wZ o);obtain⟨z,hz⟩:=Qe (bS o);rw[<-J,<-P] at L;rw[<-J,<-P,<-hz] at C;rw[<-hz] at E;rw[<-J,<-hz] at B;rw[<-P,<-hz] at D;obtain⟨A4,A1,data⟩:=o;simp only[Dop.val] at L;simp only at q0 q1 q2 C E Q M B D;have B7:=bH data;obtain⟨dl,Z⟩:=Qe data.length;rw[<-Z] at B7 Q B D;obtain⟨W,X⟩:=Yj (show cb=true\/ib=true->z=A1+dl from fun h=>h.elim B (fun h=>(D h).1)) (show cb=false->ib=true->A1=0/\A4=0 from fun _ h=>(D h).2);have C6:(A1:Int)<=1099511627776/\(A4:Int)<=1099511627776/\(dl:Int)<=1099511627776:=Zo;clear V J P hz O Z B D Q HL HS A0;go_wp2_with fail;refine L.o.mono ?_;rintro e u1 ⟨rfl,hb⟩;have K:=Qf (XT S.o hb);obtain⟨m0,m1,m2⟩:=M.o u1 hb;have A7:Qg (∀d,(u1.drewN d).cell? ⟨b0,A3+k*3,none⟩=some (Yi (A4:Int))/\(u1.drewN d).cell? ⟨b0,A3+k*3+1,none⟩=some (Yi (A1:Int))/\(u1.drewN d).cell? ⟨b0,A3+k*3+2,none⟩=some (.string ⟨data.toArray⟩)):=Qf (fun d=>M.o _ (below_drewN hb d));clear hb L S q0 q1 q2;cases B:(cb||ib) with
   | false=>
    have U:cb=false/\ib=false:=Zu B;have F:Qg (R=1):=Qf (by rw[C.o,if_pos U]);clear C E A7;go_wp2;go_ret;exact⟨Zw F.o,K.o⟩
   | true=>
    have U:cb=true\/ib=true:=Zu B;have HZ:=Qf (W.o U);have G:Qg ((n<A1\/n<A4+A1)->R=2):=Qf (fun h=>by
     have h2:cb=true:=by
      rcases U with T | T
      ·exact T
      ·cases J:cb with
       | true=>rfl
       | false=>have:=X.o J T; omega
     rw[C.o,if_neg (Zn h2),if_pos ⟨h2,h⟩])
    have H:Qg (¬(n<A1\/n<A4+A1)->R=if 65536<z+p then 4 else vQ n (l.drop (k+1)) (p+z)):=Qf (fun h=>by
     rw[C.o,if_neg (fun e=>by rw[e.1,e.2] at U; simp at U),if_neg (fun e=>h e.2)])
    have g0:¬(A4:Int)<0:=Zo;clear C U B W X;by_cases T:n<A1
    case pos=>
     have g1:(n:Int)<(A1:Int):=Zo;have F:=Qf (G.o (.inl T));clear G H E HZ g1;go_wp2_with fail;go_quiet (fail);go_wp2;go_ret;exact⟨Zw F.o,below_drewN K.o _⟩
    have g1:¬(n:Int)<(A1:Int):=Zo;have g2:IntKind.i64.wrap ((n:Int)-(A1:Int))=(n:Int)-(A1:Int):=ZV;by_cases h4:n<A4+A1
    case pos=>
     have g3:(n:Int)-(A1:Int)<(A4:Int):=Zo;have F:=Qf (G.o (.inr h4));clear G H E h4 HZ;go_wp2_with fail;go_quiet (fail);go_wp2;go_ret;exact⟨Zw F.o,below_drewN K.o _⟩
    have g3:¬(n:Int)-(A1:Int)<(A4:Int):=Zo;have C:=Qf (H.o Zo);have A2:=HZ.o;have g4:IntKind.i64.wrap ((p:Int)+(A1:Int))=(p:Int)+(A1:Int):=ZV;have g5:IntKind.i64.wrap ((p:Int)+(A1:Int)+(dl:Int))=((p+z:Nat):Int):=by rw[ZV]; omega
    clear G H HZ;by_cases Y:65536<z+p
    case pos=>
     have g6:(65536:Int)<((p+z:Nat):Int):=Zo;have F:Qg (R=4):=Qf (by rw[C.o,if_pos Y]);clear C E Y A2;go_wp2_with fail;go_quiet (fail);go_wp2_with fail;go_quiet (fail);go_wp2;go_ret;exact⟨Zw F.o,below_drewN K.o _⟩
    have g6:¬(65536:Int)<((p+z:Nat):Int):=Zo;have A8:Qg (Chk n l (k+1) (p+z)):=Qf (((E.o (p+z)).resolve_left Y) rfl (by rw[C.o,if_neg Y]));clear C E Y A2;go_wp2_with fail;go_quiet (fail);go_wp2_with fail;go_quiet (fail);go_wp2;go_roundw
    case rel=>exact⟨k+1,p+z,Zo,Zg,rfl,Qf (below_drewN K.o _),A8⟩
    case measure=>exact Yr
  ·have B8:¬(k:Int)<(m:Int):=Zo;have F:Qg (R=0):=Qf (by rw[N.o]; exact V.out.fin (by rw[<-HN.o]; omega));clear V N;go_wp2;go_ret;exact⟨Zw F.o,S.o⟩
def GotOp(s:Qb)(w:World)(e:Ending)(w':World):Prop:=∃(o:Dop) (k:Nat) (b:Bool),e=.returned (.tuple #[o.val,Yi (k:Int),.bool b])/\(b=true->opS s=some (o,k)/\k<=s.length)/\(b=false->opS s=none)/\PM w w'
theorem Nj{n u:Int}(h:Cw.getI s=(n,u,er))(A:er≠0):opS s=none:=by unfold opS; rw[h]; simp only; rw[if_pos A]
theorem KM{m:Int}(h:Cw.getI s=((n:Int),(u:Int),0))(B:0<n)(A:Cw.getI (s.drop u)=(m,v,er)):opS s=if er≠0 then none else some (⟨m.toNat,n,[]⟩,u+v.toNat):=by
 unfold opS; rw[h]; simp only[aj,A]; rw[if_neg Zs,if_pos Zo]
theorem Nh(h:Cw.getI s=(0,(u:Int),0))(A:Cw.getT (s.drop u)=(x,v,er)):opS s=if er≠0 then none else some (⟨0,0,x⟩,u+v.toNat):=by
 unfold opS; rw[h]; simp only[aj,A]; rw[if_neg Zs,if_neg Zo]
theorem A8(s:Qb)(w:World)(S:(s.length:Int)<=140737488355328):Qh 251 #[s] w (GotOp s w):=by
 obtain⟨n,u,er,E⟩:∃n u er,Cw.getI s=(n,u,er):=⟨_,_,_,rfl⟩;have I:=Qf (fun X=>dQ (s:=⟨s.toArray⟩) (n:=n) (k:=u) (er:=er) (Zu E) X);obtain⟨O,P,Q,R⟩:=gH E;obtain⟨n0,rfl⟩:∃n0:Nat,n=(n0:Int):=⟨n.toNat,Zo⟩;obtain⟨u0,rfl⟩:∃u0:Nat,u=(u0:Int):=⟨u.toNat,Zo⟩;by_cases H:er=0
 case neg=>
  have M:(er !=0)=true:=Zu H;have D:=Qf (Nj E H);clear E H;go_enter func251,ntmps251;go_wp2_with fail;refine(I.o _).mono ?_;rintro e w' ⟨rfl,rfl⟩;go_wp2;refine XB (v:=.tuple #[.agg #[Yi 0,Yi 0,Ye],Yi 0,.bool false]) (by simp[results,results251,go_sem]) rfl ?_;refine⟨⟨0,0,[]⟩,0,false,rfl,(fun h=>by cases h),fun _=>D.o,?_⟩
  repeat (first | exact bf _ | (refine Below.setCell ?_ Zs _) | (refine Below.alloc ?_ Zs _))
 case pos=>
 subst H;have K:u0<=s.length:=Zo;have G:=fun W=>jY s u0 K W
 have F:(s:ByteArray).extract u0 s.length=⟨(s.drop u0).toArray⟩:=by rw[dw,ag Zs]
 by_cases J:0<n0
 ·have N:(0:Int)<(n0:Int):=Zo;obtain⟨m,v,T,B⟩:∃m v T,Cw.getI (s.drop u0)=(m,v,T):=⟨_,_,_,rfl⟩;have C:=Qf (fun X=>dQ (s:=⟨(s.drop u0).toArray⟩) (n:=m) (k:=v) (er:=T) (Zu B) X);obtain⟨k1,k2,k3,k4⟩:=gH B;rw[ah] at k4;obtain⟨m0,rfl⟩:∃m0:Nat,m=(m0:Int):=⟨m.toNat,Zo⟩;obtain⟨v0,rfl⟩:∃v0:Nat,v=(v0:Int):=⟨v.toNat,Zo⟩;have L:IntKind.i64.wrap ((u0:Int)+(v0:Int))=((u0+v0:Nat):Int):=by rw[ZV]; omega
  have D:=Qf (KM E J B);simp only[aj] at D;generalize s.drop u0=s2 at G F C;clear E B J;go_enter func251,ntmps251;go_wp2_with fail;refine(I.o _).mono ?_;rintro e w' ⟨rfl,rfl⟩;go_wp2_with fail;refine(C.o _).mono ?_;rintro e w' ⟨rfl,rfl⟩;go_wp2;refine XB (v:=.tuple #[.agg #[Yi (m0:Int),Yi (n0:Int),Ye],Yi ((u0+v0:Nat):Int),.bool (T==0)]) (by simp[results,results251,go_sem]) rfl ?_;refine⟨⟨m0,n0,[]⟩,u0+v0,T==0,rfl,fun h=>?_,fun h=>?_,?_⟩
  ·have e:T=0:=Zu h;exact⟨by rw[D.o,e,if_neg Zs],Zo⟩
  ·have e:T≠0:=Zu h;rw[D.o,if_pos e]
  ·repeat (first | exact bf _ | (refine Below.setCell ?_ Zs _) | (refine Below.alloc ?_ Zs _))
 ·obtain rfl:n0=0:=Zo;obtain⟨x,v,T,B⟩:∃x v T,Cw.getT (s.drop u0)=(x,v,T):=⟨_,_,_,rfl⟩;have C:Qg (∀X,Qh 126 #[(s.drop u0)] X fun e w'=>e=.returned (.tuple #[x,Yi v,Yi T])/\X=w'):=Qf (fun X=>by
   have:=kD ⟨(s.drop u0).toArray⟩ X (by rw[bH,ah]; omega);rw[show(⟨(s.drop u0).toArray⟩:ByteArray).data.toList=s.drop u0 by simp,B] at this;exact this)
  obtain⟨k3,k4,_⟩:=lZ B;rw[ah] at k4;obtain⟨v0,rfl⟩:∃v0:Nat,v=(v0:Int):=⟨v.toNat,Zo⟩;have L:IntKind.i64.wrap ((u0:Int)+(v0:Int))=((u0+v0:Nat):Int):=by rw[ZV]; omega
  have D:=Qf (Nh E B);simp only[aj] at D;generalize s.drop u0=s2 at G F C;clear E B J;go_enter func251,ntmps251;go_wp2_with fail;refine(I.o _).mono ?_;rintro e w' ⟨rfl,rfl⟩;go_wp2_with fail;refine(C.o _).mono ?_;rintro e w' ⟨rfl,rfl⟩;go_wp2;refine XB (v:=.tuple #[.agg #[Yi 0,Yi 0,x],Yi ((u0+v0:Nat):Int),.bool (T==0)]) (by simp[results,results251,go_sem]) rfl ?_;refine⟨⟨0,0,x⟩,u0+v0,T==0,rfl,fun h=>?_,fun h=>?_,?_⟩
  ·have e:T=0:=Zu h;exact⟨by rw[D.o,e,if_neg Zs],Zo⟩
  ·have e:T≠0:=Zu h;rw[D.o,if_pos e]
  ·repeat (first | exact bf _ | (refine Below.setCell ?_ Zs _) | (refine Below.alloc ?_ Zs _))
theorem rdnum_any{n:Int}(C:Cw.getI s=(n,(u:Int),er))(w:World)(L:(s.length:Int)<=140737488355328):Qh 233 #[s] w (Xz (.tuple #[Yi n,(s.drop u),.bool (er==0)]) w):=by
 have G:=Qf (fun X=>qQ (s:=⟨s.toArray⟩) (n:=n) (k:=(u:Int)) (er:=er) (Zu C) X);obtain⟨H,I,J,K⟩:=gH C;have E:u<=s.length:=Zo;have D:=fun W=>jY s u E W
 have B:(s:ByteArray).extract u s.length=⟨(s.drop u).toArray⟩:=by rw[dw,ag Zs]
 generalize s.drop u=s2 at D B ⊢;have F:=Qf (Below.refl (w:Nat) w);clear C;go_enter func233,ntmps233;go_wp2_with fail;refine(G.o _).mono ?_;rintro e w' ⟨rfl,rfl⟩;go_wp2_with fail;go_quiet (fail);go_wp2;refine XB (v:=.tuple #[Yi n,s2,.bool (er==0)]) (by simp[results,results233,go_sem]) rfl ?_;exact⟨rfl,below_drewN F.o _⟩
def MM(w:World)(l:List Dop)(er:Int)(e:Ending)(w':World):Prop:=∃a c,e=.returned (.tuple #[.slice a l.length c,Yi er])/\GIn jm 3 (w':Nat) w' a l/\PM w w'
theorem MM.no{w':World}(er:Int)(A:PM w w'):MM w [] er (.returned (.tuple #[(),Yi er])) w':=⟨none,0,rfl,GIn.nil _ _ _,A⟩
theorem OZ:(prog.info? 246).map (fun i=>(i.zero,i.size,i.bytes))=some (some (.agg #[Yi 0,Yi 0,Ye]),3,32):=Zk
theorem BA{v:Value}{l:List Dop}(I:n=l.length)(D:W.ownsRow base 246 3 v n (gcs jm l))(x:Dop)(C:(n:Int)<=1000000)(B:base<=(W:Nat)):
  ∃v' W',Qg ((Builtin.append_ #[206,206] 206 #[v,.slice W 1 1]).run prog (W.alloc (.cells (jm x).toArray 246))=.ok v' W')/\W'.ownsRow base 246 3 v' (n+1) (gcs jm (l++[x]))/\(W.alloc (.cells (jm x).toArray 246)).grownBy W' v.ownBlock/\(v'.ownBlock=v.ownBlock\/v'.ownBlock=some ((W:Nat)+1)):=by
 obtain⟨i0,H,E,F,G⟩:=XR OZ;exact jb F3 underlying206 H E F G rfl I D x C Zd B
structure Og (s:Qb) (u k p:Nat) (l:List Dop):Prop where
 le:p<=s.length
 at_:vV (s.drop u) k l (s.drop p)
 go:jy k (s.drop u) []=some (l,s.drop p)
theorem Og.start(h:u<=s.length):Og s u 0 u []:=⟨h,vV.start _,rfl⟩
theorem Og.next{l:List Dop}{o:Dop}(h:Og s u k p l)(A:opS (s.drop p)=some (o,j)):Og s u (k+1) (p+j) (l++[o]):=by
 have B:=(zU A).2.2.1;rw[ah] at B;have C:=h.le;refine⟨Zo,?_,?_⟩
 ·have:=h.at_.next A
  rwa[eY] at this
 ·have:=wP k h.go A
  rwa[eY] at this
theorem LJ{n u:Int}(h:Cw.getI s=(n,u,er))(A:er≠0):sK s=([],13):=by unfold sK; rw[h]; simp only; rw[if_pos A]
theorem Jz(h:Cw.getI s=((n:Int),(u:Int),0))(A:jy n (s.drop u) []=none):sK s=([],13):=by unfold sK; rw[h]; simp only[aj,A]; simp
theorem Jy(h:Cw.getI s=((n:Int),(u:Int),0)){l:List Dop}(A:jy n (s.drop u) []=some (l,r)):sK s=if r≠[]\/bW l 65536≠0 then([],13) else(l,0):=by unfold sK; rw[h]; simp only[aj,A]; rw[if_neg Zs]
theorem Db(s:Qb)(w:World)(hl:(s.length:Int)<=1000000):Qh 247 #[s] w (MM w (sK s).1 (sK s).2):=by
 obtain⟨n,u,er,hg⟩:∃n u er,Cw.getI s=(n,u,er):=⟨_,_,_,rfl⟩;have HG:=Qf (fun X=>dQ (s:=⟨s.toArray⟩) (n:=n) (k:=u) (er:=er) (Zu hg) X);obtain⟨h1,h2,h3,h4⟩:=gH hg;obtain⟨n0,rfl⟩:∃n0:Nat,n=(n0:Int):=⟨n.toNat,Zo⟩;obtain⟨u0,rfl⟩:∃u0:Nat,u=(u0:Int):=⟨u.toNat,Zo⟩;have T:=Qf (Below.refl (w:Nat) w);by_cases he:er=0
 case neg=>
  have C8:(er !=0)=true:=Zu he;rw[LJ hg he];clear hg he;go_enter func247,ntmps247;go_wp2_with fail;refine(HG.o _).mono ?_;rintro e w' ⟨rfl,rfl⟩;go_wp2;go_ret2;exact MM.no 13 T.o
 case pos=>
 subst he;obtain⟨V,Z,B2⟩:=Yk (Jz hg) (fun l r=>Jy (l:=l) (r:=r) hg) (Og.start (s:=s) (u:=u0) Zo);obtain⟨R,hR⟩:=Qe (sK s);rw[<-hR] at V Z ⊢;obtain⟨m,hm⟩:=Qe s.length;have HM:=Qf hm;have E0:(s:ByteArray).size=m:=by rw[bH,hm]
 rw[<-hm] at hl h4;have Y:Qg (∀p,p<=m->(∀W,_)/\(s:ByteArray).extract p m=⟨(s.drop p).toArray⟩):=Qf (fun p hp=>⟨fun W=>jY s p (hm▸hp) W,by rw[dw,ag (Zj hm)]⟩);clear hg hR hm;go_enter func247,ntmps247;go_wp2_with fail;refine(HG.o _).mono ?_;rintro e w' ⟨rfl,rfl⟩;go_wp2;go_loopw [5,7,20] (fun a v i wr=>∃(k p:Nat) (ls:List Dop),k<=n0/\a=Yi (p:Int)/\i=Yi (k:Int)/\Qg (Og s u0 k p ls)/\Qg (wr.ownsRow w 246 3 v k (gcs jm ls))/\Qg (PM w wr)) (fun _ _ i _=>n0-(intOf i).toNat)
 case atStart=>exact⟨0,u0,[],Zo,rfl,rfl,B2,Qf (XE _ _ _ _),T⟩
 case round=>
  clear B2 T;obtain⟨k,p,ls,hk,rfl,rfl,U,P,J⟩:=hrel;obtain⟨va,vc,rfl,E1⟩:=aB P.out;have D0:p<=m:=HM.o▸U.out.le;have B:(k:Int)<=1000000/\ls.length=k:=by
   have h5:=U.out.at_.room;have h6:=HM.o;rw[ah,ah] at h5;exact⟨Zo,U.out.at_.len⟩
  by_cases C7:k<n0
  ·have C6:(k:Int)<(n0:Int):=Zo;obtain⟨A4,A2⟩:=Y.o p D0;have M:=Qf (A8 (s.drop p) wr (by rw[ah]; have:=HM.o; omega));have A1:(s.drop p).length+p=m:=by rw[ah]; have:=HM.o; omega
   have E:Qg (opS (s.drop p)=none->R=([],13)):=Qf (fun h=>V.o (FO k U.out.go C7 h));have K:=Qf (fun o j h=>U.out.next (o:=o) (j:=j) h);generalize s.drop p=s2 at A4 A2 M E K A1;have B0:=Qf A1;clear A1;go_wp2_with fail;refine M.o.mono ?_;rintro e u1 ⟨o,j,b,rfl,ht,hf,S⟩;obtain⟨C,L⟩:=Yj (XT J.out S) (PO P.out S);cases b with
   | false=>
    have HR:=Qf (E.o (hf rfl));have D:Qg (PM w (u1.alloc (.cells (jm o).toArray 246))):=Qf (C.o.alloc C.o.size _);obtain⟨A5,A3,data⟩:=o;simp only[Dop.val,jm] at D ⊢;clear ht hf S M J P L K E A4 A2;go_wp2;go_ret2;rw[HR.o];exact MM.no 13 D.o
   | true=>
    obtain⟨B6,C5⟩:=ht rfl;have C0:=Qf (K.o o j B6);have C9:(p:Int)+(j:Int)<=1000000:=Zh B0.o;have E2:IntKind.i64.wrap ((p:Int)+(j:Int))=((p+j:Nat):Int):=by rw[ZV]; omega
    obtain⟨u2,O⟩:=Qe (u1.alloc (.cells (jm o).toArray 246));have A0:PM u1 u2:=O▸ba _ _;have D:=Qf (XT C.o A0);have B5:(u2:Nat)=(u1:Nat)+1:=Zn O;obtain⟨v',W',F,I,B3,_⟩:=BA B.2.symm (PO L.o A0) o B.1 D.o.size;have B9:Qg (PM w W'):=Qf ((D.o.alloc D.o.size _).grown B3 (by have:=D.o.size; simp; omega) (fun i hi=>Zh ((L.o.lt i hi).1)));rw[O] at F;rw[XU] at F;obtain⟨Q,C2⟩:=Yj F I;obtain⟨A5,A3,data⟩:=o;simp only[Dop.val,jm] at Q ⊢;clear ht hf S B6 C5 M J P L K E A4 A2 F I B3 A0 B5 O C D B0 B C9;go_wp2_with (at_builtin; refine Lib.wpList_append_run _ rfl _ _ _ _ rfl _ _ rfl rfl _ _ Q.o ?_);go_roundw
    case rel=>exact⟨k+1,p+j,_,Zo,rfl,Zg,C0,C2,B9⟩
    case measure=>exact Yr
  ·obtain rfl:k=n0:=Zo;have C6:¬(k:Int)<(k:Int):=Zo;have HR:=Qf (Z.o _ _ U.out.go);obtain⟨x0,B7⟩:=Qe wr;rw[<-B7] at J P ⊢;have HC:=Qf (qz va ls vc 65536 x0 (jw F3 B.2.symm P.out) Zd Zo (fun o ho=>by obtain⟨a1,_,_,a2,a3⟩:=U.out.at_.small o ho; exact⟨Zo,a2,a3⟩));rw[B.2,show((65536:Nat):Int)=65536 from rfl] at HC;have B1:=Qf B.2;clear B7 V Z B;by_cases B4:p=m
   ·subst B4;have G:Qg (R=if bW ls 65536≠0 then([],13) else(ls,0)):=Qf (by
     rw[HR.o,dV (Zh HM.o)];by_cases e:bW ls 65536=0 <;> simp[e])
    generalize bW ls 65536=ce at HC G;clear HR Y;go_wp2_with fail;refine HC.o.mono ?_;rintro e u1 ⟨rfl,S⟩;obtain⟨C,C1⟩:=Yj (XT J.out S) (jw F3 B1.o.symm (PO P.out S));clear S HC J P;by_cases N:ce=0
    ·subst N;have H:Qg (R=(ls,0)):=Qf (Zn G.o);clear G;go_wp2;go_ret2;rw[H.o];exact⟨va,vc,Zw B1.o,C1.o,C.o⟩
    ·have C8:(ce !=0)=true:=Zu N;have H:Qg (R=([],13)):=Qf (by rw[G.o,if_pos N]);clear G N;go_wp2;go_ret2;rw[H.o];exact MM.no 13 C.o
   ·have D4:((p:Int) !=(m:Int))=true:=Zt;have H:Qg (R=([],13)):=Qf (by
     rw[HR.o,if_pos (.inl (fun e=>B4 (by
      have h5:=congrArg List.length e;rw[ah,aK] at h5;have:=HM.o
      omega)))])
    clear HR Y HC;go_wp2;go_ret2;rw[H.o];exact MM.no 13 J.out
structure BW (w w0:World) (b:Nat) (l:Qb) (wr:World):Prop where
 bld:Lib.IsBuilderF 118 5 (w:Nat) b (Lib.byteCells l) wr
 bel:PM w wr
 kept:Sd b w0 wr
theorem xC{T e:TypeId}{bs:List Value}{X:World}(h:Lib.IsBuilderF T e B b bs W)(A:PM W X):Lib.IsBuilderF T e B b bs X:=by
 have I:∀p,Lib.BuilderAtF T e B b p bs W->Lib.BuilderAtF T e B b p bs X:=by
  rintro p ⟨F,v,C,D,E⟩;refine⟨F,v,(A.block b (XA.1 C).1).trans C,D.kept (row:=none) ⟨A.os,A.tape,A.output,A.size,fun k G _=>A.block k G⟩ ?_,E⟩;cases H:v.ownBlock with
  | none=>exact .inl rfl
  | some k=>exact .inr Zs
 exact h.elim (fun x=>.inl (I _ x)) (fun x=>.inr (I _ x))
theorem BW.below{x:World}(h:BW w w0 b l wr)(A:PM wr x):BW w w0 b l x:=
 ⟨xC h.bld A,(XT h.bel A),wV h.kept A⟩
theorem BW.wrote{x:World}{l':Qb}(h:BW w w0 b l wr)(A:Lib.IsBuilderF 118 5 (w:Nat) b (Lib.byteCells l') x)(B:Below w wr x)(C:Sd b wr x):BW w w0 b l' x:=
 ⟨A,h.bel.trans B,h.kept.trans C⟩
theorem BW.block(h:BW w w0 b l wr){cs:Array Value}{t:TypeId}{fz:Nat×Nat}(B:w0.heap[k]? = some (.cells cs t fz))(A:k≠b)(C:t≠5):wr.heap[k]? = some (.cells cs t fz):=
 h.kept k _ B (fun e=>A (XP e)) (fun c f e=>by cases e; exact C rfl)
theorem BW.anew(h:BW w w0 b l wr):BW w wr b l wr:=⟨h.bld,h.bel,Lib.OthersKept.refl _ _ _⟩
theorem oZ(A:B<=b)(h:w.heap[b]? = some (.cells #[.pointer none,()] 118 (0,0))):Lib.IsBuilderF 118 5 B b (Lib.byteCells []) w:=
 .inl ⟨A,.slice none 0 0,h,World.ownsRowF_of (XE _ _ _ _),by simp[Value.ownBlock]⟩
theorem BW.start(B:PM w w0)(A:(w:Nat)<=b)(h:w0.heap[b]? = some (.cells #[.pointer none,()] 118 (0,0))):BW w w0 b [] w0:=⟨oZ A h,B,Lib.OthersKept.refl _ _ _⟩
theorem cz(h:BW w w0 b l wr)(s:Qb)(E:((l.length:Int))+s.length<=140737488355328):
  Qh 73 #[.pointer b,s] wr fun e w'=>e=.returned (.tuple #[Yi s.length,.nilIface])/\Qg (BW w w0 b (l++s) w'):=by
 refine(jW (w:Nat) b (Lib.byteCells l) ⟨s.toArray⟩ wr h.bld (by rw[Lib.byteCells_length,bH]; omega) h.bel.size).mono ?_;rintro e x ⟨rfl,B,C,D⟩;refine⟨by rw[bH],Qf (h.wrote (.inr ?_) C D)⟩;rw[byteCells_append];have:=B
 rwa[PY] at this
theorem vC(h:BW w w0 b l wr)(B:l≠[]):
  Qh 74 #[.pointer b] wr fun e w'=>e=.returned (.string ⟨l.toArray⟩)/\Qg (BW w w0 b l w'):=by
 refine(ic (w:Nat) b l wr h.bld B).mono ?_;rintro e x ⟨rfl,C,D,E⟩;exact⟨rfl,Qf (h.wrote C D E)⟩
theorem Bo(h:w.heap[b]? = some (.cells #[.pointer none,()] 118 (0,0))):
  Qh 74 #[.pointer b] w (Xz (.string ⟨#[]⟩) w):=by
 have c1:w.drew.cell? ⟨b,1,none⟩=some (.slice none 0 0):=by
  have:w.drew.heap[b]? = some (.cells #[.pointer none,()] 118 (0,0)):=h;rw[Lib.cell_of_heap this]; rfl
 have B:(Builtin.unsafeSliceData_ #[116] 182 #[()]).run prog w.drew=.ok (.pointer none) w.drew:=Lib.run_unsafeSliceData_nil _ _ _ _ _;have C:(Builtin.unsafeString_ #[182,3] 9 #[.pointer none,Yi 0]).run prog w.drew=.ok (.string ⟨#[]⟩) w.drew:=Lib.run_unsafeString_none _ _ _ _ _;go_enter func74,ntmps74;go_wp2;go_region
 all_goals (go_wp2; go_ret; exact⟨rfl,Below.drew (bf w)⟩)
def lcp:Qb->Qb->Nat
 | x::a,y::b=>if x=y then lcp a b+1 else 0
 | _,_=>0
theorem Ee:∀(n:Nat) (a b:Qb),n<=lcp a b↔n<=a.length/\n<=b.length/\a.take n=b.take n
 | 0,a,b=>Zs
 | n+1,[],b=>by simp[lcp]
 | n+1,x::a,[]=>by simp[lcp]
 | n+1,x::a,y::b=>by
  rw[lcp];by_cases e:x=y
  ·subst e;rw[if_pos rfl];have:=Ee n a b;simp only[az,jS,List.cons.injEq,true_and,Nat.add_le_add_iff_right];exact this
  ·rw[if_neg e];simp only[jS,List.cons.injEq];constructor
   ·intro h; omega
   ·rintro⟨_,_,h,_⟩; exact absurd h e
theorem IA(a b:Qb):lcp a b<=a.length/\lcp a b<=b.length:=by
 have:=(Ee (lcp a b) a b).1 nr;exact⟨this.1,this.2.1⟩
def ja(a y:Qb):Nat->Nat×Nat
 | 0=>(0,0)
 | m+1=>if(ja a y m).2<lcp (a.drop m) y then(m,lcp (a.drop m) y) else ja a y m
def iD(a y:Qb):Nat×Nat:=ja a y a.length
theorem lG(a y:Qb):∀m,(∀i,i<m->lcp (a.drop i) y<=(ja a y m).2)/\((ja a y m).2=0->(ja a y m).1=0)/\(0<(ja a y m).2->(ja a y m).1<m/\lcp (a.drop (ja a y m).1) y=(ja a y m).2/\∀i,i<(ja a y m).1->lcp (a.drop i) y<(ja a y m).2)
 | 0=>⟨fun i h=>Zo,fun _=>rfl,fun h=>by simp[ja] at h⟩
 | m+1=>by
  obtain⟨A,C,D⟩:=lG a y m;rw[ja];by_cases e:(ja a y m).2<lcp (a.drop m) y
  ·rw[if_pos e];refine⟨fun i B=>?_,fun h=>?_,fun _=>⟨Zs,rfl,fun i B=>?_⟩⟩
   ·by_cases ei:i=m
    ·subst ei; exact nr
    ·have:=A i Zo;simp only; omega
   ·simp only at h; omega
   ·have:=A i B;simp only; omega
  ·rw[if_neg e];refine⟨fun i B=>?_,C,fun h=>?_⟩
   ·by_cases ei:i=m
    ·subst ei; omega
    ·exact A i Zo
   ·obtain⟨g1,g2,g3⟩:=D h;exact⟨Zo,g2,g3⟩
theorem ES(a y:Qb):(iD a y).2<=y.length/\(iD a y).1+(iD a y).2<=a.length:=by
 obtain⟨g1,g2,g3⟩:=lG a y a.length;unfold iD;by_cases h:0<(ja a y a.length).2
 ·obtain⟨k1,k2,k3⟩:=g3 h;have:=IA (a.drop (ja a y a.length).1) y;rw[k2,ah] at this;omega
 ·have A:(ja a y a.length).2=0:=Zo;rw[A,g2 A]; omega
def Ko(l:List Dop)(x:Dop):List Dop:=
 match l.getLast? with
 | none=>[x]
 | some y=>
  if x.len=0/\y.len=0 then l.dropLast++[⟨0,0,y.data++x.data⟩]
  else if 0<x.len/\0<y.len/\y.off+y.len=x.off then l.dropLast++[⟨y.off,y.len+x.len,[]⟩]
  else l++[x]
def eH(a b:Qb)(k:Nat):Dop:=if 4<=(iD a (b.drop k)).2 then⟨(iD a (b.drop k)).1,(iD a (b.drop k)).2,[]⟩ else⟨0,0,(b.drop k).take 1⟩
def uU(a b:Qb):Nat->Nat->List Dop->List Dop
 | 0,_,l=>l
 | f+1,k,l=>if k<b.length then uU a b f (k+bS (eH a b k)) (Ko l (eH a b k)) else l
def iM(a b:Qb):List Dop:=uU a b b.length 0 []
theorem lV{b:Qb}(A:k<b.length):1<=bS (eH a b k)/\k+bS (eH a b k)<=b.length:=by
 have h:=(ES a (b.drop k)).1;rw[ah] at h;unfold eH;split
 ·unfold bS;simp only;rw[if_pos Zo]; omega
 ·unfold bS;simp only;rw[if_neg Zo,aA,ah]; omega
def mR(o:Dop):Prop:=(0<o.len/\o.data=[])\/(o.len=0/\o.off=0/\o.data≠[])
theorem gI{o:Dop}(h:mR o):cZ o=true↔0<o.len:=by
 unfold cZ;rcases h with⟨A,B⟩ | ⟨A,B,C⟩
 ·simp[A,B]
 ·simp[A]
theorem CU{o:Dop}(h:mR o):wZ o=true↔o.len=0:=by
 unfold wZ;rcases h with⟨B,A⟩ | ⟨B,A,C⟩
 ·simp[A]; omega
 ·simp[B,A,C]
theorem Pd{o:Dop}(h:¬(cZ o=false/\wZ o=false)):mR o:=by
 unfold cZ wZ at h;unfold mR;by_cases A:0<o.len <;> by_cases B:o.data=[] <;> by_cases C:o.off=0 <;> simp_all <;> omega
theorem Pf{o:Dop}(h:mR o):¬(cZ o=false/\wZ o=false):=by
 rintro⟨A,B⟩;by_cases e:o.len=0
 ·rw[(CU h).2 e] at B; cases B
 ·rw[(gI h).2 Zo] at A; cases A
structure qJ (a out:Qb) (l:List Dop):Prop where
 fit:∀o∈l,mR o
 inr:∀o∈l,0<o.len->o.off+o.len<=a.length
 out:l.flatMap (oO a)=out
theorem qJ.nil(a:Qb):qJ a [] []:=⟨fun o h=>by simp at h,fun o h=>by simp at h,rfl⟩
theorem lU{o:Dop}(h:mR o)(A:0<o.len):oO a o=(a.drop o.off).take o.len:=by unfold oO; rw[if_pos ((gI h).2 A)]
theorem qg{o:Dop}(h:o.len=0):oO a o=o.data:=by unfold oO cZ; rw[if_neg (Zj h)]
theorem Cu{o:Dop}(h:mR o)(A:0<o.len->o.off+o.len<=a.length):(oO a o).length=bS o:=by
 unfold bS;by_cases e:0<o.len
 ·rw[lU h e,if_pos e,aA,ah];have:=A e;omega
 ·rw[qg Zo,if_neg e]
theorem qJ.sum{l:List Dop}(h:qJ a out l):(l.map bS).sum=out.length:=by
 obtain⟨B,C,D⟩:=h;rw[<-D];clear D;induction l with
 | nil=>rfl
 | cons o l ih=>
  rw[eX,List.sum_cons,bR,af,Cu (B o Zs) (C o Zs),ih (fun x A=>B x (Zj A)) (fun x A=>C x (Zj A))]
theorem xL(a:Qb)(i n m:Nat):(a.drop i).take n++(a.drop (i+n)).take m=(a.drop i).take (n+m):=by
 rw[List.take_add,eY]
theorem qJ.add{l:List Dop}{x:Dop}(h:qJ a out l)(G:mR x)(D:0<x.len->x.off+x.len<=a.length):qJ a (out++oO a x) (Ko l x):=by
 obtain⟨B,C,K⟩:=h;subst K;unfold Ko;rcases iI l with rfl | ⟨l',y,rfl⟩
 ·simp only[List.getLast?_nil,List.flatMap_nil,aY];exact⟨fun o A=>by rw[aH.1 A]; exact G,fun o A=>by rw[aH.1 A]; exact D,Zs⟩
 ·rw[iJ] at *
  simp only[List.getLast?_append,List.getLast?_singleton,Option.some_or,List.dropLast_concat];have J:=B y Zs;have L:=C y Zs;have E:∀o∈l',mR o:=fun o A=>B o (Zj A)
  have F:∀o∈l',0<o.len->o.off+o.len<=a.length:=fun o A=>C o (Zj A)
  have N:∀z:Dop,mR z->(0<z.len->z.off+z.len<=a.length)->oO a z=oO a y++oO a x->qJ a ((l'++[y]).flatMap (oO a)++oO a x) (l'++[z]):=fun z M I e=>by
   refine⟨fun o A=>?_,fun o A=>?_,?_⟩
   ·rcases aD.1 A with A | A
    ·exact E o A
    ·rw[aH.1 A]; exact M
   ·rcases aD.1 A with A | A
    ·exact F o A
    ·rw[aH.1 A]; exact I
   ·rw[bg,bg,ay];simp[e]
  by_cases c1:x.len=0/\y.len=0
  ·rw[if_pos c1];have H:y.data≠[]:=by
    rcases J with⟨g,_⟩ | ⟨_,_,g⟩
    ·omega
    ·exact g
   refine N _ (.inr ⟨rfl,rfl,Zj H⟩) (fun e=>by simp at e) ?_;rw[qg (o:=⟨0,0,y.data++x.data⟩) rfl,qg c1.1,qg c1.2]
  ·rw[if_neg c1];by_cases c2:0<x.len/\0<y.len/\y.off+y.len=x.off
   ·rw[if_pos c2];obtain⟨g1,g2,g3⟩:=c2;have g4:=D g1;refine N _ (.inl ⟨Zp,rfl⟩) (fun _=>Zp) ?_;rw[lU (o:=⟨y.off,y.len+x.len,[]⟩) (.inl ⟨Zp,rfl⟩) Zp,lU J g2,lU G g1,<-g3,xL]
   ·rw[if_neg c2];refine⟨fun o A=>?_,fun o A=>?_,?_⟩
    ·rcases aD.1 A with A | A
     ·exact B o A
     ·rw[aH.1 A]; exact G
    ·rcases aD.1 A with A | A
     ·exact C o A
     ·rw[aH.1 A]; exact D
    ·rw[bg]; simp
theorem EH{n:Nat}:∀(l:List Dop) (p:Nat),(∀o∈l,mR o)->(∀o∈l,0<o.len->o.off+o.len<=n)->p+(l.map bS).sum<=65536->vQ n l p=0
 | [],p,_,_,_=>rfl
 | o::l,p,A,C,D=>by
  rw[eX,List.sum_cons] at D;rw[vQ,if_neg (Pf (A o Zs)),if_neg (fun e=>by
   have:=C o Zs ((gI (A o Zs)).1 e.1)
   omega),if_neg Zo]
  exact EH l _ (fun x B=>A x (Zj B)) (fun x B=>C x (Zj B)) Zo
theorem sF{o:Dop}(h:mR o):1<=bS o:=by
 unfold bS;rcases h with⟨A,B⟩ | ⟨A,B,C⟩
 ·rw[if_pos A]; exact A
 ·rw[if_neg Zo]; exact bJ.2 C
theorem yO{n:Nat}:∀(l:List Dop) (p:Nat),vQ n l p=0->p<=65536->(∀o∈l,mR o/\bS o<=65536/\(0<o.len->o.off+o.len<=n))/\p+l.length<=65536
 | [],p,_,C=>⟨fun o h=>by simp at h,Zu C⟩
 | o::l,p,h,C=>by
  rw[vQ] at h;by_cases c1:cZ o=false/\wZ o=false
  ·rw[if_pos c1] at h; simp at h
  rw[if_neg c1] at h;by_cases c2:cZ o=true/\(n<o.len\/n<o.off+o.len)
  ·rw[if_pos c2] at h; simp at h
  rw[if_neg c2] at h;by_cases c3:65536<bS o+p
  ·rw[if_pos c3] at h; simp at h
  rw[if_neg c3] at h;have A:=Pd c1;have hs:=sF A;obtain⟨g1,g2⟩:=yO l _ h Zo;refine⟨fun x B=>?_,Zy az⟩;rcases XG.1 B with rfl | B
  ·refine⟨A,Zo,fun e=>?_⟩;by_cases e2:x.off+x.len<=n
   ·exact e2
   ·exact absurd ⟨(gI A).2 e,.inr Zo⟩ c2
  ·exact g1 x B
theorem zV{b:Qb}(D:k<b.length):mR (eH a b k)/\(0<(eH a b k).len->(eH a b k).off+(eH a b k).len<=a.length)/\b.take k++oO a (eH a b k)=b.take (k+bS (eH a b k)):=by
 have h:=ES a (b.drop k);rw[ah] at h;unfold eH;split
 ·rename_i B;have A:mR ⟨(iD a (b.drop k)).1,(iD a (b.drop k)).2,[]⟩:=.inl ⟨Zp,rfl⟩;refine⟨A,fun _=>h.2,?_⟩;rw[lU A Zp];unfold bS;simp only;rw[if_pos Zo,List.take_add];congr 1;obtain⟨g1,g2,g3⟩:=lG a (b.drop k) a.length;obtain⟨k1,k2,k3⟩:=g3 (by unfold iD at B; omega);have k4:=((Ee _ _ _).1 (Nat.le_of_eq k2.symm)).2.2;unfold iD;exact k4
 ·have C:(b.drop k).take 1≠[]:=fun e=>by
   have:=congrArg List.length e;rw[aA,ah,aK] at this;omega
  refine⟨.inr ⟨rfl,rfl,C⟩,fun e=>by simp at e,?_⟩;rw[qg rfl];unfold bS;simp only;rw[if_neg Zo,List.take_add];congr 1;rw[aA,ah];congr 1;omega
theorem uT{a b:Qb}:∀(f k:Nat) {l:List Dop},qJ a (b.take k) l->b.length<=k+f->qJ a b (uU a b f k l)
 | 0,k,l,h,F=>by rw[uU]; rwa[ag Zo] at h
 | f+1,k,l,h,F=>by
  rw[uU];split
  ·rename_i B;obtain⟨C,D,E⟩:=zV (a:=a) B;have A:=h.add C D;rw[E] at A;have G:=(lV (a:=a) B).1;exact uT f _ A Zo
  ·rwa[ag Zo] at h
theorem uS(a b:Qb):qJ a b (iM a b):=uT _ _ (qJ.nil a) Zo
theorem xA{b:Qb}(D:a.length<=n)(A:n<=65536)(C:b.length<=65536):bW (iM a b) n=0:=by
 have h:=uS a b;unfold bW;rw[if_neg Zo];exact EH _ _ h.fit (fun o B e=>Zh (h.inr o B e)) (Zy h.sum)
theorem Ni{o:Dop}(h:mR o)(B:o.len<=1099511627776)(C:o.off<=1099511627776)(A:o.data.length<=65536)(r:Qb):opS (mU o++r)=some (o,(mU o).length):=by
 obtain⟨F,E,data⟩:=o;simp only at B C A;unfold opS mU;simp only;rw[ay,Cw.getI_enc E B];simp only[aj,qL];rw[if_neg Zs];by_cases e:0<E
 ·rw[if_pos Zo,if_pos ((gI h).2 e),Cw.getI_enc F C];simp only[aj];rw[if_neg Zs,af];have:data=[]:=by
   rcases h with⟨_,g⟩ | ⟨g,_⟩
   ·exact g
   ·simp only at g; omega
  rw[this]
 ·have D:¬cZ ⟨F,E,data⟩=true:=fun c=>e ((gI h).1 c)
  rw[if_neg Zo,if_neg D];have e1:(putT data).1=Cw.enc data.length++data:=by unfold putT; rw[if_pos A]
  rw[e1,yx A];simp only[aj];rw[if_neg Zs];have g:E=0/\F=0:=by
   rcases h with⟨g,_⟩ | ⟨g,g2,_⟩
   ·simp only at g; omega
   ·exact⟨g,g2⟩
  rw[g.1,g.2];simp
theorem zS:∀(l F:List Dop) (r:Qb),(∀o∈l,mR o/\o.len<=1099511627776/\o.off<=1099511627776/\o.data.length<=65536)->jy l.length (l.flatMap mU++r) F=some (F++l,r)
 | [],F,r,_=>by simp[jy]
 | o::l,F,r,h=>by
  obtain⟨A,B,C,D⟩:=h o Zs;rw[az,jy,bR,ay,Ni A B C D];simp only[qL];rw[zS l _ r (fun x E=>h x (Zj E)),ay];rfl
theorem ED{l:List Dop}(A:bW l 65536=0):AV l=(Cw.enc l.length++l.flatMap mU,0)/\sK (AV l).1=(l,0):=by
 have B:AV l=(Cw.enc l.length++l.flatMap mU,0):=by unfold AV; rw[if_neg (Zj A)]
 refine⟨B,?_⟩;rw[B];simp only;have h:=A;unfold bW at h;rw[if_neg Zo] at h;obtain⟨g1,g2⟩:=yO l 0 h Zo;have hs:∀o∈l,mR o/\o.len<=1099511627776/\o.off<=1099511627776/\o.data.length<=65536:=fun o C=>by
  obtain⟨a1,a2,a3⟩:=g1 o C;unfold bS at a2;refine⟨a1,?_⟩;rcases a1 with⟨b1,b2⟩ | ⟨b1,b2,b3⟩
  ·rw[if_pos b1] at a2;have:=a3 b1;rw[b2]; simp only[aK]; omega
  ·rw[if_neg Zo] at a2;omega
 unfold sK;rw[Cw.getI_enc l.length Zo];simp only[aj,qL];rw[if_neg Zs];have:=zS l [] [] hs;rw[bG] at this;rw[this];simp[A]
def jnF(st:List Dop×Qb):List Dop:=if st.2=[] then st.1 else st.1++[⟨0,0,st.2⟩]
def jnC(l:List Dop)(o:Dop):List Dop:=
 match l.getLast? with
 | some y=>if cZ y=true/\y.off+y.len=o.off then l.dropLast++[⟨y.off,y.len+o.len,y.data⟩] else l++[o]
 | none=>l++[o]
def jnS(st:List Dop×Qb)(o:Dop):List Dop×Qb:=if wZ o=true then(st.1,st.2++o.data) else(jnC (jnF st) o,[])
def K6(l:List Dop):Prop:=∀y,l.getLast? = some y->cZ y=true
theorem IC:K6 []:=fun y h=>by simp at h
theorem OV{st:List Dop×Qb}{o:Dop}(K:K6 st.1)(H:mR o):jnF (jnS st o)=Ko (jnF st) o/\K6 (jnS st o).1:=by
 obtain⟨l,x⟩:=st;simp only at K;by_cases D:o.len=0
 ·have ei:wZ o=true:=(CU H).2 D;have od:o.data≠[]/\o=⟨0,0,o.data⟩:=by
   obtain⟨O,N,data⟩:=o;rcases H with⟨g,_⟩ | ⟨g1,g2,g3⟩
   ·simp only at g D; omega
   ·simp only at g1 g2 g3; subst g1; subst g2; exact⟨g3,rfl⟩
  unfold jnS;rw[if_pos ei];refine⟨?_,K⟩;unfold jnF;simp only;rw[if_neg (by simp[od.1])];by_cases I:x=[]
  ·subst I;rw[if_pos rfl];unfold Ko;cases F:l.getLast? with
   | none=>
    rw[List.getLast?_eq_none_iff] at F;subst F;simp only[aY];rw[<-od.2]
   | some y=>
    have B:=K y F;have M:0<y.len:=by unfold cZ at B; simp at B; exact B.1
    simp only[aY];rw[if_neg Zo,if_neg Zo,<-od.2]
  ·rw[if_neg I];unfold Ko;simp only[List.getLast?_append,List.getLast?_singleton,Option.some_or,List.dropLast_concat];rw[if_pos (Zj D)]
 ·have ei:¬wZ o=true:=fun e=>D ((CU H).1 e)
  have oc:0<o.len/\o.data=[]:=by
   rcases H with g | ⟨g1,_⟩
   ·exact g
   ·exact absurd g1 D
  have G:cZ o=true:=(gI H).2 oc.1;unfold jnS;rw[if_neg ei];have e1:jnF (jnC (jnF (l,x)) o,[])=jnC (jnF (l,x)) o:=by unfold jnF; rw[if_pos rfl]
  rw[e1];simp only;have C:∀y,(jnF (l,x)).getLast? = some y->(cZ y=true/\y.data=[]/\0<y.len)\/(cZ y=false/\y.len=0):=fun y B=>by
   unfold jnF at B;simp only at B;by_cases I:x=[]
   ·rw[if_pos I] at B;have h:=K y B;have J:=h;unfold cZ at J;simp at J;exact .inl ⟨h,J.2,J.1⟩
   ·rw[if_neg I] at B;simp only[List.getLast?_append,List.getLast?_singleton,Option.some_or] at B;cases B;exact .inr ⟨by simp[cZ],rfl⟩
  generalize jnF (l,x)=L at C;unfold jnC Ko;cases F:L.getLast? with
  | none=>
   rw[List.getLast?_eq_none_iff] at F;subst F;exact⟨rfl,fun y B=>by simp at B; rw[<-B]; exact G⟩
  | some y=>
   simp only;rcases C y F with⟨g1,g2,g3⟩ | ⟨g1,g2⟩
   ·by_cases A:y.off+y.len=o.off
    ·rw[if_pos ⟨g1,A⟩,if_neg (fun e=>D e.1),if_pos ⟨oc.1,g3,A⟩,g2];refine⟨rfl,fun z E=>?_⟩;simp only[List.getLast?_append,List.getLast?_singleton,Option.some_or] at E;cases E;unfold cZ;simp; omega
    ·rw[if_neg (fun e=>A e.2),if_neg (fun e=>D e.1),if_neg (fun e=>A e.2.2)];refine⟨rfl,fun z E=>?_⟩;simp only[List.getLast?_append,List.getLast?_singleton,Option.some_or] at E;cases E;exact G
   ·rw[if_neg (fun e=>by rw[g1] at e; cases e.1),if_neg (fun e=>D e.1),if_neg (fun e=>Zo)];refine⟨rfl,fun z E=>?_⟩;simp only[List.getLast?_append,List.getLast?_singleton,Option.some_or] at E;cases E;exact G
theorem xD{l:List Dop}(h:bW l a.length≠0):gP a l=([],bW l a.length):=by unfold gP; rw[if_pos h]
theorem Bz{l:List Dop}(h:bW l a.length=0):gP a l=(l.flatMap (oO a),0):=by unfold gP; rw[if_neg (Zj h)]
structure DFit (a:Qb) (l:List Dop):Prop where
 fit:∀o∈l,mR o
 inr:∀o∈l,0<o.len->o.off+o.len<=a.length
 siz:∀k,((l.take k).flatMap (oO a)).length<=65536
 al:a.length<=65536
 ll:l.length<=65536
theorem JJ{n:Nat}:∀(l:List Dop) (p:Nat),vQ n l p=0->p<=65536->p+(l.map bS).sum<=65536
 | [],p,_,A=>Zu A
 | o::l,p,h,A=>by
  rw[vQ] at h;by_cases c1:cZ o=false/\wZ o=false
  ·rw[if_pos c1] at h; simp at h
  rw[if_neg c1] at h;by_cases c2:cZ o=true/\(n<o.len\/n<o.off+o.len)
  ·rw[if_pos c2] at h; simp at h
  rw[if_neg c2] at h;by_cases c3:65536<bS o+p
  ·rw[if_pos c3] at h; simp at h
  rw[if_neg c3] at h;have:=JJ l _ h Zo;rw[eX,List.sum_cons];omega
theorem Dl{l:List Dop}(h:bW l n=0):n<=65536/\vQ n l 0=0:=by
 unfold bW at h;by_cases e:65536<n
 ·rw[if_pos e] at h; simp at h
 ·rw[if_neg e] at h; exact⟨Zo,h⟩
theorem Ju{l:List Dop}(h:bW l a.length=0):DFit a l:=by
 obtain⟨C,B⟩:=Dl h;obtain⟨g1,g2⟩:=yO l 0 B Zo;have g3:=JJ l 0 B Zo;refine⟨fun o A=>(g1 o A).1,fun o A=>(g1 o A).2.2,fun k=>?_,C,Zo⟩;have gd:qJ a ((l.take k).flatMap (oO a)) (l.take k):=⟨fun o A=>(g1 o (dK A)).1,fun o A=>(g1 o (dK A)).2.2,rfl⟩;rw[<-gd.sum];have hs:((l.take k).map bS).sum<=(l.map bS).sum:=by
  conv=>rhs; rw[<-aQ k l,dJ,List.sum_append]
  omega
 omega
theorem NH{l:List Dop}(h:DFit a l)(B:0<l.length):l.flatMap (oO a)≠[]:=by
 cases l with
 | nil=>simp at B
 | cons o l=>
  rw[bR];intro e;have A:=congrArg List.length (List.append_eq_nil_iff.1 e).1;rw[Cu (h.fit o Zs) (h.inr o Zs),aK] at A;have:=sF (h.fit o Zs);omega
theorem Jf{l:List Dop}(h:k<l.length):(l.take (k+1)).flatMap (oO a)=(l.take k).flatMap (oO a)++oO a l[k]:=by
 rw[ai h,bg];simp
theorem Gq(A:Qb)(a:Qa)(l:List Dop)(c:Nat)(w:World)(hl:GIn jm 3 (w:Nat) w a l)(hA:(A.length:Int)<=140737488355328)(D8:(l.length:Int)<=9223372036854775807)(hs:∀o∈l,o.data.length<=1099511627776/\o.len<=1099511627776/\o.off<=1099511627776):
  Qh 248 #[A,.slice a l.length c] w (Xz (.tuple #[.string ⟨(gP A l).1.toArray⟩,Yi (gP A l).2]) w):=by
 obtain⟨R,hR⟩:=Qe (gP A l);rw[<-hR];have E:Qg (bW l A.length≠0->R=([],bW l A.length)):=Qf (fun h=>hR.trans (xD h));have N:Qg (bW l A.length=0->R=(l.flatMap (oO A),0)):=Qf (fun h=>hR.trans (Bz h));have M:Qg (bW l A.length=0->DFit A l):=Qf Ju;have I:=Qf (qz a l c A.length w hl Zo D8 hs);have E2:=bH A;obtain⟨n,hn⟩:=Qe A.length;rw[<-hn] at I E2;obtain⟨m,hm⟩:=Qe l.length;rw[<-hm] at I ⊢;obtain⟨HM,HL⟩:=Yj hm hl;obtain⟨ce,A4⟩:=Qe (bW l A.length);rw[<-A4] at E N M;rw[hn,<-A4,<-hn] at I;have A1:=Qf hn;clear hR hl hs hm A4 hn;by_cases P:ce=0
 case neg=>
  have A7:(ce !=0)=true:=Zu P;have HR:=Qf (E.o P);clear E N M P;go_enter func248,ntmps248;go_wp2_with fail;refine I.o.mono ?_;rintro e u1 ⟨rfl,B⟩;have D0:=Qf B;clear B I;go_wp2;go_ret2;rw[HR.o];exact⟨rfl,D0.o⟩
 case pos=>
 subst P;obtain⟨HR,Z⟩:=Yj (N.o rfl) (M.o rfl);clear E N M;go_enter func248,ntmps248;go_wp2_with fail;refine I.o.mono ?_;rintro e u1 ⟨rfl,B⟩;obtain⟨b,K⟩:=Qe (u1:Nat);obtain⟨u2,U⟩:=Qe (u1.alloc (.cells #[.pointer none,()] 118));have C0:PM u1 u2:=U▸ba _ _;have A5:u2.heap[b]? = some (.cells #[.pointer none,()] 118 (0,0)):=by rw[U,K]; exact YL _ _
 obtain⟨D1,B3⟩:=Yj A5 (BW.start (XT B C0) (K▸B.size) A5);have E4:Qg ((w:Nat)<=b):=Qf (K▸B.size);obtain⟨B5,B2⟩:=Yj U K;clear B C0 A5 I U K;go_wp2_with fail;rw[<-B5.o,<-B2.o];clear B5 B2;go_loopw [19] (fun i wr=>∃k:Nat,k<=m/\i=Yi (k:Int)/\Qg (BW w u2 b ((l.take k).flatMap (oO A)) wr)/\Qg (k=0->wr=u2)) (fun i _=>m-(intOf i).toNat)
 case atStart=>exact⟨0,Zo,rfl,B3,Qf (fun _=>rfl)⟩
 case round=>
  clear B3;obtain⟨k,hk,rfl,O,HZ⟩:=hrel;by_cases D9:k<m
  ·have D6:(k:Int)<(m:Int):=Zo;have h1:k<l.length:=HM.o▸D9;obtain⟨b0,B1,D3,D5,q0,q1,q2⟩:=xX (HL.o.ahead O.out.bel) h1;subst D3;have H:=Z.o.fit _ (ak h1);have Q:=Z.o.inr _ (ak h1);have S:=Z.o.siz (k+1);have HT:=Qf (Jf (a:=A) h1);rw[HT.o,af] at S;have C4:=Cu H Q;generalize l[k]=o at q0 q1 q2 H Q S HT C4;have D4:=Z.o.al;rw[<-A1.o] at D4;have F:Qg (0<o.len->oO A o=(A.drop o.off).take (o.off+o.len-o.off)/\cZ o=true/\o.off<=o.off+o.len/\o.off+o.len<=n):=Qf (fun h=>⟨by rw[lU H h,jR],(gI H).2 h,Zo,A1.o▸Q h⟩);have G:Qg (o.len=0->oO A o=o.data/\cZ o=false):=Qf (fun h=>⟨qg h,by
    cases hc:cZ o with
    | false=>rfl
    | true=>exact absurd ((gI H).1 hc) Zo⟩)
   obtain⟨T,hT⟩:=Qe ((l.take k).flatMap (oO A));rw[<-hT] at O HT S;obtain⟨D,hD⟩:=Qe (oO A o);rw[<-hD] at F G HT S;have Y:=Qf (fun W=>lW o W);obtain⟨cb,C1⟩:=Qe (cZ o);rw[<-C1] at Y F G;obtain⟨B0,A9,data⟩:=o;simp only[Dop.val] at *
   clear H Q C4 hT hD C1 D5;obtain⟨v0,L⟩:=Qe (wr.alloc (.cells #[Yi (B0:Int),Yi (A9:Int),data] 246));have B9:PM wr v0:=L▸ba _ _;have B7:=Qf (O.out.below B9);have B4:Qg (BK wr #[Yi (B0:Int),Yi (A9:Int),data] 246 v0):=Qf (L▸BK.new _ _ _);have I:=Qf (Y.o v0);rw[L] at I;have B6:=Qf L;clear L B9 O HZ Y;go_wp2_with fail;refine I.o.mono ?_;rintro e v1 ⟨rfl,B⟩;rw[<-B6.o] at B;obtain⟨C,A0⟩:=Yj (B7.o.below B) (B4.o.below B);clear B I B6 B7 B4 q0 q1 q2;obtain⟨q0,q1,q2⟩:=BK.c3 A0.o;cases cb with
   | true=>
    by_cases A6:0<A9
    ·obtain⟨e1,_,e2,e3⟩:=F.o A6;have A8:IntKind.i64.wrap ((B0:Int)+(A9:Int))=((B0+A9:Nat):Int):=by rw[ZV]; omega
     have E1:=fun W=>DD A B0 (B0+A9) e2 (A1.o▸e3) W
     rw[<-e1] at E1;have E6:(A:ByteArray).extract B0 (B0+A9)=⟨D.toArray⟩:=by rw[dw,<-e1]
     have A3:=Qf (cz C.o D Zo);clear F G e1 C A0;go_wp2_with fail;refine A3.o.mono ?_;rintro e v2 ⟨rfl,J⟩;rw[<-HT.o] at J;go_wp2;go_roundw
     case rel=>exact⟨k+1,Zo,Zg,J,Qf (fun h=>Zo)⟩
     case measure=>exact Yr
    ·exfalso;have:=(G.o Zo).2;cases this
   | false=>
    by_cases A6:0<A9
    ·exfalso;have:=(F.o A6).2.1;cases this
    ·obtain⟨e1,_⟩:=G.o Zo;subst e1;have A3:=Qf (cz C.o D Zo);clear F G C A0;go_wp2_with fail;refine A3.o.mono ?_;rintro e v2 ⟨rfl,J⟩;rw[<-HT.o] at J;go_wp2;go_roundw
     case rel=>exact⟨k+1,Zo,Zg,J,Qf (fun h=>Zo)⟩
     case measure=>exact Yr
  ·obtain rfl:k=m:=Zo;have D6:¬(k:Int)<(k:Int):=Zo;have A2:Qg (l.take k=l):=Qf (ag (by rw[<-HM.o]; omega));rw[A2.o] at O;by_cases C2:k=0
   ·have A8:=HZ.out C2;have V:l.flatMap (oO A)=[]:=by
     have:l=[]:=Qr.1 (HM.o▸C2);rw[this]; rfl
    rw[V] at HR;have HB:=Qf O.out.bel;rw[A8] at HB ⊢;have HS:=Qf (Bo D1.o);clear O HZ A8 V Z HL A2;go_wp2_with fail;refine HS.o.mono ?_;rintro e v1 ⟨rfl,B⟩;have X:=Qf (XT HB.o B);clear B HS;go_wp2;go_ret2;rw[HR.o];exact⟨rfl,X.o⟩
   ·have A7:=NH Z.o (by rw[<-HM.o]; omega);have HS:=Qf (vC O.out A7);obtain⟨T,hT⟩:=Qe (l.flatMap (oO A));rw[<-hT] at HS HR;clear O HZ A7 Z HL A2;go_wp2_with fail;refine HS.o.mono ?_;rintro e v1 ⟨rfl,C⟩;have X:=Qf C.o.bel;clear C HS hT;go_wp2;go_ret2;rw[HR.o];exact⟨rfl,X.o⟩
structure Pe where
 d:Int×Int
 kind:Int
 base:Int×Int
 off:Nat
 len:Nat
def CS(l:Qb):Int×Int:=(mJ (l.take 8),mJ ((l.drop 8).take 8))
theorem Cx(l:Qb):OkD (CS l):=by
 obtain⟨A,B⟩:=gu (l.take 8) (Zy aA);obtain⟨C,D⟩:=gu ((l.drop 8).take 8) (Zy aA);exact⟨⟨A,B⟩,C,D⟩
theorem fixD_be(h:OkD d)(l:Qb):CS (beD d++l)=d:=by
 have A:=bY 8 d.1;have B:=bY 8 d.2;have e1:(beD d++l).take 8=be 8 d.1:=by unfold beD; rw[ay]; exact OG A _
 have e2:(beD d++l).drop 8=be 8 d.2++l:=by unfold beD; rw[ay]; exact Pj A _
 unfold CS;rw[e1,e2,OG B,Jg _ h.1.1 h.1.2,Jg _ h.2.1 h.2.2]
theorem beD_fix(h:16<=l.length):beD (CS l)=l.take 16:=by
 unfold beD CS;simp only;rw[MF _ (Zy aA),MF _ (by rw[aA,ah]; omega),<-List.take_add]
def dY(b:Qb)(k:Nat):Option Pe:=
 if b.length<k+16 then none else
 if(Cw.getI (b.drop (k+16))).2.2≠0\/((Cw.getI (b.drop (k+16))).1≠0/\(Cw.getI (b.drop (k+16))).1≠1) then none else
 if(Cw.getI (b.drop (k+16))).1=1/\b.length<k+16+(Cw.getI (b.drop (k+16))).2.1.toNat+16 then none else
 if(Cw.getT (b.drop (k+16+(Cw.getI (b.drop (k+16))).2.1.toNat+if(Cw.getI (b.drop (k+16))).1=1 then 16 else 0))).2.2≠0 then none else
 some ⟨CS (b.drop k),(Cw.getI (b.drop (k+16))).1,if(Cw.getI (b.drop (k+16))).1=1 then CS (b.drop (k+16+(Cw.getI (b.drop (k+16))).2.1.toNat)) else(0,0),
  (k+16+(Cw.getI (b.drop (k+16))).2.1.toNat+if(Cw.getI (b.drop (k+16))).1=1 then 16 else 0)+(Cw.getT (b.drop (k+16+(Cw.getI (b.drop (k+16))).2.1.toNat+if(Cw.getI (b.drop (k+16))).1=1 then 16 else 0))).2.1.toNat-(Cw.getT (b.drop (k+16+(Cw.getI (b.drop (k+16))).2.1.toNat+if(Cw.getI (b.drop (k+16))).1=1 then 16 else 0))).1.length,
  (Cw.getT (b.drop (k+16+(Cw.getI (b.drop (k+16))).2.1.toNat+if(Cw.getI (b.drop (k+16))).1=1 then 16 else 0))).1.length⟩
def D8(b:Qb):Nat->Nat->List Pe->List Pe×Int
 | 0,k,l=>if k=b.length then(l,0) else([],13)
 | n+1,k,l=>match dY b k with
  | none=>([],13)
  | some e=>if e.d∈l.map (·.d) then([],13) else D8 b n (e.off+e.len) (l++[e])
def tY(b:Qb):List Pe×Int:=if(Cw.getI b).2.2≠0\/1000<(Cw.getI b).1 then([],13) else D8 b (Cw.getI b).1.toNat (Cw.getI b).2.1.toNat []
def bi(s:Qb):List Pe×Int:=
 if s.length<16 then([],12) else if iY (s.take (s.length-16))≠CS (s.drop (s.length-16)) then([],14) else tY (s.take (s.length-16))
def BX(b:Qb):Qb:=b++beD (iY b)
theorem seal_iff(h:16<=s.length)(E:OkD (iY (s.take (s.length-16)))):BX (s.take (s.length-16))=s↔iY (s.take (s.length-16))=CS (s.drop (s.length-16)):=by
 have F:(s.drop (s.length-16)).length=16:=Zy ah;constructor
 ·intro e;have B:beD (iY (s.take (s.length-16)))=s.drop (s.length-16):=by
   have C:(s.take (s.length-16)++beD (iY (s.take (s.length-16)))).drop (s.length-16)=beD (iY (s.take (s.length-16))):=Pj (Zy aA) _;have D:(BX (s.take (s.length-16))).drop (s.length-16)=s.drop (s.length-16):=by rw[e]
   exact C.symm.trans D
  have A:=fixD_be E [];rw[bG,B] at A;exact A.symm
 ·intro e;unfold BX;rw[e,beD_fix Zo,ag (l:=s.drop (s.length-16)) Zo,aQ]
structure PeAt (b:Qb) (k:Nat) (e:Pe):Prop where
 lo:k+18<=e.off+e.len
 off:k+18<=e.off
 hi:e.off+e.len<=b.length
 kind:e.kind=0\/e.kind=1
 dok:OkD e.d
 bok:OkD e.base
 text:(b.drop e.off).take e.len=(Cw.getT (b.drop (k+16+(Cw.getI (b.drop (k+16))).2.1.toNat+if(Cw.getI (b.drop (k+16))).1=1 then 16 else 0))).1
 tl:e.len<=65536
theorem En{k:Int}(h:Cw.getT l=(x,k,0)):x.length+1<=k.toNat/\k.toNat<=l.length/\(l.drop (k.toNat-x.length)).take x.length=x:=by
 obtain⟨D,E,F,B⟩:=lY h;have C:=congrArg List.length B;rw[aA,af] at C;have G:0<(Cw.enc x.length).length:=bJ.2 (xu _);refine⟨Zo,Zo,?_⟩;have A:=congrArg (List.drop (Cw.enc x.length).length) B;rw[qL,List.drop_take] at A;rw[show k.toNat-x.length=(Cw.enc x.length).length by omega];rw[show k.toNat-(Cw.enc x.length).length=x.length by omega] at A;exact A
theorem iB{b:Qb}{e:Pe}(h:dY b k=some e):PeAt b k e/\e.kind=(Cw.getI (b.drop (k+16))).1:=by
 unfold dY at h;by_cases F:b.length<k+16
 ·rw[if_pos F] at h; cases h
 rw[if_neg F] at h;obtain⟨kd,u,er,C⟩:∃kd u er,Cw.getI (b.drop (k+16))=(kd,u,er):=⟨_,_,_,rfl⟩;rw[C] at h;simp only at h;by_cases B:er≠0\/(kd≠0/\kd≠1)
 ·rw[if_pos B] at h; cases h
 rw[if_neg B] at h;have H:er=0:=by
  by_cases e:er=0
  ·exact e
  ·exact absurd (.inl e) B
 subst H;obtain⟨_,_,g3,g4,_⟩:=bM C;by_cases G:kd=1/\b.length<k+16+u.toNat+16
 ·rw[if_pos G] at h; cases h
 rw[if_neg G] at h;obtain⟨q,E⟩:∃q,q=k+16+u.toNat+if kd=1 then 16 else 0:=⟨_,rfl⟩
 have I:k+17<=q:=Zy E;rw[<-E] at h;obtain⟨x,v,J,A⟩:∃x v J,Cw.getT (b.drop q)=(x,v,J):=⟨_,_,_,rfl⟩;rw[A] at h;simp only at h;by_cases D:J≠0
 ·rw[if_pos D] at h; cases h
 rw[if_neg D] at h;obtain rfl:J=0:=by
  by_cases e:J=0
  ·exact e
  ·exact absurd e D
 obtain⟨t1,t2,t3⟩:=En A;have t4:=(lY A).2.2.1;rw[ah] at t2;cases h;refine⟨⟨Zp,Zp,Zp,?_,Cx _,?_,?_,t4⟩,Zx C⟩
 ·simp only;by_cases e:kd=0
  ·exact .inl e
  ·by_cases e1:kd=1
   ·exact .inr e1
   ·exact absurd (.inr ⟨e,e1⟩) B
 ·simp only;split
  ·exact Cx _
  ·exact⟨⟨Zd,Zd⟩,Zd,Zd⟩
 ·simp only;rw[C];simp only;rw[<-E,A];simp only;rw[eY] at t3;rw[show q+v.toNat-x.length=q+(v.toNat-x.length) by omega];exact t3
structure kN (b:Qb) (l:List Pe):Prop where
 nd:(l.map (·.d)).Nodup
 at_:∀e∈l,∃k,dY b k=some e
 up:∀i (h:i+1<l.length),l[i].off+l[i].len<l[i+1].off
theorem kN.nil(b:Qb):kN b []:=⟨List.nodup_nil,fun e h=>by simp at h,fun i h=>by simp at h⟩
theorem kN.snoc{b:Qb}{l:List Pe}{e:Pe}(h:kN b l)(J:∀h:0<l.length,k=l[l.length-1].off+l[l.length-1].len)(E:dY b k=some e)(K:e.d∉l.map (·.d)):kN b (l++[e]):=by
 refine⟨?_,fun x A=>?_,fun i I=>?_⟩
 ·rw[dJ,List.nodup_append];refine⟨h.nd,Zs,fun a C c D e2=>?_⟩;simp only[eX,List.map_nil,aH] at D;rw[e2,D] at C;exact K C
 ·rcases aD.1 A with A | A
  ·exact h.at_ x A
  ·rw[aH.1 A]; exact⟨k,E⟩
 ·rw[af,aI] at I;by_cases B:i+1<l.length
  ·rw[sU Zo,sU B];exact h.up i B
  ·have F:i+1=l.length:=Zo;have G:=J Zo;have L:=(iB E).1.off;rw[sU Zo,qK Zo];simp only[F,Nat.sub_self,aS];have H:l.length-1=i:=Zo;simp only[H] at G;omega
theorem Ig:∀(n:Nat) {b:Qb} {k:Nat} {acc l:List Pe},kN b acc->(∀h:0<acc.length,k=acc[acc.length-1].off+acc[acc.length-1].len)->D8 b n k acc=(l,0)->kN b l/\l.length=acc.length+n
 | 0,b,k,acc,l,h,C,e=>by
  rw[D8] at e;split at e
  ·cases e; exact⟨h,rfl⟩
  ·simp at e
 | n+1,b,k,acc,l,h,C,e=>by
  rw[D8] at e;cases A:dY b k with
  | none=>rw[A] at e; simp at e
  | some x=>
   rw[A] at e;simp only at e;by_cases B:x.d∈acc.map (·.d)
   ·rw[if_pos B] at e; simp at e
   ·rw[if_neg B] at e;obtain⟨g1,g2⟩:=Ig n (h.snoc C A B) (fun _=>Zs) e;refine⟨g1,?_⟩;rw[g2,af,aI]; omega
theorem D7:∀(n:Nat) {b:Qb} {k:Nat} {acc:List Pe},(D8 b n k acc).2≠0->D8 b n k acc=([],13)
 | 0,b,k,acc,h=>by
  rw[D8] at h ⊢;split
  ·rename_i e; rw[if_pos e] at h; simp at h
  ·rfl
 | n+1,b,k,acc,h=>by
  rw[D8] at h ⊢;cases A:dY b k with
  | none=>rfl
  | some x=>
   rw[A] at h;simp only at h ⊢;split
   ·rfl
   ·rename_i B;rw[if_neg B] at h;exact D7 n h
theorem uM{l:List Pe}(h:bi s=(l,0)):kN (s.take (s.length-16)) l/\l.length<=1000/\16<=s.length:=by
 unfold bi at h;split at h
 ·simp at h
 ·split at h
  ·simp at h
  ·unfold tY at h;split at h
   ·simp at h
   ·rename_i B _ A;obtain⟨g1,g2⟩:=Ig _ (kN.nil _) (fun h=>by simp at h) h;refine⟨g1,?_,Zo⟩;rw[g2];have C:¬(1000<(Cw.getI (s.take (s.length-16))).1):=fun e=>A (.inr e)
    simp only[aK];omega
theorem AQ(h:(bi s).2≠0):(bi s).1=[]:=by
 unfold bi at h ⊢;split
 ·rfl
 ·rename_i A;rw[if_neg A] at h;split
  ·rfl
  ·rename_i B;rw[if_neg B] at h;unfold tY at h ⊢;split
   ·rfl
   ·rename_i C;rw[if_neg C] at h;rw[D7 _ h]
def iK(s:Qb)(src:Qb×Int)(e:Pe):Qb×Int:=
 if e.kind=1 then
  (if src.2≠0 then src else if(sK ((s.drop e.off).take e.len)).2≠0 then([],13) else
   if(gP src.1 (sK ((s.drop e.off).take e.len)).1).2≠0 then([],13) else rightS (gP src.1 (sK ((s.drop e.off).take e.len)).1).1 e.d)
 else rightS ((s.drop e.off).take e.len) e.d
where rightS (t:Qb) (d:Int×Int):Qb×Int:=if(bI t).2≠0 then([],13) else if iY t≠d then([],15) else(t,0)
def rE(l:List Pe)(d:Int×Int):Option Nat:=l.findIdx? fun e=>decide (e.d=d)
def De(xs:List Itm)(d:Int×Int):Qb×Int:=match xs.find? fun x=>decide (x.d=d) with
 | some x=>(x.data,0)
 | none=>([],8)
def wu(xs:List Itm)(l:List Pe)(prev:Nat->Qb×Int)(i:Nat)(d:Int×Int):Qb×Int:=
 match rE l d with
 | some j=>if j<i then prev j else De xs d
 | none=>De xs d
def NP(s:Qb)(xs:List Itm)(l:List Pe):Nat->Nat->Qb×Int
 | 0,_=>([],0)
 | f+1,i=>match l[i]? with
  | none=>([],8)
  | some e=>iK s (wu xs l (NP s xs l f) i e.base) e
def NK(s:Qb)(xs:List Itm)(l:List Pe)(i:Nat):Qb×Int:=NP s xs l (i+1) i
theorem JD{s:Qb}{xs:List Itm}{l:List Pe}:∀(f g i:Nat),i<f->i<g->NP s xs l f i=NP s xs l g i
 | 0,_,i,h,_=>Zo
 | _,0,i,_,h=>Zo
 | f+1,g+1,i,A,B=>by
  rw[NP,NP];cases C:l[i]? with
  | none=>rfl
  | some e=>
   simp only;congr 1;unfold wu;cases D:rE l e.base with
   | none=>rfl
   | some j=>
    simp only;split
    ·exact JD f g j Zo Zo
    ·rfl
theorem JB{xs:List Itm}{l:List Pe}(h:i<l.length):NK s xs l i=iK s (wu xs l (NK s xs l) i l[i].base) l[i]:=by
 unfold NK;rw[NP,XH h];simp only;congr 1;unfold wu;cases A:rE l l[i].base with
 | none=>rfl
 | some j=>
  simp only;split
  ·exact JD _ _ _ Zo Zo
  ·rfl
theorem Ai{l:List Pe}(h:rE l d=some i):∃h:i<l.length,l[i].d=d/\∀j (A:j<i),l[j].d≠d:=by
 unfold rE at h;rw[List.findIdx?_eq_some_iff_getElem] at h;obtain⟨B,C,D⟩:=h;exact⟨B,Zu C,fun j A=>by simpa using D j A⟩
theorem IZ{l:List Pe}:rE l d=none↔∀e∈l,e.d≠d:=by
 unfold rE;rw[List.findIdx?_eq_none_iff];simp
theorem Ny{l:List Pe}(E:(l.map (·.d)).Nodup)(h:i<l.length):rE l l[i].d=some i:=by
 cases A:rE l l[i].d with
 | none=>exact absurd rfl (IZ.1 A _ (ak h))
 | some j=>
  obtain⟨D,B,_⟩:=Ai A;have C:(l.map (·.d))[j]'(Zu D)=(l.map (·.d))[i]'(Zu h):=Zu B;rw[(List.getElem_inj E).1 C]
def byC(c:UInt8):List Value:=[Yb c.toNat]
theorem layBy:Lay byC 1:=⟨Zd,fun o=>rfl,fun o v A=>by
 simp only[byC,XG,List.not_mem_nil,or_false] at A;subst A; rfl⟩
theorem Jd(l:Qb):gcs byC l=Lib.byteCells l:=by
 unfold gcs byC Lib.byteCells;induction l with
 | nil=>rfl
 | cons a l ih=>rw[bR,ih]; rfl
theorem Dt{v:Value}(J:n=l.length)(B:W.ownsRow base 5 1 v n (Lib.byteCells l))(c:Int)(H:0<=c)(K:c<256)(D:(n:Int)<=1000000)(C:base<=(W:Nat)):
  ∃v' W',Qg ((Builtin.append_ #[116,116] 116 #[v,.slice W 1 1]).run prog (W.alloc (.cells #[Yb c] 5))=.ok v' W')/\W'.ownsRow base 5 1 v' (n+1) (Lib.byteCells (l++[UInt8.ofNat c.toNat]))/\(W.alloc (.cells #[Yb c] 5)).grownBy W' v.ownBlock/\(v'.ownBlock=v.ownBlock\/v'.ownBlock=some ((W:Nat)+1)):=by
 obtain⟨i0,I,E,F,G⟩:=XR IV;rw[<-Jd] at B;have h:=jb layBy underlying116 I E F G rfl J B (UInt8.ofNat c.toNat) D Zd C;rw[Jd] at h;have e:(byC (UInt8.ofNat c.toNat)).toArray=#[Yb c]:=by
  unfold byC;rw[Cw.toNat_ofNat _ Zo,Int.toNat_of_nonneg H]
 rwa[e] at h
theorem nP(x y:Int)(hx:0<=x/\x<=18446744073709551615)(hy:0<=y/\y<=18446744073709551615)(w:World):Qh 147 #[.agg #[Yu x,Yu y]] w (Xz (.string ⟨(beD (x,y)).toArray⟩) w):=by
 obtain⟨i0,S,O,Q,R⟩:=XR IV;obtain⟨u0,E⟩:=Qe (w.alloc (.cells #[Yu x,Yu y] 54));have F:PM w u0:=E▸ba _ _;obtain⟨u,H,I,hg⟩:=run_make_own (P:=prog) u0 (w:Nat) 116 5 i0 _ 1 underlying116 S O Q .i64 .i64 16 (by rw[R]; decide) Zd F.size;obtain⟨D,B⟩:=Yj (F.grown hg F.size (fun k h=>by cases h)) I;obtain⟨Z,hZ⟩:=Qe (Value.slice (some ⟨u0,0,none⟩) 0 16);rw[<-hZ] at B H;rw[E] at H;have J:(w.alloc (.cells #[Yu x,Yu y] 54)).cell? w=some (Yu x):=by rw[(BK.new w _ _).cell]; rfl
 have G:u.cell? w=some (Yu x)/\u.cell? ⟨w,1,none⟩=some (Yu y):=by
  have N:(w:Nat)<(u0:Nat):=Zn E;have hk:BK w #[Yu x,Yu y] 54 u:=by
   have:=hg.block (w:Nat) N Zs;unfold BK;rw[this,E];exact BK.new w _ _
  exact⟨Zw hk.cell,Zw hk.cell⟩
 obtain⟨G,B1⟩:=G;have B0:(Instr.makeSlice 116 (Yi 0) (Yi 16)).run prog (w.alloc (.cells #[Yu x,Yu y] 54))=.ok Z u:=H;clear E F I hg O Q R S J hZ H;go_enter func147,ntmps147;go_wp2;go_loopw [9,3] (fun i v wr=>∃k:Nat,k<=2/\i=Yi (k:Int)/\Qg (PM w wr)/\Qg (wr.ownsRow w 5 1 v (8*k) (Lib.byteCells (bU x y k)))) (fun i _ _=>2-(intOf i).toNat)
 case atStart=>exact⟨0,Zo,rfl,D,Qf (by simpa[bU,Lib.byteCells] using B.o)⟩
 case round=>
  clear D B;obtain⟨k,hk,rfl,D,B⟩:=hrel;by_cases N:k<2
  ·obtain⟨n,hn,B3,U⟩:∃n:Int,(∀W,(Instr.index 54 (.agg #[Yu x,Yu y]) (Yi (k:Int))).run prog W=.ok (Yu n) W)/\0<=n/\Qg (bU x y (k+1)=bU x y k++be 8 n/\(bU x y k).length=8*k):=by
    rcases(show k=0\/k=1 by omega) with rfl | rfl
    ·exact⟨x,fun W=>Zk,hx.1,Qf ⟨by simp[bU],by simp[bU]⟩⟩
    ·exact⟨y,fun W=>Zk,hy.1,Qf ⟨rfl,by simp[bU,bY]⟩⟩
   have A6:(k:Int)<2:=Zo;have dk:decide ((k:Int)<2)=true:=Zu A6;obtain⟨L0,L⟩:=Qe (bU x y k);rw[<-L] at B U;clear L;go_wp2;go_loopw [6,3] (fun s v wr=>∃(j:Nat) (p:Qb),j<=8/\s=Yi (8*(j:Int)-8)/\p.length+j=8/\Qg (p++be j n=be 8 n)/\Qg (PM w wr)/\Qg (wr.ownsRow w 5 1 v (8*k+p.length) (Lib.byteCells (L0++p)))) (fun s _ _=>(intOf s+8).toNat)
   case atStart=>exact⟨8,[],Zo,rfl,Zs,Qf rfl,D,by rw[bG]; exact B⟩
   case round=>
    clear D B;obtain⟨j,p,hj,rfl,hp,X,D,B⟩:=hrel;cases j with
    | zero=>
     have A0:Qg (L0++p=bU x y (k+1)):=Qf (by rw[U.out.1,<-X.out]; simp[be]);rw[A0.o,show 8*k+p.length=8*(k+1) by omega] at B;go_wp2;go_roundw
     case rel=>exact⟨k+1,Zo,Zg,D,B⟩
     case measure=>exact Yr
    | succ i=>
     have A4:8*((i+1:Nat):Int)-8=8*(i:Int):=Zo;rw[A4];obtain⟨z,hz⟩:=Qe (n/2^(8*i));have B4:n/2^(8*(i:Int)).toNat=z:=by
      rw[hz];congr 2
     obtain⟨c,hc⟩:=Qe (z%256);have A2:IntKind.u8.wrap z=c:=by rw[hc]; simp[IntKind.wrap,IntKind.bits,IntKind.signed]
     have J:0<=c:=Zo;have G:c<256:=Zo;have Y:Qg ((p++[UInt8.ofNat c.toNat])++be i n=be 8 n):=Qf (by rw[<-X.out,be,<-hz,<-hc,ay]; rfl);obtain⟨va,vc,rfl,A7⟩:=aB B.o;obtain⟨v',W',K,C,M,_⟩:=Dt (by rw[af,U.out.2]) B.o c J G Zo D.o.size;have T:Qg (PM w W'):=Qf ((D.o.alloc D.o.size _).grown M (by have:=D.o.size; simp; omega) (fun i S=>Zh ((B.o.lt i S).1)));rw[ay] at C;have V:=Qf C;have B2:i<=7:=Zo;clear hc hz X C M D B;go_wp2_with (at_builtin; refine Lib.wpList_append_run _ rfl _ _ _ _ rfl _ _ rfl rfl _ _ K.out ?_);go_roundw
     case rel=>exact⟨i,p++[UInt8.ofNat c.toNat],Zo,rfl,Zt,Y,T,Qf (by rw[af,aI,<-aP]; exact V.o)⟩
     case measure=>exact Yr
  ·obtain rfl:k=2:=Zo;obtain⟨va,vc,rfl,A7⟩:=aB B.o;have A2:=pF (l:=beD (x,y)) (by rw[bX]; exact B.o) (by intro h; have:=bX (x,y); rw[h] at this; simp at this);go_wp2;go_ret;exact⟨rfl,D.o⟩
theorem lh(l:Qb)(w:World)(L:16<=l.length)(O:(l.length:Int)<=140737488355328):
  Qh 244 #[l] w (Xz (.agg #[Yu (CS l).1,Yu (CS l).2]) w):=by
 have K:Qg (CS l=sJ l 16):=Qf (by unfold CS; rw[uW]);go_enter func244,ntmps244;go_wp2;go_loopw [5] (fun i wr=>∃(k:Nat) (x y:Int),k<=16/\i=Yi k/\Qg (PM w wr)/\Qg (BK w #[Yu 0,Yu 0] 54 wr)/\Qg (BK ((w:Nat)+1) #[Yu x,Yu y] 54 wr)/\Qg (sJ l k=(x,y))) (fun i _=>16-(intOf i).toNat)
 case atStart=>exact⟨0,0,0,Zo,rfl,Qf ((ba w _).alloc Zs _),Qf ((BK.new _ _ _).alloc _),Qf (BK.new2 _ _ _ _),Qf (uV l)⟩
 case round=>
  obtain⟨k,x,y,N,rfl,D,C,B,E⟩:=hrel;have g1:wr.cell? ⟨(w:Nat)+1,0,none⟩=some (Yu x):=Zw B.out.cell;have g2:wr.cell? ⟨(w:Nat)+1,1,none⟩=some (Yu y):=Zw B.out.cell;have z1:wr.frozen? ⟨(w:Nat)+1,0,none⟩=false:=B.out.frozen 0;have z2:wr.frozen? ⟨(w:Nat)+1,1,none⟩=false:=B.out.frozen 1;by_cases H:k<16
  ·have M:k<l.length:=Zo;by_cases G:k<8
   ·have F:Qg (sJ l (k+1)=(mI x l[k],y)):=Qf (by rw[C8 l k Zo G,E.out]);have I:(k:Int).tdiv 8=0:=by rw[iG Zo]; omega
    have J:(k:Int)/8=0:=Zo;have dk:decide ((k:Int)<16)=true:=Zt;go_wp2;go_region;go_wp2;go_roundw
    case rel=>exact⟨k+1,_,_,Zo,Zg,Qf (D.out.setCell (p:=⟨(w:Nat)+1,0,none⟩) Zs _).drew,Qf (C.out.other Zo _ _),Qf (B.out.set _ _),Qf F.o⟩
    case measure=>exact Yq
   ·have F:Qg (sJ l (k+1)=(x,mI y l[k])):=Qf (by rw[C9 l k Zo Zo H,E.out]);have I:(k:Int).tdiv 8=1:=by rw[iG Zo]; omega
    have J:(k:Int)/8=1:=Zo;have dk:decide ((k:Int)<16)=true:=Zt;go_wp2;go_region;go_wp2;go_roundw
    case rel=>exact⟨k+1,_,_,Zo,Zg,Qf (D.out.setCell (p:=⟨(w:Nat)+1,1,none⟩) Zs _).drew,Qf (C.out.other Zo _ _),Qf (B.out.set _ _),Qf F.o⟩
    case measure=>exact Yq
  ·obtain rfl:k=16:=Zo;have y2:wr.frozen? w=false:=C.out.frozen 0;have y3:wr.frozen? ⟨w,1,none⟩=false:=C.out.frozen 1;have y0:wr.cell? w=some (Yu 0):=Zw C.out.cell;have y1:wr.cell? ⟨w,1,none⟩=some (Yu 0):=Zw C.out.cell;go_wp2;refine XB (v:=.agg #[Yu x,Yu y]) (by simp[results,results244,go_sem,y0,y1]) rfl ⟨by rw[K.o,E.out],?_⟩;exact(D.out.setCell Zs _).setCell Zs _
