/- Joined texts: PkHl, PkHz. -/
import Derived.Test.YtkedhdcnakhbgaaGreatProg
import Derived.Deep.RegionHeldLaw
import Derived.Test.YtkedhdcnakhbgaaGreatK1
/- A region that draws its order and whose last operation stores into a cell that it loads: what the loads read holds till the last operation. No program in sight. -/
set_option linter.unusedSimpArgs false
set_option maxRecDepth 100000
set_option maxHeartbeats 16000000
namespace Go.Proofs.YtkedhdcnakhbgaaGreat
open Go
variable {a:Act}{ls:Array Bool}{ts:List Nat}{j:Nat}{w:World}
section
variable {P:Program} {ops:Array Oper} {Q:Exit->Act->World->Prop} {md:Region.Mode} {S:World->Prop}
def ClL(md:Region.Mode)(ops:Array Oper)(ls:Array Bool):Prop:=∀j o,ops[j]? = some o->ls.getD j true=true->∀e∈o.after,Region.binds md e=true->ls.getD e.on true=true
def qM(md:Region.Mode)(ops:Array Oper):Nat->Nat->Nat->Bool
 | 0,_,_=>false
 | f+1,j,i=>match ops[j]? with
  | none=>false
  | some o=>o.after.any fun e=>Region.binds md e&&(e.on==i||qM md ops f e.on i)
theorem CL(h:j<ls.size):ls.getD j true=ls.getD j false:=by simp[h]
theorem ClL.waits(h:ClL md ops ls)(i:Nat):∀(f j:Nat),qM md ops f j i=true->(∀o,ops[j]? = some o->∀e∈o.after,Region.binds md e=true->ls.getD e.on true=true)->ls.getD i true=true
 | 0,j,A,_=>by simp[qM] at A
 | f+1,j,A,G=>by
  rw[qM] at A;cases C:ops[j]? with
  | none=>rw[C] at A; simp at A
  | some o=>
   rw[C] at A;simp only at A;obtain⟨e,H,B⟩:∃e∈o.after,(Region.binds md e&&(e.on==i||qM md ops f e.on i))=true:=by
    rw[Array.any_eq_true] at A;obtain⟨k,I,B⟩:=A;exact⟨_,Array.getElem_mem I,B⟩
   simp only[Bool.and_eq_true,Bool.or_eq_true,beq_iff_eq] at B;have E:=G o C e H B.1;rcases B.2 with rfl | F
   ·exact E
   ·exact h.waits i f e.on F (fun o' D=>h e.on o' D E)
theorem kW(F:j∈Region.ready md ops ls):ls.getD j true=false/\∀o,ops[j]? = some o->∀e∈o.after,Region.binds md e=true->ls.getD e.on true=true:=by
 obtain⟨C,o,G,A⟩:=mem_ready.1 F;refine⟨C,fun o' B e E D=>?_⟩;rw[G] at B;cases B;have:=A e E D;rcases gB e.on ls.size with h | h
 ·rw[CL h]; simpa using this
 ·simp[h]
theorem ClL.set(h:ClL md ops ls)(F:j∈Region.ready md ops ls):ClL md ops (ls.setIfInBounds j true):=by
 intro k o E D e C B;have key:∀x,ls.getD x true=true->(ls.setIfInBounds j true).getD x true=true:=fun x G=>by
  by_cases ex:j=x
  ·subst ex
   rcases gB j ls.size with A | A
   ·simp[A]
   ·simp[A]
  ·rw[getD_set_ne true ex]; exact G
 by_cases ek:j=k
 ·subst ek; exact key _ ((kW F).2 o E e C B)
 ·rw[getD_set_ne true ek] at D; exact key _ (h k o E D e C B)
def uk(ts:List Nat)(ls:Array Bool):Bool:=ts.all fun t=>!(ls.getD t true)
theorem z8:uk ts ls=true↔∀t∈ts,ls.getD t true=false:=by simp[uk]
def Po(P:Program)(md:Region.Mode)(ops:Array Oper)(Q:Exit->Act->World->Prop)(S:World->Prop)(ts:List Nat):Nat->Array Bool->Act->World->Prop
 | 0,ls,a,w=>Region.ready md ops ls=[]/\Q .normal a w
 | f+1,ls,a,w=>(Region.ready md ops ls=[]->Q .normal a w)/\∀i∈Region.ready md ops ls,wpOp P ops Q i (fun a' w'=>(uk ts (ls.setIfInBounds i true)=true->S w')/\Po P md ops Q S ts f (ls.setIfInBounds i true) a' w') a w
def Du(P:Program)(md:Region.Mode)(ops:Array Oper)(Q:Exit->Act->World->Prop)(S:World->Prop)(ts:List Nat)(f:Nat)(ls:Array Bool)(a:Act)(w:World):Prop:=ClL md ops ls->Po P md ops Q S ts f ls a w
theorem yV{ts:List Nat}:∀(f:Nat) (ls:Array Bool) (a:Act) (w:World),Po P md ops Q S ts f ls a w->wpAny P md ops Q f ls a w
 | 0,_,_,_,h=>h
 | f+1,_,_,_,h=>⟨h.1,fun i B=>wpOp_mono (fun a' w' A=>yV f _ a' w' A.2) (h.2 i B)⟩
theorem qG{ts:List Nat}{S':World->Prop}{i:Nat}{oi:Oper}{v:Value}(O:ops[i]? = some oi)(B:∀(j:Nat) (o:Oper) cs b,ops[j]? = some o->o.op≠.select cs b)(Z:∀c a w,Q (.panic c) (a.put oi.dst v) w->Q (.panic c) a w)
  (L:∀(ls:Array Bool) (j:Nat) (w:World),ClL md ops ls->i∈Region.ready md ops ls->j∈Region.ready md ops ls->j≠i->(uk ts ((ls.setIfInBounds j true).setIfInBounds i true)=true->S w)->S' w/\(uk ts (ls.setIfInBounds j true)=true->S w)) :
  ∀(f:Nat) (ls:Array Bool) (a:Act) (w:World),ClL md ops ls->(∀j oj,ops[j]? = some oj->j≠i->ls.getD j true=false->(∀e∈oj.after,Region.binds md e=true->e.on≠i)->oi.apart ops oj=true)->
   i∈Region.ready md ops ls->YieldsIf P ops S' oi v a->S' w->(uk ts (ls.setIfInBounds i true)=true->S w)->Po P md ops Q S ts f (ls.setIfInBounds i true) (a.put oi.dst v) w->Po P md ops Q S ts (f+1) ls a w
 | 0,ls,a,w,T,_,E,R,U,F,H=>by
  refine⟨fun h=>(by rw[h] at E; cases E),fun j I=>?_⟩;by_cases e:j=i
  ·subst e; exact R.wpOp O U ⟨F,H⟩
  ·have:=ready_mono I e
   rw[H.1] at this;cases this
 | f+1,ls,a,w,T,A,E,R,U,F,H=>by
  refine⟨fun h=>(by rw[h] at E; cases E),fun j I=>?_⟩;by_cases e:j=i
  ·subst e; exact R.wpOp O U ⟨F,H⟩
  have h1:=H.2 j (ready_mono I e);obtain⟨D,oj,C,A0⟩:=mem_ready.1 I;have K:∀e∈oj.after,Region.binds md e=true->e.on≠i:=fun e he hb V=>by
   have g1:=(kW I).2 oj C e he hb;rw[V,(kW E).1] at g1;cases g1
  have h2:=wpOp_putIf C (A j oj C e D K) (fun cs b=>B i oi cs b O) (fun cs b=>B j oj cs b C) Z R h1;refine wpOp_mono (fun a' w' N=>?_) h2;have G:=Array.setIfInBounds_comm (xs:=ls) true true e;have Y:=L ls j w' T E I e (by rw[G]; exact N.2.1);refine⟨Y.2,qG O B Z L f (ls.setIfInBounds j true) a' w' (T.set I) (fun k ok hk W M X=>?_) (ready_mono E (Ne.symm e)) N.1 Y.1 (by rw[G]; exact N.2.1) ?_⟩
  ·refine A k ok hk W ?_ X
   by_cases J:j=k
   ·subst J; exact D
   ·rw[getD_set_ne true J] at M; exact M
  ·rw[G]
   exact N.2.2
theorem Eb{i:Nat}(B:ts.contains i=false)(h:uk ts ls=true):uk ts (ls.setIfInBounds i true)=true:=by
 rw[z8] at h ⊢;intro t A;have e:i≠t:=fun e=>by
  subst e;have:ts.contains i=true:=by simpa using A
  rw[B] at this; cases this
 rw[getD_set_ne true e]; exact h t A
theorem BC{ts:List Nat}{i:Nat}{oi:Oper}{v:Value}{f:Nat}{ls:Array Bool}{a:Act}{w:World}(H:ops[i]? = some oi)(hs:Region.noSelect ops=true)(L:Region.free md ops ls i=true)(I:(Region.ready md ops ls).contains i=true)(E:(!ts.contains i&&ts.all (fun t=>qM md ops ops.size t i))=true)
  (J:∀c a w,Q (.panic c) (a.put oi.dst v) w->Q (.panic c) a w) (U:YieldsIf P ops S oi v a) (G:S w) (h:Du P md ops Q S ts f (ls.setIfInBounds i true) (a.put oi.dst v) w):Du P md ops Q S ts (f+1) ls a w:=fun B=>by
 simp only[Bool.and_eq_true,Bool.not_eq_true',List.all_eq_true] at E;refine qG H (Region.noSelect_spec hs) J (fun ls j w B C D N R=>?_) f ls a w B (Region.free_spec H L) (by simpa using I) U G (fun _=>G) (h (B.set (by simpa using I)));have M:uk ts (ls.setIfInBounds j true)=true:=by
  rw[z8];intro t A;have key:∀t∈ts,(∀o,ops[t]? = some o->∀e∈o.after,Region.binds md e=true->ls.getD e.on true=true)->False:=fun t A K=>by
   have F:=B.waits i _ t (E.2 t A) K;rw[(kW C).1] at F;cases F
  have e:j≠t:=fun e=>by subst e; exact key j A (kW D).2
  rw[getD_set_ne true e];cases T:ls.getD t true with
  | false=>rfl
  | true=>exact(key t A (fun o O=>B t o O T)).elim
 have:=R (Eb E.1 M);exact⟨this,fun _=>this⟩
theorem cu{ts:List Nat}{i:Nat}{o:Oper}{f:Nat}{ls:Array Bool}{a:Act}{w:World}(E:Region.ready md ops ls=[i])(I:ops[i]? = some o)
  (h:∀K':Act->World->Prop,Shut (∀a w,(uk ts (ls.setIfInBounds i true)=true->S w)->((uk ts (ls.setIfInBounds i true)=true->S w)->Du P md ops Q S ts f (ls.setIfInBounds i true) a w)->K' a w)->if Region.wanted o (yielded ops a.tmps)=true then Oper.wp P o a w K' Q else K' (a.put o.dst undef) w):Du P md ops Q S ts (f+1) ls a w:=
 fun F=>⟨fun C=>(by rw[E] at C; cases C),fun j A=>by
  have B:=A;rw[E] at A;obtain rfl:j=i:=by simpa using A
  exact wpOp_step I (fun K' G=>h K' (fun a w D H=>G a w ⟨D,H D (F.set B)⟩))⟩
theorem eQ(A:Region.ready md ops ls=[])(h:Q .normal a w):∀f,Du P md ops Q S ts f ls a w
 | 0=>fun _=>⟨A,h⟩
 | _+1=>fun _=>⟨fun _=>h,by rw[A]; simp⟩
theorem Au(n j:Nat):(Array.replicate n false).getD j true=true->n<=j:=fun h=>by
 rcases gB j n with A | A
 ·simp[A] at h
 ·exact A
theorem iQ(ts:List Nat){id:Nat}(C:P.follows .mixedOrders=true)(A:S w.drew)(h:S w.drew->Du P .any ops Q S ts ops.size (Array.replicate ops.size false) a w.drew):(Code.region id ops true).wp P Q a w:=
 wp_region_any C (yV _ _ _ _ (h A (fun j o D B=>by
  have E:=Au _ _ B;have F:=(Array.getElem?_eq_some_iff.1 D).1
  omega)))
end
section
variable {P:Program} {ops:Array Oper} {Q:Exit->Act->World->Prop} {md:Region.Mode} {S:World->Prop}
theorem tl{ts:List Nat}(i:Nat){oi:Oper}{v:Value}{f:Nat}{ls:Array Bool}{a a':Act}{w:World}(h:Du P md ops Q S ts f (ls.setIfInBounds i true) a' w)(F:ops[i]? = some oi:=by rfl)(hs:Region.noSelect ops=true:=by kernel_rfl)(E:Region.free md ops ls i=true:=by kernel_rfl)(G:(Region.ready md ops ls).contains i=true:=by kernel_rfl)(H:(!ts.contains i&&ts.all (fun t=>qM md ops ops.size t i))=true:=by kernel_rfl)
  (B:∀c a w,Q (.panic c) (a.put oi.dst v) w->Q (.panic c) a w:=by exact fun _ _ _ h=>h) (I:Region.wanted oi (yielded ops a.tmps)=true:=by rfl) (J:∀w,S w->(execOp a.eval oi).run P w=.ok (.value v) w:=by(intro wx A; (try dsimp only at A); go_simp; try (with_reducible rfl))) (C:S w:=by assumption) (D:a.put oi.dst v=a':=by(simp only[Act.put,zA,zB,zC,zD,zE,zF]; rfl)):Du P md ops Q S ts (f+1) ls a w:=
 BC F hs E G H B (Or.inl ⟨I,J⟩) C (D▸h)
theorem sl{ts:List Nat}(i:Nat){oi:Oper}{f:Nat}{ls:Array Bool}{a a':Act}{w:World}(h:Du P md ops Q S ts f (ls.setIfInBounds i true) a' w)(E:ops[i]? = some oi:=by rfl)(hs:Region.noSelect ops=true:=by kernel_rfl)(D:Region.free md ops ls i=true:=by kernel_rfl)(F:(Region.ready md ops ls).contains i=true:=by kernel_rfl)(G:(!ts.contains i&&ts.all (fun t=>qM md ops ops.size t i))=true:=by kernel_rfl)
  (A:∀c a w,Q (.panic c) (a.put oi.dst undef) w->Q (.panic c) a w:=by exact fun _ _ _ h=>h) (H:Region.wanted oi (yielded ops a.tmps)=false:=by rfl) (B:S w:=by assumption) (C:a.put oi.dst undef=a':=by(simp only[Act.put,zA,zB,zC,zD,zE,zF]; rfl)):Du P md ops Q S ts (f+1) ls a w:=
 BC E hs D F G A (Or.inr ⟨H,rfl⟩) B (C▸h)
theorem th(i:Nat){oi:Oper}{v:Value}{f:Nat}{ls:Array Bool}{a a':Act}{w:World}(h:wpAnyH P md ops Q S f (ls.setIfInBounds i true) a' w)(F:ops[i]? = some oi:=by rfl)(hs:Region.noSelect ops=true:=by kernel_rfl)(E:Region.free md ops ls i=true:=by kernel_rfl)(G:(Region.ready md ops ls).contains i=true:=by kernel_rfl)
  (B:∀c a w,Q (.panic c) (a.put oi.dst v) w->Q (.panic c) a w:=by exact fun _ _ _ h=>h) (H:Region.wanted oi (yielded ops a.tmps)=true:=by rfl) (I:∀w,S w->(execOp a.eval oi).run P w=.ok (.value v) w:=by(intro wx A; (try dsimp only at A); go_simp; try (with_reducible rfl))) (C:S w:=by assumption) (D:a.put oi.dst v=a':=by(simp only[Act.put,zA,zB,zC,zD,zE,zF]; rfl)):wpAnyH P md ops Q S (f+1) ls a w:=
 wpAnyH_take F hs E G B (Or.inl ⟨H,I⟩) C (D▸h)
end
