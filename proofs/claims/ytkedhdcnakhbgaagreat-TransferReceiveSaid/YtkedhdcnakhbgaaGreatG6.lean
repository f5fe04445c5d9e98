/- Lemmas. -/
import Derived.Test.YtkedhdcnakhbgaaGreatG5
import Derived.Test.YtkedhdcnakhbgaaGreatG2
import Derived.Maps.Range
import Derived.Test.YtkedhdcnakhbgaaGreatK1
import Derived.Shelf.Abstract
import Derived.WalkKit
import Derived.OwnWalkIn
import Derived.TacticsInMore
import Derived.LoopNIn
import Derived.LoopIn
import Derived.Laws.EntriesVeiled
set_option linter.unusedSimpArgs false
set_option maxRecDepth 100000
set_option maxHeartbeats 16000000
namespace Go.Proofs.YtkedhdcnakhbgaaGreat
open Tryz
open Go.RowKit Go.Shelf
set_option linter.unusedVariables false
variable {x y:Int}{d:Int×Int}{xs:List Itm}{bb k:Nat}{o:Option Value}{A1:Qa}{T1 l met st:Qd}{v z:Value}{W W' u w:World}
def aF(xs:List Itm)(d:Int×Int):Ob×Int:=if(dW xs d).2≠0 then(obZ,8) else if(dW xs d).1.kind≠3 then(obZ,9) else((dW xs d).1,0)
theorem Ba(h:(aF xs d).2=0):(dW xs d).2=0/\(dW xs d).1.kind=3/\aF xs d=((dW xs d).1,0):=by
 unfold aF at h ⊢;by_cases A:(dW xs d).2=0
 ·by_cases B:(dW xs d).1.kind=3
  ·exact⟨A,B,by simp[A,B]⟩
  ·simp[A,B] at h
 ·simp[A] at h
theorem xV(h:(aF xs d).2=0):(aF xs d).1.pars.length<=200:=by
 obtain⟨A,G,B⟩:=Ba h;rw[B];obtain⟨x,_,_,C⟩:=oW A;have E:bI x.data=((dW xs d).1,0):=by rw[C,<-A]
 have D:(aR (dW xs d).1).2=0:=by rw[(kI E).1]
 have F:=rZ (dW xs d).1;rw[FX D,af] at F;simp only;omega
def UE(xs:List Itm):Nat->Qd->Qd->Qd×Int
 | 0,_,met=>(met,0)
 | f+1,[],met=>(met,0)
 | f+1,d::st,met=>if d∈met then UE xs f st met else if(aF xs d).2≠0 then([],(aF xs d).2) else UE xs f ((aF xs d).1.pars++st) (met++[d])
theorem oP(xs:List Itm){st' met':Qd}(A:st.length=st'.length)(B:∀d,d∈met↔d∈met'):mea xs st met=mea xs st' met':=by
 unfold mea;rw[A];congr 3;funext x;congr 1;rw[decide_eq_decide];exact B x.d
theorem ky(xs:List Itm)(st met:Qd)(d:Int×Int):mea xs st met+1=mea xs (d::st) met:=by
 rw[qm xs st met d];exact oP xs Zs (fun _=>Iff.rfl)
theorem KY(A:d∉met)(h:(aF xs d).2=0):mea xs ((aF xs d).1.pars++st) (met++[d])+1<=mea xs (d::st) met:=by
 have:=yj (op:=st) A (Ba h).1 (xV h);rw[oP xs (st:=(aF xs d).1.pars++st) (st':=st++(aF xs d).1.pars) (met:=met++[d]) (met':=d::met) Zt (fun x=>by simp[or_comm])];rw[oP xs (st:=d::st) (st':=st++[d]) (met:=met) (met':=met) Zs (fun _=>Iff.rfl)];exact this
inductive Anc (xs:List Itm):Int×Int->Int×Int->Prop
 | refl (d:Int×Int):Anc xs d d
 | step {a p b:Int×Int}:(aF xs a).2=0->p∈(aF xs a).1.pars->Anc xs p b->Anc xs a b
theorem Anc.trans{a b c:Int×Int}(h:Anc xs a b)(g:Anc xs b c):Anc xs a c:=by
 induction h with
 | refl=>exact g
 | step A B _ ih=>exact .step A B (ih g)
def AcyS(xs:List Itm):Prop:=∀d p,(aF xs d).2=0->p∈(aF xs d).1.pars->¬Anc xs p d
theorem xZ(h:(aF xs d).2≠0):(aF xs d).1.pars=[]:=by
 unfold aF at h ⊢;by_cases A:(dW xs d).2=0
 ·by_cases B:(dW xs d).1.kind=3
  ·simp[A,B] at h
  ·simp[A,B,obZ]
 ·simp[A,obZ]
def Kk(xs:List Itm):Nat->Qd->Qd->Qd
 | 0,_,met=>met
 | f+1,[],met=>met
 | f+1,d::st,met=>if d∈met then Kk xs f st met else Kk xs f ((aF xs d).1.pars++st) (met++[d])
theorem ui(B:d∉met):mea xs ((aF xs d).1.pars++st) (met++[d])+1<=mea xs (d::st) met:=by
 by_cases h:(aF xs d).2=0
 ·exact KY B h
 ·rw[xZ h,aY];have A:=yh xs st met d;rw[oP xs (st:=st) (st':=st) (met:=met++[d]) (met':=d::met) rfl (fun x=>by simp[or_comm])];rw[oP xs (st:=d::st) (st':=st++[d]) (met:=met) (met':=met) Zs (fun _=>Iff.rfl)];exact A
theorem yB(xs:List Itm)(f:Nat)(met:Qd):Kk xs f [] met=met:=by cases f <;> rfl
theorem uH(xs:List Itm):∀(f g:Nat) (st met:Qd),mea xs st met<=f->mea xs st met<=g->Kk xs f st met=Kk xs g st met
 | f,g,[],met,_,_=>by rw[yB,yB]
 | 0,g,d::st,met,h,_=>by unfold mea at h; simp at h
 | f+1,0,d::st,met,_,h=>by unfold mea at h; simp at h
 | f+1,g+1,d::st,met,D,E=>by
  rw[Kk,Kk];have B:=ky xs st met d;by_cases A:d∈met
  ·rw[if_pos A,if_pos A];exact uH xs f g st met Zo Zo
  ·rw[if_neg A,if_neg A];have C:=ui (xs:=xs) (st:=st) A;exact uH xs f g _ _ Zo Zo
def mQ(xs:List Itm)(st met:Qd):Qd:=Kk xs (mea xs st met) st met
theorem pu(xs:List Itm)(met:Qd):mQ xs [] met=met:=yB _ _ _
theorem jN(xs:List Itm)(d:Int×Int)(st met:Qd):mQ xs (d::st) met=if d∈met then mQ xs st met else mQ xs ((aF xs d).1.pars++st) (met++[d]):=by
 have B:=ky xs st met d;rw[show mQ xs (d::st) met=Kk xs (mea xs st met+1) (d::st) met by unfold mQ; rw[B],Kk];by_cases A:d∈met
 ·rw[if_pos A,if_pos A]; rfl
 ·rw[if_neg A,if_neg A];have C:=ui (xs:=xs) (st:=st) A;exact uH xs _ _ _ _ Zo nr
theorem nK(xs:List Itm):∀(f:Nat) (ds st met:Qd),mea xs ds met<=f->mQ xs (ds++st) met=mQ xs st (mQ xs ds met)
 | f,[],st,met,_=>Zw pu
 | 0,d::ds,st,met,h=>by unfold mea at h; simp at h
 | f+1,d::ds,st,met,h=>by
  have B:=ky xs ds met d;rw[bz,jN,jN xs d ds met];by_cases A:d∈met
  ·rw[if_pos A,if_pos A];exact nK xs f ds st met Zo
  ·rw[if_neg A,if_neg A];have C:=ui (xs:=xs) (st:=ds) A;rw[<-ay];exact nK xs f _ st _ Zo
def PK(xs:List Itm):Bool:=xs.any fun x=>decide (x.d∈mQ xs (aF xs x.d).1.pars [])
open Go.RowKit Go.Shelf Go.Sort
theorem Gr(a:Qa)(xs:List Itm)(c:Nat)(x y:Int)(w:World)(Z:jQ w a xs c)(Y:Asc xs):
  Qh 82 #[.slice a xs.length c,.agg #[Yu x,Yu y]] w (Kq w (aF xs (x,y)).1 (aF xs (x,y)).2):=by
 have O:=Qf (fun W (hW:PM w W)=>yw a xs c x y W (Z.below hW) Y);obtain⟨n,T⟩:=Qe xs.length;rw[<-T] at O ⊢;have D:Qg (aF xs (x,y)=if(dW xs (x,y)).2≠0 then(obZ,8) else if(dW xs (x,y)).1.kind≠3 then(obZ,9) else((dW xs (x,y)).1,0)):=Qf rfl;generalize dW xs (x,y)=OE at O D;obtain⟨o,er⟩:=OE;simp only at O D;generalize aF xs (x,y)=CR at D ⊢;obtain⟨w0,C⟩:=Qe ((w.alloc (.cells #[Yu x,Yu y] 54)).alloc (.cells #[Yi 0,Ye,(),Yu 0,Yu 0,(),Ye,Yi 0,Ye] 59));have P:Qg (BK ((w:Nat)+1) #[Yi 0,Ye,(),Yu 0,Yu 0,(),Ye,Yi 0,Ye] 59 w0):=Qf (C▸BK.new2 _ _ _ _);have F:Qg (PM w w0):=Qf (C▸(ba w _).alloc (by simp) _);have H:(w0:Nat)=(w:Nat)+2:=Zn C;have L:=Qf (O.o w0 F.o);rw[C] at L;have S:=Qf C;clear C O T Z Y;go_enter func82,ntmps82;go_wp2_with fail;refine L.o.mono ?_;rintro e v ⟨ea,ec,pa,pc,rfl,G,U⟩;rw[<-S.o] at U G;rw[H] at G;obtain⟨I,M,Q⟩:=Yk (XT F.o U) (P.o.below U) G;have hv:=M.o.lt;clear G U L S F P H;obtain⟨A1,data,A3,⟨t1,t2⟩,A4,A0,A2,A8⟩:=o;obtain⟨v2,B⟩:=Qe (v.alloc (.cells (Ob.arr ⟨A1,data,A3,(t1,t2),A4,A0,A2,A8⟩ ea ec pa pc) 59));have K:Qg (∀W,CR=(⟨A1,data,A3,(t1,t2),A4,A0,A2,A8⟩,0)->v2.grownBy W (some ((w:Nat)+1))->PM w W->Kq w CR.1 CR.2 (.returned (.tuple #[.agg #[Yi A1,data,.slice ea A3.length ec,Yu t1,Yu t2,.slice pa A4.length pc,A0,Yi A2,A8],Yi 0])) W):=Qf (fun W hc h1 h2=>by
  rw[hc];have hO:=Q.o.below (show PM v v2 by rw[B]; exact ba _ _);exact⟨ea,ec,pa,pc,rfl,(hO.kept h1 Zo).le Zo,h2⟩)
 have N:Qg (BK ((w:Nat)+1) #[Yi 0,Ye,(),Yu 0,Yu 0,(),Ye,Yi 0,Ye] 59 v2):=Qf (B▸M.o.alloc _);have E:Qg (BK v (Ob.arr ⟨A1,data,A3,(t1,t2),A4,A0,A2,A8⟩ ea ec pa pc) 59 v2):=Qf (B▸BK.new _ _ _);have J:Qg (PM w v2):=Qf (B▸I.o.alloc I.o.size _);simp only[Ob.arr] at B E;simp only[Ob.val];generalize A3.length=ne at K B E ⊢;generalize A4.length=np at K B E ⊢;have R:=Qf B;clear B I M Q;have A7:(v:Nat)≠(w:Nat)+1:=Zo;go_upto_region 2 with(fail)
 rw[<-R.o];obtain⟨r0,r1,r2,r3,r4,r5,r6,r7,r8⟩:=BK.c9 N.o;obtain⟨A9,B0,B1,B2,B3,B4,B5,B6,B7⟩:=BK.f9 (N.o);obtain⟨o0,o1,o2,o3,o4,o5,o6,o7,o8⟩:=BK.c9 E.o;clear R N E;by_cases V:er=0
 ·subst V;simp only[ne_eq,not_true_eq_false,if_false] at D;by_cases X:A1=3
  ·subst X;simp only[not_true_eq_false,if_false] at D;go_wp2;refine XB (v:=.tuple #[.agg #[Yi 3,data,.slice ea ne ec,Yu t1,Yu t2,.slice pa np pc,A0,Yi A2,A8],Yi 0]) (by simp[results,results82,go_sem,r0,r1,r2,r3,r4,r5,r6,r7,r8]) rfl ?_;refine K.o _ D.o ?_ ?_
   ·exact(fM (fM (fM (fM (fM (fM (fM (fM (dN _ _ _ _) _ _) _ _) _ _) _ _) _ _) _ _) _ _) _ _)
   ·exact((((((((J.o.setCell Zs _).setCell Zs _).setCell Zs _).setCell Zs _).setCell Zs _).setCell Zs _).setCell Zs _).setCell Zs _).setCell Zs _
  ·have A6:(A1 !=3)=true:=Zu X;rw[if_pos X] at D;go_wp2;refine XB (v:=.tuple #[obZ.val none 0 none 0,Yi 9]) (by simp[results,results82,go_sem,obZ,r0,r1,r2,r3,r4,r5,r6,r7,r8]) rfl ?_;rw[D.o];exact⟨none,0,none,0,rfl,dZ.zero _ _,((((((((J.o.setCell Zs _).setCell Zs _).setCell Zs _).setCell Zs _).setCell Zs _).setCell Zs _).setCell Zs _).setCell Zs _).setCell Zs _⟩
 ·have A5:(er !=0)=true:=Zu V;simp only[ne_eq] at D;rw[if_pos V] at D;go_wp2;refine XB (v:=.tuple #[obZ.val none 0 none 0,Yi 8]) (by simp[results,results82,go_sem,obZ,r0,r1,r2,r3,r4,r5,r6,r7,r8]) rfl ?_;rw[D.o];exact⟨none,0,none,0,rfl,dZ.zero _ _,((((((((J.o.setCell Zs _).setCell Zs _).setCell Zs _).setCell Zs _).setCell Zs _).setCell Zs _).setCell Zs _).setCell Zs _).setCell Zs _⟩
theorem KG(a:Qa)(xs:List Itm)(c:Nat)(x y:Int)(w:World)(hp:Its w w a xs)(Y:Asc xs)(hn:(xs.length:Int)<=1000000)(Z:∀x∈xs,(x.data.length:Int)<=1000000):
  Qh 42 #[.slice a xs.length c,.agg #[Yu x,Yu y]] w (Kq w (aF xs (x,y)).1 (aF xs (x,y)).2):=by
 have O:=Qf (fun W (hW:PM w W)=>KE a xs c x y W (hp.ahead hW) Y hn Z);obtain⟨n,T⟩:=Qe xs.length;rw[<-T] at O ⊢;have D:Qg (aF xs (x,y)=if(dW xs (x,y)).2≠0 then(obZ,8) else if(dW xs (x,y)).1.kind≠3 then(obZ,9) else((dW xs (x,y)).1,0)):=Qf rfl;generalize dW xs (x,y)=OE at O D;obtain⟨o,er⟩:=OE;simp only at O D;generalize aF xs (x,y)=CR at D ⊢;obtain⟨w0,C⟩:=Qe ((w.alloc (.cells #[Yu x,Yu y] 54)).alloc (.cells #[Yi 0,Ye,(),Yu 0,Yu 0,(),Ye,Yi 0,Ye] 59));have P:Qg (BK ((w:Nat)+1) #[Yi 0,Ye,(),Yu 0,Yu 0,(),Ye,Yi 0,Ye] 59 w0):=Qf (C▸BK.new2 _ _ _ _);have F:Qg (PM w w0):=Qf (C▸(ba w _).alloc (by simp) _);have H:(w0:Nat)=(w:Nat)+2:=Zn C;have L:=Qf (O.o w0 F.o);rw[C] at L;have S:=Qf C;clear C O T hp Y hn Z;go_enter func42,ntmps42;go_wp2_with fail;refine L.o.mono ?_;rintro e v ⟨ea,ec,pa,pc,rfl,G,U⟩;rw[<-S.o] at U G;rw[H] at G;obtain⟨I,M,Q⟩:=Yk (XT F.o U) (P.o.below U) G;have hv:=M.o.lt;clear G U L S F P H;obtain⟨A1,data,A3,⟨t1,t2⟩,A4,A0,A2,A5⟩:=o;obtain⟨v2,B⟩:=Qe (v.alloc (.cells (Ob.arr ⟨A1,data,A3,(t1,t2),A4,A0,A2,A5⟩ ea ec pa pc) 59));have K:Qg (∀W,CR=(⟨A1,data,A3,(t1,t2),A4,A0,A2,A5⟩,0)->v2.grownBy W (some ((w:Nat)+1))->PM w W->Kq w CR.1 CR.2 (.returned (.tuple #[.agg #[Yi A1,data,.slice ea A3.length ec,Yu t1,Yu t2,.slice pa A4.length pc,A0,Yi A2,A5],Yi 0])) W):=Qf (fun W hc h1 h2=>by
  rw[hc];have hO:=Q.o.below (show PM v v2 by rw[B]; exact ba _ _);exact⟨ea,ec,pa,pc,rfl,(hO.kept h1 Zo).le Zo,h2⟩)
 have N:Qg (BK ((w:Nat)+1) #[Yi 0,Ye,(),Yu 0,Yu 0,(),Ye,Yi 0,Ye] 59 v2):=Qf (B▸M.o.alloc _);have E:Qg (BK v (Ob.arr ⟨A1,data,A3,(t1,t2),A4,A0,A2,A5⟩ ea ec pa pc) 59 v2):=Qf (B▸BK.new _ _ _);have J:Qg (PM w v2):=Qf (B▸I.o.alloc I.o.size _);simp only[Ob.arr] at B E;simp only[Ob.val];generalize A3.length=ne at K B E ⊢;generalize A4.length=np at K B E ⊢;have R:=Qf B;clear B I M Q;have A9:(v:Nat)≠(w:Nat)+1:=Zo;go_upto_region 2 with(fail)
 rw[<-R.o];obtain⟨r0,r1,r2,r3,r4,r5,r6,r7,r8⟩:=BK.c9 N.o;obtain⟨A6,B0,B1,B2,B3,B4,B5,B6,B7⟩:=BK.f9 (N.o);obtain⟨o0,o1,o2,o3,o4,o5,o6,o7,o8⟩:=BK.c9 E.o;clear R N E;by_cases V:er=0
 ·subst V;simp only[ne_eq,not_true_eq_false,if_false] at D;by_cases X:A1=3
  ·subst X;simp only[not_true_eq_false,if_false] at D;go_wp2;refine XB (v:=.tuple #[.agg #[Yi 3,data,.slice ea ne ec,Yu t1,Yu t2,.slice pa np pc,A0,Yi A2,A5],Yi 0]) (by simp[results,results42,go_sem,r0,r1,r2,r3,r4,r5,r6,r7,r8]) rfl ?_;refine K.o _ D.o ?_ ?_
   ·exact(fM (fM (fM (fM (fM (fM (fM (fM (dN _ _ _ _) _ _) _ _) _ _) _ _) _ _) _ _) _ _) _ _)
   ·exact((((((((J.o.setCell Zs _).setCell Zs _).setCell Zs _).setCell Zs _).setCell Zs _).setCell Zs _).setCell Zs _).setCell Zs _).setCell Zs _
  ·have A8:(A1 !=3)=true:=Zu X;rw[if_pos X] at D;go_wp2;refine XB (v:=.tuple #[obZ.val none 0 none 0,Yi 9]) (by simp[results,results42,go_sem,obZ,r0,r1,r2,r3,r4,r5,r6,r7,r8]) rfl ?_;rw[D.o];exact⟨none,0,none,0,rfl,dZ.zero _ _,((((((((J.o.setCell Zs _).setCell Zs _).setCell Zs _).setCell Zs _).setCell Zs _).setCell Zs _).setCell Zs _).setCell Zs _).setCell Zs _⟩
 ·have A7:(er !=0)=true:=Zu V;simp only[ne_eq] at D;rw[if_pos V] at D;go_wp2;refine XB (v:=.tuple #[obZ.val none 0 none 0,Yi 8]) (by simp[results,results42,go_sem,obZ,r0,r1,r2,r3,r4,r5,r6,r7,r8]) rfl ?_;rw[D.o];exact⟨none,0,none,0,rfl,dZ.zero _ _,((((((((J.o.setCell Zs _).setCell Zs _).setCell Zs _).setCell Zs _).setCell Zs _).setCell Zs _).setCell Zs _).setCell Zs _).setCell Zs _⟩
theorem wU(h:OkD d):WideAt.IsKeyLit (Ef d):=Ki.key (fK h)
def Fj(v:Value):Option (DataW Value×List MemPlace):=some (.held v,[])
def Mo:Option Value->DataW Value->DataW Value
 | some v,_=>.held v
 | none,z=>z
def qI(b n:Nat)(F:Int×Int->Option Value)(W:World):Prop:=
 ∃D:DataW Value,W.ownsMap prog 54 Fj b n D/\∀d,OkD d->∀z,D.atKey (Ef d) z=Mo (F d) z
section
variable {b n:Nat} {F:Int×Int->Option Value} {W:World}
theorem qI.mono{n':Nat}(h:qI b n F W)(C:n<=n'):qI b n' F W:=by obtain⟨D,A,B⟩:=h; exact⟨D,A.mono C,B⟩
theorem Le{D:DataW Value}{k:Lit}(h:∀z,D.atKey k z=Mo o z):Maps.has D k=o.isSome:=by
 cases o with
 | none=>exact Maps.has_false_of_atKey h
 | some v=>exact Maps.has_true_of_atKey h
theorem Hf{y:DataW Value×List MemPlace}(h:Fj v=some y):y=(.held v,[]):=by unfold Fj at h; injection h with h; exact h.symm
theorem Im{ps:List MemPlace}(h:Fj v=some (Mo o (.held z),ps)):v=o.getD z:=by
 have:=Hf h;cases o <;> simp[Mo] at this ⊢ <;> exact this.1.symm
theorem qI.look{t e:TypeId}(h:qI b n F W)(I:prog.underlying t=some (.map 54 e))(J:(zeroValue e).run prog W=.ok z W)(C:OkD (x,y)):(Instr.lookup t (.map (some b)) (.agg #[Yu x,Yu y]) false).run prog W=.ok ((F (x,y)).getD z) W:=by
 obtain⟨D,G,H⟩:=h;obtain⟨v,ps,B,E⟩:=G.lookup Ki I J (zd:=.held z) (zp:=[]) rfl (fK C);rw[H _ C] at E;rw[B,Im E]
variable {r cnt:Nat} {left:Int×Int->Bool}
end
attribute [local go_sem] Oper.semAt_some
section
variable {xs:List Itm} {B b n:Nat} {met:Qd} {A:Int×Int->Qa×Nat} {W W':World}
end
section
variable {xs:List Itm} {w0 W W':World} {b n ob:Nat} {met row:Qd} {Ds:List Nat} {A:Int×Int->Qa×Nat} {v v':Value}
end
attribute [local go_sem] Oper.semAt_some
section
variable {xs:List Itm} {B b nb kd n kb mb db:Nat} {met:Qd} {A:Int×Int->Qa×Nat} {K:Int×Int->Option Nat} {W W':World}
end
def GotRo(w:World)(r:Qd×Int)(e:Ending)(w':World):Prop:=∃a c,e=.returned (.tuple #[.slice a r.1.length c,Yi r.2])/\w'.ownsRow w 54 2 (.slice a r.1.length c) r.1.length (aW r.1)/\PM w w'
section
variable {xs:List Itm} {w wr wr':World} {b1 n1 b2 n2 wd ri N1 cnt n:Nat} {l r:Qd} {A1 A2:Int×Int->Qa×Nat} {left:Int×Int->Bool} {M:Int×Int->Bool}
end
theorem snD1{c1:Nat}(P:dE u u A1 T1)(x1 x2:Int)(Q:((T1.length:Nat):Int)<=900000)(N:T1.length=k):
  ∃(v1:Value) (z1:World) (a3:Qa) (c3:Nat) (z3:World),Qg ((Builtin.append_ #[24,24] 24 #[.slice u 0 0,.slice A1 k c1]).run prog ((u.alloc (.cells #[] 54)).drew)=.ok v1 z1)/\Qg ((Builtin.append_ #[24,24] 24 #[v1,.slice z1 1 1]).run prog (z1.alloc (.cells #[Yu x1,Yu x2] 54))=.ok (.slice a3 (k+1) c3) z3)/\PM u z1/\Qg (z3.ownsRow u 54 2 (.slice a3 (k+1) c3) (k+1) (aW (T1++[(x1,x2)]))/\k+1<=c3/\PM u z3):=by
 have O:(u.alloc (.cells #[] 54)).drew.ownsRow u 54 2 (.slice u 0 0) 0 []:=(XW (size:=2) u #[] 0 nr Zd rfl).drew;have F:PM u (u.alloc (.cells #[] 54)).drew:=(ba u _).drew;obtain⟨v1,z1,G,C,K,_⟩:=dM (u.alloc (.cells #[] 54)).drew (u:Nat) 24 _ [] O A1 T1 c1 (dE.ahead P F) Zt F.size;have D:PM u z1:=gM F O K nr;obtain⟨v2,z2,M,B,L,_⟩:=gz C x1 x2 Zt D.size;have E:=C.alloc (.cells #[Yu x1,Yu x2] 54);have H:PM u (z1.alloc (.cells #[Yu x1,Yu x2] 54)):=D.alloc D.size _;rw[N] at G;have I:PM u z2:=gM H E L nr;rw[show(([]:Qd)++T1++[(x1,x2)]).length=k+1 by simp[N],aY] at B;obtain⟨a3,c3,rfl,J⟩:=aB B;exact⟨v1,z1,a3,c3,z2,Qf G,Qf M,D,Qf ⟨B,J,I⟩⟩
theorem snD2{c1:Nat}(P:dE u u A1 T1)(x1 x2:Int)(Q:((T1.length:Nat):Int)<=900000)(N:T1.length=k):
  ∃(v1:Value) (z1:World) (a3:Qa) (c3:Nat) (z3:World),Qg ((Builtin.append_ #[24,24] 24 #[.slice u 0 0,.slice A1 k c1]).run prog (((u.alloc (.cells #[] 54)).alloc (.cells #[Yu x1,Yu x2] 54)).drew)=.ok v1 z1)/\Qg ((Builtin.append_ #[24,24] 24 #[v1,.slice (some ⟨((u:Nat)+1),0,none⟩) 1 1]).run prog (z1)=.ok (.slice a3 (k+1) c3) z3)/\PM u z1/\Qg (z3.ownsRow u 54 2 (.slice a3 (k+1) c3) (k+1) (aW (T1++[(x1,x2)]))/\k+1<=c3/\PM u z3):=by
 have O:(((u.alloc (.cells #[] 54)).alloc (.cells #[Yu x1,Yu x2] 54)).drew).ownsRow u 54 2 (.slice u 0 0) 0 []:=by
  exact((XW (size:=2) u #[] 0 nr Zd rfl).alloc (.cells #[Yu x1,Yu x2] 54)).drew
 have D:PM u (((u.alloc (.cells #[] 54)).alloc (.cells #[Yu x1,Yu x2] 54)).drew):=((ba u _).alloc Zs _).drew;have K:BK ((u:Nat)+1) #[Yu x1,Yu x2] 54 (((u.alloc (.cells #[] 54)).alloc (.cells #[Yu x1,Yu x2] 54)).drew):=BK.new2 u (.cells #[] 54) #[Yu x1,Yu x2] 54;obtain⟨v1,z1,G,C,F,_⟩:=dM (((u.alloc (.cells #[] 54)).alloc (.cells #[Yu x1,Yu x2] 54)).drew) (u:Nat) 24 _ [] O A1 T1 c1 (dE.ahead P D) Zt D.size;have E:PM u z1:=gM D O F nr;have L:BK ((u:Nat)+1) #[Yu x1,Yu x2] 54 z1:=K.grow1 F Zs;obtain⟨v2,z2,M,B,J,_⟩:=dM z1 (u:Nat) 24 v1 _ C (some ⟨((u:Nat)+1),0,none⟩) [(x1,x2)] 1 (EC L) Zt E.size;rw[N] at G;have H:PM u z2:=gM E C J nr;rw[show(([]:Qd)++T1++[(x1,x2)]).length=k+1 by simp[N],aY] at B;obtain⟨a3,c3,rfl,I⟩:=aB B;exact⟨v1,z1,a3,c3,z2,Qf G,Qf M,E,Qf ⟨B,I,H⟩⟩
theorem snD3{c1:Nat}(P:dE u u A1 T1)(x1 x2:Int)(Q:((T1.length:Nat):Int)<=900000)(N:T1.length=k):
  ∃(v1:Value) (z1:World) (a3:Qa) (c3:Nat) (z3:World),Qg ((Builtin.append_ #[24,24] 24 #[.slice (some ⟨((u:Nat)+1),0,none⟩) 0 0,.slice A1 k c1]).run prog (((u.alloc (.cells #[Yu x1,Yu x2] 54)).alloc (.cells #[] 54)).drew)=.ok v1 z1)/\Qg ((Builtin.append_ #[24,24] 24 #[v1,.slice u 1 1]).run prog (z1)=.ok (.slice a3 (k+1) c3) z3)/\PM u z1/\Qg (z3.ownsRow u 54 2 (.slice a3 (k+1) c3) (k+1) (aW (T1++[(x1,x2)]))/\k+1<=c3/\PM u z3):=by
 have O:(((u.alloc (.cells #[Yu x1,Yu x2] 54)).alloc (.cells #[] 54)).drew).ownsRow u 54 2 (.slice (some ⟨((u:Nat)+1),0,none⟩) 0 0) 0 []:=by
  have:=(XW (size:=2) (base:=(u:Nat)) (e:=54) (u.alloc (.cells #[Yu x1,Yu x2] 54)) #[] 0 Zs Zd rfl).drew
  rwa[XU] at this
 have D:PM u (((u.alloc (.cells #[Yu x1,Yu x2] 54)).alloc (.cells #[] 54)).drew):=((ba u _).alloc Zs _).drew;have K:BK u #[Yu x1,Yu x2] 54 (((u.alloc (.cells #[Yu x1,Yu x2] 54)).alloc (.cells #[] 54)).drew):=(BK.new u #[Yu x1,Yu x2] 54).alloc (.cells #[] 54);obtain⟨v1,z1,G,C,F,_⟩:=dM (((u.alloc (.cells #[Yu x1,Yu x2] 54)).alloc (.cells #[] 54)).drew) (u:Nat) 24 _ [] O A1 T1 c1 (dE.ahead P D) Zt D.size;have E:PM u z1:=gM D O F nr;have L:BK u #[Yu x1,Yu x2] 54 z1:=K.grow1 F Zs;obtain⟨v2,z2,M,B,J,_⟩:=dM z1 (u:Nat) 24 v1 _ C (some ⟨u,0,none⟩) [(x1,x2)] 1 (EC L) Zt E.size;rw[N] at G;have H:PM u z2:=gM E C J nr;rw[show(([]:Qd)++T1++[(x1,x2)]).length=k+1 by simp[N],aY] at B;obtain⟨a3,c3,rfl,I⟩:=aB B;exact⟨v1,z1,a3,c3,z2,Qf G,Qf M,E,Qf ⟨B,I,H⟩⟩
theorem sD(xs:List Itm)(rest:Qd):∀(f:Nat) (st cur:Qd),mea xs st cur<=f->(mQ xs st cur).length+mea xs rest (mQ xs st cur)<=cur.length+mea xs (st++rest) cur
 | f,[],cur,_=>by rw[pu]; exact nr
 | 0,d::st,cur,h=>by unfold mea at h; simp at h
 | f+1,d::st,cur,h=>by
  have C:=ky xs st cur d;have D:=ky xs (st++rest) cur d;rw[jN,bz];by_cases A:d∈cur
  ·rw[if_pos A];have:=sD xs rest f st cur Zo;omega
  ·rw[if_neg A];have B:=ui (xs:=xs) (st:=st) A;have E:=ui (xs:=xs) (st:=st++rest) A;have:=sD xs rest f _ (cur++[d]) (aC (Nat.le_of_succ_le_succ (aC B h)) nr);rw[ay] at this;simp at this;omega
theorem CP(xs:List Itm):∀(f:Nat) (st cur:Qd),mea xs st cur<=f->cur.length<=(mQ xs st cur).length
 | f,[],cur,_=>by rw[pu]; exact nr
 | 0,d::st,cur,h=>by unfold mea at h; simp at h
 | f+1,d::st,cur,h=>by
  have C:=ky xs st cur d;rw[jN];by_cases A:d∈cur
  ·rw[if_pos A]; exact CP xs f st cur Zo
  ·rw[if_neg A];have B:=ui (xs:=xs) (st:=st) A;have:=CP xs f _ (cur++[d]) (Nat.le_of_succ_le_succ (aC B h));simp at this;omega
theorem Ll(xs:List Itm)(p:Int×Int)(rest cur:Qd)(h:p∉cur):mQ xs (p::rest) cur=mQ xs rest (mQ xs (aF xs p).1.pars (cur++[p])):=by
 rw[jN,if_neg h,nK xs _ _ _ _ nr]
theorem Dp{K:Act->World->Prop}{Q:Exit->Act->World->Prop}{a:Act}(w:World)(h:Exit.then K Q .normal a w):Exit.then K Q .normal a w:=h
def GotFo(w:World)(L:Qd)(e:Ending)(w':World):Prop:=∃a c,e=.returned (.slice a L.length c)/\dE w' w' a L/\L.length<=c/\PM w w'
theorem Ca(a:Qa)(xs:List Itm)(c:Nat)(hA:Asc xs)(hn:(xs.length:Int)<=1000000)(hd:∀x∈xs,(x.data.length:Int)<=1000000):
  ∀(f:Nat) (sa:Qa) (D0:Qd) (sc:Nat) (x y:Int) (w:World),Its w w a xs->dE w w sa D0->D0.length<=sc->((D0.length+mea xs (aF xs (x,y)).1.pars D0:Nat):Int)<=900000->mea xs (aF xs (x,y)).1.pars D0<=f->
  Qh 79 #[.slice a xs.length c,.agg #[Yu x,Yu y],.slice sa D0.length sc] w (GotFo w (mQ xs (aF xs (x,y)).1.pars D0)):=by
 intro f;induction f using Nat.strongRecOn with
 | _ f ih=>
  intro sa D0 sc x y w hp hs B3 E9 hf;have D4:=Qf ih;clear ih;obtain⟨B8,HP,HS⟩:=Yk (fun d1 d2 W (hW:Its W.heap.size W a xs)=>KG a xs c d1 d2 W hW hA hn hd) hp hs;obtain⟨R,hR⟩:=Qe (mQ xs (aF xs (x,y)).1.pars D0);rw[<-hR];obtain⟨nx,E6⟩:=Qe xs.length;rw[<-E6] at D4 B8 ⊢;obtain⟨m,hm⟩:=Qe D0.length;obtain⟨HM,L,I,S⟩:=Yl hm hR hf E9;have Y:Qg ((aF xs (x,y)).2≠0->(aF xs (x,y)).1.pars=[]):=Qf xZ;have K:Qg ((aF xs (x,y)).2=0->(aF xs (x,y)).1.pars.length<=200):=Qf (fun h=>xV h);obtain⟨w0,B4⟩:=Qe (w.alloc (.cells #[Yu x,Yu y] 54));have A6:Qg (PM w w0):=Qf (B4▸ba w _);have X:=Qf (B8.o x y w0 (hp.ahead A6.o));rw[<-hm] at B3 ⊢;rw[B4] at X;have E1:=Qf B4;generalize aF xs (x,y)=OE at X L I S K Y;obtain⟨o,er⟩:=OE;simp only at X L I S K Y;clear B4 hR hm E6 hp hs hf E9 hn hd hA B8;go_enter func79,ntmps79;go_wp2_with fail;refine X.o.mono ?_;rintro e u2 ⟨ea,ec,pa,pc,rfl,C6,D⟩;rw[<-E1.o] at C6 D;obtain⟨U,C3⟩:=Yj (XT A6.o D) (iy C6.po);clear D C6 X A6 E1;obtain⟨F0,data,G5,⟨t1,t2⟩,B7,D5,F2,F4⟩:=o;simp only[Ob.val];simp only at L I S C3 K Y;obtain⟨ne,E4⟩:=Qe G5.length;obtain⟨n,B2⟩:=Qe B7.length;rw[<-E4,<-B2];rw[<-B2] at K;have D8:=Qf B2;clear E4 B2;obtain⟨u3,E⟩:=Qe (u2.alloc (.cells #[Yi F0,data,.slice ea ne ec,Yu t1,Yu t2,.slice pa n pc,D5,Yi F2,F4] 59));by_cases he:er=0
  ·subst he;have H3:=K.o rfl;have D7:Qg (BK u2 #[Yi F0,data,.slice ea ne ec,Yu t1,Yu t2,.slice pa n pc,D5,Yi F2,F4] 59 u3):=Qf (E▸BK.new _ _ _);have F:Qg (PM w u3):=Qf (E▸U.o.alloc U.o.size _);have B5:Qg (dE u3 u3 pa B7):=Qf (E▸C3.o.ahead (ba _ _));obtain⟨B6,E0⟩:=Yj (HS.o.ahead F.o) E;clear E K U C3 Y;go_wp2_with fail;rw[<-E0.o];clear E0;go_loopw [2,9] (fun v i wr=>∃(k:Nat) (C9:Qd) (ca:Qa) (cc q:Nat),k<=n/\v=.slice ca q cc/\Qg (q=C9.length)/\q<=cc/\i=Yi k/\Qg (dE wr.heap.size wr ca C9)/\Qg (PM w wr)/\Qg (BK u2 #[Yi F0,data,.slice ea ne ec,Yu t1,Yu t2,.slice pa n pc,D5,Yi F2,F4] 59 wr)/\Qg (dE wr.heap.size wr pa B7)/\Qg (R=mQ xs (B7.drop k) C9)/\Qg (mea xs (B7.drop k) C9<=f/\((q+mea xs (B7.drop k) C9:Nat):Int)<=900000)) (fun _ i _=>n-(intOf i).toNat)
   case atStart=>exact⟨0,D0,sa,sc,m,Zo,rfl,HM,B3,rfl,B6,F,D7,B5,L,Qf ⟨I.o,HM.o▸S.o⟩⟩
   case round=>
    clear B6 F D7 B5 L I S HS HM B3;obtain⟨k,C9,ca,cc,q,hk,rfl,Q,E7,rfl,HD,HB,HK,Z,L,I⟩:=hrel;obtain⟨o0,o1,o2,o3,o4,o5,o6,o7,o8⟩:=BK.c9 HK.out;by_cases H2:k<n
    ·have h1:k<B7.length:=Zh D8.o;obtain⟨b0,F3,F5,H0,q0,q1⟩:=Z.out k h1;subst F5;have G:Qg (B7.drop k=B7[k]::B7.drop (k+1)):=Qf (aN h1);have H:Qg (∀(W:World),dE W.heap.size W (some ⟨b0,F3,none⟩) B7->W.cell? ⟨b0,F3+k*2,none⟩=some (Yu B7[k].1)/\W.cell? ⟨b0,F3+k*2+1,none⟩=some (Yu B7[k].2)):=Qf (fun W h=>by
      obtain⟨b',o',e',_,c1,c2⟩:=h k h1;cases e';exact⟨c1,c2⟩)
     generalize B7[k]=p at q0 q1 G H;obtain⟨p1,p2⟩:=p;simp only at q0 q1 H;have C8:((q:Nat):Int)<=900000:=Zh I.o;have J:=Qf (Hr ca C9 cc p1 p2 wr HD.out (by rw[<-Q.out]; omega));rw[<-Q.out] at J;have F9:(k:Int)<(n:Int):=Zo;cases T:decide ((p1,p2)∈C9) with
     | true=>
      rw[T] at J;have B1:Qg (R=mQ xs (B7.drop (k+1)) C9):=Qf (by rw[L.o,G.o,jN,if_pos (Zu T)]);have C:Qg (mea xs (B7.drop (k+1)) C9<=f/\((q+mea xs (B7.drop (k+1)) C9:Nat):Int)<=900000):=Qf (by
       have h2:=I.o;rw[G.o] at h2;have h3:=ky xs (B7.drop (k+1)) C9 (p1,p2)
       omega)
      clear L I G T H;go_wp2_with fail;refine J.o.mono ?_;rintro e w6 ⟨rfl,D⟩;obtain⟨V,N,P,M⟩:=Yl (XT HB.out D) (HK.out.below D) (Z.out.ahead D) (HD.out.ahead D);clear D J HB HK Z HD q0 q1 o0 o1 o2 o3 o4 o5 o6 o7 o8;go_wp2;go_roundw
      case rel=>exact⟨k+1,C9,ca,cc,q,Zo,rfl,Q,E7,Zg,M,V,N,P,B1,C⟩
      case measure=>exact Yr
     | false=>
      rw[T] at J;have E5:(p1,p2)∉C9:=Zu T;have C1:=Qf E5;clear T E5;go_wp2_with fail;refine J.o.mono ?_;rintro e w6 ⟨rfl,D⟩;obtain⟨V,N,P,M⟩:=Yl (XT HB.out D) (HK.out.below D) (Z.out.ahead D) (HD.out.ahead D);clear D J HB HK Z HD q0 q1 o0 o1 o2 o3 o4 o5 o6 o7 o8;obtain⟨q0,q1⟩:=H.o w6 P.o;obtain⟨H4,z1,za,zc,z3,A0,A1,C5,A8⟩:=snD1 (c1:=cc) M.o p1 p2 (Q.out▸C8) Q.out.symm;obtain⟨G9,y1,ya,yc,y3,A2,A3,F6,C⟩:=snD2 (c1:=cc) M.o p1 p2 (Q.out▸C8) Q.out.symm;obtain⟨G7,G6,ta,tc,t3,A4,A5,F7,A9⟩:=snD3 (c1:=cc) M.o p1 p2 (Q.out▸C8) Q.out.symm;obtain⟨G3,G4⟩:=H.o z1 (P.o.ahead C5);have o5:w6.cell? ⟨u2,5,none⟩=some (.slice (some ⟨b0,F3,none⟩) n pc):=Zw N.o.cell;have G2:z1.cell? ⟨u2,5,none⟩=some (.slice (some ⟨b0,F3,none⟩) n pc):=by rw[(N.o.below C5).cell]; rfl
      have F8:=fun o=>bP o5 o
      have G0:=fun o=>bP q0 o
      have G1:=fun o=>bP q1 o
      clear C5 F6 F7;go_wp2_with fail;go_region_law
       (first
       | ((with_reducible refine pW ((w6.alloc (.cells #[] 54)).drew) ?_); refine bN Zr (.tmp 34) (.tmp 35) _ _ Zr _ _ Zr Zr _ _ A0.out ?_)
       | ((with_reducible refine pW (((w6.alloc (.cells #[] 54)).alloc (.cells #[.int .u64 p1,.int .u64 p2] 54)).drew) ?_); refine bN Zr (.tmp 34) (.tmp 35) _ _ Zr _ _ Zr Zr _ _ A2.out ?_)
       | ((with_reducible refine pW (((w6.alloc (.cells #[.int .u64 p1,.int .u64 p2] 54)).alloc (.cells #[] 54)).drew) ?_); refine bN Zr (.tmp 34) (.tmp 35) _ _ Zr _ _ Zr Zr _ _ A4.out ?_)
       | ((with_reducible refine pW (z1.alloc (.cells #[.int .u64 p1,.int .u64 p2] 54)) ?_); refine bN Zr (.tmp 36) (.tmp 42) _ _ Zr _ _ Zr Zr _ _ A1.out ?_)
       | ((with_reducible refine pW y1 ?_); refine bN Zr (.tmp 36) (.tmp 42) _ _ Zr _ _ Zr Zr _ _ A3.out ?_)
       | ((with_reducible refine pW G6 ?_); refine bN Zr (.tmp 36) (.tmp 42) _ _ Zr _ _ Zr Zr _ _ A5.out ?_)
       | fail)
      all_goals
       first
       | ((with_reducible refine Dp z3 ?_); have B:=A8; clear A8 C A9 A0 A1 A2 A3 A4 A5 G3 G4 G2 F8 G0 G1; (generalize z3=w9 at B ⊢); (generalize za=qa at B ⊢); (generalize zc=qc at B ⊢))
       | ((with_reducible refine Dp y3 ?_); have B:=C; clear A8 C A9 A0 A1 A2 A3 A4 A5 G3 G4 G2 F8 G0 G1; (generalize y3=w9 at B ⊢); (generalize ya=qa at B ⊢); (generalize yc=qc at B ⊢))
       | ((with_reducible refine Dp t3 ?_); have B:=A9; clear A8 C A9 A0 A1 A2 A3 A4 A5 G3 G4 G2 F8 G0 G1; (generalize t3=w9 at B ⊢); (generalize ta=qa at B ⊢); (generalize tc=qc at B ⊢))
      all_goals
       obtain⟨A7,B9,C2⟩:=Yk (V.o.trans (B.out.2.2.mono V.o.size)) (N.o.below B.out.2.2) (P.o.ahead B.out.2.2);have O:Qg (q+1=(C9++[(p1,p2)]).length):=Qf (by rw[af,Q.out]; rfl);have D3:=Qf (kr O.o B.out.1);have E8:=B.out.2.1;have B0:Qg (mea xs ((aF xs (p1,p2)).1.pars++B7.drop (k+1)) (C9++[(p1,p2)])+1<=mea xs (B7.drop k) C9):=Qf (G.o▸ui C1.o);have C0:Qg (mea xs (aF xs (p1,p2)).1.pars (C9++[(p1,p2)])<=mea xs ((aF xs (p1,p2)).1.pars++B7.drop (k+1)) (C9++[(p1,p2)])):=Qf (by unfold mea; rw[af]; omega);have HV:=Qf (D4.o _ (by have:=B0.o; have:=C0.o; have:=I.o.1; omega) qa (C9++[(p1,p2)]) qc p1 p2 w9 (HP.o.ahead A7.o) D3.o (O.o▸E8) (by rw[<-O.o]; have:=B0.o; have:=C0.o; have:=I.o.2; omega) nr);rw[<-O.o] at HV;have B1:Qg (R=mQ xs (B7.drop (k+1)) (mQ xs (aF xs (p1,p2)).1.pars (C9++[(p1,p2)]))):=Qf (by rw[L.o,G.o,Ll xs _ _ _ C1.o]);have C:Qg (mea xs (B7.drop (k+1)) (mQ xs (aF xs (p1,p2)).1.pars (C9++[(p1,p2)]))<=f/\(((mQ xs (aF xs (p1,p2)).1.pars (C9++[(p1,p2)])).length+mea xs (B7.drop (k+1)) (mQ xs (aF xs (p1,p2)).1.pars (C9++[(p1,p2)])):Nat):Int)<=900000):=Qf (by
        have h2:=sD xs (B7.drop (k+1)) _ _ (C9++[(p1,p2)]) (Nat.le_refl (mea xs (aF xs (p1,p2)).1.pars (C9++[(p1,p2)])));have h3:=CP xs _ _ (C9++[(p1,p2)]) (Nat.le_refl (mea xs (aF xs (p1,p2)).1.pars (C9++[(p1,p2)])));have h4:=B0.o;have h5:=I.o;have h6:=O.o
        omega)
       generalize mQ xs (aF xs (p1,p2)).1.pars (C9++[(p1,p2)])=L2 at HV B1 C;clear B V N P M B0 C0 L I G D3 O C1 o5 q0 q1;obtain⟨q0,q1⟩:=H.o w9 C2.o;have o5:w9.cell? ⟨u2,5,none⟩=some (.slice (some ⟨b0,F3,none⟩) n pc):=Zw B9.o.cell;clear H;go_wp2_with fail;refine HV.o.mono ?_;rintro e G8 ⟨da,dc,rfl,E3,E2,D⟩;obtain⟨D1,D6,D9,D2⟩:=Yl (XT A7.o D) (B9.o.below D) (C2.o.ahead D) E3;obtain⟨q2,C7⟩:=Qe L2.length;rw[<-C7] at C E2 ⊢;have F1:=Qf C7;clear D E3 C7 HV A7 B9 C2 q0 q1 o5;go_wp2;go_roundw
       case rel=>exact⟨k+1,L2,da,dc,q2,Zo,rfl,F1,E2,Zg,D2,D1,D6,D9,B1,C⟩
       case measure=>exact Yr
    ·have C4:Qg (R=C9):=Qf (by rw[L.o,dV (Zh D8.o),pu]);have F9:¬(k:Int)<(n:Int):=Zo;clear L I;go_wp2_with fail;go_ret;rw[C4.o];exact⟨ca,cc,by first | (rw[<-Q.out]; done) | (rw[<-Q.out]; rfl),HD.out,Q.out▸E7,HB.out⟩
  ·have H1:(er !=0)=true:=Zu he;have C4:Qg (R=D0):=Qf (by rw[L.o,Y.o he,pu]);have F:Qg (PM w u3):=Qf (E▸U.o.alloc U.o.size _);rw[E] at F;clear L I S K E;go_wp2_with fail;go_ret;rw[C4.o];exact⟨sa,sc,by first | (rw[<-HM.o]; done) | (rw[<-HM.o]; rfl),HS.o.ahead F.o,HM.o▸B3,F.o⟩
theorem Oi(a:Qa)(xs:List Itm)(c:Nat)(w:World)(hp:Its w w a xs)(hA:Asc xs)(hn:(xs.length:Int)<=500)(hd:∀x∈xs,(x.data.length:Int)<=1000000):
  Qh 38 #[.slice a xs.length c] w (Xz (.bool (PK xs)) w):=by
 have J:=Qf (fun d1 d2 W (K:Its W.heap.size W a xs)=>Ca a xs c hA Zo hd (mea xs (aF xs (d1,d2)).1.pars []) none [] 0 d1 d2 W K (dE.nil _ _ _) nr (by
  have U:(aF xs (d1,d2)).1.pars.length<=200:=by
   by_cases h:(aF xs (d1,d2)).2=0
   ·exact xV h
   ·rw[xZ h]; simp
  unfold mea;have V:=List.countP_le_length (p:=fun x:Itm=>!decide (x.d∈([]:Qd))) (l:=xs);simp only[aK]
  omega) nr)
 have A0:Qg (∀d,(mQ xs (aF xs d).1.pars []).length<=600000):=Qf (fun d=>by
  have U:(aF xs d).1.pars.length<=200:=by
   by_cases h:(aF xs d).2=0
   ·exact xV h
   ·rw[xZ h]; simp
  have h3:=sD xs [] _ (aF xs d).1.pars [] nr;rw[bG] at h3;have V:=List.countP_le_length (p:=fun x:Itm=>!decide (x.d∈([]:Qd))) (l:=xs);have h4:mea xs (aF xs d).1.pars []<=500200:=by unfold mea; omega
  simp only[aK] at h3
  omega)
 have HP:=Qf hp;obtain⟨R,hR⟩:=Qe (PK xs);rw[<-hR];have HR:=Qf hR;obtain⟨n,N⟩:=Qe xs.length;rw[<-N] at J hn ⊢;have HN:=Qf N;simp only[aK] at J;clear hp hA hd hR N;go_enter func38,ntmps38;go_wp2;go_loopw [3] (fun i wr=>∃k:Nat,k<=n/\i=Yi k/\Qg (PM w wr)/\Qg (∀j (h:j<xs.length),j<k->xs[j].d∉mQ xs (aF xs xs[j].d).1.pars [])) (fun i _=>n-(intOf i).toNat)
 case atStart=>exact⟨0,Zo,rfl,Qf (bf _),Qf (fun j h hj=>Zo)⟩
 case round=>
  obtain⟨k,hk,rfl,O,Y⟩:=hrel;have T:=O.out.size;by_cases A9:k<n
  ·have U:k<xs.length:=HN.o▸A9;obtain⟨p0,o0,Q,S,q0,q1,_⟩:=(HP.o.ahead O.out) k U;obtain⟨P,B7⟩:=Yj (HP.o.ahead O.out) Q;subst Q;have H:Qg (xs[k]∈xs):=Qf (ak U);have C:Qg (xs[k].d∉mQ xs (aF xs xs[k].d).1.pars []->∀j (h:j<xs.length),j<k+1->xs[j].d∉mQ xs (aF xs xs[j].d).1.pars []):=Qf (fun B0 j h hj=>by
    rcases gB j k with V | V
    ·exact Y.out j h V
    ·obtain rfl:j=k:=Zo;exact B0)
   generalize xs[k]=it at q0 q1 H C;obtain⟨⟨d1,d2⟩,dt⟩:=it;simp only at q0 q1 H C;have F:=Qf (fun W (K:PM wr W)=>J.o d1 d2 W (P.o.ahead K));have A8:=A0.o (d1,d2);have I:Qg ((d1,d2)∈mQ xs (aF xs (d1,d2)).1.pars []->R=true):=Qf (fun h=>by
    rw[HR.o];unfold PK;rw[List.any_eq_true];exact⟨_,H.o,Zu h⟩)
   generalize mQ xs (aF xs (d1,d2)).1.pars []=L at F C I A8;have G:=Qf (fun fa fc W (h:dE W.heap.size W fa L)=>Hr fa L fc d1 d2 W h Zo);have E:Qg (∀W,PM wr W->PM wr W/\W.cell? ⟨p0,o0+k*3,none⟩=some (Yu d1)/\W.cell? ⟨p0,o0+k*3+1,none⟩=some (Yu d2)):=Qf (fun W K=>⟨K,(K.cell (p:=⟨p0,o0+k*3,none⟩) S).trans q0,(K.cell (p:=⟨p0,o0+k*3+1,none⟩) S).trans q1⟩);have B:=E.o wr.drew ((bf _).drew);have A7:(k:Int)<(n:Int):=Zo;clear P H HR;cases D:decide ((d1,d2)∈L) with
   | true=>
    rw[D] at G;have HX:=Qf (I.o (Zu D));clear C I D;go_wp2_with fail;go_region_held3 (fun W=>PM wr W/\W.cell? ⟨p0,o0+k*3,none⟩=some (Yu d1)/\W.cell? ⟨p0,o0+k*3+1,none⟩=some (Yu d2))
     (first | exact B | assumption | (refine E.o _ (Below.trans ?_ (Below.mono ‹Below _ _ _› ?_)) <;> first | assumption | exact B.1 | exact B.1.size | exact(‹PM wr _/\_›).1 | exact(‹PM wr _/\_›).1.size))
     (first | ((with_reducible refine(F.o _ B.1).mono ?_); rintro e W3 ⟨fa,fc,rfl,M,A5,hb⟩) | ((with_reducible refine(G.o _ _ _ M).mono ?_); rintro e W4 ⟨rfl,A4⟩) | fail)
    all_goals
     clear B;go_wp2;go_ret;exact⟨Zw HX.o,O.out.trans ((‹PM wr _/\_›).1.mono T)⟩
   | false=>
    rw[D] at G;have Z:=Qf (C.o (Zu D));clear C I D;go_wp2_with fail;go_region_held3 (fun W=>PM wr W/\W.cell? ⟨p0,o0+k*3,none⟩=some (Yu d1)/\W.cell? ⟨p0,o0+k*3+1,none⟩=some (Yu d2))
     (first | exact B | assumption | (refine E.o _ (Below.trans ?_ (Below.mono ‹Below _ _ _› ?_)) <;> first | assumption | exact B.1 | exact B.1.size | exact(‹PM wr _/\_›).1 | exact(‹PM wr _/\_›).1.size))
     (first | ((with_reducible refine(F.o _ B.1).mono ?_); rintro e W3 ⟨fa,fc,rfl,M,A5,hb⟩) | ((with_reducible refine(G.o _ _ _ M).mono ?_); rintro e W4 ⟨rfl,A4⟩) | fail)
    all_goals
     clear B;have X:=Qf (O.out.trans ((‹PM wr _/\_›).1.mono T));go_wp2;go_roundw
     case rel=>exact⟨k+1,Zo,Zg,X,Z⟩
     case measure=>exact Yr
  ·have HX:Qg (R=false):=Qf (by
    rw[HR.o];unfold PK;rw[List.any_eq_false];intro x hx;obtain⟨j,hj,rfl⟩:=aV hx;simpa using Y.out j hj (Zh HN.o))
   have A7:¬(k:Int)<(n:Int):=Zo;clear Y;go_wp2;go_ret;exact⟨Zw HX.o,O.out⟩
def exO(t:Int)(ps:Qd):Ob:=⟨3,[],[],(1,1),ps,[97,110,110],t,[]⟩
structure ExV (A B C D:Int×Int) (TA TB TC TD:Qb):Prop where
 eA:aR (exO 1 [])=(TA,0)
 eB:aR (exO 2 [A])=(TB,0)
 eC:aR (exO 3 [A])=(TC,0)
 eD:aR (exO 4 [B,C])=(TD,0)
 dA:A=iY TA
 dB:B=iY TB
 dC:C=iY TC
 dD:D=iY TD
 oA:OkD A
 oB:OkD B
 oC:OkD C
 oD:OkD D
 ab:A≠B
 ac:A≠C
 ad:A≠D
 bc:B≠C
 bd:B≠D
 cd:C≠D
 nz:A≠(0,0)
section
variable {P:List Itm} {A B C D:Int×Int} {TA TB TC TD:Qb}
end
structure HV (xs:List Itm):Prop where
 le:xs.length<=40
 dat:∀x∈xs,x.data.length<=500
 asc:Asc xs
 acy:AcyS xs
section
variable {xs:List Itm} {a b c:Int×Int} {hs:Qd}
end
open Go.RowKit
theorem pQ:∀(l:Qd) (d:Int×Int),(mE l d).length<=l.length+1
 | [],d=>by simp[mE]
 | y::l,d=>by
  have:=pQ l d;rw[pR];split
  ·simp; omega
  ·split <;> simp
def vI(xs:List Itm):Qd->Int
 | []=>0
 | d::l=>if(aF xs d).2≠0 then(aF xs d).2 else vI xs l
def M6(xs:List Itm)(want common:Qd):Qd×Int:=
 if vI xs (want++common)≠0 then([],vI xs (want++common)) else
 if ¬(∀d∈(dh xs want).2,d∈(dh xs common).2) then([],8) else((dh xs want).1.filter fun d=>!decide (d∈(dh xs common).1),0)
theorem Jk(P:Int×Int->Bool)(h:k<l.length):(l.take (k+1)).filter P=if P l[k]=true then(l.take k).filter P++[l[k]] else(l.take k).filter P:=by
 rw[ai h,vX];by_cases A:P l[k]=true
 ·rw[if_pos A]; simp[A]
 ·rw[if_neg A]; simp[A]
theorem H7{roots:Qd}(A:∀d∈roots,OkD d)(h:Rch xs roots d):OkD d:=by
 cases h with
 | root B C=>exact A _ B
 | link B C D E=>exact Ec C _ D
theorem oG(xs:List Itm):∀(f:Nat) (ws T M:Qd),(Cf xs f ws T M).1.length<=T.length+f/\(Cf xs f ws T M).2.length<=M.length+f
 | 0,ws,T,M=>by rw[Cf]; simp
 | f+1,[],T,M=>by rw[Cf]; simp
 | f+1,d::ws,T,M=>by
  rw[Cf];split
  ·have:=oG xs f ws T M; omega
  ·split
   ·have:=oG xs f ws T (mE M d); have:=pQ M d; omega
   ·have:=oG xs f (ws++gG (dW xs d).1) (mE T d) M; have:=pQ T d; omega
theorem Cg(xs:List Itm)(l:Qd):(dh xs l).1.length<=jC xs l/\(dh xs l).2.length<=jC xs l:=by
 have:=oG xs (jC xs l) l [] [];rw[Na] at this;simpa using this
theorem tL(G:xs.length<=90)(F:l.length<=400)(A:∀d∈l,OkD d):((dh xs l).1.length:Int)<=100000/\((dh xs l).2.length:Int)<=100000/\(∀d∈(dh xs l).1,OkD d)/\∀d∈(dh xs l).2,OkD d:=by
 obtain⟨C,D⟩:=Cg xs l;have E:jC xs l<=100000:=by unfold jC; omega
 refine⟨Zo,Zo,fun d B=>?_,fun d B=>?_⟩
 ·exact H7 A (((gW xs l).2.2 d).1.1 B).1
 ·exact H7 A (((gW xs l).2.2 d).2.1 B).1
theorem Fh{W C:Qd}:(∀d∈(dh xs W).2,(d∈(dh xs C).1++(dh xs C).2↔d∈(dh xs C).2))/\∀d∈(dh xs W).1,(d∈(dh xs C).1++(dh xs C).2↔d∈(dh xs C).1):=by
 refine⟨fun d B=>?_,fun d B=>?_⟩
 ·rw[aD];have A:=(((gW xs W).2.2 d).2.1 B).2;constructor
  ·rintro(h | h)
   ·exact absurd (((gW xs C).2.2 d).1.1 h).2 A
   ·exact h
  ·exact .inr
 ·rw[aD];have A:=(((gW xs W).2.2 d).1.1 B).2;constructor
  ·rintro(h | h)
   ·exact h
   ·exact absurd A (((gW xs C).2.2 d).2.1 h).2
  ·exact .inl
theorem Bb(xs:List Itm):∀{l:Qd} {d:Int×Int},vI xs l=0->vI xs (l++[d])=(aF xs d).2
 | [],d,_=>by
  rw[aY];by_cases h:(aF xs d).2=0
  ·simp[vI,h]
  ·simp[vI,h]
 | e::l,d,h=>by
  unfold vI at h;rw[bz];unfold vI;by_cases A:(aF xs e).2=0
  ·rw[if_neg (Zu A)] at h ⊢;exact Bb xs h
  ·rw[if_pos A] at h; exact absurd h A
theorem EF(xs:List Itm):∀{l r:Qd} {d:Int×Int},vI xs l=0->(aF xs d).2≠0->vI xs (l++d::r)=(aF xs d).2
 | [],r,d,_,h=>by rw[aY]; unfold vI; rw[if_pos h]
 | e::l,r,d,h,B=>by
  unfold vI at h;rw[bz];unfold vI;by_cases A:(aF xs e).2=0
  ·rw[if_neg (Zu A)] at h ⊢;exact EF xs h B
  ·rw[if_pos A] at h; exact absurd h A
theorem JF(xs:List Itm)(h:k<l.length)(B:vI xs (l.take k)=0):((aF xs l[k]).2=0->vI xs (l.take (k+1))=0)/\((aF xs l[k]).2≠0->vI xs l=(aF xs l[k]).2):=by
 refine⟨fun A=>?_,fun A=>?_⟩
 ·rw[ai h,Bb xs B,A]
 ·have D:l=l.take k++l[k]::l.drop (k+1):=by
   rw[<-aN h,aQ]
  have C:=EF xs (r:=l.drop (k+1)) B A;rw[<-D] at C;exact C
structure SlD where
 a:Qa
 ds:Qd
 c:Nat
def jU(L:List SlD):Qd:=L.flatMap (·.ds)
theorem BD{L:List SlD}(h:k<L.length):jU (L.take (k+1))=jU (L.take k)++L[k].ds:=by
 unfold jU;rw[ai h,bg];simp
theorem JZ(L:List SlD)(k:Nat):(jU (L.take k)).length<=(jU L).length:=by
 have h:jU L=jU (L.take k)++jU (L.drop k):=by
  unfold jU;rw[<-bg,aQ]
 rw[h,af];omega
structure Ov (B:Nat) (W:World) (bb:Nat) (L:List SlD):Prop where
 blk:bb<B
 cell:∀i (h:i<L.length),W.cell? ⟨bb,i,none⟩=some (.slice L[i].a L[i].ds.length L[i].c)
 dig:∀i (h:i<L.length),dE B W L[i].a L[i].ds
theorem Ov.ahead{L:List SlD}(h:Ov (w:Nat) w bb L)(A:PM w W):Ov (W:Nat) W bb L:=
 ⟨aO h.blk A.size,fun i B=>(A.cell (p:=⟨bb,i,none⟩) h.blk).trans (h.cell i B),fun i B=>(h.dig i B).ahead A⟩
theorem Ja(n:Nat)(w:World)(N:(n:Int)<=1000000000):
  Qh 144 #[(),Yi n] w fun e w'=>∃a Q,e=.returned (.slice a 0 Q)/\w'.ownsRow w 54 2 (.slice a 0 Q) 0 []/\PM w w':=by
 by_cases K:n=0
 ·subst K;go_enter func144,ntmps144;go_wp2;go_ret;exact⟨none,0,rfl,XE _ _ _ _,bf _⟩
 ·obtain⟨i0,J,E,I,B⟩:=XR ul;obtain⟨G,O,M,L,C,D⟩:∃(G:Nat) (O:Array Value),(∀ty,(Builtin.append_ #[24,3] ty #[(),Yi n]).run prog w=.ok (.slice w n G) (w.drew.alloc (.cells O 54)))/\n<=G/\G<=maxLen/\O.size=G*2:=by
   refine⟨grownCap w (0+n) 0 54,([]:List Value).toArray++Builtin.zeroCells (Value.agg #[Yu 0,Yu 0]).cells n++Builtin.zeroCells (Value.agg #[Yu 0,Yu 0]).cells (grownCap w (0+n) 0 54-(0+n)),fun ty=>?_,?_,?_,?_⟩
   ·have:=Lib.run_append_grow_zeros (P:=prog) w 24 3 ty 54 i0 _ .i64 .i64 underlying24 underlying3 J E none 0 0 [] (run_firstCells_none w.drew i0.size 0 0 0) n Zo Zo Zo Zo (Zy B) (growslice_fits Zo (Zy B));rw[aZ] at this ⊢;exact this
   ·have:=grownCap_ge w (0+n) 0 54; omega
   ·exact grownCap_le_maxLen w (0+n) 0 54 Zm
   ·have:=grownCap_ge w (0+n) 0 54;generalize grownCap w (0+n) 0 54=G at this ⊢;rw[aZ] at this ⊢;simp only[Array.size_append,size_zeroCells];simp[Value.cells];omega
  obtain⟨F,H⟩:=Yj D C;unfold maxLen at C;clear E I B J D;go_enter func144,ntmps144;go_wp2_with (at_builtin; refine Lib.wpList_append_run _ rfl _ _ _ _ rfl _ _ rfl rfl _ _ (M _) ?_);go_ret;exact⟨_,_,rfl,XW (w:=w.drew) (base:=(w:Nat)) (size:=2) O G nr H.o F.o,(bf w).drew.alloc nr _⟩
theorem Di(bb cc:Nat)(L:List SlD)(w:World)(hL:Ov (w:Nat) w bb L)(hn:((jU L).length:Int)<=1000000)(hl:(L.length:Int)<=1000):
  Qh 91 #[.slice bb L.length cc] w (Oa w (jU L)):=by
 obtain⟨HL,HG,Y,O⟩:=Yl hL (fun W=>Ja (jU L).length W Zo) (fun k (h:k<L.length)=>BD h) (JZ L);obtain⟨T,hT⟩:=Qe ((jU L).length);rw[<-hT] at HG hn;have K:=Qf hT;obtain⟨n,N⟩:=Qe L.length;have X:=Qf N;rw[<-N] at hl ⊢;clear hL hT N;go_enter func91,ntmps91;go_wp2;go_loop [3,11] (fun s i=>∃k t:Nat,k<=n/\i=Yi k/\s=Yi t/\t<=T/\Qg (t=(jU (L.take k)).length)) (fun _ i=>n-(intOf i).toNat)
 case atStart=>exact⟨0,0,Zo,rfl,rfl,Zo,Qf rfl⟩
 case round=>
  obtain⟨k,t,hk,rfl,rfl,ht,V⟩:=hrel;by_cases U:k<n
  ·have G:k<L.length:=Zh X.o;have c0:=HL.o.cell k G;have C:t+L[k].ds.length<=T:=by
    have a1:=O.o (k+1);have a2:=Y.o k G;rw[a2,af,<-V.out,<-K.o] at a1;exact a1
   have E:Qg (t+L[k].ds.length=(jU (L.take (k+1))).length):=Qf (by rw[Y.o k G,af,<-V.out]);generalize L[k]=S at c0 C E;obtain⟨sa,sx,sc⟩:=S;simp only at c0 C E;generalize sx.length=m at c0 C E;go_wp2;go_round
   case rel=>exact⟨k+1,t+m,Zo,Zg,Zg,Zo,E⟩
   case measure=>exact Yq
  ·obtain rfl:n=k:=Zo;obtain rfl:T=t:=by rw[V.out,K.o,ag (Zh X.o)]
   clear V U hk ht;go_wp2_with fail;have hx:=HG.o w;refine hx.mono ?_;clear hx HG;rintro e w1 ⟨g,A0,rfl,H,hb⟩;obtain⟨F,J⟩:=Yj H hb;clear H hb;go_wp2;go_loopw [6,27] (fun v i wr=>∃(k:Nat),k<=n/\i=Yi k/\Qg (wr.ownsRow w 54 2 v (jU (L.take k)).length (aW (jU (L.take k))))/\Qg (PM w wr)) (fun _ i _=>n-(intOf i).toNat)
   case atStart=>exact⟨0,Zo,rfl,F,J⟩
   case round=>
    clear F J;obtain⟨k,hk,rfl,F,J⟩:=hrel;have A3:=J.o.size;by_cases U:k<n
    ·have G:k<L.length:=Zh X.o;have M:=HL.o.ahead J.o;have c0:=M.cell k G;have C:(jU (L.take k)).length+L[k].ds.length<=T:=by
      have a1:=O.o (k+1);have a2:=Y.o k G;rw[a2,af,<-K.o] at a1;exact a1
     obtain⟨av,cv,rfl,Q⟩:=aB F.o;obtain⟨v',W',I,D,R,P⟩:=dM wr (w:Nat) 24 _ _ F.o L[k].a L[k].ds L[k].c (M.dig k G) Zo A3;have A1:Qg (W'.ownsRow w 54 2 v' (jU (L.take (k+1))).length (aW (jU (L.take (k+1))))):=Qf (by rw[Y.o k G]; exact D);have Z:Qg (PM w W'):=Qf (gM J.o F.o R nr);have B:=Qf I;clear I D R P M C;generalize L[k]=S at c0 B;obtain⟨sa,sx,sc⟩:=S;simp only at c0 B;go_wp2_with (at_builtin; refine Lib.wpList_append_run _ rfl _ _ _ _ rfl _ _ rfl rfl _ _ B.o ?_);go_roundw
     case rel=>exact⟨k+1,Zo,Zg,A1,Z⟩
     case measure=>exact Yq
    ·obtain⟨av,cv,rfl,Q⟩:=aB F.o;have hf:jU (L.take k)=jU L:=by rw[ag (Zh X.o)]
     rw[hf] at F ⊢;clear hf;go_wp2;go_ret;exact⟨av,cv,rfl,F.o,J.o⟩
def mW(b:Nat)(l:Qd)(W:World):Prop:=
 ∃D:DataW Value,W.ownsMap prog 54 Fj b (Maps.size D) D/\(∀d,OkD d->∀z,D.atKey (Ef d) z=Mo (if d∈l then some (.bool true) else none) z)/\Maps.size D<=l.length/\(Maps.size D=l.length↔l.Nodup)
section
variable {b:Nat} {l:Qd} {W:World}
theorem mW.made(W:World):mW (W:Nat) [] (W.alloc (.map #[] 0)):=⟨.map [],World.ownsMap_made _ _ _ _,fun d _ z=>WideAt.atKey_none _ (fun p A=>by simp at A),by simp[Maps.size],by simp[Maps.size]⟩
theorem mW.lt(h:mW b l W):b<(W:Nat):=by obtain⟨D,A,_⟩:=h; exact A.lt
theorem mW.kept{row:Option Nat}(h:mW b l W)(E:W.grownBy W' row)(A:some b≠row):mW b l W':=by obtain⟨D,B,C⟩:=h; exact⟨D,B.kept E A,C⟩
theorem mW.alloc(h:mW b l W)(o:Obj):mW b l (W.alloc o):=by obtain⟨D,A,B⟩:=h; exact⟨D,A.alloc o,B⟩
theorem mW.below(h:mW b l W)(A:PM W W'):mW b l W':=h.kept (row:=none) ⟨A.os,A.tape,A.output,A.size,fun k B _=>A.block k B⟩ Zs
theorem mW.map(h:mW b l W):qI b l.length (fun d=>if d∈l then some (.bool true) else none) W:=by
 obtain⟨D,A,B,C,_⟩:=h;exact⟨D,A.mono C,B⟩
theorem mW.look(h:mW b l W)(B:OkD (x,y)):(Instr.lookup 105 (.map (some b)) (.agg #[Yu x,Yu y]) false).run prog W=.ok (.bool (decide ((x,y)∈l))) W:=by
 rw[h.map.look underlying105 (Dy W) B];by_cases e:(x,y)∈l <;> simp[e]
theorem mW.put(h:mW b l W)(G:OkD (x,y))(V:(l.length:Int)<=1000000000):
  ∃W',(Instr.mapUpdate 105 (.map (some b)) (.agg #[Yu x,Yu y]) (.bool true)).run prog W=.ok () W'/\mW b (l++[(x,y)]) W'/\W.grownBy W' (some b)/\(W':Nat)=(W:Nat):=by
 obtain⟨D,H,L,T,M⟩:=h;obtain⟨W',E,R,F⟩:=H.store Ki underlying105 Zm (fK G) (d:=.held (.bool true)) (ps:=[]) rfl;have K:=H.tidy Ki;have hs:=Maps.size_put (k:=Ef (x,y)) K (.held (.bool true):DataW Value);have Q:=Le (L _ G);have S:Maps.size (D.put (Ef (x,y)) (.held (.bool true):DataW Value))<=Maps.size D+1:=by rw[hs]; split <;> omega
 obtain⟨es,X,I,O,_,B⟩:=R;have J:es.size=Maps.size (D.put (Ef (x,y)) (.held (.bool true):DataW Value)):=by rw[B]; simp[Maps.size,length_sorted]
 refine⟨W',E,⟨_,⟨es,X,I,O,J▸nr,B⟩,fun d C z=>?_,?_,?_⟩,F.grown,?_⟩
 ·by_cases e:d=(x,y)
  ·subst e;rw[Maps.atKey_put_same H.isMap (wU G)];simp[Mo]
  ·rw[Maps.atKey_put_other (fun h=>e (su C G h)),L _ C];simp[e]
 ·rw[af]; simp only[az,aK]; omega
 ·rw[hs,Q,af,List.nodup_append];simp only[az,aK];by_cases e:(x,y)∈l
  ·simp only[e,if_true,Option.isSome_some];constructor
   ·intro e2; omega
   ·rintro⟨_,_,e2⟩; exact absurd rfl (e2 _ e _ Zs)
  ·simp only[e,if_false,Option.isSome_none,Bool.false_eq_true];constructor
   ·intro e2;refine⟨M.1 Zo,Zs,fun a P c N e3=>?_⟩;rw[aH] at N;subst N; subst e3; exact e P
   ·rintro⟨e2,_,_⟩;have:=M.2 e2;omega
 ·obtain⟨es,X,Z,Y,U,rfl⟩:=F;simp[ChangeMaps.setBlock]
theorem mW.eq{l':Qd}(h:mW b l W)(e:l=l'):mW b l' W:=e▸h
end
def GotS(w:World)(l:Qd)(e:Ending)(w':World):Prop:=∃b,e=.returned (.map (some b))/\mW b l w'/\(w:Nat)<=b/\PM w w'
theorem FU{b:Nat}(h:PM w W)(B:W.grownBy W' (some b))(A:(w:Nat)<=b):PM w W':=h.grown B h.size (fun k e=>by cases e; exact A)
theorem Mf{L:List SlD}{i:Nat}(h:i<L.length)(A:d∈L[i].ds):d∈jU L:=by
 unfold jU;exact List.mem_flatMap.2 ⟨L[i],ak h,A⟩
theorem G8(bb cc:Nat)(L:List SlD)(w:World)(hL:Ov (w:Nat) w bb L)(R:∀d∈jU L,OkD d)(hn:((jU L).length:Int)<=1000000)(hl:(L.length:Int)<=1000):
  Qh 92 #[.slice bb L.length cc] w (GotS w (jU L)):=by
 have A6:=@run_makeMap prog;obtain⟨HL,Y,HT,X⟩:=Yl hL R (fun k (h:k<L.length)=>BD h) (JZ L);obtain⟨T,hT⟩:=Qe ((jU L).length);rw[<-hT] at hn;have Z:=Qf hT;obtain⟨n,J⟩:=Qe L.length;have HN:=Qf J;rw[<-J] at hl ⊢;clear hL hT J R;have M:Qg (mW (w:Nat) [] (w.alloc (.map #[] 0))):=Qf (mW.made w);have K:Qg (PM w (w.alloc (.map #[] 0))):=Qf (ba w _);go_enter func92,ntmps92;go_wp2;go_loopw [11] (fun i wr=>∃k:Nat,k<=n/\i=Yi k/\Qg (mW (w:Nat) (jU (L.take k)) wr)/\Qg (PM w wr)) (fun i _=>n-(intOf i).toNat)
 case atStart=>exact⟨0,Zo,rfl,M,K⟩
 case round=>
  clear M K A6;obtain⟨k,hk,rfl,E,D⟩:=hrel;by_cases B8:k<n
  ·have A4:(k:Int)<(n:Int):=Zo;have O:k<L.length:=Zh HN.o;have P:=HL.o.ahead D.out;have c0:=P.cell k O;have V:=Qf (HL.o.dig k O);have B:Qg (∀d∈L[k].ds,OkD d):=Qf (fun d hd=>Y.o d (Mf O hd));have I:(jU (L.take k)).length+L[k].ds.length<=T:=by
    have a1:=X.o (k+1);have a2:=HT.o k O;rw[a2,af,<-Z.o] at a1;exact a1
   have H:=Qf (HT.o k O);have F:Qg (mW (w:Nat) (jU (L.take k)++(L[k].ds).take 0) wr):=Qf (E.out.eq Zs);generalize L[k]=S at c0 V B I H F;obtain⟨sa,ds,sc⟩:=S;simp only at c0 V B I H F;obtain⟨m,hm⟩:=Qe ds.length;have HM:=Qf hm;rw[<-hm] at c0 I;clear P E hm;go_wp2;go_loopw [17] (fun i wr=>∃j:Nat,j<=m/\i=Yi j/\Qg (mW (w:Nat) (jU (L.take k)++ds.take j) wr)/\Qg (PM w wr)) (fun i _=>m-(intOf i).toNat)
   case atStart=>exact⟨0,Zo,rfl,F,D⟩
   case round=>
    clear F D c0;obtain⟨j,hj,rfl,E,D⟩:=hrel;by_cases B3:j<m
    ·have A3:(j:Int)<(m:Int):=Zo;have h2:j<ds.length:=Zh HM.o;obtain⟨b0,A0,A2,B5,q0,q1⟩:=(V.o.ahead D.out) j h2;have B4:=V;subst A2;have G:=B.o _ (ak h2);have N:Qg (ds.take (j+1)=ds.take j++[ds[j]]):=Qf (ai h2);generalize ds[j]=d at q0 q1 G N;obtain⟨d1,d2⟩:=d;simp only at q0 q1;obtain⟨u1,C0,U,Q,A7⟩:=(E.out.alloc (.cells #[Yu d1,Yu d2] 54)).put G (by
      have:(jU (L.take k)++ds.take j).length<=T:=by rw[af,aA]; omega
      omega)
     have C:Qg (mW (w:Nat) (jU (L.take k)++ds.take (j+1)) u1):=Qf (U.eq (by rw[N.o,ay]));have W:Qg (PM w u1):=Qf (FU (D.out.alloc D.out.size _) Q nr);clear U Q A7 E D;go_wp2;go_roundw
     case rel=>exact⟨j+1,Zo,Zg,C,W⟩
     case measure=>exact Yr
    ·have A3:¬(j:Int)<(m:Int):=Zo;have C:Qg (mW (w:Nat) (jU (L.take (k+1))) wr):=Qf (E.out.eq (by rw[H.o,ag (l:=ds) (i:=j) (Zh HM.o)]));clear E;go_wp2;go_roundw
     case rel=>exact⟨k+1,Zo,Zg,C,D⟩
     case measure=>exact Yr
  ·have A4:¬(k:Int)<(n:Int):=Zo;have C:Qg (mW (w:Nat) (jU L) wr):=Qf (E.out.eq (by rw[ag (Zh HN.o)]));clear E;go_wp2;go_ret;exact⟨w,rfl,C.o,nr,D.out⟩
attribute [local go_sem] Oper.semAt_some
theorem Dz{a a':Qa}{ds es:Qd}{c c':Nat}(B:BK bb #[.slice a ds.length c,.slice a' es.length c'] 24 W)(C:dE W W a ds)(D:dE W W a' es):Ov (W:Nat) W bb [⟨a,ds,c⟩,⟨a',es,c'⟩]:=by
 refine⟨B.lt,fun i A=>?_,fun i A=>?_⟩
 ·rcases(by simp at A; omega:i=0\/i=1) with rfl | rfl
  ·rw[B.cell]; rfl
  ·rw[B.cell]; rfl
 ·rcases(by simp at A; omega:i=0\/i=1) with rfl | rfl
  ·exact C
  ·exact D
theorem Pz(a:Qa)(xs:List Itm)(c:Nat)(wa:Qa)(want:Qd)(wc:Nat)(ca:Qa)(com:Qd)(cc:Nat)(w:World)(hp:jQ w a xs c)(hA:Asc xs)(E6:xs.length<=90)(hw:dE w w wa want)(C9:∀d∈want,OkD d)(J7:(want.length:Int)<=400)(hc:dE w w ca com)(C8:∀d∈com,OkD d)(I7:(com.length:Int)<=400):
  Qh 48 #[.slice a xs.length c,.slice wa want.length wc,.slice ca com.length cc] w (GotRo w (M6 xs want com)):=by
 obtain⟨D9,B2,B1,A3,A2,B0⟩:=Yn (fun p q W (hW:PM w W)=>Gr a xs c p q W (hp.below hW) hA) (fun W (hW:PM w W)=>zH a xs c wa want wc W (hp.below hW) hA (hw.ahead hW) C9 Zo Zo) (fun W (hW:PM w W)=>zH a xs c ca com cc W (hp.below hW) hA (hc.ahead hW) C8 Zo Zo) (tL (xs:=xs) (l:=want) E6 Zo C9) (tL (xs:=xs) (l:=com) E6 Zo C8) (Fh (xs:=xs) (W:=want) (C:=com));have D8:Qg (∀k (h:k<(want++com).length),vI xs ((want++com).take k)=0->((aF xs (want++com)[k]).2=0->vI xs ((want++com).take (k+1))=0)/\((aF xs (want++com)[k]).2≠0->vI xs (want++com)=(aF xs (want++com)[k]).2)):=Qf (fun k h h0=>JF xs h h0);obtain⟨R,hR⟩:=Qe (M6 xs want com);rw[<-hR];unfold M6 at hR;have HR:=Qf hR;have F2:Qg (∀d∈want++com,OkD d):=Qf (fun d hd=>by
  rcases aD.1 hd with h | h
  ·exact C9 d h
  ·exact C8 d h)
 obtain⟨v,I⟩:=Qe (w.alloc (.cells #[.slice wa want.length wc,.slice ca com.length cc] 24));have B:PM w v:=I▸ba _ _;have G:jU [⟨wa,want,wc⟩,⟨ca,com,cc⟩]=want++com:=by simp[jU]
 have T:=Qf (Di (w:Nat) 2 [⟨wa,want,wc⟩,⟨ca,com,cc⟩] v (Dz (I▸BK.new _ _ _) (hw.ahead B) (hc.ahead B)) (by rw[G,af]; omega) Zs);rw[G,I] at T;simp only[az,aK,aZ,Nat.reduceAdd] at T;obtain⟨HV,D7⟩:=Yj I B;have G3:((want++com).length:Int)<=800:=Zy af;generalize I5:dh xs want=rw at B2 A3 B0 HR;generalize I4:dh xs com=rc at B1 A2 B0 HR;clear I5 I4;obtain⟨ra,rb⟩:=rw;obtain⟨ta,tb⟩:=rc;simp only at A3 A2 B0 HR;generalize want++com=C1 at D8 F2 T HR G3;obtain⟨n,hn⟩:=Qe C1.length;rw[<-hn] at G3;have HN:=Qf hn;obtain⟨C2,B6⟩:=Qe ra.length;obtain⟨C7,B7⟩:=Qe rb.length;obtain⟨G6,B8⟩:=Qe ta.length;obtain⟨H2,B9⟩:=Qe tb.length;obtain⟨X,Y,Z,A0⟩:=Yl B6 B7 B8 B9;have J2:=A3.o.1;have J3:=A3.o.2.1;have J4:=A2.o.1;have J5:=A2.o.2.1;rw[<-B6] at J2;rw[<-B7] at J3;rw[<-B8] at J4;rw[<-B9] at J5;generalize want.length=nw at B2 HV T ⊢;generalize com.length=nc at B1 HV T ⊢;generalize xs.length=nx at D9 B2 B1 ⊢;clear hR I B G hn B6 B7 B8 B9 hp hA E6 hw C9 J7 hc C8 I7;go_enter func48,ntmps48;go_wp2_with fail;refine T.o.mono ?_;rintro e u ⟨va,vc,rfl,H,K⟩;rw[<-HV.o] at K;rw[<-HN.o] at H ⊢;obtain⟨D5,D4⟩:=Yj (XT D7.o K) (kr HN.o H);clear H K T HV D7;go_wp2;go_loopw [27] (fun i wr=>∃k:Nat,k<=n/\i=Yi k/\Qg (vI xs (C1.take k)=0)/\Qg (PM u wr)) (fun i _=>n-(intOf i).toNat)
 case atStart=>exact⟨0,Zo,rfl,Qf (by simp[vI]),Qf (bf _)⟩
 case round=>
  obtain⟨k,hk,rfl,HJ,J⟩:=hrel;have HB:=Qf (XT D5.o J.out);by_cases G7:k<n
  ·have B4:(k:Int)<(n:Int):=Zo;have h1:k<C1.length:=Zh HN.o;obtain⟨b0,E2,B3,G4,q0,q1⟩:=(D4.o.ahead J.out) k h1;have A8:=D4;subst B3;have HX:=Qf (D8.o k h1 HJ.out);generalize C1[k]=d at q0 q1 HX;obtain⟨d1,d2⟩:=d;simp only at q0 q1;obtain⟨v,I⟩:=Qe (wr.alloc (.cells #[Yu d1,Yu d2] 54));have B:PM wr v:=I▸ba _ _;obtain⟨L,F⟩:=Yj (XT HB.o B) (XT J.out B);have HC:=Qf (D9.o d1 d2 v L.o);generalize aF xs (d1,d2)=CR at HC HX;obtain⟨⟨D2,data,D1,⟨t1,t2⟩,E7,D0,E8,G5⟩,er⟩:=CR;simp only at HC HX;rw[I] at HC;have HV:=Qf I;clear I B J HB A8 HJ;go_wp2_with fail;refine HC.o.mono ?_;rintro e u3 ⟨ea,ec,pa,pc,rfl,J1,K⟩;rw[<-HV.o] at K;simp only[Ob.val];obtain⟨Q,A9⟩:=Yj (XT L.o K) (XT F.o K);generalize E7.length=np;generalize D1.length=ne;obtain⟨v2,E5⟩:=Qe (u3.alloc (.cells #[Yi D2,data,.slice ea ne ec,Yu t1,Yu t2,.slice pa np pc,D0,Yi E8,G5] 59));have B:PM u3 v2:=E5▸ba _ _;obtain⟨S,H8,G2⟩:=Yk (XT Q.o B) (XT A9.o B) E5;clear J1 K B E5 HC HV L F Q A9 q0 q1;by_cases he:er=0
   ·subst he;have A4:=Qf (HX.o.1 rfl);clear HX;go_wp2_with fail;rw[<-G2.o];go_roundw
    case rel=>exact⟨k+1,Zo,Zg,A4,H8⟩
    case measure=>exact Yr
   ·have K1:(er !=0)=true:=Zu he;have A5:Qg (R=([],er)):=Qf (by rw[HR.o,HX.o.2 he,if_pos he]);clear HX HR he;go_wp2_with fail;rw[<-G2.o];go_ret2;rw[A5.o];exact⟨none,0,rfl,XE _ _ _ _,S.o⟩
  ·have B4:¬(k:Int)<(n:Int):=Zo;have C0:C1.take k=C1:=ag (Zh HN.o);rw[C0] at HJ;have A5:Qg (R=if ¬(∀d∈rb,d∈tb) then([],8) else(ra.filter fun d=>!decide (d∈ta),0)):=Qf (by rw[HR.o,HJ.out]; simp);obtain⟨x0,H0⟩:=Qe wr;rw[<-H0] at HB ⊢;have E9:=Qf (B2.o x0 HB.o);clear H0 C0 HJ J HR D8 F2 D4 D5 B2 D9;go_wp2_with fail;refine E9.o.mono ?_;rintro e u1 ⟨pa,pc,sa,sc,rfl,M,N,K⟩;simp only at M N ⊢;rw[<-X.o] at M ⊢;rw[<-Y.o] at N ⊢;obtain⟨C3,F3,F9⟩:=Yk (XT HB.o K) (kr X.o M) (kr Y.o N);have F0:=Qf (B1.o u1 C3.o);clear M N K E9 HB B1;go_wp2_with fail;refine F0.o.mono ?_;rintro e u2 ⟨ea,ec,fa,fc,rfl,M,N,K⟩;simp only at M N ⊢;rw[<-Z.o] at M ⊢;rw[<-A0.o] at N ⊢;obtain⟨Q,F4,G0⟩:=Yk (XT C3.o K) (F3.o.ahead K) (F9.o.ahead K);obtain⟨v,I⟩:=Qe (u2.alloc (.cells #[.slice ea G6 ec,.slice fa H2 fc] 24));have B:PM u2 v:=I▸ba _ _;have G:jU [⟨ea,ta,ec⟩,⟨fa,tb,fc⟩]=ta++tb:=by simp[jU]
   have C6:=Qf (G8 (u2:Nat) 2 [⟨ea,ta,ec⟩,⟨fa,tb,fc⟩] v (Dz (by rw[I,<-Z.o,<-A0.o]; exact BK.new _ _ _) ((kr Z.o M).ahead B) ((kr A0.o N).ahead B)) (by
    rw[G]; intro d hd;rcases aD.1 hd with h | h
    ·exact A2.o.2.2.1 d h
    ·exact A2.o.2.2.2 d h) (by rw[G,af,<-Z.o,<-A0.o]; omega) Zs)
   rw[G,I] at C6;simp only[az,aK,aZ,Nat.reduceAdd] at C6;obtain⟨HV,L,F7,G1⟩:=Yl I (XT Q.o B) (F4.o.ahead B) (G0.o.ahead B);clear M N K I B G F0 C3 F3 F9 Q F4 G0;go_wp2_with fail;refine C6.o.mono ?_;rintro e u3 ⟨mb,rfl,hs,G9,K⟩;rw[<-HV.o] at G9 K;obtain⟨S,F5,E1,E0⟩:=Yl (XT L.o K) (F7.o.ahead K) (G1.o.ahead K) hs;clear hs K G9 C6 HV L F7 G1;go_wp2;go_loopw [59] (fun i wr=>∃k:Nat,k<=C7/\i=Yi k/\Qg (∀j (h:j<rb.length),j<k->rb[j]∈tb)/\Qg (PM u3 wr)) (fun i _=>C7-(intOf i).toNat)
   case atStart=>exact⟨0,Zo,rfl,Qf (fun j h hj=>Zo),Qf (bf _)⟩
   case round=>
    obtain⟨k,hk,rfl,HJ,J⟩:=hrel;by_cases G7:k<C7
    ·have B4:(k:Int)<(C7:Int):=Zo;have h1:k<rb.length:=Zh Y.o;obtain⟨b0,E2,B3,G4,q0,q1⟩:=(E1.o.ahead J.out) k h1;have A8:=E1;subst B3;have P:=A3.o.2.2.2 _ (ak h1);have U:=Qf (B0.o.1 _ (ak h1));have F1:Qg (rb[k]∈rb):=Qf (ak h1);have A4:Qg (rb[k]∈tb->∀j (h:j<rb.length),j<k+1->rb[j]∈tb):=Qf (fun J0 j h hj=>by
      by_cases e:j<k
      ·exact HJ.out j h e
      ·obtain rfl:j=k:=Zo;exact J0)
     generalize rb[k]=d at q0 q1 P U F1 A4;obtain⟨d1,d2⟩:=d;simp only at q0 q1;obtain⟨v,I⟩:=Qe (wr.alloc (.cells #[Yu d1,Yu d2] 54));have B:PM wr v:=I▸ba _ _;have F:=Qf (XT J.out B);have E:=(E0.o.below F.o).look P;rw[I] at E;have A6:=Qf I;clear I B J HJ A8;cases D:decide ((d1,d2)∈ta++tb) with
     | true=>
      rw[D] at E;have H9:=Qf (A4.o (U.o.1 (Zu D)));clear D A4;go_wp2_with fail;rw[<-A6.o];go_roundw
      case rel=>exact⟨k+1,Zo,Zg,H9,F⟩
      case measure=>exact Yr
     | false=>
      rw[D] at E;have C5:Qg (R=([],8)):=Qf (by
       rw[A5.o,if_pos];intro h;have h2:=U.o.2 (h _ F1.o);simp only[XL] at D;exact D h2)
      have L:=Qf (XT S.o F.o);clear D A4 A5;go_wp2_with fail;rw[<-A6.o];go_ret2;rw[C5.o];exact⟨none,0,rfl,XE _ _ _ _,L.o⟩
    ·have B4:¬(k:Int)<(C7:Int):=Zo;have D3:∀d∈rb,d∈tb:=fun d hd=>by
      obtain⟨j,hj,rfl⟩:=aV hd;exact HJ.out j hj (Zh Y.o)
     have C5:Qg (R=(ra.filter fun d=>!decide (d∈ta),0)):=Qf (by rw[A5.o,if_neg (fun h=>h D3)]);obtain⟨x1,H1⟩:=Qe wr;rw[<-H1] at J ⊢;obtain⟨D6,F6,I1⟩:=Yk (XT S.o J.out) (F5.o.ahead J.out) (E0.o.below J.out);clear H1 D3 A5 HJ J F5 E0 S E1;go_wp2;go_loopw [19,70] (fun v i wr=>∃(k m:Nat) (A7:Qd) (va:Qa) (vc:Nat),k<=C2/\v=.slice va m vc/\i=Yi k/\m<=k/\Qg (m=A7.length)/\Qg (A7=(ra.take k).filter fun d=>!decide (d∈ta))/\Qg (wr.ownsRow x1 54 2 (.slice va m vc) m (aW A7))/\Qg (PM x1 wr)) (fun _ i _=>C2-(intOf i).toNat)
     case atStart=>exact⟨0,0,[],none,0,Zo,rfl,rfl,Zo,Qf rfl,Qf Zs,Qf (XE _ _ _ _),Qf (bf _)⟩
     case round=>
      obtain⟨k,m,A7,va,vc,hk,rfl,rfl,K2,HM,O,HO,J⟩:=hrel;by_cases G7:k<C2
      ·have B4:(k:Int)<(C2:Int):=Zo;have h1:k<ra.length:=Zh X.o;obtain⟨b0,E2,B3,G4,q0,q1⟩:=(F6.o.ahead J.out) k h1;have A8:=F6;subst B3;have P:=A3.o.2.2.1 _ (ak h1);obtain⟨U,HF⟩:=Yj (B0.o.2 _ (ak h1)) (Jk (fun d=>!decide (d∈ta)) h1);rw[<-O.out] at HF;generalize ra[k]=d at q0 q1 P U HF;obtain⟨d1,d2⟩:=d;simp only at q0 q1;obtain⟨v,I⟩:=Qe (wr.alloc (.cells #[Yu d1,Yu d2] 54));have B:PM wr v:=I▸ba _ _;obtain⟨F,C4⟩:=Yj (XT J.out B) (PO HO.out B);have E:=(I1.o.below F.o).look P;rw[I] at E;have A6:=Qf I;clear I B J O HO A8;cases D:decide ((d1,d2)∈ta++tb) with
       | true=>
        rw[D] at E;have B5:(d1,d2)∈ta:=U.o.1 (Zu D);have V:Qg (A7=(ra.take (k+1)).filter fun d=>!decide (d∈ta)):=Qf (by rw[HF.o]; simp[B5]);clear D B5 HF;go_wp2_with fail;rw[<-A6.o];go_roundw
        case rel=>exact⟨k+1,m,A7,va,vc,Zo,rfl,Zg,Zo,HM,V,C4,F⟩
        case measure=>exact Yr
       | false=>
        rw[D] at E;have B5:(d1,d2)∉ta:=fun h=>by
         have:=U.o.2 h;simp only[XL] at D;exact D this
        have V:Qg (A7++[(d1,d2)]=(ra.take (k+1)).filter fun d=>!decide (d∈ta)):=Qf (by rw[HF.o]; simp[B5]);have E4:=C4.o;rw[HM.out] at E4;obtain⟨v',W',A1,H,E3,_⟩:=gz E4 d1 d2 (by rw[<-HM.out]; omega) F.o.size;obtain⟨H3,H4,rfl,_⟩:=aB H;have hl:(A7++[(d1,d2)]).length=m+1:=by rw[af,<-HM.out]; rfl
        rw[hl,<-HM.out] at A1;rw[hl] at H;rw[<-HM.out] at E3;have I0:Qg (m+1=(A7++[(d1,d2)]).length):=Qf hl.symm;have I3:=Qf H;have A9:Qg (PM x1 W'):=Qf (gM (F.o.alloc F.o.size _) (C4.o.alloc _) E3 nr);rw[A6.o,XU] at A1;have F8:=Qf A1;clear D B5 HF E4 A1 H E3 hl C4 F A6;go_wp2_with (at_builtin; refine Lib.wpList_append_run _ rfl _ _ _ _ rfl _ _ rfl rfl _ _ F8.o ?_);go_roundw
        case rel=>exact⟨k+1,m+1,A7++[(d1,d2)],H3,H4,Zo,rfl,Zg,Zo,I0,V,I3,A9⟩
        case measure=>exact Yr
      ·have B4:¬(k:Int)<(C2:Int):=Zo;have C0:ra.take k=ra:=ag (Zh X.o);rw[C0] at O;have HX:Qg (R=(A7,0)):=Qf (by rw[C5.o,<-O.out]);have H7:=Qf (XT D6.o J.out);clear C0 O C5;go_wp2;go_ret2;rw[HX.o];exact⟨va,vc,by rw[<-HM.out]; rfl,HM.out▸mP HO.out D6.o.size,H7.o⟩
