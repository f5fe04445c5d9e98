/- Joined texts: HiPl, HiDp, HiCy, HiOr, HiBa, HiRx, HiCo, HiMp, HiRv, HiVs. -/
import Derived.Test.YtkedhdcnakhbgaaGreatK9
import Derived.Test.YtkedhdcnakhbgaaGreatK5
import Derived.Maps.Range
import Derived.Test.YtkedhdcnakhbgaaGreatK1
import Derived.Shelf.Abstract
import Derived.WalkKit
import Derived.OwnWalkIn
import Derived.TacticsInMore
import Derived.LoopNIn
import Derived.LoopIn
/- Histories: the plain law of visiting. -/
set_option linter.unusedSimpArgs false
set_option maxRecDepth 100000
set_option maxHeartbeats 16000000
namespace Go.Proofs.YtkedhdcnakhbgaaGreat
open Go.RowKit Go.Shelf
set_option linter.unusedVariables false
variable {d:Int×Int}{xs:List Itm}{o:Option Value}{met st:Qd}{v z:Value}
def aF(xs:List Itm)(d:Int×Int):Ob×Int:=if(dW xs d).2≠0 then(obZ,8) else if(dW xs d).1.kind≠3 then(obZ,9) else((dW xs d).1,0)
theorem Ba(h:(aF xs d).2=0):(dW xs d).2=0/\(dW xs d).1.kind=3/\aF xs d=((dW xs d).1,0):=by
 unfold aF at h ⊢;by_cases A:(dW xs d).2=0
 ·by_cases B:(dW xs d).1.kind=3
  ·exact⟨A,B,by simp[A,B]⟩
  ·simp[A,B] at h
 ·simp[A] at h
theorem xV(h:(aF xs d).2=0):(aF xs d).1.pars.length<=200:=by
 obtain⟨A,G,B⟩:=Ba h;rw[B];obtain⟨x,_,_,C⟩:=oW A;have E:bI x.data=((dW xs d).1,0):=by rw[C,<-A]
 have D:(aR (dW xs d).1).2=0:=by rw[(kI E).1]
 have F:=rZ (dW xs d).1;rw[FX D,af] at F;simp only;omega
def visF(xs:List Itm):Nat->Qd->Qd->Qd×Int
 | 0,_,met=>(met,0)
 | f+1,[],met=>(met,0)
 | f+1,d::st,met=>if d∈met then visF xs f st met else if(aF xs d).2≠0 then([],(aF xs d).2) else visF xs f ((aF xs d).1.pars++st) (met++[d])
theorem oP(xs:List Itm){st' met':Qd}(A:st.length=st'.length)(B:∀d,d∈met↔d∈met'):mea xs st met=mea xs st' met':=by
 unfold mea;rw[A];congr 3;funext x;congr 1;rw[decide_eq_decide];exact B x.d
theorem ky(xs:List Itm)(st met:Qd)(d:Int×Int):mea xs st met+1=mea xs (d::st) met:=by
 rw[qm xs st met d];exact oP xs (by simp) (fun _=>Iff.rfl)
theorem KY(A:d∉met)(h:(aF xs d).2=0):mea xs ((aF xs d).1.pars++st) (met++[d])+1<=mea xs (d::st) met:=by
 have:=yj (op:=st) A (Ba h).1 (xV h);rw[oP xs (st:=(aF xs d).1.pars++st) (st':=st++(aF xs d).1.pars) (met:=met++[d]) (met':=d::met) (by simp; omega) (fun x=>by simp[or_comm])];rw[oP xs (st:=d::st) (st':=st++[d]) (met:=met) (met':=met) (by simp) (fun _=>Iff.rfl)];exact this
inductive Anc (xs:List Itm):Int×Int->Int×Int->Prop
 | refl (d:Int×Int):Anc xs d d
 | step {a p b:Int×Int}:(aF xs a).2=0->p∈(aF xs a).1.pars->Anc xs p b->Anc xs a b
def AcyS(xs:List Itm):Prop:=∀d p,(aF xs d).2=0->p∈(aF xs d).1.pars->¬Anc xs p d
theorem xZ(h:(aF xs d).2≠0):(aF xs d).1.pars=[]:=by
 unfold aF at h ⊢;by_cases A:(dW xs d).2=0
 ·by_cases B:(dW xs d).1.kind=3
  ·simp[A,B] at h
  ·simp[A,B,obZ]
 ·simp[A,obZ]
def Kk(xs:List Itm):Nat->Qd->Qd->Qd
 | 0,_,met=>met
 | f+1,[],met=>met
 | f+1,d::st,met=>if d∈met then Kk xs f st met else Kk xs f ((aF xs d).1.pars++st) (met++[d])
theorem ui(B:d∉met):mea xs ((aF xs d).1.pars++st) (met++[d])+1<=mea xs (d::st) met:=by
 by_cases h:(aF xs d).2=0
 ·exact KY B h
 ·rw[xZ h,aY]
  have A:=yh xs st met d;rw[oP xs (st:=st) (st':=st) (met:=met++[d]) (met':=d::met) rfl (fun x=>by simp[or_comm])];rw[oP xs (st:=d::st) (st':=st++[d]) (met:=met) (met':=met) (by simp) (fun _=>Iff.rfl)];exact A
theorem yB(xs:List Itm)(f:Nat)(met:Qd):Kk xs f [] met=met:=by cases f <;> rfl
theorem uH(xs:List Itm):∀(f g:Nat) (st met:Qd),mea xs st met<=f->mea xs st met<=g->Kk xs f st met=Kk xs g st met
 | f,g,[],met,_,_=>by rw[yB,yB]
 | 0,g,d::st,met,h,_=>by unfold mea at h; simp at h
 | f+1,0,d::st,met,_,h=>by unfold mea at h; simp at h
 | f+1,g+1,d::st,met,D,E=>by
  rw[Kk,Kk];have B:=ky xs st met d;by_cases A:d∈met
  ·rw[if_pos A,if_pos A]
   exact uH xs f g st met (by omega) (by omega)
  ·rw[if_neg A,if_neg A]
   have C:=ui (xs:=xs) (st:=st) A;exact uH xs f g _ _ (by omega) (by omega)
def mQ(xs:List Itm)(st met:Qd):Qd:=Kk xs (mea xs st met) st met
theorem pu(xs:List Itm)(met:Qd):mQ xs [] met=met:=yB _ _ _
theorem jN(xs:List Itm)(d:Int×Int)(st met:Qd):mQ xs (d::st) met=if d∈met then mQ xs st met else mQ xs ((aF xs d).1.pars++st) (met++[d]):=by
 have B:=ky xs st met d;rw[show mQ xs (d::st) met=Kk xs (mea xs st met+1) (d::st) met by unfold mQ; rw[B],Kk];by_cases A:d∈met
 ·rw[if_pos A,if_pos A]; rfl
 ·rw[if_neg A,if_neg A]
  have C:=ui (xs:=xs) (st:=st) A;exact uH xs _ _ _ _ (by omega) nr
theorem nK(xs:List Itm):∀(f:Nat) (ds st met:Qd),mea xs ds met<=f->mQ xs (ds++st) met=mQ xs st (mQ xs ds met)
 | f,[],st,met,_=>by rw[pu]; rfl
 | 0,d::ds,st,met,h=>by unfold mea at h; simp at h
 | f+1,d::ds,st,met,h=>by
  have B:=ky xs ds met d;rw[bz,jN,jN xs d ds met];by_cases A:d∈met
  ·rw[if_pos A,if_pos A]
   exact nK xs f ds st met (by omega)
  ·rw[if_neg A,if_neg A]
   have C:=ui (xs:=xs) (st:=ds) A;rw[<-ay];exact nK xs f _ st _ (by omega)
def PK(xs:List Itm):Bool:=xs.any fun x=>decide (x.d∈mQ xs (aF xs x.d).1.pars [])
open Go.RowKit Go.Shelf Go.Sort
theorem Gr(a:Qa)(xs:List Itm)(c:Nat)(x y:Int)(w:World)(Z:jQ w a xs c)(Y:Asc xs):
  Qh 82 #[.slice a xs.length c,.agg #[.int .u64 x,.int .u64 y]] w (Kq w (aF xs (x,y)).1 (aF xs (x,y)).2):=by
 have O:=Qf (fun W (hW:PM w W)=>yw a xs c x y W (Z.below hW) Y);obtain⟨n,T⟩:=Qe xs.length;rw[<-T] at O ⊢;have D:Qg (aF xs (x,y)=if(dW xs (x,y)).2≠0 then(obZ,8) else if(dW xs (x,y)).1.kind≠3 then(obZ,9) else((dW xs (x,y)).1,0)):=Qf rfl;generalize dW xs (x,y)=OE at O D;obtain⟨o,er⟩:=OE;simp only at O D;generalize aF xs (x,y)=CR at D ⊢;obtain⟨w0,C⟩:=Qe ((w.alloc (.cells #[.int .u64 x,.int .u64 y] 54)).alloc (.cells #[.int .i64 0,.string ⟨#[]⟩,.slice none 0 0,.int .u64 0,.int .u64 0,.slice none 0 0,.string ⟨#[]⟩,.int .i64 0,.string ⟨#[]⟩] 59));have P:Qg (BK (w.heap.size+1) #[.int .i64 0,.string ⟨#[]⟩,.slice none 0 0,.int .u64 0,.int .u64 0,.slice none 0 0,.string ⟨#[]⟩,.int .i64 0,.string ⟨#[]⟩] 59 w0):=Qf (by rw[C]; exact BK.new2 _ _ _ _);have F:Qg (PM w w0):=Qf (by rw[C]; exact(ba w _).alloc (by simp) _);have H:w0.heap.size=w.heap.size+2:=by rw[C]; simp
 have L:=Qf (O.o w0 F.o);rw[C] at L;have S:=Qf C;clear C O T Z Y;go_enter Tryz.func82,Tryz.ntmps82;go_wp2_with fail
 refine L.o.mono ?_;rintro e v ⟨ea,ec,pa,pc,rfl,G,U⟩
 rw[<-S.o] at U G;rw[H] at G;have I:=Qf (F.o.trans (U.mono F.o.size));have M:=Qf (P.o.below U);have Q:=Qf G;have hv:=M.o.lt;clear G U L S F P H;obtain⟨kind,data,ents,⟨t1,t2⟩,pars,author,time,msg⟩:=o;obtain⟨v2,B⟩:=Qe (v.alloc (.cells (Ob.arr ⟨kind,data,ents,(t1,t2),pars,author,time,msg⟩ ea ec pa pc) 59));have K:Qg (∀W,CR=(⟨kind,data,ents,(t1,t2),pars,author,time,msg⟩,0)->v2.grownBy W (some (w.heap.size+1))->PM w W->Kq w CR.1 CR.2 (.returned (.tuple #[.agg #[.int .i64 kind,.string ⟨data.toArray⟩,.slice ea ents.length ec,.int .u64 t1,.int .u64 t2,.slice pa pars.length pc,.string ⟨author.toArray⟩,.int .i64 time,.string ⟨msg.toArray⟩],.int .i64 0])) W):=Qf (fun W hc h1 h2=>by
  rw[hc];have hO:=Q.o.below (show PM v v2 by rw[B]; exact ba _ _);exact⟨ea,ec,pa,pc,rfl,(hO.kept h1 (by omega)).le (by omega),h2⟩)
 have N:Qg (BK (w.heap.size+1) #[.int .i64 0,.string ⟨#[]⟩,.slice none 0 0,.int .u64 0,.int .u64 0,.slice none 0 0,.string ⟨#[]⟩,.int .i64 0,.string ⟨#[]⟩] 59 v2):=Qf (by rw[B]; exact M.o.alloc _);have E:Qg (BK v.heap.size (Ob.arr ⟨kind,data,ents,(t1,t2),pars,author,time,msg⟩ ea ec pa pc) 59 v2):=Qf (by rw[B]; exact BK.new _ _ _);have J:Qg (PM w v2):=Qf (by rw[B]; exact I.o.alloc I.o.size _);simp only[Ob.arr] at B E;simp only[Ob.val];generalize ents.length=ne at K B E ⊢;generalize pars.length=np at K B E ⊢;have R:=Qf B;clear B I M Q;have A7:v.heap.size≠w.heap.size+1:=by omega
 go_upto_region 2 with(fail)
 rw[<-R.o];obtain⟨r0,r1,r2,r3,r4,r5,r6,r7,r8⟩:=BK.c9 N.o;obtain⟨fr0,fr1,fr2,fr3,fr4,fr5,fr6,fr7,fr8⟩:=BK.f9 (N.o);obtain⟨o0,o1,o2,o3,o4,o5,o6,o7,o8⟩:=BK.c9 E.o;clear R N E;by_cases V:er=0
 ·subst V
  simp only[ne_eq,not_true_eq_false,if_false] at D;by_cases X:kind=3
  ·subst X
   simp only[not_true_eq_false,if_false] at D;go_wp2_with fail;refine bodyPost_ret (v:=.tuple #[.agg #[.int .i64 3,.string ⟨data.toArray⟩,.slice ea ne ec,.int .u64 t1,.int .u64 t2,.slice pa np pc,.string ⟨author.toArray⟩,.int .i64 time,.string ⟨msg.toArray⟩],.int .i64 0]) (by simp[results,Tryz.results82,go_sem,r0,r1,r2,r3,r4,r5,r6,r7,r8]) rfl ?_;refine K.o _ D.o ?_ ?_
   ·exact(fM (fM (fM (fM (fM (fM (fM (fM (dN _ _ _ _) _ _) _ _) _ _) _ _) _ _) _ _) _ _) _ _)
   ·exact((((((((J.o.setCell (by simp) _).setCell (by simp) _).setCell (by simp) _).setCell (by simp) _).setCell (by simp) _).setCell (by simp) _).setCell (by simp) _).setCell (by simp) _).setCell (by simp) _
  ·have A6:(kind !=3)=true:=by simpa using X
   rw[if_pos X] at D;go_wp2_with fail;refine bodyPost_ret (v:=.tuple #[obZ.val none 0 none 0,.int .i64 9]) (by simp[results,Tryz.results82,go_sem,obZ,r0,r1,r2,r3,r4,r5,r6,r7,r8]) rfl ?_;rw[D.o];exact⟨none,0,none,0,rfl,dZ.zero _ _,((((((((J.o.setCell (by simp) _).setCell (by simp) _).setCell (by simp) _).setCell (by simp) _).setCell (by simp) _).setCell (by simp) _).setCell (by simp) _).setCell (by simp) _).setCell (by simp) _⟩
 ·have A5:(er !=0)=true:=by simpa using V
  simp only[ne_eq] at D;rw[if_pos V] at D;go_wp2_with fail;refine bodyPost_ret (v:=.tuple #[obZ.val none 0 none 0,.int .i64 8]) (by simp[results,Tryz.results82,go_sem,obZ,r0,r1,r2,r3,r4,r5,r6,r7,r8]) rfl ?_;rw[D.o];exact⟨none,0,none,0,rfl,dZ.zero _ _,((((((((J.o.setCell (by simp) _).setCell (by simp) _).setCell (by simp) _).setCell (by simp) _).setCell (by simp) _).setCell (by simp) _).setCell (by simp) _).setCell (by simp) _).setCell (by simp) _⟩
theorem KG(a:Qa)(xs:List Itm)(c:Nat)(x y:Int)(w:World)(hp:Its w.heap.size w a xs)(Y:Asc xs)(hn:(xs.length:Int)<=1000000)(Z:∀x∈xs,(x.data.length:Int)<=1000000):
  Qh 42 #[.slice a xs.length c,.agg #[.int .u64 x,.int .u64 y]] w (Kq w (aF xs (x,y)).1 (aF xs (x,y)).2):=by
 have O:=Qf (fun W (hW:PM w W)=>KE a xs c x y W (hp.ahead hW) Y hn Z);obtain⟨n,T⟩:=Qe xs.length;rw[<-T] at O ⊢;have D:Qg (aF xs (x,y)=if(dW xs (x,y)).2≠0 then(obZ,8) else if(dW xs (x,y)).1.kind≠3 then(obZ,9) else((dW xs (x,y)).1,0)):=Qf rfl;generalize dW xs (x,y)=OE at O D;obtain⟨o,er⟩:=OE;simp only at O D;generalize aF xs (x,y)=CR at D ⊢;obtain⟨w0,C⟩:=Qe ((w.alloc (.cells #[.int .u64 x,.int .u64 y] 54)).alloc (.cells #[.int .i64 0,.string ⟨#[]⟩,.slice none 0 0,.int .u64 0,.int .u64 0,.slice none 0 0,.string ⟨#[]⟩,.int .i64 0,.string ⟨#[]⟩] 59));have P:Qg (BK (w.heap.size+1) #[.int .i64 0,.string ⟨#[]⟩,.slice none 0 0,.int .u64 0,.int .u64 0,.slice none 0 0,.string ⟨#[]⟩,.int .i64 0,.string ⟨#[]⟩] 59 w0):=Qf (by rw[C]; exact BK.new2 _ _ _ _);have F:Qg (PM w w0):=Qf (by rw[C]; exact(ba w _).alloc (by simp) _);have H:w0.heap.size=w.heap.size+2:=by rw[C]; simp
 have L:=Qf (O.o w0 F.o);rw[C] at L;have S:=Qf C;clear C O T hp Y hn Z;go_enter Tryz.func42,Tryz.ntmps42;go_wp2_with fail
 refine L.o.mono ?_;rintro e v ⟨ea,ec,pa,pc,rfl,G,U⟩
 rw[<-S.o] at U G;rw[H] at G;have I:=Qf (F.o.trans (U.mono F.o.size));have M:=Qf (P.o.below U);have Q:=Qf G;have hv:=M.o.lt;clear G U L S F P H;obtain⟨kind,data,ents,⟨t1,t2⟩,pars,author,time,msg⟩:=o;obtain⟨v2,B⟩:=Qe (v.alloc (.cells (Ob.arr ⟨kind,data,ents,(t1,t2),pars,author,time,msg⟩ ea ec pa pc) 59));have K:Qg (∀W,CR=(⟨kind,data,ents,(t1,t2),pars,author,time,msg⟩,0)->v2.grownBy W (some (w.heap.size+1))->PM w W->Kq w CR.1 CR.2 (.returned (.tuple #[.agg #[.int .i64 kind,.string ⟨data.toArray⟩,.slice ea ents.length ec,.int .u64 t1,.int .u64 t2,.slice pa pars.length pc,.string ⟨author.toArray⟩,.int .i64 time,.string ⟨msg.toArray⟩],.int .i64 0])) W):=Qf (fun W hc h1 h2=>by
  rw[hc];have hO:=Q.o.below (show PM v v2 by rw[B]; exact ba _ _);exact⟨ea,ec,pa,pc,rfl,(hO.kept h1 (by omega)).le (by omega),h2⟩)
 have N:Qg (BK (w.heap.size+1) #[.int .i64 0,.string ⟨#[]⟩,.slice none 0 0,.int .u64 0,.int .u64 0,.slice none 0 0,.string ⟨#[]⟩,.int .i64 0,.string ⟨#[]⟩] 59 v2):=Qf (by rw[B]; exact M.o.alloc _);have E:Qg (BK v.heap.size (Ob.arr ⟨kind,data,ents,(t1,t2),pars,author,time,msg⟩ ea ec pa pc) 59 v2):=Qf (by rw[B]; exact BK.new _ _ _);have J:Qg (PM w v2):=Qf (by rw[B]; exact I.o.alloc I.o.size _);simp only[Ob.arr] at B E;simp only[Ob.val];generalize ents.length=ne at K B E ⊢;generalize pars.length=np at K B E ⊢;have R:=Qf B;clear B I M Q;have A9:v.heap.size≠w.heap.size+1:=by omega
 go_upto_region 2 with(fail)
 rw[<-R.o];obtain⟨r0,r1,r2,r3,r4,r5,r6,r7,r8⟩:=BK.c9 N.o;obtain⟨fr0,fr1,fr2,fr3,fr4,fr5,fr6,fr7,fr8⟩:=BK.f9 (N.o);obtain⟨o0,o1,o2,o3,o4,o5,o6,o7,o8⟩:=BK.c9 E.o;clear R N E;by_cases V:er=0
 ·subst V
  simp only[ne_eq,not_true_eq_false,if_false] at D;by_cases X:kind=3
  ·subst X
   simp only[not_true_eq_false,if_false] at D;go_wp2_with fail;refine bodyPost_ret (v:=.tuple #[.agg #[.int .i64 3,.string ⟨data.toArray⟩,.slice ea ne ec,.int .u64 t1,.int .u64 t2,.slice pa np pc,.string ⟨author.toArray⟩,.int .i64 time,.string ⟨msg.toArray⟩],.int .i64 0]) (by simp[results,Tryz.results42,go_sem,r0,r1,r2,r3,r4,r5,r6,r7,r8]) rfl ?_;refine K.o _ D.o ?_ ?_
   ·exact(fM (fM (fM (fM (fM (fM (fM (fM (dN _ _ _ _) _ _) _ _) _ _) _ _) _ _) _ _) _ _) _ _)
   ·exact((((((((J.o.setCell (by simp) _).setCell (by simp) _).setCell (by simp) _).setCell (by simp) _).setCell (by simp) _).setCell (by simp) _).setCell (by simp) _).setCell (by simp) _).setCell (by simp) _
  ·have A8:(kind !=3)=true:=by simpa using X
   rw[if_pos X] at D;go_wp2_with fail;refine bodyPost_ret (v:=.tuple #[obZ.val none 0 none 0,.int .i64 9]) (by simp[results,Tryz.results42,go_sem,obZ,r0,r1,r2,r3,r4,r5,r6,r7,r8]) rfl ?_;rw[D.o];exact⟨none,0,none,0,rfl,dZ.zero _ _,((((((((J.o.setCell (by simp) _).setCell (by simp) _).setCell (by simp) _).setCell (by simp) _).setCell (by simp) _).setCell (by simp) _).setCell (by simp) _).setCell (by simp) _).setCell (by simp) _⟩
 ·have A7:(er !=0)=true:=by simpa using V
  simp only[ne_eq] at D;rw[if_pos V] at D;go_wp2_with fail;refine bodyPost_ret (v:=.tuple #[obZ.val none 0 none 0,.int .i64 8]) (by simp[results,Tryz.results42,go_sem,obZ,r0,r1,r2,r3,r4,r5,r6,r7,r8]) rfl ?_;rw[D.o];exact⟨none,0,none,0,rfl,dZ.zero _ _,((((((((J.o.setCell (by simp) _).setCell (by simp) _).setCell (by simp) _).setCell (by simp) _).setCell (by simp) _).setCell (by simp) _).setCell (by simp) _).setCell (by simp) _).setCell (by simp) _⟩
theorem wU(h:OkD d):WideAt.IsKeyLit (Ef d):=Ki.key (fK h)
def Fj(v:Value):Option (DataW Value×List MemPlace):=some (.held v,[])
def Mo:Option Value->DataW Value->DataW Value
 | some v,_=>.held v
 | none,z=>z
def qI(b n:Nat)(F:Int×Int->Option Value)(W:World):Prop:=
 ∃D:DataW Value,W.ownsMap Tryz.prog 54 Fj b n D/\∀d,OkD d->∀z,D.atKey (Ef d) z=Mo (F d) z
section
variable {b n:Nat} {F:Int×Int->Option Value} {W:World}
theorem qI.mono{n':Nat}(h:qI b n F W)(C:n<=n'):qI b n' F W:=by obtain⟨D,A,B⟩:=h; exact⟨D,A.mono C,B⟩
theorem Le{D:DataW Value}{k:Lit}(h:∀z,D.atKey k z=Mo o z):Maps.has D k=o.isSome:=by
 cases o with
 | none=>exact Maps.has_false_of_atKey h
 | some v=>exact Maps.has_true_of_atKey h
theorem Hf{y:DataW Value×List MemPlace}(h:Fj v=some y):y=(.held v,[]):=by unfold Fj at h; injection h with h; exact h.symm
theorem Im{ps:List MemPlace}(h:Fj v=some (Mo o (.held z),ps)):v=o.getD z:=by
 have:=Hf h;cases o <;> simp[Mo] at this ⊢ <;> exact this.1.symm
theorem qI.look{t e:TypeId}(h:qI b n F W)(I:Tryz.prog.underlying t=some (.map 54 e))(J:(zeroValue e).run Tryz.prog W=.ok z W){x y:Int}(C:OkD (x,y)):(Instr.lookup t (.map (some b)) (.agg #[.int .u64 x,.int .u64 y]) false).run Tryz.prog W=.ok ((F (x,y)).getD z) W:=by
 obtain⟨D,G,H⟩:=h;obtain⟨v,ps,B,E⟩:=G.lookup Ki I J (zd:=.held z) (zp:=[]) rfl (fK C);rw[H _ C] at E;rw[B,Im E]
variable {r cnt:Nat} {left:Int×Int->Bool}
end
attribute [local go_sem] Oper.semAt_some
section
variable {xs:List Itm} {B b n:Nat} {met:Qd} {A:Int×Int->Qa×Nat} {W W':World}
end
section
variable {xs:List Itm} {w0 W W':World} {b n ob:Nat} {met row:Qd} {Ds:List Nat} {A:Int×Int->Qa×Nat} {v v':Value}
end
