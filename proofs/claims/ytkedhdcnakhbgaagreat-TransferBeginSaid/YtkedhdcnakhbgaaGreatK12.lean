/- Joined texts: HiRw, HiCw, HiCx, HiEx, HiLw, HiAw, HiLx, HiPo, HiSm, HiFi. -/
import Derived.Test.YtkedhdcnakhbgaaGreatK10
import Derived.Test.YtkedhdcnakhbgaaGreatK11
/- The reference's visit and all. -/
set_option linter.unusedSimpArgs false
set_option maxRecDepth 100000
set_option maxHeartbeats 16000000
namespace Go.Proofs.YtkedhdcnakhbgaaGreat
open Go.RowKit Go.Shelf
set_option linter.unusedVariables false
variable {k:Nat}{A1:Qa}{T1:Qd}{u:World}
theorem snD1{c1:Nat}(P:dE u.heap.size u A1 T1)(x1 x2:Int)(Q:((T1.length:Nat):Int)<=900000)(N:T1.length=k):
  ∃(v1:Value) (z1:World) (a3:Qa) (c3:Nat) (z3:World),Qg ((Builtin.append_ #[24,24] 24 #[.slice (some ⟨u.heap.size,0,none⟩) 0 0,.slice A1 k c1]).run Tryz.prog ((u.alloc (.cells #[] 54)).drew)=.ok v1 z1)/\Qg ((Builtin.append_ #[24,24] 24 #[v1,.slice (some ⟨z1.heap.size,0,none⟩) 1 1]).run Tryz.prog (z1.alloc (.cells #[.int .u64 x1,.int .u64 x2] 54))=.ok (.slice a3 (k+1) c3) z3)/\PM u z1/\Qg (z3.ownsRow u.heap.size 54 2 (.slice a3 (k+1) c3) (k+1) (aW (T1++[(x1,x2)]))/\k+1<=c3/\PM u z3):=by
 have O:(u.alloc (.cells #[] 54)).drew.ownsRow u.heap.size 54 2 (.slice (some ⟨u.heap.size,0,none⟩) 0 0) 0 []:=(World.ownsRow_made (size:=2) u #[] 0 nr (by decide) rfl).drew;have F:PM u (u.alloc (.cells #[] 54)).drew:=(ba u _).drew;obtain⟨v1,z1,G,C,K,_⟩:=dM (u.alloc (.cells #[] 54)).drew u.heap.size 24 _ [] O A1 T1 c1 (dE.ahead P F) (by simp; omega) F.size;have D:PM u z1:=gM F O K nr;obtain⟨v2,z2,M,B,L,_⟩:=gz C x1 x2 (by simp; omega) D.size;have E:=C.alloc (.cells #[.int .u64 x1,.int .u64 x2] 54);have H:PM u (z1.alloc (.cells #[.int .u64 x1,.int .u64 x2] 54)):=D.alloc D.size _;rw[N] at G;have I:PM u z2:=gM H E L nr;rw[show(([]:Qd)++T1++[(x1,x2)]).length=k+1 by simp[N],aY] at B;obtain⟨a3,c3,rfl,J⟩:=aB B;exact⟨v1,z1,a3,c3,z2,Qf G,Qf M,D,Qf ⟨B,J,I⟩⟩
theorem snD2{c1:Nat}(P:dE u.heap.size u A1 T1)(x1 x2:Int)(Q:((T1.length:Nat):Int)<=900000)(N:T1.length=k):
  ∃(v1:Value) (z1:World) (a3:Qa) (c3:Nat) (z3:World),Qg ((Builtin.append_ #[24,24] 24 #[.slice (some ⟨u.heap.size,0,none⟩) 0 0,.slice A1 k c1]).run Tryz.prog (((u.alloc (.cells #[] 54)).alloc (.cells #[.int .u64 x1,.int .u64 x2] 54)).drew)=.ok v1 z1)/\Qg ((Builtin.append_ #[24,24] 24 #[v1,.slice (some ⟨(u.heap.size+1),0,none⟩) 1 1]).run Tryz.prog (z1)=.ok (.slice a3 (k+1) c3) z3)/\PM u z1/\Qg (z3.ownsRow u.heap.size 54 2 (.slice a3 (k+1) c3) (k+1) (aW (T1++[(x1,x2)]))/\k+1<=c3/\PM u z3):=by
 have O:(((u.alloc (.cells #[] 54)).alloc (.cells #[.int .u64 x1,.int .u64 x2] 54)).drew).ownsRow u.heap.size 54 2 (.slice (some ⟨u.heap.size,0,none⟩) 0 0) 0 []:=by
  exact((World.ownsRow_made (size:=2) u #[] 0 nr (by decide) rfl).alloc (.cells #[.int .u64 x1,.int .u64 x2] 54)).drew
 have D:PM u (((u.alloc (.cells #[] 54)).alloc (.cells #[.int .u64 x1,.int .u64 x2] 54)).drew):=((ba u _).alloc (by simp) _).drew;have K:BK (u.heap.size+1) #[.int .u64 x1,.int .u64 x2] 54 (((u.alloc (.cells #[] 54)).alloc (.cells #[.int .u64 x1,.int .u64 x2] 54)).drew):=BK.new2 u (.cells #[] 54) #[.int .u64 x1,.int .u64 x2] 54;obtain⟨v1,z1,G,C,F,_⟩:=dM (((u.alloc (.cells #[] 54)).alloc (.cells #[.int .u64 x1,.int .u64 x2] 54)).drew) u.heap.size 24 _ [] O A1 T1 c1 (dE.ahead P D) (by simp; omega) D.size;have E:PM u z1:=gM D O F nr;have L:BK (u.heap.size+1) #[.int .u64 x1,.int .u64 x2] 54 z1:=K.grow1 F (by simp);obtain⟨v2,z2,M,B,J,_⟩:=dM z1 u.heap.size 24 v1 _ C (some ⟨(u.heap.size+1),0,none⟩) [(x1,x2)] 1 (EC L) (by simp; omega) E.size;rw[N] at G;have H:PM u z2:=gM E C J nr;rw[show(([]:Qd)++T1++[(x1,x2)]).length=k+1 by simp[N],aY] at B;obtain⟨a3,c3,rfl,I⟩:=aB B;exact⟨v1,z1,a3,c3,z2,Qf G,Qf M,E,Qf ⟨B,I,H⟩⟩
theorem snD3{c1:Nat}(P:dE u.heap.size u A1 T1)(x1 x2:Int)(Q:((T1.length:Nat):Int)<=900000)(N:T1.length=k):
  ∃(v1:Value) (z1:World) (a3:Qa) (c3:Nat) (z3:World),Qg ((Builtin.append_ #[24,24] 24 #[.slice (some ⟨(u.heap.size+1),0,none⟩) 0 0,.slice A1 k c1]).run Tryz.prog (((u.alloc (.cells #[.int .u64 x1,.int .u64 x2] 54)).alloc (.cells #[] 54)).drew)=.ok v1 z1)/\Qg ((Builtin.append_ #[24,24] 24 #[v1,.slice (some ⟨u.heap.size,0,none⟩) 1 1]).run Tryz.prog (z1)=.ok (.slice a3 (k+1) c3) z3)/\PM u z1/\Qg (z3.ownsRow u.heap.size 54 2 (.slice a3 (k+1) c3) (k+1) (aW (T1++[(x1,x2)]))/\k+1<=c3/\PM u z3):=by
 have O:(((u.alloc (.cells #[.int .u64 x1,.int .u64 x2] 54)).alloc (.cells #[] 54)).drew).ownsRow u.heap.size 54 2 (.slice (some ⟨(u.heap.size+1),0,none⟩) 0 0) 0 []:=by
  have:=(World.ownsRow_made (size:=2) (base:=u.heap.size) (e:=54) (u.alloc (.cells #[.int .u64 x1,.int .u64 x2] 54)) #[] 0 (by simp) (by decide) rfl).drew
  rwa[World.size_alloc] at this
 have D:PM u (((u.alloc (.cells #[.int .u64 x1,.int .u64 x2] 54)).alloc (.cells #[] 54)).drew):=((ba u _).alloc (by simp) _).drew;have K:BK u.heap.size #[.int .u64 x1,.int .u64 x2] 54 (((u.alloc (.cells #[.int .u64 x1,.int .u64 x2] 54)).alloc (.cells #[] 54)).drew):=(BK.new u #[.int .u64 x1,.int .u64 x2] 54).alloc (.cells #[] 54);obtain⟨v1,z1,G,C,F,_⟩:=dM (((u.alloc (.cells #[.int .u64 x1,.int .u64 x2] 54)).alloc (.cells #[] 54)).drew) u.heap.size 24 _ [] O A1 T1 c1 (dE.ahead P D) (by simp; omega) D.size;have E:PM u z1:=gM D O F nr;have L:BK u.heap.size #[.int .u64 x1,.int .u64 x2] 54 z1:=K.grow1 F (by simp);obtain⟨v2,z2,M,B,J,_⟩:=dM z1 u.heap.size 24 v1 _ C (some ⟨u.heap.size,0,none⟩) [(x1,x2)] 1 (EC L) (by simp; omega) E.size;rw[N] at G;have H:PM u z2:=gM E C J nr;rw[show(([]:Qd)++T1++[(x1,x2)]).length=k+1 by simp[N],aY] at B;obtain⟨a3,c3,rfl,I⟩:=aB B;exact⟨v1,z1,a3,c3,z2,Qf G,Qf M,E,Qf ⟨B,I,H⟩⟩
theorem sD(xs:List Itm)(rest:Qd):∀(f:Nat) (st cur:Qd),mea xs st cur<=f->(mQ xs st cur).length+mea xs rest (mQ xs st cur)<=cur.length+mea xs (st++rest) cur
 | f,[],cur,_=>by rw[pu]; exact nr
 | 0,d::st,cur,h=>by unfold mea at h; simp at h
 | f+1,d::st,cur,h=>by
  have C:=ky xs st cur d;have D:=ky xs (st++rest) cur d;rw[jN,bz];by_cases A:d∈cur
  ·rw[if_pos A]
   have:=sD xs rest f st cur (by omega);omega
  ·rw[if_neg A]
   have B:=ui (xs:=xs) (st:=st) A;have E:=ui (xs:=xs) (st:=st++rest) A;have:=sD xs rest f _ (cur++[d]) (aC (Nat.le_of_succ_le_succ (aC B h)) nr);rw[ay] at this;simp at this;omega
theorem CP(xs:List Itm):∀(f:Nat) (st cur:Qd),mea xs st cur<=f->cur.length<=(mQ xs st cur).length
 | f,[],cur,_=>by rw[pu]; exact nr
 | 0,d::st,cur,h=>by unfold mea at h; simp at h
 | f+1,d::st,cur,h=>by
  have C:=ky xs st cur d;rw[jN];by_cases A:d∈cur
  ·rw[if_pos A]; exact CP xs f st cur (by omega)
  ·rw[if_neg A]
   have B:=ui (xs:=xs) (st:=st) A;have:=CP xs f _ (cur++[d]) (Nat.le_of_succ_le_succ (aC B h));simp at this;omega
theorem Ll(xs:List Itm)(p:Int×Int)(rest cur:Qd)(h:p∉cur):mQ xs (p::rest) cur=mQ xs rest (mQ xs (aF xs p).1.pars (cur++[p])):=by
 rw[jN,if_neg h,nK xs _ _ _ _ nr]
theorem Dp{K:Act->World->Prop}{Q:Exit->Act->World->Prop}{a:Act}(w:World)(h:Exit.then K Q .normal a w):Exit.then K Q .normal a w:=h
def GotFo(w:World)(L:Qd)(e:Ending)(w':World):Prop:=∃a c,e=.returned (.slice a L.length c)/\dE w'.heap.size w' a L/\L.length<=c/\PM w w'
theorem Ca(a:Qa)(xs:List Itm)(c:Nat)(hA:Asc xs)(hn:(xs.length:Int)<=1000000)(hd:∀x∈xs,(x.data.length:Int)<=1000000):
  ∀(f:Nat) (sa:Qa) (seen:Qd) (sc:Nat) (x y:Int) (w:World),Its w.heap.size w a xs->dE w.heap.size w sa seen->seen.length<=sc->((seen.length+mea xs (aF xs (x,y)).1.pars seen:Nat):Int)<=900000->mea xs (aF xs (x,y)).1.pars seen<=f->
  Qh 79 #[.slice a xs.length c,.agg #[.int .u64 x,.int .u64 y],.slice sa seen.length sc] w (GotFo w (mQ xs (aF xs (x,y)).1.pars seen)):=by
 intro f;induction f using Nat.strongRecOn with
 | _ f ih=>
  intro sa seen sc x y w hp hs B3 E9 hf;have D4:=Qf ih;clear ih;have B8:=Qf (fun d1 d2 W (hW:Its W.heap.size W a xs)=>KG a xs c d1 d2 W hW hA hn hd);have HP:=Qf hp;have HS:=Qf hs;obtain⟨R,hR⟩:=Qe (mQ xs (aF xs (x,y)).1.pars seen);rw[<-hR];obtain⟨nx,E6⟩:=Qe xs.length;rw[<-E6] at D4 B8 ⊢;obtain⟨m,hm⟩:=Qe seen.length;have HM:=Qf hm;have L:=Qf hR;have I:=Qf hf;have S:=Qf E9;have Y:Qg ((aF xs (x,y)).2≠0->(aF xs (x,y)).1.pars=[]):=Qf xZ;have K:Qg ((aF xs (x,y)).2=0->(aF xs (x,y)).1.pars.length<=200):=Qf (fun h=>xV h);obtain⟨w0,B4⟩:=Qe (w.alloc (.cells #[.int .u64 x,.int .u64 y] 54));have A6:Qg (PM w w0):=Qf (by rw[B4]; exact ba w _);have X:=Qf (B8.o x y w0 (hp.ahead A6.o));rw[<-hm] at B3 ⊢;rw[B4] at X;have E1:=Qf B4;generalize aF xs (x,y)=OE at X L I S K Y;obtain⟨o,er⟩:=OE;simp only at X L I S K Y;clear B4 hR hm E6 hp hs hf E9 hn hd hA B8;go_enter Tryz.func79,Tryz.ntmps79;go_wp2_with fail
  refine X.o.mono ?_;rintro e u2 ⟨ea,ec,pa,pc,rfl,C6,D⟩
  rw[<-E1.o] at C6 D;have U:=Qf (A6.o.trans (D.mono A6.o.size));have C3:=Qf (iy C6.po);clear D C6 X A6 E1;obtain⟨kind,data,ents,⟨t1,t2⟩,pars,author,time,msg⟩:=o;simp only[Ob.val];simp only at L I S C3 K Y;obtain⟨ne,E4⟩:=Qe ents.length;obtain⟨n,B2⟩:=Qe pars.length;rw[<-E4,<-B2];rw[<-B2] at K;have D8:=Qf B2;clear E4 B2;obtain⟨u3,E⟩:=Qe (u2.alloc (.cells #[.int .i64 kind,.string ⟨data.toArray⟩,.slice ea ne ec,.int .u64 t1,.int .u64 t2,.slice pa n pc,.string ⟨author.toArray⟩,.int .i64 time,.string ⟨msg.toArray⟩] 59));by_cases he:er=0
  ·subst he
   have H3:=K.o rfl;have D7:Qg (BK u2.heap.size #[.int .i64 kind,.string ⟨data.toArray⟩,.slice ea ne ec,.int .u64 t1,.int .u64 t2,.slice pa n pc,.string ⟨author.toArray⟩,.int .i64 time,.string ⟨msg.toArray⟩] 59 u3):=Qf (by rw[E]; exact BK.new _ _ _);have F:Qg (PM w u3):=Qf (by rw[E]; exact U.o.alloc U.o.size _);have B5:Qg (dE u3.heap.size u3 pa pars):=Qf (by rw[E]; exact C3.o.ahead (ba _ _));have B6:=Qf (HS.o.ahead F.o);have E0:=Qf E;clear E K U C3 Y;go_wp2_with fail;rw[<-E0.o];clear E0;go_loopw [2,9] (fun v i wr=>∃(k:Nat) (cur:Qd) (ca:Qa) (cc q:Nat),k<=n/\v=.slice ca q cc/\Qg (q=cur.length)/\q<=cc/\i=.int .i64 k/\Qg (dE wr.heap.size wr ca cur)/\Qg (PM w wr)/\Qg (BK u2.heap.size #[.int .i64 kind,.string ⟨data.toArray⟩,.slice ea ne ec,.int .u64 t1,.int .u64 t2,.slice pa n pc,.string ⟨author.toArray⟩,.int .i64 time,.string ⟨msg.toArray⟩] 59 wr)/\Qg (dE wr.heap.size wr pa pars)/\Qg (R=mQ xs (pars.drop k) cur)/\Qg (mea xs (pars.drop k) cur<=f/\((q+mea xs (pars.drop k) cur:Nat):Int)<=900000)) (fun _ i _=>n-(intOf i).toNat)
   case atStart=>exact⟨0,seen,sa,sc,m,by omega,rfl,HM,B3,rfl,B6,F,D7,B5,L,Qf ⟨I.o,by rw[HM.o]; exact S.o⟩⟩
   case round=>
    clear B6 F D7 B5 L I S HS HM B3;obtain⟨k,cur,ca,cc,q,hk,rfl,Q,E7,rfl,HD,HB,HK,Z,L,I⟩:=hrel;obtain⟨o0,o1,o2,o3,o4,o5,o6,o7,o8⟩:=BK.c9 HK.out;by_cases H2:k<n
    ·have h1:k<pars.length:=by have:=D8.o; omega
     obtain⟨b0,of0,F5,H0,q0,q1⟩:=Z.out k h1;subst F5;have G:Qg (pars.drop k=pars[k]::pars.drop (k+1)):=Qf (aN h1);have H:Qg (∀(W:World),dE W.heap.size W (some ⟨b0,of0,none⟩) pars->W.cell? ⟨b0,of0+k*2,none⟩=some (.int .u64 pars[k].1)/\W.cell? ⟨b0,of0+k*2+1,none⟩=some (.int .u64 pars[k].2)):=Qf (fun W h=>by
      obtain⟨b',o',e',_,c1,c2⟩:=h k h1;cases e';exact⟨c1,c2⟩)
     generalize pars[k]=p at q0 q1 G H;obtain⟨p1,p2⟩:=p;simp only at q0 q1 H;have C8:((q:Nat):Int)<=900000:=by have:=I.o; omega
     have J:=Qf (Hr ca cur cc p1 p2 wr HD.out (by rw[<-Q.out]; omega));rw[<-Q.out] at J;have F9:(k:Int)<(n:Int):=by omega
     cases T:decide ((p1,p2)∈cur) with
     | true=>
      rw[T] at J;have B1:Qg (R=mQ xs (pars.drop (k+1)) cur):=Qf (by rw[L.o,G.o,jN,if_pos (by simpa using T)]);have C:Qg (mea xs (pars.drop (k+1)) cur<=f/\((q+mea xs (pars.drop (k+1)) cur:Nat):Int)<=900000):=Qf (by
       have h2:=I.o;rw[G.o] at h2;have h3:=ky xs (pars.drop (k+1)) cur (p1,p2)
       omega)
      clear L I G T H;go_wp2_with fail
      refine J.o.mono ?_;rintro e w6 ⟨rfl,D⟩
      have V:=Qf (HB.out.trans (D.mono HB.out.size));have N:=Qf (HK.out.below D);have P:=Qf (Z.out.ahead D);have M:=Qf (HD.out.ahead D);clear D J HB HK Z HD q0 q1 o0 o1 o2 o3 o4 o5 o6 o7 o8;go_wp2_with fail;go_roundw
      case rel=>exact⟨k+1,cur,ca,cc,q,by omega,rfl,Q,E7,by go_num,M,V,N,P,B1,C⟩
      case measure=>simp[intOf] <;> omega
     | false=>
      rw[T] at J;have E5:(p1,p2)∉cur:=by simpa using T
      have C1:=Qf E5;clear T E5;go_wp2_with fail
      refine J.o.mono ?_;rintro e w6 ⟨rfl,D⟩
      have V:=Qf (HB.out.trans (D.mono HB.out.size));have N:=Qf (HK.out.below D);have P:=Qf (Z.out.ahead D);have M:=Qf (HD.out.ahead D);clear D J HB HK Z HD q0 q1 o0 o1 o2 o3 o4 o5 o6 o7 o8;obtain⟨q0,q1⟩:=H.o w6 P.o;obtain⟨zv1,z1,za,zc,z3,A0,A1,C5,A8⟩:=snD1 (c1:=cc) M.o p1 p2 (by rw[<-Q.out]; exact C8) Q.out.symm;obtain⟨yv1,y1,ya,yc,y3,A2,A3,F6,C⟩:=snD2 (c1:=cc) M.o p1 p2 (by rw[<-Q.out]; exact C8) Q.out.symm;obtain⟨tv1,t1',ta,tc,t3,A4,A5,F7,A9⟩:=snD3 (c1:=cc) M.o p1 p2 (by rw[<-Q.out]; exact C8) Q.out.symm;obtain⟨zq0,zq1⟩:=H.o z1 (P.o.ahead C5);have o5:w6.cell? ⟨u2.heap.size,5,none⟩=some (.slice (some ⟨b0,of0,none⟩) n pc):=by rw[N.o.cell]; rfl
      have zo5:z1.cell? ⟨u2.heap.size,5,none⟩=some (.slice (some ⟨b0,of0,none⟩) n pc):=by rw[(N.o.below C5).cell]; rfl
      have o5a:=fun o=>bP o5 o
      have q0a:=fun o=>bP q0 o
      have q1a:=fun o=>bP q1 o
      clear C5 F6 F7;go_wp2_with fail;go_region_law
       (first
       | ((with_reducible refine pW ((w6.alloc (.cells #[] 54)).drew) ?_); refine bN (by rfl) (.tmp 34) (.tmp 35) _ _ (by rfl) _ _ (by rfl) (by rfl) _ _ A0.out ?_)
       | ((with_reducible refine pW (((w6.alloc (.cells #[] 54)).alloc (.cells #[.int .u64 p1,.int .u64 p2] 54)).drew) ?_); refine bN (by rfl) (.tmp 34) (.tmp 35) _ _ (by rfl) _ _ (by rfl) (by rfl) _ _ A2.out ?_)
       | ((with_reducible refine pW (((w6.alloc (.cells #[.int .u64 p1,.int .u64 p2] 54)).alloc (.cells #[] 54)).drew) ?_); refine bN (by rfl) (.tmp 34) (.tmp 35) _ _ (by rfl) _ _ (by rfl) (by rfl) _ _ A4.out ?_)
       | ((with_reducible refine pW (z1.alloc (.cells #[.int .u64 p1,.int .u64 p2] 54)) ?_); refine bN (by rfl) (.tmp 36) (.tmp 42) _ _ (by rfl) _ _ (by rfl) (by rfl) _ _ A1.out ?_)
       | ((with_reducible refine pW y1 ?_); refine bN (by rfl) (.tmp 36) (.tmp 42) _ _ (by rfl) _ _ (by rfl) (by rfl) _ _ A3.out ?_)
       | ((with_reducible refine pW t1' ?_); refine bN (by rfl) (.tmp 36) (.tmp 42) _ _ (by rfl) _ _ (by rfl) (by rfl) _ _ A5.out ?_)
       | fail)
      all_goals
       first
       | ((with_reducible refine Dp z3 ?_); have B:=A8; clear A8 C A9 A0 A1 A2 A3 A4 A5 zq0 zq1 zo5 o5a q0a q1a; (generalize z3=w9 at B ⊢); (generalize za=qa at B ⊢); (generalize zc=qc at B ⊢))
       | ((with_reducible refine Dp y3 ?_); have B:=C; clear A8 C A9 A0 A1 A2 A3 A4 A5 zq0 zq1 zo5 o5a q0a q1a; (generalize y3=w9 at B ⊢); (generalize ya=qa at B ⊢); (generalize yc=qc at B ⊢))
       | ((with_reducible refine Dp t3 ?_); have B:=A9; clear A8 C A9 A0 A1 A2 A3 A4 A5 zq0 zq1 zo5 o5a q0a q1a; (generalize t3=w9 at B ⊢); (generalize ta=qa at B ⊢); (generalize tc=qc at B ⊢))
      all_goals
       have A7:=Qf (V.o.trans (B.out.2.2.mono V.o.size));have B9:=Qf (N.o.below B.out.2.2);have C2:=Qf (P.o.ahead B.out.2.2);have O:Qg (q+1=(cur++[(p1,p2)]).length):=Qf (by rw[af,Q.out]; rfl);have D3:=Qf (kr O.o B.out.1);have E8:=B.out.2.1;have B0:Qg (mea xs ((aF xs (p1,p2)).1.pars++pars.drop (k+1)) (cur++[(p1,p2)])+1<=mea xs (pars.drop k) cur):=Qf (by rw[G.o]; exact ui C1.o);have C0:Qg (mea xs (aF xs (p1,p2)).1.pars (cur++[(p1,p2)])<=mea xs ((aF xs (p1,p2)).1.pars++pars.drop (k+1)) (cur++[(p1,p2)])):=Qf (by unfold mea; rw[af]; omega);have HV:=Qf (D4.o _ (by have:=B0.o; have:=C0.o; have:=I.o.1; omega) qa (cur++[(p1,p2)]) qc p1 p2 w9 (HP.o.ahead A7.o) D3.o (by rw[<-O.o]; exact E8) (by rw[<-O.o]; have:=B0.o; have:=C0.o; have:=I.o.2; omega) nr);rw[<-O.o] at HV;have B1:Qg (R=mQ xs (pars.drop (k+1)) (mQ xs (aF xs (p1,p2)).1.pars (cur++[(p1,p2)]))):=Qf (by rw[L.o,G.o,Ll xs _ _ _ C1.o]);have C:Qg (mea xs (pars.drop (k+1)) (mQ xs (aF xs (p1,p2)).1.pars (cur++[(p1,p2)]))<=f/\(((mQ xs (aF xs (p1,p2)).1.pars (cur++[(p1,p2)])).length+mea xs (pars.drop (k+1)) (mQ xs (aF xs (p1,p2)).1.pars (cur++[(p1,p2)])):Nat):Int)<=900000):=Qf (by
        have h2:=sD xs (pars.drop (k+1)) _ _ (cur++[(p1,p2)]) (Nat.le_refl (mea xs (aF xs (p1,p2)).1.pars (cur++[(p1,p2)])));have h3:=CP xs _ _ (cur++[(p1,p2)]) (Nat.le_refl (mea xs (aF xs (p1,p2)).1.pars (cur++[(p1,p2)])));have h4:=B0.o;have h5:=I.o;have h6:=O.o
        omega)
       generalize mQ xs (aF xs (p1,p2)).1.pars (cur++[(p1,p2)])=L2 at HV B1 C;clear B V N P M B0 C0 L I G D3 O C1 o5 q0 q1;obtain⟨q0,q1⟩:=H.o w9 C2.o;have o5:w9.cell? ⟨u2.heap.size,5,none⟩=some (.slice (some ⟨b0,of0,none⟩) n pc):=by rw[B9.o.cell]; rfl
       clear H;go_wp2_with fail;refine HV.o.mono ?_;rintro e w10 ⟨da,dc,rfl,E3,E2,D⟩;have D1:=Qf (A7.o.trans (D.mono A7.o.size));have D6:=Qf (B9.o.below D);have D9:=Qf (C2.o.ahead D);have D2:=Qf E3;obtain⟨q2,C7⟩:=Qe L2.length;rw[<-C7] at C E2 ⊢;have F1:=Qf C7;clear D E3 C7 HV A7 B9 C2 q0 q1 o5;go_wp2_with fail;go_roundw
       case rel=>exact⟨k+1,L2,da,dc,q2,by omega,rfl,F1,E2,by go_num,D2,D1,D6,D9,B1,C⟩
       case measure=>simp[intOf] <;> omega
    ·have C4:Qg (R=cur):=Qf (by rw[L.o,dV (by have:=D8.o; omega),pu])
     have F9:¬(k:Int)<(n:Int):=by omega
     clear L I;go_wp2_with fail;go_ret;rw[C4.o];exact⟨ca,cc,by first | (rw[<-Q.out]; done) | (rw[<-Q.out]; rfl),HD.out,by rw[<-Q.out]; exact E7,HB.out⟩
  ·have H1:(er !=0)=true:=by simpa using he
   have C4:Qg (R=seen):=Qf (by rw[L.o,Y.o he,pu]);have F:Qg (PM w u3):=Qf (by rw[E]; exact U.o.alloc U.o.size _);rw[E] at F;clear L I S K E;go_wp2_with fail;go_ret;rw[C4.o];exact⟨sa,sc,by first | (rw[<-HM.o]; done) | (rw[<-HM.o]; rfl),HS.o.ahead F.o,by rw[<-HM.o]; exact B3,F.o⟩
theorem Oi(a:Qa)(xs:List Itm)(c:Nat)(w:World)(hp:Its w.heap.size w a xs)(hA:Asc xs)(hn:(xs.length:Int)<=500)(hd:∀x∈xs,(x.data.length:Int)<=1000000):
  Qh 38 #[.slice a xs.length c] w fun e w'=>e=.returned (.bool (PK xs))/\PM w w':=by
 have J:=Qf (fun d1 d2 W (K:Its W.heap.size W a xs)=>Ca a xs c hA (by omega) hd (mea xs (aF xs (d1,d2)).1.pars []) none [] 0 d1 d2 W K (dE.nil _ _ _) nr (by
  have U:(aF xs (d1,d2)).1.pars.length<=200:=by
   by_cases h:(aF xs (d1,d2)).2=0
   ·exact xV h
   ·rw[xZ h]; simp
  unfold mea;have V:=List.countP_le_length (p:=fun x:Itm=>!decide (x.d∈([]:Qd))) (l:=xs);simp only[aK]
  omega) nr)
 have A0:Qg (∀d,(mQ xs (aF xs d).1.pars []).length<=600000):=Qf (fun d=>by
  have U:(aF xs d).1.pars.length<=200:=by
   by_cases h:(aF xs d).2=0
   ·exact xV h
   ·rw[xZ h]; simp
  have h3:=sD xs [] _ (aF xs d).1.pars [] nr;rw[bG] at h3;have V:=List.countP_le_length (p:=fun x:Itm=>!decide (x.d∈([]:Qd))) (l:=xs);have h4:mea xs (aF xs d).1.pars []<=500200:=by unfold mea; omega
  simp only[aK] at h3
  omega)
 have HP:=Qf hp;obtain⟨R,hR⟩:=Qe (PK xs);rw[<-hR];have HR:=Qf hR;obtain⟨n,N⟩:=Qe xs.length;rw[<-N] at J hn ⊢;have HN:=Qf N;simp only[aK] at J;clear hp hA hd hR N;go_enter Tryz.func38,Tryz.ntmps38;go_wp2_with fail;go_loopw [3] (fun i wr=>∃k:Nat,k<=n/\i=.int .i64 k/\Qg (PM w wr)/\Qg (∀j (h:j<xs.length),j<k->xs[j].d∉mQ xs (aF xs xs[j].d).1.pars [])) (fun i _=>n-(intOf i).toNat)
 case atStart=>exact⟨0,by omega,rfl,Qf (bf _),Qf (fun j h hj=>by omega)⟩
 case round=>
  obtain⟨k,hk,rfl,O,Y⟩:=hrel;have T:=O.out.size;by_cases A9:k<n
  ·have U:k<xs.length:=by rw[<-HN.o]; exact A9
   obtain⟨p0,o0,Q,S,q0,q1,_⟩:=(HP.o.ahead O.out) k U;have P:=Qf (HP.o.ahead O.out);have B7:=Qf Q;subst Q;have H:Qg (xs[k]∈xs):=Qf (ak U);have C:Qg (xs[k].d∉mQ xs (aF xs xs[k].d).1.pars []->∀j (h:j<xs.length),j<k+1->xs[j].d∉mQ xs (aF xs xs[j].d).1.pars []):=Qf (fun B0 j h hj=>by
    rcases gB j k with V | V
    ·exact Y.out j h V
    ·obtain rfl:j=k:=by omega
     exact B0)
   generalize xs[k]=it at q0 q1 H C;obtain⟨⟨d1,d2⟩,dt⟩:=it;simp only at q0 q1 H C;have F:=Qf (fun W (K:PM wr W)=>J.o d1 d2 W (P.o.ahead K));have A8:=A0.o (d1,d2);have I:Qg ((d1,d2)∈mQ xs (aF xs (d1,d2)).1.pars []->R=true):=Qf (fun h=>by
    rw[HR.o];unfold PK;rw[List.any_eq_true];exact⟨_,H.o,by simpa using h⟩)
   generalize mQ xs (aF xs (d1,d2)).1.pars []=L at F C I A8;have G:=Qf (fun fa fc W (h:dE W.heap.size W fa L)=>Hr fa L fc d1 d2 W h (by omega));have E:Qg (∀W,PM wr W->PM wr W/\W.cell? ⟨p0,o0+k*3,none⟩=some (.int .u64 d1)/\W.cell? ⟨p0,o0+k*3+1,none⟩=some (.int .u64 d2)):=Qf (fun W K=>⟨K,(K.cell (p:=⟨p0,o0+k*3,none⟩) S).trans q0,(K.cell (p:=⟨p0,o0+k*3+1,none⟩) S).trans q1⟩);have B:=E.o wr.drew ((bf _).drew);have A7:(k:Int)<(n:Int):=by omega
   clear P H HR;cases D:decide ((d1,d2)∈L) with
   | true=>
    rw[D] at G;have HX:=Qf (I.o (by simpa using D));clear C I D;go_wp2_with fail;go_region_held3 (fun W=>PM wr W/\W.cell? ⟨p0,o0+k*3,none⟩=some (.int .u64 d1)/\W.cell? ⟨p0,o0+k*3+1,none⟩=some (.int .u64 d2))
     (first | exact B | assumption | (refine E.o _ (Below.trans ?_ (Below.mono ‹Below _ _ _› ?_)) <;> first | assumption | exact B.1 | exact B.1.size | exact(‹PM wr _/\_›).1 | exact(‹PM wr _/\_›).1.size))
     (first | ((with_reducible refine(F.o _ B.1).mono ?_); rintro e W3 ⟨fa,fc,rfl,M,A5,hb⟩) | ((with_reducible refine(G.o _ _ _ M).mono ?_); rintro e W4 ⟨rfl,A4⟩) | fail)
    all_goals
     clear B;go_wp2_with fail;go_ret;exact⟨by rw[HX.o]; rfl,O.out.trans ((‹PM wr _/\_›).1.mono T)⟩
   | false=>
    rw[D] at G;have Z:=Qf (C.o (by simpa using D));clear C I D;go_wp2_with fail;go_region_held3 (fun W=>PM wr W/\W.cell? ⟨p0,o0+k*3,none⟩=some (.int .u64 d1)/\W.cell? ⟨p0,o0+k*3+1,none⟩=some (.int .u64 d2))
     (first | exact B | assumption | (refine E.o _ (Below.trans ?_ (Below.mono ‹Below _ _ _› ?_)) <;> first | assumption | exact B.1 | exact B.1.size | exact(‹PM wr _/\_›).1 | exact(‹PM wr _/\_›).1.size))
     (first | ((with_reducible refine(F.o _ B.1).mono ?_); rintro e W3 ⟨fa,fc,rfl,M,A5,hb⟩) | ((with_reducible refine(G.o _ _ _ M).mono ?_); rintro e W4 ⟨rfl,A4⟩) | fail)
    all_goals
     clear B;have X:=Qf (O.out.trans ((‹PM wr _/\_›).1.mono T));go_wp2_with fail;go_roundw
     case rel=>exact⟨k+1,by omega,by go_num,X,Z⟩
     case measure=>simp[intOf] <;> omega
  ·have HX:Qg (R=false):=Qf (by
    rw[HR.o];unfold PK;rw[List.any_eq_false];intro x hx;obtain⟨j,hj,rfl⟩:=aV hx;simpa using Y.out j hj (by have:=HN.o; omega))
   have A7:¬(k:Int)<(n:Int):=by omega
   clear Y;go_wp2_with fail;go_ret;exact⟨by rw[HX.o]; rfl,O.out⟩
open Go.RowKit Go.Shelf Go.Sort
def exO(t:Int)(ps:Qd):Ob:=⟨3,[],[],(1,1),ps,[97,110,110],t,[]⟩
structure ExV (A B C D:Int×Int) (TA TB TC TD:Qb):Prop where
 eA:aR (exO 1 [])=(TA,0)
 eB:aR (exO 2 [A])=(TB,0)
 eC:aR (exO 3 [A])=(TC,0)
 eD:aR (exO 4 [B,C])=(TD,0)
 dA:A=iY TA
 dB:B=iY TB
 dC:C=iY TC
 dD:D=iY TD
 oA:OkD A
 oB:OkD B
 oC:OkD C
 oD:OkD D
 ab:A≠B
 ac:A≠C
 ad:A≠D
 bc:B≠C
 bd:B≠D
 cd:C≠D
 nz:A≠(0,0)
section
variable {P:List Itm} {A B C D:Int×Int} {TA TB TC TD:Qb}
end
structure HV (xs:List Itm):Prop where
 le:xs.length<=40
 dat:∀x∈xs,x.data.length<=500
 asc:Asc xs
 acy:AcyS xs
section
variable {xs:List Itm} {a b c:Int×Int} {hs:Qd}
end
open Go.RowKit
