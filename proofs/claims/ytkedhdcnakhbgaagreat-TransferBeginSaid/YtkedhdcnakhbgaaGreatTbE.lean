/- TransferBegin: the law's walk. -/
import Derived.Test.YtkedhdcnakhbgaaGreatT2
import Derived.Test.YtkedhdcnakhbgaaGreatTrS
set_option linter.unusedSimpArgs false
set_option maxRecDepth 100000
set_option maxHeartbeats 16000000
namespace Go.Proofs.YtkedhdcnakhbgaaGreat
open Go.RowKit Go.Shelf
set_option linter.unusedVariables false
variable {x:Fet}
structure TgA (x:Fet) (A:FetA) (R:Ses) (k:Int) (E:SesA) (w:World):Prop where
 b1:∀W,PM w W->Qh 12 #[.slice A.ha x.xs.length A.hc,.slice A.wa x.want.length A.wc,.slice A.ca x.com.length A.cc] W fun e w'=>e=.returned (.tuple #[R.val E,.int .i64 k])/\PM W w'
 b2:∀W,PM w W->Qh 13 #[.slice A.ha x.xs.length A.hc,.slice A.wa x.want.length A.wc,.slice A.ca x.com.length A.cc] W fun e w'=>e=.returned (.tuple #[R.val E,.int .i64 k])/\PM W w'
 sm:∀W,PM w W->Qh 14 #[R.val E,R.val E] W fun e w'=>e=.returned (.bool true)/\PM W w'
theorem tgA{A:FetA}{w:World}(h:FetCame w x A)(S:FineX x):∃R k E,TgA x A R k E w:=by
 obtain⟨xs,ys,want,com,ts,sz⟩:=x;obtain⟨G,H,ya,yc,wa,wc,ca,cc,ta,tc⟩:=A;obtain⟨F,O,C,D,P,Q⟩:=h;obtain⟨f1,f2,f3,f4,f5,f6⟩:=S;simp only at F O C D P Q f1 f2 f3 f4 f5 f6;obtain⟨T,I⟩:=pgrS f1;obtain⟨U,K⟩:=checkP_zero f2;have M:jQ w G xs H:=⟨F.its,F.cap.1,by omega,fun x N=>by have:=I x N; omega⟩;refine⟨(begS xs want com).1,(begS xs want com).2,begA (begS xs want com) ⟨G,H,wa,wc,ca,cc,none,0⟩,fun W B=>begin_any G xs H wa want wc ca com cc W (M.below B) K (C.dig.ahead B) (D.dig.ahead B) C.ok D.ok (by omega) (by omega) (by omega),fun W B=>rbegin_any G xs H wa want wc ca com cc W (F.its.ahead B) K (C.dig.ahead B) (D.dig.ahead B) (by omega) (fun x N=>by have:=I x N; omega) (by omega) (by omega),fun W B=>?_⟩;have J:SesIn W (begS xs want com).1 (begA (begS xs want com) ⟨G,H,wa,wc,ca,cc,none,0⟩) W.heap.size:=by
  by_cases L:ckcS xs [] com=0
  ·rw[begS_val (by omega) L]
   exact sesN B.size B.size (F.its.below B nr) F.cap.1 f1 f2 (C.dig.below B nr) (D.dig.below B nr) C.cap.1 D.cap.1 C.ok D.ok f3 f4 _
  ·have e:begS xs want com=(ses0,ckcS xs [] com):=by unfold begS; rw[if_neg (by omega),if_pos L]
   rw[e];unfold begA;rw[if_neg L];exact ses0_in
 exact rsame17_any _ _ _ _ _ W J J
structure TgB (s:Ses) (E:SesA) (t:Qb) (g:Int) (a:Qa) (n c:Nat) (k:Int) (v:World):Prop where
 r1:∀W,PM v W->Qh 16 #[.agg (Ses.arr s E)] W fun e w'=>e=.returned (.tuple #[.string ⟨t.toArray⟩,.int .i64 g])/\PM W w'
 r2:∀W,PM v W->Qh 17 #[.agg (Ses.arr s E)] W fun e w'=>e=.returned (.tuple #[.string ⟨t.toArray⟩,.int .i64 g])/\PM W w'
 p1:∀W,PM v W->Qh 18 #[.agg (Ses.arr s E)] W fun e w'=>e=.returned (.tuple #[.slice a n c,.int .i64 k])/\PM W w'
 p2:∀W,PM v W->Qh 19 #[.agg (Ses.arr s E)] W fun e w'=>e=.returned (.tuple #[.slice a n c,.int .i64 k])/\PM W w'
 sm:∀W,PM v W->Qh 20 #[.slice a n c,.slice a n c] W fun e w'=>e=.returned (.bool true)/\PM W w'
theorem tgB{s:Ses}{E:SesA}{v:World}(F:FineX x)(G:InvS x.xs x.want x.com s)(hs:SesIn v s E v.heap.size):∃t g a n c k,TgB s E t g a n c k v:=by
 have D:s.want.length+s.com.length<=1000:=by rw[G.w,G.c]; have:=F.lw; have:=F.lc; omega
 have r1:=fun W (B:PM v W)=>request_any s E v.heap.size W (hs.below B)
 have r2:=fun W (B:PM v W)=>rrequest_any s E v.heap.size W (hs.below B) D
 cases C:s.done with
 | true=>
  refine⟨_,_,E.ha,s.xs.length,E.hc,0,r1,r2,fun W B=>?_,fun W B=>?_,fun W B=>isame_eq E.ha E.ha s.xs E.hc E.hc W (hs.hp.its.ahead B) (hs.hp.its.ahead B) hs.lx⟩
  ·have A:=result_any s E W
   rw[if_pos C,if_pos C] at A;exact A
  ·have A:=rresult_any s E W
   rw[if_pos C,if_pos C] at A;exact A
 | false=>
  refine⟨_,_,none,0,0,18,r1,r2,fun W B=>?_,fun W B=>?_,fun W B=>isame_eq none none [] 0 0 W (Its.nil _ _ _) (Its.nil _ _ _) (by simp)⟩
  ·have A:=result_any s E W
   rw[if_neg (by rw[C]; simp),if_neg (by rw[C]; simp)] at A;exact A
  ·have A:=rresult_any s E W
   rw[if_neg (by rw[C]; simp),if_neg (by rw[C]; simp)] at A;exact A
theorem tbegin_any(D7:PackEx)(x:Fet)(A:FetA)(w:World)(h:FetCame w x A):
  Qh 3 #[.agg (x.arr A)] w fun e w'=>e=.returned (.bool true)/\PM w w':=by
 obtain⟨G,hG⟩:∃G:Ending->World->Prop,G=fun e w'=>e=.returned (.bool true)/\PM w w':=⟨_,rfl⟩
 rw[<-hG];have HG:Qg (∀u,PM w u->G (.returned (.bool true)) u):=Qf (fun u hu=>by rw[hG]; exact⟨rfl,hu⟩);have U:=Qf (fun W=>awake17_any D7 W);have J:=Qf (fun W (hW:PM w W)=>fine17_any x A W (h.below hW));have F:=Qf (fun(hf:FineX x) W (hW:PM w W)=>reached_any x A W (h.below hW) hf);have Z:=Qf (fun(hf:FineX x) W (hW:PM w W)=>tgA (h.below hW) hf);have R:Qg (∀s E v,FineX x->InvS x.xs x.want x.com s->SesIn v s E v.heap.size->∃t g a n c k,TgB s E t g a n c k v):=Qf (fun s E v hf hi hs=>tgB hf hi hs);clear hG h;obtain⟨xs,ys,want,com,ts,sz⟩:=x;obtain⟨ha,hc,ya,yc,wa,wc,ca,cc,ta,tc⟩:=A;simp only[Fet.arr] at J F ⊢;obtain⟨nx,A4⟩:=Qe xs.length;obtain⟨nw,A3⟩:=Qe want.length;obtain⟨nc,A2⟩:=Qe com.length;rw[<-A4,<-A3,<-A2] at J F ⊢;generalize ys.length=ny at J F ⊢;generalize ts.length=nt at J F ⊢;have D4:=Qf A4;have D3:=Qf A3;have D2:=Qf A2;clear A4 A3 A2;obtain⟨u1,M⟩:=Qe (w.alloc (.cells #[.slice ha nx hc,.slice ya ny yc,.slice wa nw wc,.slice ca nc cc,.slice ta nt tc,.int .i64 sz] 27));have A0:PM w u1:=by rw[M]; exact ba _ _
 have B6:Qg (BK w.heap.size #[.slice ha nx hc,.slice ya ny yc,.slice wa nw wc,.slice ca nc cc,.slice ta nt tc,.int .i64 sz] 27 u1):=Qf (by rw[M]; exact BK.new _ _ _);have HD:=Qf (J.o u1 A0);rw[M] at HD;have V:=Qf A0;have B0:=Qf M;clear M A0 J;go_enter Tryz.func3,Tryz.ntmps3;go_wp2_with fail
 refine HD.o.mono ?_;rintro e u2 ⟨⟨r,rfl,hr⟩,B⟩
 rw[<-B0.o] at B;have I:=Qf (V.o.trans (B.mono V.o.size));have S:=Qf (B6.o.below B);clear B HD B0 V B6;cases r with
 | false=>
  clear F Z R hr;go_wp2_with fail
  refine(U.o u2).mono ?_;rintro e u3 ⟨rfl,B⟩
  have HF:=Qf (HG.o u3 (I.o.trans (B.mono I.o.size)));clear B;go_wp2_with fail;exact HF.o
 | true=>
  have P:=Qf (hr (by trivial));obtain⟨⟨sx,sw,sc,si,st,sp,sa,sd⟩,e0,⟨xha,xhc,xwa,xwc,xca,xcc,xpa,xpc⟩,g1,g2,g3⟩:=Z.o P.o u2 I.o;simp only[<-D4.o,<-D3.o,<-D2.o] at g1 g2;unfold Ses.val at g1 g2 g3;simp only at g1 g2 g3;have F:=Qf (F.o P.o);have G1:=Qf (g1 u2 (bf _));have G2:=Qf g2;have G3:=Qf g3;obtain⟨x0,x1,x2,x3,x4,x5⟩:=BK.c6 S.o;clear hr Z g1 g2 g3;go_wp2_with fail
  refine G1.o.mono ?_;rintro e u3 ⟨rfl,B⟩
  generalize sx.length=mx at G2 G3 ⊢;generalize sw.length=mw at G2 G3 ⊢;generalize sc.length=mc at G2 G3 ⊢;generalize sp.length=mp at G2 G3 ⊢;obtain⟨v3,N⟩:=Qe (u3.alloc (.cells #[.slice xha mx xhc,.slice xwa mw xwc,.slice xca mc xcc,.int .i64 si,.int .i64 st,.slice xpa mp xpc,.bool sa,.bool sd] 34));have C:PM u3 v3:=by rw[N]; exact ba _ _
  have B3:=Qf (B.trans (C.mono B.size));have Y:Qg (BK u3.heap.size #[.slice xha mx xhc,.slice xwa mw xwc,.slice xca mc xcc,.int .i64 si,.int .i64 st,.slice xpa mp xpc,.bool sa,.bool sd] 34 v3):=Qf (by rw[N]; exact BK.new _ _ _);have D:=Qf (G2.o v3 B3.o);have C0:=Qf (S.o.below B3.o);clear B C x0 x1 x2 x3 x4 x5 G1 G2;obtain⟨x0,x1,x2,x3,x4,x5⟩:=BK.c6 C0.o;obtain⟨b3,A1⟩:=Qe u3.heap.size;rw[<-A1] at Y;rw[N] at x0 x1 x2 x3 x4 x5 D;have B1:=Qf N;clear N;go_wp2_with fail
  refine D.o.mono ?_;rintro e u4 ⟨rfl,B⟩
  rw[<-B1.o] at B;rw[<-A1];have B4:=Qf (B3.o.trans (B.mono B3.o.size));have A7:=Qf (Y.o.below B);clear B D B1 x0 x1 x2 x3 x4 x5 A1 C0 B3 Y;obtain⟨v4,O⟩:=Qe (u4.alloc (.cells #[.slice xha mx xhc,.slice xwa mw xwc,.slice xca mc xcc,.int .i64 si,.int .i64 st,.slice xpa mp xpc,.bool sa,.bool sd] 34));have C:PM u4 v4:=by rw[O]; exact ba _ _
  have B5:=Qf (B4.o.trans (C.mono B4.o.size));have A8:=A7.o.below C;have A9:BK u4.heap.size #[.slice xha mx xhc,.slice xwa mw xwc,.slice xca mc xcc,.int .i64 si,.int .i64 st,.slice xpa mp xpc,.bool sa,.bool sd] 34 v4:=by rw[O]; exact BK.new _ _ _
  have D:=Qf (G3.o v4 B5.o);obtain⟨c0,c1,c2,c3,c4,c5,c6,c7⟩:=BK.c8 A8;obtain⟨d0,d1,d2,d3,d4,d5,d6,d7⟩:=BK.c8 A9;rw[O] at c0 c1 c2 c3 c4 c5 c6 c7 d0 d1 d2 d3 d4 d5 d6 d7 D;have B2:=Qf O;clear O C A8 A9 A7 B4 G3;go_wp2_with fail
  refine D.o.mono ?_;rintro e u5 ⟨rfl,B⟩
  rw[<-B2.o] at B;have X:=Qf (I.o.trans ((B5.o.trans (B.mono B5.o.size)).mono I.o.size));have C1:=Qf (S.o.below (B5.o.trans (B.mono B5.o.size)));have D:=Qf (F.o u5 X.o);clear B c0 c1 c2 c3 c4 c5 c6 c7 d0 d1 d2 d3 d4 d5 d6 d7 B2 B5 I S F;obtain⟨x0,x1,x2,x3,x4,x5⟩:=BK.c6 C1.o;have D6:(e0 !=e0)=false:=by simp
  go_wp2_with fail
  refine D.o.mono ?_;rintro e u6 ⟨ok,⟨fx,fw,fc,fi,ft,fp,fa,fd⟩,⟨gha,ghc,gwa,gwc,gca,gcc,gpa,gpc⟩,rfl,A5,B⟩
  unfold Ses.arr;simp only;obtain⟨v,K⟩:=Qe (u6.alloc (.cells #[.slice gha fx.length ghc,.slice gwa fw.length gwc,.slice gca fc.length gcc,.int .i64 fi,.int .i64 ft,.slice gpa fp.length gpc,.bool fa,.bool fd] 34));have C:PM u6 v:=by rw[K]; exact ba _ _
  have L:=Qf (X.o.trans ((B.trans (C.mono B.size)).mono X.o.size));have H:BK u6.heap.size #[.slice gha fx.length ghc,.slice gwa fw.length gwc,.slice gca fc.length gcc,.int .i64 fi,.int .i64 ft,.slice gpa fp.length gpc,.bool fa,.bool fd] 34 v:=by rw[K]; exact BK.new _ _ _
  have HV:=Qf K;clear B D C1 x0 x1 x2 x3 x4 x5 D6;cases ok with
  | false=>
   rw[K] at L;clear R A5 K C H HV;go_wp2_with fail
   refine(U.o _).mono ?_;rintro e u7 ⟨rfl,B⟩
   have HF:=Qf (HG.o u7 (L.o.trans (B.mono L.o.size)));clear B;go_wp2_with fail;exact HF.o
  | true=>
   obtain⟨C6,C7⟩:=A5 (by trivial);have C8:SesIn v ⟨fx,fw,fc,fi,ft,fp,fa,fd⟩ ⟨gha,ghc,gwa,gwc,gca,gcc,gpa,gpc⟩ v.heap.size:=(C7.below C).far nr;obtain⟨t,g,a,n,c,k,t1,t2,t3,t4,t5⟩:=R.o _ _ v P.o C6 C8;simp only[Ses.arr] at t1 t2 t3 t4 t5;generalize fx.length=lx at t1 t2 t3 t4 H K ⊢;generalize fw.length=lw at t1 t2 t3 t4 H K ⊢;generalize fc.length=lc at t1 t2 t3 t4 H K ⊢;generalize fp.length=lp at t1 t2 t3 t4 H K ⊢;obtain⟨sb,T⟩:=Qe u6.heap.size;have Q:Qg (BK sb #[.slice gha lx ghc,.slice gwa lw gwc,.slice gca lc gcc,.int .i64 fi,.int .i64 ft,.slice gpa lp gpc,.bool fa,.bool fd] 34 v):=Qf (by rw[T]; exact H);have D:=Qf (t1 v (bf _));obtain⟨c0,c1,c2,c3,c4,c5,c6,c7⟩:=BK.c8 Q.o;rw[K] at c0 c1 c2 c3 c4 c5 c6 c7 D;rw[T] at c0 c1 c2 c3 c4 c5 c6 c7;have T2:=Qf t2;have T3:=Qf t3;have T4:=Qf t4;have T5:=Qf t5;have HV:=Qf K;clear t1 t2 t3 t4 t5 C6 C7 A5 C8 C H K R P;go_wp2_with fail
   refine D.o.mono ?_;rintro e u7 ⟨rfl,B⟩
   rw[<-HV.o] at B;rw[<-T];have B7:=Qf B;have D:=Qf (T2.o u7 B);clear B HV T c0 c1 c2 c3 c4 c5 c6 c7 T2;obtain⟨c0,c1,c2,c3,c4,c5,c6,c7⟩:=BK.c8 (Q.o.below B7.o);go_wp2_with fail
   refine D.o.mono ?_;rintro e u8 ⟨rfl,B⟩
   have B8:=Qf (B7.o.trans (B.mono B7.o.size));have D:=Qf (T3.o u8 B8.o);clear B B7 c0 c1 c2 c3 c4 c5 c6 c7 T3;obtain⟨c0,c1,c2,c3,c4,c5,c6,c7⟩:=BK.c8 (Q.o.below B8.o);go_wp2_with fail
   refine D.o.mono ?_;rintro e u9 ⟨rfl,B⟩
   have B9:=Qf (B8.o.trans (B.mono B8.o.size));have D:=Qf (T4.o u9 B9.o);clear B B8 c0 c1 c2 c3 c4 c5 c6 c7 T4;obtain⟨c0,c1,c2,c3,c4,c5,c6,c7⟩:=BK.c8 (Q.o.below B9.o);go_wp2_with fail
   refine D.o.mono ?_;rintro e u10 ⟨rfl,B⟩
   have B10:=Qf (B9.o.trans (B.mono B9.o.size));have D:=Qf (T5.o u10 B10.o);clear B B9 c0 c1 c2 c3 c4 c5 c6 c7 T5;have E2:(t==t)=true:=by simp
   have D9:(g==g)=true:=by simp
   have E1:(k==k)=true:=by simp
   go_wp2_with fail
   refine D.o.mono ?_;rintro e u11 ⟨rfl,B⟩
   have B11:=Qf (B10.o.trans (B.mono B10.o.size));clear B B10 D;go_wp2_with fail
   refine(U.o u11).mono ?_;rintro e u12 ⟨rfl,B⟩
   have HF:=Qf (HG.o u12 (L.o.trans ((B11.o.trans (B.mono B11.o.size)).mono L.o.size)));clear B;go_wp2_with fail;exact HF.o
