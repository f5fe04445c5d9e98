/- TransferTrust: the law's walk. -/
import Derived.Test.YtkedhdcnakhbgaaGreatTrO
import Derived.Test.YtkedhdcnakhbgaaGreatK5
set_option linter.unusedSimpArgs false
set_option maxRecDepth 100000
set_option maxHeartbeats 16000000
open Go.Lib (hid)
namespace Go.Proofs.YtkedhdcnakhbgaaGreat
open Go.RowKit Go.Shelf
set_option linter.unusedVariables false
variable {x:Fet}{A:FetA}
theorem FetCame.below{W W':World}(h:FetCame W x A)(B:PM W W'):FetCame W' x A:=
 ⟨⟨h.h.its.ahead B,h.h.cap,h.h.dat⟩,⟨h.y.its.ahead B,h.y.cap,h.y.dat⟩,⟨h.w.dig.ahead B,h.w.cap,h.w.ok⟩,⟨h.c.dig.ahead B,h.c.cap,h.c.ok⟩,fun i E=>by
  obtain⟨b,off,e,C,D⟩:=h.t i E;exact⟨b,off,e,aO C B.size,(B.cell (p:=⟨b,off+i,none⟩) C).trans D⟩,h.tl⟩
theorem kind_ne{s:Qb}(h:(bI s).2=0):(bI s).1.kind≠0:=by
 unfold bI at h ⊢;split
 ·rename_i A
  rw[if_pos A] at h;cases h
 ·rename_i A
  have B:(aR (kX s).1).2=0:=Classical.byContradiction fun e=>A (.inr (.inr e))
  unfold aR at B;have C:dz (kX s).1=0:=Classical.byContradiction fun e=>by
   rw[if_pos e] at B;exact e B
  have:=eP C;simp only;omega
theorem getM{xs:List Itm}(B:Asc xs){x:Itm}(D:x∈xs):dW xs x.d=bI x.data:=by
 obtain⟨k,A,rfl⟩:=aV D;have C:qw xs xs[k].d k=true:=by unfold qw; rw[List.getElem?_eq_getElem A]; simp
 obtain⟨_,_,h⟩:=yz (JV B A rfl) C;exact h
structure TrC (x:Fet) (A:FetA) (s:Ses) (E:SesA) (v:World):Prop where
 ck:∀W,PM v W->Calls Tryz.prog 25 #[.slice E.ha s.xs.length E.hc] W fun e w'=>e=.returned (.int .i64 0)/\PM W w'
 s1:∀W,PM v W->Calls Tryz.prog 26 #[.slice E.wa s.want.length E.wc,.slice A.wa x.want.length A.wc] W fun e w'=>e=.returned (.bool true)/\PM W w'
 s2:∀W,PM v W->Calls Tryz.prog 26 #[.slice E.ca s.com.length E.cc,.slice A.ca x.com.length A.cc] W fun e w'=>e=.returned (.bool true)/\PM W w'
 ge:∀y∈x.xs,∀W,PM v W->Calls Tryz.prog 27 #[.slice E.ha s.xs.length E.hc,.agg #[.int .u64 y.d.1,.int .u64 y.d.2]] W fun e w'=>(∃(o:Ob) (ea:Qa) (ec:Nat) (pa:Qa) (pc:Nat),e=.returned (.tuple #[o.val ea ec pa pc,.int .i64 0])/\o.kind≠0)/\PM W w'
 rs:∀W,PM v W->Calls Tryz.prog 18 #[.agg (Ses.arr s E)] W fun e w'=>(∃a n c k,e=.returned (.tuple #[.slice a n c,.int .i64 k])/\(s.done=true->E.ha=a/\s.xs.length=n/\E.hc=c/\k=0)/\(s.done=false->k=18))/\PM W w'
 rq:∀W,PM v W->Calls Tryz.prog 16 #[.agg (Ses.arr s E)] W fun e w'=>(∃t k,e=.returned (.tuple #[.string t,.int .i64 k])/\(s.done=true->k=18)/\(s.done=false->k=0))/\PM W w'
 sm:s.done=false->∀W,PM v W->Calls Tryz.prog 20 #[.slice E.ha s.xs.length E.hc,.slice A.ha x.xs.length A.hc] W fun e w'=>e=.returned (.bool true)/\PM W w'
 sn:∀W,PM v W->Calls Tryz.prog 20 #[.slice E.ha s.xs.length E.hc,.slice E.ha s.xs.length E.hc] W fun e w'=>e=.returned (.bool true)/\PM W w'
 hs:s.done=true->∀d∈s.want,∀W,PM v W->Calls Tryz.prog 28 #[.slice E.ha s.xs.length E.hc,.agg #[.int .u64 d.1,.int .u64 d.2]] W fun e w'=>e=.returned (.bool true)/\PM W w'
 re:s.done=true->∀W,PM v W->Calls Tryz.prog 29 #[.slice E.ha s.xs.length E.hc,.slice E.wa s.want.length E.wc] W fun e w'=>(∃a n c a' c',e=.returned (.tuple #[.slice a n c,.slice a' 0 c']))/\PM W w'
 rc:s.done=true->∀W,PM v W->Calls Tryz.prog 23 #[.agg (Ses.arr s E),.string ⟨#[]⟩] W fun e w'=>e=.returned (.tuple #[.agg #[.slice none 0 0,.slice none 0 0,.slice none 0 0,.int .i64 0,.int .i64 0,.slice none 0 0,.bool false,.bool false],.int .i64 0,.int .i64 18])/\PM W w'
theorem trC{s:Ses}{E:SesA}{v:World}(h:FetCame v x A)(L:FineX x)(G:InvS x.xs x.want x.com s)(hs:SesIn v s E v.heap.size):TrC x A s E v:=by
 have Q:=pgrS L.pg;have I:∀y∈x.xs,y∈s.xs:=fun y K=>by
  cases D:s.done with
  | false=>rw[G.n D]; exact K
  | true=>exact(G.d D).2 y K
 have F:s.done=true->(∀d∈s.want,I7 s.xs d=true)/\(dh s.xs s.want).2=[]:=fun D=>by
  have B:=(G.d D).1;unfold fullS at B;rw[Bool.and_eq_true,List.all_eq_true,decide_eq_true_eq,<-G.w] at B;exact B
 have R:=hs.lx;refine⟨fun W C=>?_,fun W C=>?_,fun W C=>?_,fun y K W C=>?_,fun W C=>?_,fun W C=>?_,fun D W C=>?_,fun W C=>?_,fun D d P W C=>?_,fun D W C=>?_,fun D W C=>?_⟩
 ·have B:=Om E.ha s.xs E.hc W (hs.hp.below C)
  rw[G.cp] at B;exact B
 ·have B:=dsame E.wa A.wa s.want x.want E.wc A.wc W (hs.hw.ahead C) (h.w.dig.ahead C) (by have:=hs.lw; omega)
  rw[decide_eq_true G.w] at B;exact B.mono (by
   rintro e w' ⟨rfl,q,rfl⟩;exact⟨rfl,below_drewN (bf _) _⟩)
 ·have B:=dsame E.ca A.ca s.com x.com E.cc A.cc W (hs.hc.ahead C) (h.c.dig.ahead C) (by have:=hs.lc; omega)
  rw[decide_eq_true G.c] at B;exact B.mono (by
   rintro e w' ⟨rfl,q,rfl⟩;exact⟨rfl,below_drewN (bf _) _⟩)
 ·have B:=yw E.ha s.xs E.hc y.d.1 y.d.2 W (hs.hp.below C) hs.hr.asc
  have N:dW s.xs (y.d.1,y.d.2)=bI y.data:=getM hs.hr.asc (I y K);have M:=(chk_parts (hs.ck y (I y K))).1;rw[N] at B;have O:=kind_ne M;rw[M] at B;exact B.mono (by
   rintro e w' ⟨ea,ec,pa,pc,rfl,_,H⟩;exact⟨⟨_,ea,ec,pa,pc,rfl,O⟩,H⟩)
 ·exact(result_any s E W).mono (by
   rintro e w' ⟨rfl,H⟩;refine⟨?_,H⟩;cases D:s.done with
   | true=>exact⟨E.ha,s.xs.length,E.hc,0,rfl,fun _=>⟨rfl,rfl,rfl,rfl⟩,fun h=>(by cases h)⟩
   | false=>exact⟨none,0,0,18,rfl,fun h=>(by cases h),fun _=>rfl⟩)
 ·have B:=request_any s E v.heap.size W (hs.below C)
  refine B.mono (by
   rintro e w' ⟨rfl,H⟩;refine⟨⟨_,_,rfl,fun D=>by unfold reqS; rw[if_pos D],fun D=>req_ok D (by rw[G.w,G.c]; have:=L.lw; have:=L.lc; omega) hs.vp⟩,H⟩)
 ·have B:=PE E.ha A.ha s.xs x.xs E.hc A.hc W (hs.hp.its.ahead C) (h.h.its.ahead C) (by omega) (by omega)
  rw[decide_eq_true (G.n D)] at B;exact B
 ·have B:=PE E.ha E.ha s.xs s.xs E.hc E.hc W (hs.hp.its.ahead C) (hs.hp.its.ahead C) (by omega) (by omega)
  rw[decide_eq_true rfl] at B;exact B
 ·have B:=I6 E.ha s.xs E.hc d.1 d.2 W (hs.hp.below C) hs.hr.asc
  rw[show I7 s.xs (d.1,d.2)=true from(F D).1 d P] at B;exact B
 ·have B:=zH E.ha s.xs E.hc E.wa s.want E.wc W (hs.hp.below C) hs.hr.asc (hs.hw.ahead C) hs.ow (by omega) (by have:=hs.lw; omega)
  exact B.mono (by
   rintro e w' ⟨a,c,a',c',rfl,_,_,H⟩;rw[(F D).2];exact⟨⟨a,_,c,a',c',rfl⟩,H⟩)
 ·exact(receive_any s E v.heap.size [] W (hs.below C) (by simp)).mono (by
   rintro e w' (⟨_,rfl,H⟩ | ⟨J,_⟩)
   ·exact⟨rfl,H⟩
   ·rw[D] at J; cases J)
theorem ttrust_any(G5:PackEx)(x:Fet)(A:FetA)(w:World)(h:FetCame w x A):
  Calls Tryz.prog 6 #[.agg (x.arr A)] w fun e w'=>e=.returned (.bool true)/\PM w w':=by
 obtain⟨G,hG⟩:∃G:Ending->World->Prop,G=fun e w'=>e=.returned (.bool true)/\PM w w':=⟨_,rfl⟩
 rw[<-hG];have HG:Hid (∀u,PM w u->G (.returned (.bool true)) u):=hid (fun u hu=>by rw[hG]; exact⟨rfl,hu⟩);have X:=hid (fun W=>awake17_any G5 W);have Y:=hid (fun W (hW:PM w W)=>fine17_any x A W (h.below hW));have S:=hid (fun(hf:FineX x) W (hW:PM w W)=>reached_any x A W (h.below hW) hf);have Z:Hid (∀s E v,PM w v->FineX x->InvS x.xs x.want x.com s->SesIn v s E v.heap.size->TrC x A s E v):=hid (fun s E v hW hf hi hs=>trC (h.below hW) hf hi hs);have T:Hid (∀W,PM w W->Its W.heap.size W A.ha x.xs):=hid (fun W hW=>h.h.its.ahead hW);clear hG h;obtain⟨xs,ys,want,com,ts,sz⟩:=x;obtain⟨ha,hc,ya,yc,wa,wc,ca,cc,ta,tc⟩:=A;simp only[Fet.arr] at Y S T ⊢;obtain⟨nx,D6⟩:=Qe xs.length;obtain⟨ny,E9⟩:=Qe ys.length;obtain⟨nw,D5⟩:=Qe want.length;obtain⟨nc,D4⟩:=Qe com.length;obtain⟨nt,E8⟩:=Qe ts.length;rw[<-D6,<-E9,<-D5,<-D4,<-E8] at Y S ⊢;have A6:=hid D6;have E2:=hid D5;have E1:=hid D4;clear D6 E9 D5 D4 E8;obtain⟨u1,V⟩:=Qe (w.alloc (.cells #[.slice ha nx hc,.slice ya ny yc,.slice wa nw wc,.slice ca nc cc,.slice ta nt tc,.int .i64 sz] 27));have J:PM w u1:=by rw[V]; exact ba _ _
 have E5:Hid (BK w.heap.size #[.slice ha nx hc,.slice ya ny yc,.slice wa nw wc,.slice ca nc cc,.slice ta nt tc,.int .i64 sz] 27 u1):=hid (by rw[V]; exact BK.new _ _ _);have HD:=hid (Y.out u1 J);rw[V] at HD;have A3:=hid J;have E3:=hid V;clear V J Y;go_enter Tryz.func6,Tryz.ntmps6;go_wp2_with fail
 refine HD.out.mono ?_;rintro e u2 ⟨⟨r,rfl,hr⟩,B⟩
 rw[<-E3.out] at B;have O:=hid (A3.out.trans (B.mono A3.out.size));have B2:=hid (E5.out.below B);clear B HD E3 A3 E5;cases r with
 | false=>
  clear S Z T hr;go_wp2_with fail
  refine(X.out u2).mono ?_;rintro e u3 ⟨rfl,B⟩
  have HF:=hid (HG.out u3 (O.out.trans (B.mono O.out.size)));clear B;go_wp2_with fail;exact HF.out
 | true=>
  have C1:=hr (by trivial);have A5:=hid C1;have HD:=hid (S.out C1 u2 O.out);obtain⟨x0,x1,x2,x3,x4,x5⟩:=BK.c6 (show BK _ #[.slice ha nx hc,.slice ya ny yc,.slice wa nw wc,.slice ca nc cc,.slice ta nt tc,.int .i64 sz] _ _ from B2.out);clear hr C1 S;go_wp2_with fail
  refine HD.out.mono ?_;rintro e u3 ⟨ok,⟨fx,fw,fc,fi,ft,fp,fa,fd⟩,⟨gha,ghc,gwa,gwc,gca,gcc,gpa,gpc⟩,rfl,D7,B⟩
  unfold Ses.arr;simp only;obtain⟨v,R⟩:=Qe (u3.alloc (.cells #[.slice gha fx.length ghc,.slice gwa fw.length gwc,.slice gca fc.length gcc,.int .i64 fi,.int .i64 ft,.slice gpa fp.length gpc,.bool fa,.bool fd] 34));have A0:PM u3 v:=by rw[R]; exact ba _ _
  have M:=B.trans (A0.mono B.size);have I:=hid (O.out.trans (M.mono O.out.size));have P:=hid (B2.out.below M);have L:BK u3.heap.size #[.slice gha fx.length ghc,.slice gwa fw.length gwc,.slice gca fc.length gcc,.int .i64 fi,.int .i64 ft,.slice gpa fp.length gpc,.bool fa,.bool fd] 34 v:=by rw[R]; exact BK.new _ _ _
  obtain⟨sb,U⟩:=Qe u3.heap.size;have HV:=hid R;clear B HD O B2 x0 x1 x2 x3 x4 x5;cases ok with
  | false=>
   rw[R] at I;clear Z T D7 R A0 M P L U HV;go_wp2_with fail
   refine(X.out _).mono ?_;rintro e u4 ⟨rfl,B⟩
   have HF:=hid (HG.out u4 (I.out.trans (B.mono I.out.size)));clear B;go_wp2_with fail;exact HF.out
  | true=>
   obtain⟨D1,F4⟩:=D7 (by trivial);have F5:=(F4.below A0).far nr;have N:SesIn v ⟨fx,fw,fc,fi,ft,fp,fa,fd⟩ ⟨gha,ghc,gwa,gwc,gca,gcc,gpa,gpc⟩ v.heap.size:=F5;have HC:=hid (Z.out _ _ v I.out A5.out D1 N);have C0:fa=decide (0<fp.length):=D1.k;have H1:(nx:Int)<=40:=by have:=(pgrS A5.out.pg).1; have:=A6.out; simp only at *; omega
   have F6:=N.lw;simp only at F6;have E4:Hid (∀i (hi:i<fw.length),∃b off,gwa=some ⟨b,off,none⟩/\b<v.heap.size/\v.cell? ⟨b,off+i*2,none⟩=some (.int .u64 fw[i].1)/\v.cell? ⟨b,off+i*2+1,none⟩=some (.int .u64 fw[i].2)):=hid N.hw;have E0:=hid (T.out v I.out);obtain⟨a1,a2,a3,a4,a5,a6,a7,a8,a9,a10,a11⟩:=HC.out;simp only[Ses.arr] at a1 a2 a3 a4 a5 a6 a7 a8 a9 a10 a11;rw[<-E2.out] at a2;rw[<-E1.out] at a3;rw[<-A6.out] at a7;clear D7 D1 F4 F5 N Z T HC E2 E1 A5;obtain⟨lw,D3⟩:=Qe fw.length;rw[<-D3] at a2 a5 a6 a10 a11 L R F6 ⊢;have F9:=hid D3;clear D3;generalize fx.length=lx at a1 a4 a5 a6 a7 a8 a9 a10 a11 L R ⊢;generalize fc.length=lc at a3 a5 a6 a11 L R ⊢;generalize fp.length=lp at C0 a5 a6 a11 L R ⊢;have HV:=hid R;have F:Hid (BK sb #[.slice gha lx ghc,.slice gwa lw gwc,.slice gca lc gcc,.int .i64 fi,.int .i64 ft,.slice gpa lp gpc,.bool fa,.bool fd] 34 v):=hid (by rw[U]; exact L);have D:=hid (a1 v (bf _));have H2:sb<v.heap.size:=F.out.lt;obtain⟨c0,c1,c2,c3,c4,c5,c6,c7⟩:=BK.c8 (show BK _ #[.slice gha lx ghc,.slice gwa lw gwc,.slice gca lc gcc,.int .i64 fi,.int .i64 ft,.slice gpa lp gpc,.bool fa,.bool fd] _ _ from F.out);obtain⟨x0,x1,x2,x3,x4,x5⟩:=BK.c6 (show BK _ #[.slice ha nx hc,.slice ya ny yc,.slice wa nw wc,.slice ca nc cc,.slice ta nt tc,.int .i64 sz] _ _ from P.out);rw[R] at c0 c1 c2 c3 c4 c5 c6 c7 x0 x1 x2 x3 x4 x5 D;rw[U] at c0 c1 c2 c3 c4 c5 c6 c7;have C2:=hid a2;have C3:=hid a3;have C4:=hid a4;have C5:=hid a5;have C6:=hid a6;have C7:=hid a7;have C8:=hid a8;have C9:=hid a9;have C10:=hid a10;have C11:=hid a11;have D9:=hid C0;clear a1 a2 a3 a4 a5 a6 a7 a8 a9 a10 a11 A0 M R L C0;go_wp2_with fail
   refine D.out.mono ?_;rintro e u4 ⟨rfl,B⟩
   rw[<-HV.out] at B;rw[<-U];have B4:=hid B;have D:=hid (C2.out u4 B);clear B HV U c0 c1 c2 c3 c4 c5 c6 c7 x0 x1 x2 x3 x4 x5 C2;obtain⟨c0,c1,c2,c3,c4,c5,c6,c7⟩:=BK.c8 (show BK _ #[.slice gha lx ghc,.slice gwa lw gwc,.slice gca lc gcc,.int .i64 fi,.int .i64 ft,.slice gpa lp gpc,.bool fa,.bool fd] _ _ from(F.out.below B4.out));obtain⟨x0,x1,x2,x3,x4,x5⟩:=BK.c6 (show BK _ #[.slice ha nx hc,.slice ya ny yc,.slice wa nw wc,.slice ca nc cc,.slice ta nt tc,.int .i64 sz] _ _ from(P.out.below B4.out));go_wp2_with fail
   refine D.out.mono ?_;rintro e u5 ⟨rfl,B⟩
   have B5:=hid (B4.out.trans (B.mono B4.out.size));have D:=hid (C3.out u5 B5.out);clear B B4 c0 c1 c2 c3 c4 c5 c6 c7 x0 x1 x2 x3 x4 x5 C3;obtain⟨c0,c1,c2,c3,c4,c5,c6,c7⟩:=BK.c8 (show BK _ #[.slice gha lx ghc,.slice gwa lw gwc,.slice gca lc gcc,.int .i64 fi,.int .i64 ft,.slice gpa lp gpc,.bool fa,.bool fd] _ _ from(F.out.below B5.out));obtain⟨x0,x1,x2,x3,x4,x5⟩:=BK.c6 (show BK _ #[.slice ha nx hc,.slice ya ny yc,.slice wa nw wc,.slice ca nc cc,.slice ta nt tc,.int .i64 sz] _ _ from(P.out.below B5.out));go_wp2_with fail
   refine D.out.mono ?_;rintro e u6 ⟨rfl,B⟩
   have B6:=hid (B5.out.trans (B.mono B5.out.size));clear B B5 D c0 c1 c2 c3 c4 c5 c6 c7 x0 x1 x2 x3 x4 x5;obtain⟨c0,c1,c2,c3,c4,c5,c6,c7⟩:=BK.c8 (show BK _ #[.slice gha lx ghc,.slice gwa lw gwc,.slice gca lc gcc,.int .i64 fi,.int .i64 ft,.slice gpa lp gpc,.bool fa,.bool fd] _ _ from(F.out.below B6.out));obtain⟨x0,x1,x2,x3,x4,x5⟩:=BK.c6 (show BK _ #[.slice ha nx hc,.slice ya ny yc,.slice wa nw wc,.slice ca nc cc,.slice ta nt tc,.int .i64 sz] _ _ from(P.out.below B6.out));obtain rfl:=D9.out;go_wp2_with fail;clear c0 c1 c2 c3 c4 c5 c6 c7 x0 x1 x2 x3 x4 x5 D9;go_loopw [65] (fun i wr=>∃k:Nat,k<=nx/\i=.int .i64 k/\Hid (PM v wr)) (fun i _=>nx-(intOf i).toNat)
   case atStart=>exact⟨0,by omega,rfl,B6⟩
   case round=>
    clear B6;obtain⟨k,hk,rfl,H⟩:=hrel;by_cases G4:k<nx
    ·have D2:(k:Int)<(nx:Int):=by omega
     have h1:k<xs.length:=by have:=A6.out; omega
     obtain⟨b0,o0,G3,Q,q0,q1,q2⟩:=E0.out k h1;subst G3;have D0:=hid (C4.out _ (ak h1));have q0:=(H.out.cell (p:=⟨b0,o0+k*3,none⟩) Q).trans q0;have q1:=(H.out.cell (p:=⟨b0,o0+k*3+1,none⟩) Q).trans q1;have q2:=(H.out.cell (p:=⟨b0,o0+k*3+2,none⟩) Q).trans q2;generalize xs[k]=y at q0 q1 q2 D0;obtain⟨⟨y1,y2⟩,yd⟩:=y;simp only at q0 q1 q2 D0;obtain⟨v1,C⟩:=Qe (wr.alloc (.cells #[.int .u64 y1,.int .u64 y2,.string ⟨yd.toArray⟩] 56));have J:PM wr v1:=by rw[C]; exact ba _ _
     have B1:=hid (H.out.trans (J.mono H.out.size));have D:=hid (D0.out v1 B1.out);obtain⟨c0,c1,c2,c3,c4,c5,c6,c7⟩:=BK.c8 (show BK _ #[.slice gha lx ghc,.slice gwa lw gwc,.slice gca lc gcc,.int .i64 fi,.int .i64 ft,.slice gpa lp gpc,.bool (decide (0<lp)),.bool fd] _ _ from(F.out.below B1.out));rw[C] at D c0 c1 c2 c3 c4 c5 c6 c7;have K:=hid C;clear J C H D0;go_wp2_with fail
     refine D.out.mono ?_;rintro e u7 ⟨⟨⟨kd,od,oe,ot,op,oa,om,og⟩,ea,ec,pa,pc,rfl,E7⟩,B⟩
     rw[<-K.out] at B;have H0:(kd==0)=false:=by simpa using E7
     have B7:=hid (B1.out.trans (B.mono B1.out.size));have B8:Hid (PM v (u7.alloc (.cells #[.int .i64 kd,.string ⟨od.toArray⟩,.slice ea oe.length ec,.int .u64 ot.1,.int .u64 ot.2,.slice pa op.length pc,.string ⟨oa.toArray⟩,.int .i64 om,.string ⟨og.toArray⟩] 59))):=hid (B7.out.alloc B7.out.size _);clear B E7 D K B1 c0 c1 c2 c3 c4 c5 c6 c7 q0 q1 q2;go_wp2_with fail;go_roundw
     case rel=>exact⟨k+1,by omega,by go_num,B8⟩
     case measure=>simp[intOf] <;> omega
    ·have D2:¬(k:Int)<(nx:Int):=by omega
     clear E0 C4;have DA:=hid (C5.out wr H.out);obtain⟨c0,c1,c2,c3,c4,c5,c6,c7⟩:=BK.c8 (show BK _ #[.slice gha lx ghc,.slice gwa lw gwc,.slice gca lc gcc,.int .i64 fi,.int .i64 ft,.slice gpa lp gpc,.bool (decide (0<lp)),.bool fd] _ _ from(F.out.below H.out));go_wp2_with fail
     refine DA.out.mono ?_;rintro e u7 ⟨⟨ra,rn,rc,rk,rfl,F0,F1⟩,B⟩
     have B7:=hid (H.out.trans (B.mono H.out.size));have D:=hid (C6.out u7 B7.out);clear B DA c0 c1 c2 c3 c4 c5 c6 c7;obtain⟨c0,c1,c2,c3,c4,c5,c6,c7⟩:=BK.c8 (show BK _ #[.slice gha lx ghc,.slice gwa lw gwc,.slice gca lc gcc,.int .i64 fi,.int .i64 ft,.slice gpa lp gpc,.bool (decide (0<lp)),.bool fd] _ _ from(F.out.below B7.out));go_wp2_with fail;have A7:=hid F0;have A8:=hid F1;clear F0 F1
     refine D.out.mono ?_;rintro e u8 ⟨⟨rt,qk,rfl,F2,F3⟩,B⟩
     have A9:=hid F2;have B0:=hid F3;clear F2 F3;have B8:=hid (B7.out.trans (B.mono B7.out.size));clear B D B7 H c0 c1 c2 c3 c4 c5 c6 c7 C5 C6;obtain⟨c0,c1,c2,c3,c4,c5,c6,c7⟩:=BK.c8 (show BK _ #[.slice gha lx ghc,.slice gwa lw gwc,.slice gca lc gcc,.int .i64 fi,.int .i64 ft,.slice gpa lp gpc,.bool (decide (0<lp)),.bool fd] _ _ from(F.out.below B8.out));cases fd with
     | false=>
      obtain rfl:=A8.out (by trivial);obtain rfl:=B0.out (by trivial);clear A7 A8 A9 B0;have D:=hid (C7.out (by trivial) u8 B8.out);obtain⟨x0,x1,x2,x3,x4,x5⟩:=BK.c6 (show BK _ #[.slice ha nx hc,.slice ya ny yc,.slice wa nw wc,.slice ca nc cc,.slice ta nt tc,.int .i64 sz] _ _ from(P.out.below B8.out));go_wp2_with fail
      refine D.out.mono ?_;rintro e u9 ⟨rfl,B⟩
      have B9:=hid (B8.out.trans (B.mono B8.out.size));clear B D;go_wp2_with fail
      refine(X.out u9).mono ?_;rintro e u10 ⟨rfl,B⟩
      have HF:=hid (HG.out u10 (I.out.trans ((B9.out.trans (B.mono B9.out.size)).mono I.out.size)));clear B;go_wp2_with fail;exact HF.out
     | true=>
      obtain⟨rfl,rfl,rfl,rfl⟩:=A7.out (by trivial);obtain rfl:=A9.out (by trivial);clear A7 A8 A9 B0;go_wp2_with fail;clear c0 c1 c2 c3 c4 c5 c6 c7 C7;go_loopw [117] (fun i wr=>∃k:Nat,k<=lw/\i=.int .i64 k/\Hid (PM v wr)) (fun i _=>lw-(intOf i).toNat)
      case atStart=>exact⟨0,by omega,rfl,B8⟩
      case round=>
       clear B8;obtain⟨k,hk,rfl,H⟩:=hrel;by_cases G4:k<lw
       ·have D2:(k:Int)<(lw:Int):=by omega
        have h1:k<fw.length:=by have:=F9.out; omega
        obtain⟨b0,o0,G2,Q,q0,q1⟩:=E4.out k h1;subst G2;have D0:=hid (C9.out (by trivial) _ (ak h1));have q0:=(H.out.cell (p:=⟨b0,o0+k*2,none⟩) Q).trans q0;have q1:=(H.out.cell (p:=⟨b0,o0+k*2+1,none⟩) Q).trans q1;generalize fw[k]=y at q0 q1 D0;obtain⟨y1,y2⟩:=y;simp only at q0 q1 D0;obtain⟨v1,C⟩:=Qe (wr.alloc (.cells #[.int .u64 y1,.int .u64 y2] 54));have J:PM wr v1:=by rw[C]; exact ba _ _
        have B1:=hid (H.out.trans (J.mono H.out.size));have D:=hid (D0.out v1 B1.out);rw[C] at D;have K:=hid C;clear J C H D0;go_wp2_with fail
        refine D.out.mono ?_;rintro e u9 ⟨rfl,B⟩
        rw[<-K.out] at B;have B9:=hid (B1.out.trans (B.mono B1.out.size));clear B D K B1 q0 q1;go_wp2_with fail;go_roundw
        case rel=>exact⟨k+1,by omega,by go_num,B9⟩
        case measure=>simp[intOf] <;> omega
       ·have D2:¬(k:Int)<(lw:Int):=by omega
        clear E4 C9;have D:=hid (C10.out (by trivial) wr H.out);obtain⟨c0,c1,c2,c3,c4,c5,c6,c7⟩:=BK.c8 (show BK _ #[.slice gha lx ghc,.slice gwa lw gwc,.slice gca lc gcc,.int .i64 fi,.int .i64 ft,.slice gpa lp gpc,.bool (decide (0<lp)),.bool true] _ _ from(F.out.below H.out));go_wp2_with fail
        refine D.out.mono ?_;rintro e u9 ⟨⟨ra,rn,rc,ra',rc',rfl⟩,B⟩
        have B9:=hid (H.out.trans (B.mono H.out.size));have D:=hid (C11.out (by trivial) u9 B9.out);clear B c0 c1 c2 c3 c4 c5 c6 c7 H;obtain⟨c0,c1,c2,c3,c4,c5,c6,c7⟩:=BK.c8 (show BK _ #[.slice gha lx ghc,.slice gwa lw gwc,.slice gca lc gcc,.int .i64 fi,.int .i64 ft,.slice gpa lp gpc,.bool (decide (0<lp)),.bool true] _ _ from(F.out.below B9.out));go_wp2_with fail
        refine D.out.mono ?_;rintro e u10 ⟨rfl,B⟩
        have B10:=B9.out.trans (B.mono B9.out.size);obtain⟨v1,C⟩:=Qe (u10.alloc (.cells #[.slice none 0 0,.slice none 0 0,.slice none 0 0,.int .i64 0,.int .i64 0,.slice none 0 0,.bool false,.bool false] 34));have B11:Hid (PM v v1):=hid (by rw[C]; exact B10.alloc B10.size _);have D:=hid (C8.out v1 B11.out);clear c0 c1 c2 c3 c4 c5 c6 c7 B9 B10 B C10 C11;obtain⟨c0,c1,c2,c3,c4,c5,c6,c7⟩:=BK.c8 (show BK _ #[.slice gha lx ghc,.slice gwa lw gwc,.slice gca lc gcc,.int .i64 fi,.int .i64 ft,.slice gpa lp gpc,.bool (decide (0<lp)),.bool true] _ _ from(F.out.below B11.out));rw[C] at D c0 c1 c2 c3 c4 c5 c6 c7;have K:=hid C;clear C;go_wp2_with fail
        refine D.out.mono ?_;rintro e u11 ⟨rfl,B⟩
        rw[<-K.out] at B;have B12:=hid (B11.out.trans (B.mono B11.out.size));clear B D;go_wp2_with fail
        refine(X.out u11).mono ?_;rintro e u12 ⟨rfl,B⟩
        have HF:=hid (HG.out u12 (I.out.trans ((B12.out.trans (B.mono B12.out.size)).mono I.out.size)));clear B;go_wp2_with fail;exact HF.out
