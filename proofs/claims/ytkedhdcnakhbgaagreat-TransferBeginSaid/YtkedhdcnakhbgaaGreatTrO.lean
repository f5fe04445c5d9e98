/- cordwoodlaw17.reached. -/
import Derived.Test.YtkedhdcnakhbgaaGreatTrM
import Derived.Test.YtkedhdcnakhbgaaGreatTrZ
set_option linter.unusedSimpArgs false
set_option maxRecDepth 100000
set_option maxHeartbeats 16000000
namespace Go.Proofs.YtkedhdcnakhbgaaGreat
open Go.RowKit Go.Shelf
set_option linter.unusedVariables false
variable {ts:List (Qb)}{B b:Nat}{a:Qa}{W W':World}
def Ses.arr(s:Ses)(A:SesA):Array Value:=#[.slice A.ha s.xs.length A.hc,.slice A.wa s.want.length A.wc,.slice A.ca s.com.length A.cc,.int .i64 s.id,.int .i64 s.tot,.slice A.pa s.ps.length A.pc,.bool s.asked,.bool s.done]
def GotRe(x:Fet)(w:World)(e:Ending)(w':World):Prop:=∃ok s A,e=.returned (.tuple #[.agg (Ses.arr s A),.bool ok])/\(ok=true->InvS x.xs x.want x.com s/\SesIn w' s A w'.heap.size)/\PM w w'
theorem Txs.below(h:Txs B W a ts)(C:B<=W.heap.size)(D:PM W W'):Txs B W' a ts:=fun i F=>by
 obtain⟨b,off,e,A,E⟩:=h i F;exact⟨b,off,e,A,(D.cell (p:=⟨b,off+i,none⟩) (aO A C)).trans E⟩
theorem Txs.grown(h:Txs B W a ts)(F:B<=W.heap.size)(G:B<=b)(D:W.grownBy W' (some b)):Txs B W' a ts:=fun i E=>by
 obtain⟨k,off,e,A,C⟩:=h i E;exact⟨k,off,e,A,(World.cell?_of_block (a:=⟨k,off+i,none⟩) (D.block k (by omega) (fun e=>by cases e; omega))).trans C⟩
structure LoopRe (x:Fet) (ta:Qa) (w:World) (b2 b4:Nat) (s:Ses) (A:SesA) (W:World):Prop where
 k4:BK b4 (Ses.arr s A) 34 W
 k2:BK b2 #[.slice none 0 0,.slice none 0 0,.slice none 0 0,.int .i64 0,.int .i64 0,.slice none 0 0,.bool false,.bool false] 34 W
 si:SesIn W s A b4
 iv:InvS x.xs x.want x.com s
 be:PM w W
 tx:Txs w.heap.size W ta x.ts
theorem sesN{D wc cc:Nat}{F wa ca:Qa}{xs:List Itm}{want com:Qd}(E:B<=W.heap.size)(P:B<=b)(G:Its B W F xs)(k1:xs.length<=D)(K:Cr xs=false)(M:mV xs=0)(H:dE B W wa want)(I:dE B W ca com)(kw:want.length<=wc)(kc:com.length<=cc)(o3:∀d∈want,OkD d)(o4:∀d∈com,OkD d)(l3:want.length<=6)(l4:com.length<=6)(dn:Bool):SesIn W ⟨xs,want,com,0,0,[],false,dn⟩ ⟨F,D,wa,wc,ca,cc,none,0⟩ b:=by
 obtain⟨g1,g2⟩:=pgrS K;obtain⟨z1,z2⟩:=checkP_zero M;have N:jQ W F xs D:=⟨G.mono E,k1,by omega,fun x A=>by have:=g2 x A; omega⟩;have O:Ps xs D:=⟨z2,fun x A=>(chk_parts (z1 x A)).1,fun x A=>by rw[<-(chk_parts (z1 x A)).2]; exact digS_ok _,by omega,fun x A=>by have:=g2 x A; omega,k1⟩;exact⟨N,O,H.mono E,I.mono E,fun i L=>(by simp at L),nr,kw,kc,fun ad e C=>by
  obtain⟨k,o,e2,J,_⟩:=G 0 C;cases e.symm.trans e2;intro e3; injection e3 with e3; have e4:b=k:=e3; omega,fun C ad e=>by
  obtain⟨k,o,e2,J,_⟩:=H 0 C;cases e.symm.trans e2;intro e3; injection e3 with e3; have e4:b=k:=e3; omega,fun C ad e=>by
  obtain⟨k,o,e2,J,_⟩:=I 0 C;cases e.symm.trans e2;intro e3; injection e3 with e3; have e4:b=k:=e3; omega,fun ad e=>(by cases e),o3,o4,z1,by show xs.length<=2000; omega,fun _=>by show xs.length<=1000; omega,by show want.length<=1000; omega,by show com.length<=1000; omega,rfl⟩
theorem reached_any(x:Fet)(A:FetA)(w:World)(h:FetCame w x A)(hf:FineX x):
  Qh 15 #[.agg (x.arr A)] w (GotRe x w):=by
 obtain⟨G,hG⟩:=Qe (GotRe x w);rw[<-hG];obtain⟨Q,hQ⟩:∃Q:Ses->Prop,Q=InvS x.xs x.want x.com:=⟨_,rfl⟩;have C2:Qg (∀s A u,PM w u->G (.returned (.tuple #[.agg (Ses.arr s A),.bool false])) u):=Qf (fun s A u hu=>by rw[hG]; exact⟨false,s,A,rfl,fun h=>(by cases h),hu⟩);have Y:Qg (∀s A u,Q s->SesIn u s A u.heap.size->PM w u->G (.returned (.tuple #[.agg (Ses.arr s A),.bool true])) u):=Qf (fun s A u hi hs hu=>by rw[hG]; exact⟨true,s,A,rfl,fun _=>⟨by rw[<-hQ]; exact hi,hs⟩,hu⟩);have Z:Qg (∀ms s,Q s->Q (recS s ms).1):=Qf (by rw[hQ]; exact fun ms s h=>rec_inv ms h);have K:Qg (∀{b2 b4 s E W},BK b4 (Ses.arr s E) 34 W->BK b2 #[.slice none 0 0,.slice none 0 0,.slice none 0 0,.int .i64 0,.int .i64 0,.slice none 0 0,.bool false,.bool false] 34 W->SesIn W s E b4->Q s->PM w W->Txs w.heap.size W A.ta x.ts->LoopRe x A.ta w b2 b4 s E W):=Qf (fun a b c d e f=>⟨a,b,c,by rw[hQ] at d; exact d,e,f⟩);obtain⟨xs,ys,want,com,ts,sz⟩:=x;obtain⟨ha,X,ya,yc,wa,wc,ca,cc,ta,tc⟩:=A;obtain⟨h1,h2,h3,h4,h5,h6⟩:=h;obtain⟨f1,f2,f3,f4,f5,f6⟩:=hf;simp only at h1 h2 h3 h4 h5 h6 f1 f2 f3 f4 f5 f6 hQ;obtain⟨F6,D4⟩:=pgrS f1;obtain⟨F9,V⟩:=checkP_zero f2;have E1:jQ w ha xs X:=⟨h1.its,h1.cap.1,by omega,fun x hx=>by have:=D4 x hx; omega⟩;have F:=Qf (fun W (hW:PM w W)=>begin_any ha xs X wa want wc ca com cc W (E1.below hW) V (h3.dig.ahead hW) (h4.dig.ahead hW) h3.ok h4.ok (by omega) (by omega) (by omega));have J:Qg ((begS xs want com).2=0->∀W b,PM w W->w.heap.size<=b->Q (begS xs want com).1/\SesIn W (begS xs want com).1 (begA (begS xs want com) ⟨ha,X,wa,wc,ca,cc,none,0⟩) b):=Qf (fun h0 W b hW hb=>by
  have e:begS xs want com=(⟨xs,want,com,0,0,[],false,fullS xs want⟩,0):=by
   unfold begS at h0 ⊢;rw[if_neg (by omega)] at h0 ⊢;by_cases hk:ckcS xs [] com=0
   ·rw[if_neg (by rw[hk]; simp)]
   ·rw[if_pos hk] at h0
    exact absurd h0 hk
  rw[e];refine⟨by rw[hQ]; exact⟨rfl,rfl,rfl,f2,fun _=>rfl,fun h=>⟨h,fun x h=>h⟩⟩,?_⟩;exact sesN hW.size hb (h1.its.below hW nr) h1.cap.1 f1 f2 (h3.dig.below hW nr) (h4.dig.below hW nr) h3.cap.1 h4.cap.1 h3.ok h4.ok f3 f4 _)
 have B4:=Qf h5;have HQ:=Qf hQ;have D0:=Qf f6;simp only[Fet.arr];obtain⟨nt,C1⟩:=Qe ts.length;have C6:=Qf C1;rw[<-C1] at f5 ⊢;clear hG hQ h1 h2 h3 h4 h5 h6 f1 f2 f3 f4 f6 F6 D4 F9 V E1 C1;generalize begA (begS xs want com) ⟨ha,X,wa,wc,ca,cc,none,0⟩=EA at F J;generalize begS xs want com=R at F J;obtain⟨⟨sx,sw,sc,si,st,sp,sa,sd⟩,e0⟩:=R;obtain⟨xha,xhc,xwa,xwc,xca,xcc,xpa,xpc⟩:=EA;simp only at F J K;generalize xs.length=nx at F ⊢;generalize ys.length=ny;generalize want.length=nw at F ⊢;generalize com.length=nc at F ⊢;obtain⟨u2,L⟩:=Qe ((w.alloc (.cells #[.slice ha nx X,.slice ya ny yc,.slice wa nw wc,.slice ca nc cc,.slice ta nt tc,.int .i64 sz] 27)).alloc (.cells #[.slice none 0 0,.slice none 0 0,.slice none 0 0,.int .i64 0,.int .i64 0,.slice none 0 0,.bool false,.bool false] 34));have B9:PM w u2:=by rw[L]; exact(ba _ _).alloc (by simp) _
 have V:BK (w.heap.size+1) #[.slice none 0 0,.slice none 0 0,.slice none 0 0,.int .i64 0,.int .i64 0,.slice none 0 0,.bool false,.bool false] 34 u2:=by rw[L]; exact BK.new2 _ _ _ _
 have HD:=Qf (F.o u2 B9);rw[L] at HD;have D1:=Qf L;have B3:=Qf B9;have A1:=Qf V;have B6:Qg (BK w.heap.size #[.slice ha nx X,.slice ya ny yc,.slice wa nw wc,.slice ca nc cc,.slice ta nt tc,.int .i64 sz] 27 u2):=Qf (by rw[L]; exact(BK.new _ _ _).alloc _);clear L B9 V F;go_enter Tryz.func15,Tryz.ntmps15;go_wp2_with fail
 refine HD.o.mono ?_;rintro e u3 ⟨rfl,hb⟩
 rw[<-D1.o] at hb;obtain⟨pb,E0⟩:=Qe (w.heap.size+1);rw[<-E0] at A1 ⊢;obtain⟨v4,T⟩:=Qe (u3.alloc (.cells #[.slice xha sx.length xhc,.slice xwa sw.length xwc,.slice xca sc.length xcc,.int .i64 si,.int .i64 st,.slice xpa sp.length xpc,.bool sa,.bool sd] 34));have D3:PM u3 v4:=by rw[T]; exact ba _ _
 have H:=hb.trans (D3.mono hb.size);have C:Qg (BK u3.heap.size #[.slice xha sx.length xhc,.slice xwa sw.length xwc,.slice xca sc.length xcc,.int .i64 si,.int .i64 st,.slice xpa sp.length xpc,.bool sa,.bool sd] 34 v4):=Qf (by rw[T]; exact BK.new _ _ _);have M:=Qf (A1.o.below H);have D2:=Qf (B6.o.below H);have I:=Qf (B3.o.trans (H.mono B3.o.size));have E6:w.heap.size<u3.heap.size:=aO B6.o.lt hb.size;have E3:w.heap.size<=pb:=by omega
 have E2:pb<u3.heap.size:=aO A1.o.lt hb.size;obtain⟨r0,r1,r2,r3,r4,r5,r6,r7⟩:=BK.c8 M.o;obtain⟨fr0,fr1,fr2,fr3,fr4,fr5,fr6,fr7⟩:=BK.f8 (M.o);obtain⟨c0,c1,c2,c3,c4,c5,c6,c7⟩:=BK.c8 C.o;obtain⟨x0,x1,x2,x3,x4,x5⟩:=BK.c6 D2.o;rw[T] at r0 r1 r2 r3 r4 r5 r6 r7 fr0 fr1 fr2 fr3 fr4 fr5 fr6 fr7 c0 c1 c2 c3 c4 c5 c6 c7 x4;have B5:=Qf T;have C8:=Qf E3;have C7:=Qf E2;have A0:=Qf E6;clear E0 hb T D3 H HD D1 B3 A1 B6 E6 E3 E2 x0 x1 x2 x3 x5;by_cases hz:e0=0
 case neg=>
  have G9:(e0==0)=false:=by simpa using hz
  obtain⟨v,hv⟩:=Qe ((((((((v4.setCell ⟨pb,0,none⟩ (.slice xha sx.length xhc)).setCell ⟨pb,1,none⟩ (.slice xwa sw.length xwc)).setCell ⟨pb,2,none⟩ (.slice xca sc.length xcc)).setCell ⟨pb,3,none⟩ (.int .i64 si)).setCell ⟨pb,4,none⟩ (.int .i64 st)).setCell ⟨pb,5,none⟩ (.slice xpa sp.length xpc)).setCell ⟨pb,6,none⟩ (.bool sa)).setCell ⟨pb,7,none⟩ (.bool sd));have O:BK pb #[.slice xha sx.length xhc,.slice xwa sw.length xwc,.slice xca sc.length xcc,.int .i64 si,.int .i64 st,.slice xpa sp.length xpc,.bool sa,.bool sd] 34 v:=by rw[hv]; exact((((((((M.o.set 0 _).set 1 _).set 2 _).set 3 _).set 4 _).set 5 _).set 6 _).set 7 _)
  have F2:Qg (PM w v):=Qf (by rw[hv]; exact I.o.grown (fM (fM (fM (fM (fM (fM (fM (dN _ _ _ _) _ _) _ _) _ _) _ _) _ _) _ _) _ _) I.o.size (fun k e=>by cases e; exact C8.o));have HV:=Qf hv;obtain⟨q0,q1,q2,q3,q4,q5,q6,q7⟩:=BK.c8 O;clear O hv J Y K B4 D0 Z;go_wp2_with fail;rw[<-B5.o,<-HV.o];refine bodyPost_ret (v:=.tuple #[.agg #[.slice xha sx.length xhc,.slice xwa sw.length xwc,.slice xca sc.length xcc,.int .i64 si,.int .i64 st,.slice xpa sp.length xpc,.bool sa,.bool sd],.bool false]) (by simp[results,Tryz.results15,go_sem,q0,q1,q2,q3,q4,q5,q6,q7]) rfl (C2.o ⟨sx,sw,sc,si,st,sp,sa,sd⟩ ⟨xha,xhc,xwa,xwc,xca,xcc,xpa,xpc⟩ v F2.o)
 subst hz;obtain⟨qb,P⟩:=Qe u3.heap.size;have C4:Qg (∃s A,LoopRe ⟨xs,ys,want,com,ts,sz⟩ ta w pb qb s A v4):=Qf (by
  rw[P];have h:=J.o (by trivial) v4 u3.heap.size I.o (Nat.le_of_lt A0.o);exact⟨⟨sx,sw,sc,si,st,sp,sa,sd⟩,⟨xha,xhc,xwa,xwc,xca,xcc,xpa,xpc⟩,K.o C.o M.o h.2 h.1 I.o (Txs.below B4.o nr I.o)⟩)
 rw[<-P] at C7 A0;rw[<-P] at c0 c1 c2 c3 c4 c5 c6 c7;clear r0 r1 r2 r3 r4 r5 r6 r7 fr0 fr1 fr2 fr3 fr4 fr5 fr6 fr7 J C M D2 I B4 C2;go_wp2_with fail;rw[<-B5.o,<-P];clear c0 c1 c2 c3 c4 c5 c6 c7 x4 P B5;go_loopw [27] (fun i wr=>∃k:Nat,k<=nt/\i=.int .i64 k/\Qg (∃s A,LoopRe ⟨xs,ys,want,com,ts,sz⟩ ta w pb qb s A wr)) (fun i _=>nt-(intOf i).toNat)
 case atStart=>exact⟨0,by omega,rfl,C4⟩
 case round=>
  obtain⟨k,hk,rfl,HJ⟩:=hrel;obtain⟨⟨fx,fw,fc,fi,ft,fp,fa,fd⟩,⟨gha,ghc,gwa,gwc,gca,gcc,gpa,gpc⟩,hl⟩:=HJ.out;have D:=Qf hl;have A7:=hl.k4;unfold Ses.arr at A7;simp only at A7;have C:=Qf A7;clear HJ C4 hl A7;obtain⟨c0,c1,c2,c3,c4,c5,c6,c7⟩:=BK.c8 C.o;obtain⟨fc0,fc1,fc2,fc3,fc4,fc5,fc6,fc7⟩:=BK.f8 (C.o);by_cases X:k<nt/\fd=false
  ·obtain⟨D8,rfl⟩:=X
   have D7:(k:Int)<(nt:Int):=by omega
   have h1:k<ts.length:=by have:=C6.o; omega
   obtain⟨b0,o0,S,F5,q0⟩:=D.o.tx k h1;have E7:=D0.o _ (ak h1);simp only at S q0 E7;subst S;generalize ts[k]=t at q0 E7;have C9:Qg (Qh 23 #[.agg #[.slice gha fx.length ghc,.slice gwa fw.length gwc,.slice gca fc.length gcc,.int .i64 fi,.int .i64 ft,.slice gpa fp.length gpc,.bool fa,.bool false],.string ⟨t.toArray⟩] wr fun e w'=>∃(s':Ses) (E:SesA) (n:Int),e=.returned (.tuple #[.agg (Ses.arr s' E),.int .i64 n,.int .i64 0])/\SesIn w' s' E w'.heap.size/\Q s'/\PM wr w'):=Qf ((receive_any ⟨fx,fw,fc,fi,ft,fp,fa,false⟩ ⟨gha,ghc,gwa,gwc,gca,gcc,gpa,gpc⟩ qb t wr D.o.si (by omega)).mono (by
    rintro e w' (⟨h,_⟩ | ⟨_,ms,n,E,_,rfl,h3,h4⟩)
    ·cases h
    exact⟨_,E,_,rfl,h3,Z.o _ _ (by rw[HQ.o]; exact D.o.iv),h4⟩))
   go_wp2_with fail
   refine C9.o.mono ?_;rintro e u5 ⟨⟨mx,mw,mc,mi,mt,mp,ma,md⟩,⟨eha,ehc,ewa,ewc,eca,ecc,epa,epc⟩,cnt,rfl,E5,E4,A5⟩
   unfold Ses.arr;simp only;obtain⟨v6,U⟩:=Qe (u5.alloc (.cells #[.slice eha mx.length ehc,.slice ewa mw.length ewc,.slice eca mc.length ecc,.int .i64 mi,.int .i64 mt,.slice epa mp.length epc,.bool ma,.bool md] 34));have C0:PM u5 v6:=by rw[U]; exact ba _ _
   have B:=A5.trans (C0.mono A5.size);have A8:=C.o.below B;have D9:BK u5.heap.size #[.slice eha mx.length ehc,.slice ewa mw.length ewc,.slice eca mc.length ecc,.int .i64 mi,.int .i64 mt,.slice epa mp.length epc,.bool ma,.bool md] 34 v6:=by rw[U]; exact BK.new _ _ _
   obtain⟨v7,B0⟩:=Qe ((((((((v6.setCell ⟨qb,0,none⟩ (.slice eha mx.length ehc)).setCell ⟨qb,1,none⟩ (.slice ewa mw.length ewc)).setCell ⟨qb,2,none⟩ (.slice eca mc.length ecc)).setCell ⟨qb,3,none⟩ (.int .i64 mi)).setCell ⟨qb,4,none⟩ (.int .i64 mt)).setCell ⟨qb,5,none⟩ (.slice epa mp.length epc)).setCell ⟨qb,6,none⟩ (.bool ma)).setCell ⟨qb,7,none⟩ (.bool md));have D6:BK qb #[.slice eha mx.length ehc,.slice ewa mw.length ewc,.slice eca mc.length ecc,.int .i64 mi,.int .i64 mt,.slice epa mp.length epc,.bool ma,.bool md] 34 v7:=by rw[B0]; exact((((((((A8.set 0 _).set 1 _).set 2 _).set 3 _).set 4 _).set 5 _).set 6 _).set 7 _)
   have N:v6.grownBy v7 (some qb):=by rw[B0]; exact fM (fM (fM (fM (fM (fM (fM (dN _ _ _ _) _ _) _ _) _ _) _ _) _ _) _ _) _ _
   have C5:Qg (∃s A,LoopRe ⟨xs,ys,want,com,ts,sz⟩ (some ⟨b0,o0,none⟩) w pb qb s A v7):=Qf ⟨⟨mx,mw,mc,mi,mt,mp,ma,md⟩,⟨eha,ehc,ewa,ewc,eca,ecc,epa,epc⟩,K.o D6 ((D.o.k2.below B).grow1 N (by have:=C7.o; omega)) (((E5.kind (kind8 (C.o.below A5))).below C0).grown N) E4 ((D.o.be.trans (B.mono D.o.be.size)).grown N (aC D.o.be.size B.size) (fun k e=>by cases e; exact Nat.le_of_lt A0.o)) ((D.o.tx.below D.o.be.size B).grown (aC D.o.be.size B.size) (Nat.le_of_lt A0.o) N)⟩;obtain⟨r0,r1,r2,r3,r4,r5,r6,r7⟩:=BK.c8 A8;obtain⟨fr0,fr1,fr2,fr3,fr4,fr5,fr6,fr7⟩:=BK.f8 (A8);obtain⟨x0,x1,x2,x3,x4,x5,x6,x7⟩:=BK.c8 D9;rw[U] at r0 r1 r2 r3 r4 r5 r6 r7 fr0 fr1 fr2 fr3 fr4 fr5 fr6 fr7 x0 x1 x2 x3 x4 x5 x6 x7;rw[B0,U] at C5;clear c0 c1 c2 c3 c4 c5 c6 c7 fc0 fc1 fc2 fc3 fc4 fc5 fc6 fc7 U C0 B A8 D9 B0 D6 N E5 E4 A5 C9 C D K Z Y;go_wp2_with fail;go_roundw
   case rel=>exact⟨k+1,by omega,by go_num,C5⟩
   case measure=>simp[intOf] <;> omega
  ·have C3:Qg (∀v,wr.grownBy v (some pb)->G (.returned (.tuple #[.agg #[.slice gha fx.length ghc,.slice gwa fw.length gwc,.slice gca fc.length gcc,.int .i64 fi,.int .i64 ft,.slice gpa fp.length gpc,.bool fa,.bool fd],.bool true])) v):=Qf (fun v D5=>Y.o ⟨fx,fw,fc,fi,ft,fp,fa,fd⟩ ⟨gha,ghc,gwa,gwc,gca,gcc,gpa,gpc⟩ v (by rw[HQ.o]; exact D.o.iv) (((D.o.si.kind (kind8 D.o.k2)).grown D5).far nr) (D.o.be.grown D5 D.o.be.size (fun k e=>by cases e; exact C8.o)))
   have A6:=D.o.k2;obtain⟨v,hv⟩:=Qe ((((((((wr.setCell ⟨pb,0,none⟩ (.slice gha fx.length ghc)).setCell ⟨pb,1,none⟩ (.slice gwa fw.length gwc)).setCell ⟨pb,2,none⟩ (.slice gca fc.length gcc)).setCell ⟨pb,3,none⟩ (.int .i64 fi)).setCell ⟨pb,4,none⟩ (.int .i64 ft)).setCell ⟨pb,5,none⟩ (.slice gpa fp.length gpc)).setCell ⟨pb,6,none⟩ (.bool fa)).setCell ⟨pb,7,none⟩ (.bool fd));have O:BK pb #[.slice gha fx.length ghc,.slice gwa fw.length gwc,.slice gca fc.length gcc,.int .i64 fi,.int .i64 ft,.slice gpa fp.length gpc,.bool fa,.bool fd] 34 v:=by rw[hv]; exact((((((((A6.set 0 _).set 1 _).set 2 _).set 3 _).set 4 _).set 5 _).set 6 _).set 7 _)
   have HF:=Qf (C3.o v (by rw[hv]; exact fM (fM (fM (fM (fM (fM (fM (dN _ _ _ _) _ _) _ _) _ _) _ _) _ _) _ _) _ _));have HV:=Qf hv;obtain⟨q0,q1,q2,q3,q4,q5,q6,q7⟩:=BK.c8 O;obtain⟨r0,r1,r2,r3,r4,r5,r6,r7⟩:=BK.c8 A6;obtain⟨fr0,fr1,fr2,fr3,fr4,fr5,fr6,fr7⟩:=BK.f8 (A6);clear hv O A6 C3 Z Y K C;by_cases D8:k<nt
   ·obtain rfl:fd=true:=by cases fd with | true=>rfl | false=>exact absurd ⟨D8,rfl⟩ X
    have D7:(k:Int)<(nt:Int):=by omega
    obtain⟨b0,o0,S,F5,p0⟩:=D.o.tx k (by have:=C6.o; simp only; omega);simp only at S p0;subst S;clear D;go_wp2_with fail;rw[<-HV.o];refine bodyPost_ret (v:=.tuple #[.agg #[.slice gha fx.length ghc,.slice gwa fw.length gwc,.slice gca fc.length gcc,.int .i64 fi,.int .i64 ft,.slice gpa fp.length gpc,.bool fa,.bool true],.bool true]) (by simp[results,Tryz.results15,go_sem,q0,q1,q2,q3,q4,q5,q6,q7]) rfl HF.o
   ·have D7:¬(k:Int)<(nt:Int):=by omega
    clear D;go_wp2_with fail;rw[<-HV.o];refine bodyPost_ret (v:=.tuple #[.agg #[.slice gha fx.length ghc,.slice gwa fw.length gwc,.slice gca fc.length gcc,.int .i64 fi,.int .i64 ft,.slice gpa fp.length gpc,.bool fa,.bool fd],.bool true]) (by simp[results,Tryz.results15,go_sem,q0,q1,q2,q3,q4,q5,q6,q7]) rfl HF.o
