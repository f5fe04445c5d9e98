/- transfer's client: finish, take, each; Receive, Begin, Result. -/
import Derived.Test.YtkedhdcnakhbgaaGreatT1
set_option linter.unusedSimpArgs false
set_option maxRecDepth 100000
set_option maxHeartbeats 16000000
namespace Go.Proofs.YtkedhdcnakhbgaaGreat
open Go.RowKit Go.Shelf
set_option linter.unusedVariables false
variable {b:Nat}{s:Ses}{A:SesA}{W:World}
def GotCl(b:Nat)(s:Ses)(acc:Int)(w:World)(e:Ending)(w':World):Prop:=∃A,e=.returned (.tuple #[])/\BK b (s.cl A acc) 96 w'/\SesIn w' s A b/\w.grownBy w' (some b)
theorem below_rg2{W':World}(h:PM W W'):W.grownBy W' (some b):=⟨h.os,h.tape,h.output,h.size,fun k A _=>h.block k A⟩
theorem SesIn.pool{w w':World}(h:SesIn w s A b)(J:b<w.heap.size){Q:List Itm}{a:Qa}{c:Nat}(C:iF w A.ha s.xs Q a c w')(D:Ps Q c)(E:∀x∈Q,vg x=0)(H:Q.length<=2000):
  SesIn w' { s with xs:=Q,id:=0,tot:=0,ps:=[],done:=true } { A with ha:=a,hc:=c,pa:=none,pc:=0 } b:=by
 have B:=(h.below C.2.2.2).nop;refine⟨⟨C.1,C.2.1,by simp only; omega,fun x I=>D.xd x I⟩,D,B.hw,B.hc,B.hq,B.cq,B.cw,B.cc,fun ad e F=>?_,B.nw,B.nc,B.nq,B.ow,B.oc,E,H,fun e=>(by cases e),B.lw,B.lc,B.vp⟩;rcases C.2.2.1 with⟨e1,e2⟩ | G
 ·subst e2; rw[e1] at e; exact h.nh ad e F
 ·have:=G ad e; intro e3; injection e3 with e3; omega
theorem finish_any(b:Nat)(s:Ses)(A:SesA)(acc:Int)(T:Qb)(w:World)(hb:BK b (s.cl A acc) 96 w)(X:SesIn w s A b)(hT:(T.length:Int)<=1048576)(hd:s.done=false):
  Qh 105 #[.pointer (some ⟨b,0,none⟩),.string ⟨T.toArray⟩] w (GotCl b (finS s T) acc w):=by
 have HI:=Qf X;obtain⟨xs,want,com,id,tot,ps,asked,dn⟩:=s;obtain⟨Y,Z,wa,wk,ca,cc,pa,pc⟩:=A;simp only at hd;subst hd;obtain⟨W1,I⟩:=Qe (((w.setCell ⟨b,3,none⟩ (.int .i64 0)).setCell ⟨b,4,none⟩ (.int .i64 0)).setCell ⟨b,5,none⟩ (.slice none 0 0));have O:BK b #[.slice Y xs.length Z,.slice wa want.length wk,.slice ca com.length cc,.int .i64 0,.int .i64 0,.slice none 0 0,.bool asked,.bool false,.int .i64 acc] 96 W1:=by rw[I]; exact((hb.set 3 _).set 4 _).set 5 _
 have W:w.grownBy W1 (some b):=by rw[I]; exact bu (bu (dN _ _ _ _) (dN _ _ _ _)) (dN _ _ _ _)
 have B:=(X.grown W).nop;have HU:=Qf (Nc T xs Y Z W1 (by omega) B.hp.its B.hr (by have:=B.lx; simp only at this; omega));have A8:∀Q,tu T xs=(Q,0)->_:=fun Q h=>unp_pool B h
 have B6:=B.ly rfl;obtain⟨c0,c1,c2,c3,c4,c5,c6,c7,c8⟩:=BK.c9 hb;obtain⟨fc0,fc1,fc2,fc3,fc4,fc5,fc6,fc7,fc8⟩:=BK.f9 (hb);obtain⟨d0,d1,d2,d3,d4,d5,d6,d7,d8⟩:=BK.c9 O;obtain⟨G,hG⟩:=Qe (GotCl b (finS ⟨xs,want,com,id,tot,ps,asked,false⟩ T) acc w);rw[<-hG];unfold finS at hG;simp only at hG;have P:=Qf hG;have N:=Qf A8;clear A8 hG;generalize tu T xs=U at HU N P;obtain⟨Q,er⟩:=U;simp only at P;have A5:=O.lt;have A0:=Qf O;have R:=Qf W;have F:=Qf B;have A3:=Qf I;rw[I] at HU d0 d1 d2 d3 d4 d5 d6 d7 d8;obtain⟨q,hq⟩:=Qe Q.length;have HQ:=Qf hq;clear hb X O W B I hq hT;go_enter Tryz.func105,Tryz.ntmps105;go_wp2_with fail
 refine HU.o.mono ?_;rintro e u ⟨a,c,rfl,J⟩
 rw[<-A3.o] at J;simp only;rw[<-HQ.o];have D:=Qf (A0.o.below J.2.2.2);have L:Qg (w.grownBy u (some b)):=Qf (bu R.o (below_rg2 J.2.2.2));have C:=Qf J;clear HU J d0 d1 d2 d3 d4 d5 d6 d7 d8 A0 c0 c1 c2 c3 c4 c5 c6 c7 c8 fc0 fc1 fc2 fc3 fc4 fc5 fc6 fc7 fc8 A3;obtain⟨c0,c1,c2,c3,c4,c5,c6,c7,c8⟩:=BK.c9 D.o;obtain⟨fc0,fc1,fc2,fc3,fc4,fc5,fc6,fc7,fc8⟩:=BK.f9 (D.o);by_cases he:er=0
 ·subst he
  obtain⟨g1,g2,g3,g4,g5⟩:=N.o Q rfl;have g1':Q.length<=xs.length+1000:=g1;have A6:xs.length<=1000:=B6;have B7:Q.length<=2000:=by omega
  have A7:=g5 c C.o.2.1 (by omega);have H:=Qf (F.o.pool A5 C.o A7 g2 B7);have A2:=Qf (F.o.below C.o.2.2.2);have HH:=Qf (hasAll_any a Q c wa want wk u H.o.hp g3 H.o.hw H.o.ow (by omega) (by have h8:want.length<=1000:=HI.o.lw; omega));rw[<-HQ.o] at HH;clear N C F HI R g1 g2 g3 g4 g5 A7 g1' A6;go_wp2_with fail
  refine HH.o.mono ?_;rintro e v ⟨rfl,K⟩
  have E:=Qf (D.o.below K);have M:Qg (w.grownBy v (some b)):=Qf (bu L.o (below_rg2 K));have V:=Qf (H.o.below K);have S:=Qf (A2.o.below K);clear HH K D L H A2 c0 c1 c2 c3 c4 c5 c6 c7 c8 fc0 fc1 fc2 fc3 fc4 fc5 fc6 fc7 fc8;cases hh:fullS Q want with
  | true=>
   have HF:Qg (G (.returned (.tuple #[])) ((v.setCell ⟨b,0,none⟩ (.slice a q c)).setCell ⟨b,7,none⟩ (.bool true))):=Qf (by
    rw[P.o,if_pos ⟨trivial,hh⟩,HQ.o];exact⟨⟨a,c,wa,wk,ca,cc,none,0⟩,rfl,by exact(E.o.set 0 (.slice a Q.length c)).set 7 (.bool true),V.o.grown (bu (dN _ _ _ _) (dN _ _ _ _)),bu M.o (bu (dN _ _ _ _) (dN _ _ _ _))⟩)
   obtain⟨c0,c1,c2,c3,c4,c5,c6,c7,c8⟩:=BK.c9 E.o;obtain⟨fc0,fc1,fc2,fc3,fc4,fc5,fc6,fc7,fc8⟩:=BK.f9 (E.o);clear P E M V S hh;go_wp2_with fail;refine bodyPost_ret (v:=.tuple #[]) (by simp[results,Tryz.results105,go_sem]) rfl HF.o
  | false=>
   have HF:Qg (G (.returned (.tuple #[])) v):=Qf (by
    rw[P.o,if_neg (fun h=>by have h2:=h.2; rw[hh] at h2; cases h2)];exact⟨_,rfl,E.o,S.o,M.o⟩)
   clear P E M V S hh;go_wp2_with fail;refine bodyPost_ret (v:=.tuple #[]) (by simp[results,Tryz.results105,go_sem]) rfl HF.o
 ·have C2:(er==0)=false:=by simpa using he
  have HF:Qg (G (.returned (.tuple #[])) u):=Qf (by
   rw[P.o,if_neg (fun h=>he h.1)];exact⟨_,rfl,D.o,F.o.below C.o.2.2.2,L.o⟩)
  clear P N C D F HI R L;go_wp2_with fail;refine bodyPost_ret (v:=.tuple #[]) (by simp[results,Tryz.results105,go_sem]) rfl HF.o
theorem whole_len{id tot:Int}{ps:List P}(h:gm id tot ps=true):(y9 id tot ps).2=true->((y9 id tot ps).1.length:Int)<=1048576:=fun e=>by
 match ps,h with
 | [],h=>cases e
 | [p],h=>
  rw[EY] at e ⊢;split
  ·have:=(vParts_bounds h).2 p (by simp); simp only; omega
  ·simp
 | p::q::r,h=>cases e
theorem finS_ps(s:Ses)(T:Qb):(finS s T).ps=[]:=by unfold finS; split <;> rfl
theorem SesIn.ask(h:SesIn W s A b)(v:Bool):SesIn W { s with asked:=v } A b:=
 ⟨h.hp,h.hr,h.hw,h.hc,h.hq,h.cq,h.cw,h.cc,h.nh,h.nw,h.nc,h.nq,h.ow,h.oc,h.ck,h.lx,h.ly,h.lw,h.lc,h.vp⟩
def tkN(s:Ses)(m:Msg):Int:=if(takeS s m).2=true then 1 else 0
theorem take_any(b:Nat)(s:Ses)(A:SesA)(acc:Int)(m:Msg)(ma:Qa)(mc:Nat)(w:World)(hb:BK b (s.cl A acc) 96 w)(R:SesIn w s A b)(J7:0<=acc)(J8:acc<=1000000000000)(hT:(m.data.length:Int)<=1048576):
  Qh 56 #[.pointer (some ⟨b,0,none⟩),m.val ma mc] w (GotCl b (takeS s m).1 (acc+tkN s m) w):=by
 have V:=Qf R;have D6:=Qf hb;obtain⟨xs,want,com,id,tot,ps,asked,dn⟩:=s;obtain⟨kind,mid,off,mtot,ds,data⟩:=m;obtain⟨ha,hc,wa,wk,ca,cc,pa,pc⟩:=A;obtain⟨G,hG⟩:=Qe (GotCl b (takeS ⟨xs,want,com,id,tot,ps,asked,dn⟩ ⟨kind,mid,off,mtot,ds,data⟩).1 (acc+tkN ⟨xs,want,com,id,tot,ps,asked,dn⟩ ⟨kind,mid,off,mtot,ds,data⟩) w);rw[<-hG];obtain⟨u1,B⟩:=Qe (w.alloc (.cells #[.int .i64 kind,.int .i64 mid,.int .i64 off,.int .i64 mtot,.slice ma ds.length mc,.string ⟨data.toArray⟩] 73));have C:PM w u1:=by rw[B]; exact ba _ _
 have A2:BK w.heap.size #[.int .i64 kind,.int .i64 mid,.int .i64 off,.int .i64 mtot,.slice ma ds.length mc,.string ⟨data.toArray⟩] 73 u1:=by rw[B]; exact BK.new _ _ _
 have D:=hb.below C;have W:Qg (takeS ⟨xs,want,com,id,tot,ps,asked,dn⟩ ⟨kind,mid,off,mtot,ds,data⟩=(⟨xs,want,com,id,tot,ps,asked,dn⟩,false)->G (.returned (.tuple #[])) u1):=Qf (fun h=>by
  rw[hG]; unfold tkN; rw[h];exact⟨⟨ha,hc,wa,wk,ca,cc,pa,pc⟩,rfl,by simpa using D,V.o.below C,below_rg2 C⟩)
 obtain⟨c0,c1,c2,c3,c4,c5,c6,c7,c8⟩:=BK.c9 D;obtain⟨fc0,fc1,fc2,fc3,fc4,fc5,fc6,fc7,fc8⟩:=BK.f9 (D);obtain⟨m0,m1,m2,m3,m4,m5⟩:=BK.c6 A2;obtain⟨n,hn⟩:=Qe ps.length;have HN:=Qf hn;cases dn with
 | true=>
  have E:=W.o (by unfold takeS; rw[if_pos (.inl rfl)]);rw[B] at E c7 c0 c1 c2 c3 c4 c5 c6 c8;have D7:=Qf E;clear W V D6 hG B C A2 D R hb E;go_enter Tryz.func56,Tryz.ntmps56;go_wp2_with fail;refine bodyPost_ret (v:=.tuple #[]) (by simp[results,Tryz.results56,go_sem]) rfl D7.o
 | false=>
  by_cases hk:kind=2
  ·subst hk
   obtain⟨u2,C5⟩:=Qe (u1.alloc (.cells #[.int .i64 id,.int .i64 tot,.slice pa n pc] 32));have B8:PM u1 u2:=by rw[C5]; exact ba _ _
   have I5:BK u1.heap.size #[.int .i64 id,.int .i64 tot,.slice pa n pc] 32 u2:=by rw[C5]; exact BK.new _ _ _
   have I2:w.heap.size<u1.heap.size:=by rw[B]; simp
   have D0:=hb.lt;have B4:=Qf (C.trans (B8.mono C.size));have F7:=Qf (D.below B8);have B0:=Qf (A2.below B8);have L:=Qf I5;have E3:=Qf (V.o.below B4.o);obtain⟨mb,C3⟩:=Qe w.heap.size;obtain⟨ob,C4⟩:=Qe (w.heap.size+1);have D2:u1.heap.size=ob:=by rw[C4,B]; simp
   rw[<-C3] at B0;rw[D2] at L;have E1:=Qf C3;have G2:=Qf C4;have J9:b<mb/\mb<ob:=by rw[C3,C4]; exact⟨D0,by omega⟩
   have G9:=Qf (C5.trans (by rw[B]));have HG:=Qf hG;have G8:=Qf R;obtain⟨O,hO⟩:=Qe (oldS ⟨xs,want,com,id,tot,ps,asked,false⟩ ⟨2,mid,off,mtot,ds,data⟩);obtain⟨o1,o2,os⟩:=O;have G3:=Qf hO;have E9:(n=0\/id≠mid\/tot≠mtot)->(o1,o2,os)=(0,0,[]):=fun h=>by
    rw[hO]; unfold oldS;rw[if_pos (h.imp (fun e=>by rw[hn] at e; exact aU e) (fun e=>e))]
   have F0:¬(n=0\/id≠mid\/tot≠mtot)->(o1,o2,os)=(id,tot,ps):=fun h=>by
    rw[hO]; unfold oldS;rw[if_neg (fun e=>h (e.imp (fun e=>by simp only at e; rw[hn,e]; rfl) (fun e=>e)))]
   have E6:Qg (gm o1 o2 os=true):=Qf (by
    by_cases h:n=0\/id≠mid\/tot≠mtot
    ·have:=E9 h; cases this; rfl
    ·have:=F0 h; cases this; exact R.vp)
   have G1:=Qf E9;have C9:=Qf F0;rw[<-hn] at c5;rw[B] at c0 c1 c2 c3 c4 c5 c6 c7 c8 m0 m1 m2 m3 m4 m5;clear W V D6 hG B C A2 D R hb B8 I5 C5 I2 D0 C3 C4 D2 hn hO E9 F0;go_enter Tryz.func56,Tryz.ntmps56;go_upto_region 3 with fail
   rw[<-G9.o,<-G2.o,<-E1.o];clear c0 c1 c2 c3 c4 c5 c6 c7 c8 m0 m1 m2 m3 m4 m5 fc0 fc1 fc2 fc3 fc4 fc5 fc6 fc7 fc8 G9 G2;obtain⟨p0,p1,p2⟩:=BK.c3 L.o;obtain⟨fp0,fp1,fp2⟩:=BK.f3 (L.o);obtain⟨m0,m1,m2,m3,m4,m5⟩:=BK.c6 B0.o;go_cut [41] from 24 (fun c wx=>c=.bool (decide (n=0\/id≠mid\/tot≠mtot))/\u2=wx)
   case first=>
    by_cases h0:n=0
    ·have g1:((n:Int)==0)=true:=by simp[h0]
     have S:Qg (decide (n=0\/id≠mid\/tot≠mtot)=true):=Qf (decide_eq_true (.inl h0));clear h0;go_wp2_with fail;go_meet
     case rel=>exact⟨congrArg Value.bool S.o.symm,rfl⟩
    ·have g1:((n:Int)==0)=false:=by simp; omega
     by_cases hi:id=mid
     ·have g2:(id !=mid)=false:=by simpa using hi
      by_cases ht:tot=mtot
      ·have g3:(tot !=mtot)=false:=by simpa using ht
       have S:Qg (decide (n=0\/id≠mid\/tot≠mtot)=false):=Qf (decide_eq_false (fun h=>h.elim h0 (fun h=>h.elim (fun h=>h hi) (fun h=>h ht))));clear h0 hi ht;go_wp2_with fail;go_meet
       case rel=>exact⟨congrArg Value.bool S.o.symm,rfl⟩
      ·have g3:(tot !=mtot)=true:=by simpa using ht
       have S:Qg (decide (n=0\/id≠mid\/tot≠mtot)=true):=Qf (decide_eq_true (.inr (.inr ht)));clear h0 hi ht;go_wp2_with fail;go_meet
       case rel=>exact⟨congrArg Value.bool S.o.symm,rfl⟩
     ·have g2:(id !=mid)=true:=by simpa using hi
      have S:Qg (decide (n=0\/id≠mid\/tot≠mtot)=true):=Qf (decide_eq_true (.inr (.inl hi)));clear h0 hi;go_wp2_with fail;go_meet
      case rel=>exact⟨congrArg Value.bool S.o.symm,rfl⟩
   case rest=>
   obtain⟨rfl,rfl⟩:=hcut;go_upto_if 41 with fail
   go_cut [] from 41 (fun wx=>∃oa oc,Qg (BK ob #[.int .i64 o1,.int .i64 o2,.slice oa os.length oc] 32 wx/\Pcs wx.heap.size wx oa os/\os.length<=oc)/\Qg (u2.grownBy wx (some ob)))
   case first=>
    cases hz:decide (n=0\/id≠mid\/tot≠mtot) with
    | true=>
     have S:=Qf (G1.o (by simpa using hz));clear hz;go_wp2_with fail;go_meet
     case rel=>
      have he:=S.o;cases he;exact⟨none,0,Qf ⟨((L.o.set 0 _).set 1 _).set 2 _,fun i hi=>by simp at hi,nr⟩,Qf (bu (bu (dN _ _ _ _) (dN _ _ _ _)) (dN _ _ _ _))⟩
    | false=>
     have S:=Qf (C9.o (by simpa using hz));clear hz;go_wp2_with fail;go_meet
     case rel=>
      have he:=S.o;cases he;exact⟨pa,pc,Qf ⟨by have h5:=L.o; rw[HN.o] at h5; exact h5,E3.o.hq,E3.o.cq⟩,Qf ⟨rfl,rfl,rfl,nr,fun k _ _=>rfl⟩⟩
   case rest=>
   obtain⟨oa,oc,A6,G0⟩:=hcut;have C0:=G0.out;have H4:ob≠b:=by omega
   have H5:ob≠mb:=by omega
   have D4:Qg (BK b #[.slice ha xs.length hc,.slice wa want.length wk,.slice ca com.length cc,.int .i64 id,.int .i64 tot,.slice pa n pc,.bool asked,.bool false,.int .i64 acc] 96 wc):=Qf (by rw[HN.o]; exact F7.o.grow1 C0 H4);have E0:=Qf (B0.o.grow1 C0 H5);have I7:w.heap.size<=ob:=by have:=E1.o; omega
   have B5:=Qf (B4.o.grown C0 B4.o.size (fun k e=>by cases e; exact I7));have G4:=Qf (G8.o.below B5.o);have E2:=Qf A6.out.1;have U:=Qf (Ou o1 o2 oa os oc 2 mid off mtot ma ds.length mc data wc A6.out.2.1 A6.out.2.2 (vParts_len1 E6.o) (vParts_bounds E6.o).2 hT);obtain⟨g,hg⟩:=Qe (nJ o1 o2 os 2 mid off mtot ds.length data);rw[<-hg] at U;have A8:Qg (gatS ⟨xs,want,com,id,tot,ps,asked,false⟩ ⟨2,mid,off,mtot,ds,data⟩=g):=Qf (by unfold gatS; rw[<-G3.o,hg]);obtain⟨ge,g1,g2,gs⟩:=g;have D9:=Qf hg;obtain⟨gn,H9⟩:=Qe gs.length;have K:=Qf H9;obtain⟨on,I6⟩:=Qe os.length;rw[<-I6] at E2 U;obtain⟨nd,I4⟩:=Qe ds.length;rw[<-I4] at E0 U;clear hg H9 I6 I4 A6 G0 C0 I7 F7 B0 B4 E3 L G1 C9 G3 E6 E1 G8 p0 p1 p2 fp0 fp1 fp2 m0 m1 m2 m3 m4 m5;obtain⟨p0,p1,p2⟩:=BK.c3 E2.o;obtain⟨m0,m1,m2,m3,m4,m5⟩:=BK.c6 E0.o;go_wp2_with fail
   refine U.o.mono ?_;rintro e u4 ⟨ga,gc,rfl,F2,B9,A1,A3⟩
   simp only at F2 A1 A3 ⊢;rw[<-K.o];have E7:=Qf (B5.o.trans (B9.mono B5.o.size));have D5:=Qf (D4.o.below B9);have G5:=Qf (G4.o.below B9);have J4:b<wc.heap.size:=D4.o.lt;have H:Qg (∀ad,ga=some ad->b<ad.block):=Qf (fun ad e=>by have:=A3 ad e; omega);have G7:=Qf F2;have C8:=Qf A1;clear F2 A1 A3 B9 U D4 G4 B5 E0 E2 p0 p1 p2 m0 m1 m2 m3 m4 m5;obtain⟨u5,C6⟩:=Qe (u4.alloc (.cells #[.int .i64 g1,.int .i64 g2,.slice ga gn gc] 32));have P:PM u4 u5:=by rw[C6]; exact ba _ _
   have B7:Qg (BK u4.heap.size #[.int .i64 g1,.int .i64 g2,.slice ga gn gc] 32 u5):=Qf (by rw[C6]; exact BK.new _ _ _);have I:=Qf (D5.o.below P);have B1:=Qf (G5.o.below P);have B6:=Qf (E7.o.trans (P.mono E7.o.size));have X:=Qf ((G7.o.below P nr).mono P.size);have J3:u4.heap.size≠b:=by have:=D5.o.lt; omega
   have Z:=Qf C6;clear D5 G5 E7 G7 P C6;by_cases he:ge=0
   ·subst he
    obtain⟨gl1,gl2,gl3,gl4,_⟩:=Ot D9.o.symm;subst gl1;subst gl2;obtain⟨u7,C7⟩:=Qe ((((u5.setCell ⟨b,8,none⟩ (.int .i64 (acc+1))).setCell ⟨b,3,none⟩ (.int .i64 g1)).setCell ⟨b,4,none⟩ (.int .i64 g2)).setCell ⟨b,5,none⟩ (.slice ga gn gc));have Q:u5.grownBy u7 (some b):=by rw[C7]; exact bu (bu (bu (dN _ _ _ _) (dN _ _ _ _)) (dN _ _ _ _)) (dN _ _ _ _)
    have F8:Qg (BK b #[.slice ha xs.length hc,.slice wa want.length wk,.slice ca com.length cc,.int .i64 g1,.int .i64 g2,.slice ga gn gc,.bool asked,.bool false,.int .i64 (acc+1)] 96 u7):=Qf (by rw[C7]; exact(((I.o.set 8 _).set 3 _).set 4 _).set 5 _);have H1:Qg (BK u4.heap.size #[.int .i64 g1,.int .i64 g2,.slice ga gn gc] 32 u7):=Qf (B7.o.grow1 Q (Ne.symm J3));have Y:=Qf ((X.o.grown nr Q (fun ad e _ e2=>by have:=H.o ad e; injection e2 with e2; omega)).mono Q.size);have G6:Qg (SesIn u7 ⟨xs,want,com,g1,g2,gs,asked,false⟩ ⟨ha,hc,wa,wk,ca,cc,ga,gc⟩ b):=Qf (by
     have h:=B1.o.grown Q;exact⟨h.hp,h.hr,h.hw,h.hc,Y.o,C8.o,h.cw,h.cc,h.nh,h.nw,h.nc,fun ad e _ e2=>by have:=H.o ad e; injection e2 with e2; omega,h.ow,h.oc,h.ck,h.lx,h.ly,h.lw,h.lc,gl3⟩)
    have F9:Qg (w.grownBy u7 (some b)):=Qf (bu (below_rg2 B6.o) Q);have I0:0<gn:=by rw[K.o]; exact bJ.2 gl4
    have N:=Qf (Oz g1 g2 ga gs gc u7 Y.o (vParts_len1 gl3) (vParts_bounds gl3).2);rw[<-K.o] at N;have B3:Qg (takeS ⟨xs,want,com,id,tot,ps,asked,false⟩ ⟨2,g1,off,g2,ds,data⟩=({ putPS ⟨xs,want,com,id,tot,ps,asked,false⟩ (g1,g2,gs) with asked:=decide (0<(putPS ⟨xs,want,com,id,tot,ps,asked,false⟩ (g1,g2,gs)).ps.length) },true)):=Qf (by
     unfold takeS;rw[if_neg (by simp),A8.o,if_neg (by simp)])
    have E4:Qg ((y9 g1 g2 gs).2=true->((y9 g1 g2 gs).1.length:Int)<=1048576):=Qf (whole_len gl3);obtain⟨WH,F3⟩:=Qe (y9 g1 g2 gs);rw[<-F3] at N E4;have H0:=Qf F3;obtain⟨T,ok⟩:=WH;simp only at E4 N;have K3:IntKind.i64.wrap (acc+1)=acc+1:=wrap_i64 (by omega) (by omega);have E5:=Qf (C7.trans (by rw[Z.o]));obtain⟨c0,c1,c2,c3,c4,c5,c6,c7,c8⟩:=BK.c9 I.o;obtain⟨fc0,fc1,fc2,fc3,fc4,fc5,fc6,fc7,fc8⟩:=BK.f9 (I.o);obtain⟨x0,x1,x2⟩:=BK.c3 H1.o;obtain⟨y0,y1,y2⟩:=BK.c3 B7.o;rw[Z.o] at c0 c1 c2 c3 c4 c5 c6 c7 c8 fc0 fc1 fc2 fc3 fc4 fc5 fc6 fc7 fc8 y0 y1 y2;rw[E5.o] at x0 x1 x2 N;clear F3 I B7 X B1 B6 Q C7 Y gl3 gl4 D9 A8 H C8;go_wp2_with fail
    refine N.o.mono ?_;rintro e u8 ⟨rfl,A0⟩
    rw[<-E5.o] at A0;have J:=Qf (F8.o.below A0);have B2:=Qf (G6.o.below A0);have A7:Qg (w.grownBy u8 (some b)):=Qf (bu F9.o (below_rg2 A0));clear A0 F8 G6 F9 H1 N E5 Z c0 c1 c2 c3 c4 c5 c6 c7 c8 fc0 fc1 fc2 fc3 fc4 fc5 fc6 fc7 fc8 x0 x1 x2 y0 y1 y2;cases ok with
    | true=>
     have D8:=Qf (finish_any b ⟨xs,want,com,g1,g2,gs,asked,false⟩ ⟨ha,hc,wa,wk,ca,cc,ga,gc⟩ (acc+1) T u8 (by have h:=J.o; rw[K.o] at h; exact h) B2.o (E4.o rfl) rfl);have M:Qg (putPS ⟨xs,want,com,id,tot,ps,asked,false⟩ (g1,g2,gs)=finS ⟨xs,want,com,g1,g2,gs,asked,false⟩ T):=Qf (by unfold putPS; simp only; rw[<-H0.o]; rfl);have F1:=finS_ps ⟨xs,want,com,g1,g2,gs,asked,false⟩ T;generalize finS ⟨xs,want,com,g1,g2,gs,asked,false⟩ T=F at D8 M F1;obtain⟨fx,fw,fc,fi,ft,fp,fa,fd⟩:=F;simp only at F1;subst F1;go_wp2_with fail
     refine D8.o.mono ?_;rintro e u9 ⟨A9,rfl,C2,I1,H8⟩
     obtain⟨H3,H7,wa9,wk9,ca9,cc9,pa9,pc9⟩:=A9;have E:Qg (G (.returned (.tuple #[])) (u9.setCell ⟨b,6,none⟩ (.bool false))):=Qf (by
      rw[HG.o]; unfold tkN; rw[B3.o,M.o];exact⟨⟨H3,H7,wa9,wk9,ca9,cc9,pa9,pc9⟩,rfl,C2.set 6 _,(I1.ask _).grown (dN _ _ _ _),bu A7.o (bu H8 (dN _ _ _ _))⟩)
     obtain⟨c0,c1,c2,c3,c4,c5,c6,c7,c8⟩:=BK.c9 C2;obtain⟨fc0,fc1,fc2,fc3,fc4,fc5,fc6,fc7,fc8⟩:=BK.f9 (C2);clear C2 I1 H8 D8 M B3 HG J B2 A7;go_wp2_with fail;refine bodyPost_ret (v:=.tuple #[]) (by simp[results,Tryz.results56,go_sem]) rfl E.o
    | false=>
     have M:Qg (putPS ⟨xs,want,com,id,tot,ps,asked,false⟩ (g1,g2,gs)=⟨xs,want,com,g1,g2,gs,asked,false⟩):=Qf (by unfold putPS; simp only; rw[<-H0.o]; rfl);have K1:(0:Int)<(gn:Int):=by omega
     have E:Qg (G (.returned (.tuple #[])) (u8.setCell ⟨b,6,none⟩ (.bool true))):=Qf (by
      rw[HG.o]; unfold tkN; rw[B3.o,M.o];have h5:=J.o;rw[K.o] at h5;have h6:decide (0<gs.length)=true:=by rw[<-K.o]; exact decide_eq_true I0
      simp only[h6];exact⟨⟨ha,hc,wa,wk,ca,cc,ga,gc⟩,rfl,h5.set 6 _,(B2.o.ask _).grown (dN _ _ _ _),bu A7.o (dN _ _ _ _)⟩)
     obtain⟨c0,c1,c2,c3,c4,c5,c6,c7,c8⟩:=BK.c9 J.o;obtain⟨fc0,fc1,fc2,fc3,fc4,fc5,fc6,fc7,fc8⟩:=BK.f9 (J.o);clear M B3 HG J B2 A7;go_wp2_with fail;refine bodyPost_ret (v:=.tuple #[]) (by simp[results,Tryz.results56,go_sem]) rfl E.o
   ·have K0:(ge !=0)=true:=by simpa using he
    have E:Qg (G (.returned (.tuple #[])) u5):=Qf (by
     have ht:takeS ⟨xs,want,com,id,tot,ps,asked,false⟩ ⟨2,mid,off,mtot,ds,data⟩=(⟨xs,want,com,id,tot,ps,asked,false⟩,false):=by
      unfold takeS;rw[if_neg (by simp),A8.o,if_pos he]
     rw[HG.o]; unfold tkN; rw[ht];have H6:=I.o;rw[HN.o] at H6;exact⟨⟨ha,hc,wa,wk,ca,cc,pa,pc⟩,rfl,by simpa using H6,B1.o,below_rg2 B6.o⟩)
    rw[Z.o] at E;clear HG A8 D9 H B7 I B1 B6 X Z he;go_wp2_with fail;refine bodyPost_ret (v:=.tuple #[]) (by simp[results,Tryz.results56,go_sem]) rfl E.o
  ·have K2:(kind !=2)=true:=by simpa using hk
   have E:=W.o (by unfold takeS; rw[if_pos (.inr hk)]);rw[B] at E c7 c0 c1 c2 c3 c4 c5 c6 c8 m0;have D7:=Qf E;clear W V D6 hG B C A2 D R hb E hk;go_enter Tryz.func56,Tryz.ntmps56;go_wp2_with fail;refine bodyPost_ret (v:=.tuple #[]) (by simp[results,Tryz.results56,go_sem]) rfl D7.o
