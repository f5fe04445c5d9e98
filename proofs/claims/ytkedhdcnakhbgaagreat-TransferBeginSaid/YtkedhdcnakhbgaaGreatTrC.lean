/- transfer.Request. -/
import Derived.Test.YtkedhdcnakhbgaaGreatTrF
import Derived.Test.YtkedhdcnakhbgaaGreatW2
import Derived.Test.YtkedhdcnakhbgaaGreatK6
set_option linter.unusedSimpArgs false
set_option maxRecDepth 100000
set_option maxHeartbeats 16000000
namespace Go.Proofs.YtkedhdcnakhbgaaGreat
open Go.RowKit Go.Shelf
set_option linter.unusedVariables false
def wantM(want com:Qd):Msg:=⟨1,0,want.length,0,want++com,[]⟩
def gapM(s:Ses):Msg:=⟨3,s.id,(O8 s.id s.tot s.ps).1,(O8 s.id s.tot s.ps).2.1,[],[]⟩
def reqS(s:Ses):Qb×Int:=
 if s.done=true then([],18) else if(encS (wantM s.want s.com)).2≠0 then([],(encS (wantM s.want s.com)).2) else
 if s.ps=[]\/(O8 s.id s.tot s.ps).2.2=false then((encS (wantM s.want s.com)).1,0) else
 if(encS (gapM s)).2≠0 then([],(encS (gapM s)).2) else((encS (wantM s.want s.com)).1++(encS (gapM s)).1,0)
theorem request_any(s:Ses)(A:SesA)(b:Nat)(w:World)(Q:SesIn w s A b):
  Qh 16 #[s.val A] w fun e w'=>e=.returned (.tuple #[.string ⟨(reqS s).1.toArray⟩,.int .i64 (reqS s).2])/\PM w w':=by
 have HI:=Qf Q;obtain⟨R,hR⟩:=Qe (reqS s);rw[<-hR];have HR:=Qf hR;have B9:=Q.lw;have B8:=Q.lc;have C2:=vParts_bounds Q.vp;have D3:=Qf C2;obtain⟨xs,want,com,id,tot,ps,asked,dn⟩:=s;obtain⟨N,O,wa,wc,ca,cc,pa,pc⟩:=A;unfold reqS at hR;simp only at hR B9 B8 ⊢;cases dn with
 | true=>
  have C:Qg (R=([],18)):=Qf (by rw[hR]; rfl);have E7:=Qf ((Below.refl w.heap.size w).alloc nr (.cells #[.slice N xs.length O,.slice wa want.length wc,.slice ca com.length cc,.int .i64 id,.int .i64 tot,.slice pa ps.length pc,.bool asked,.bool true] 34));clear HR hR Q B9 B8 C2 HI D3;go_enter Tryz.func16,Tryz.ntmps16;go_wp2_with fail;go_ret2;exact⟨by rw[C.o]; rfl,E7.o⟩
 | false=>
  rw[if_neg (by simp)] at hR;have M:=Qf hR;have F5:=HI.o.hq;have A6:=Qf (fun W (hb:PM w W)=>gap_any id tot pa ps pc W ((HI.o.hq.below hb nr).mono hb.size) (by have:=vParts_len1 HI.o.vp; simpa using this) D3.o.2);obtain⟨nw,G⟩:=Qe want.length;obtain⟨nc,J⟩:=Qe com.length;obtain⟨np,C1⟩:=Qe ps.length;have D1:=Qf C1;have F4:=Qf G;have F3:=Qf J;obtain⟨u0,A1⟩:=Qe (w.alloc (.cells #[.slice N xs.length O,.slice wa nw wc,.slice ca nc cc,.int .i64 id,.int .i64 tot,.slice pa np pc,.bool asked,.bool false] 34));have B2:PM w u0:=by rw[A1]; exact ba _ _
  have C3:BK w.heap.size #[.slice N xs.length O,.slice wa nw wc,.slice ca nc cc,.int .i64 id,.int .i64 tot,.slice pa np pc,.bool asked,.bool false] 34 u0:=by rw[A1]; exact BK.new _ _ _
  obtain⟨i0,hi,E3,E4,E5⟩:=info_parts ul;rw[<-G] at B9;rw[<-J] at B8;obtain⟨u1,C0,I,hg⟩:=run_make_own (P:=Tryz.prog) u0 u0.heap.size 24 54 i0 _ 2 Tryz.underlying24 hi E3 E4 .i64 .i64 (nw+nc) (by rw[E5]; omega) (by unfold maxLen; omega) nr;have Y:w.heap.size<u0.heap.size:=by rw[A1]; simp
  obtain⟨Z,hZ⟩:=Qe (Value.slice (some ⟨u0.heap.size,0,none⟩) 0 (nw+nc));rw[<-hZ] at I C0;have B3:PM w u1:=B2.grown hg B2.size (fun k e=>by cases e);have C4:=C3.grow hg (fun k e=>by cases e);obtain⟨v2,u2,X,D,A5,_⟩:=dM u1 u0.heap.size 24 _ [] I wa want wc (HI.o.hw.ahead B3) (by simp only[aK,<-G]; omega) hg.size;have B4:=gM B3 I A5 (Nat.le_of_lt Y);have C5:=C4.grow A5 (fun k e he=>by have:=(I.lt k e).1; omega);rw[aY] at D;obtain⟨a2,c2,rfl,_⟩:=aB D;obtain⟨v3,u3,H,K,B7,_⟩:=dM u2 u0.heap.size 24 _ want D ca com cc (HI.o.hc.ahead B4) (by rw[<-G,<-J]; omega) (aC hg.size A5.size);have D6:=gM B4 D B7 (Nat.le_of_lt Y);have C6:=C5.grow B7 (fun k e he=>by have:=(D.lt k e).1; omega);obtain⟨a3,c3,rfl,_⟩:=aB K;have D8:∀d∈want++com,0<=d.1/\0<=d.2:=fun d hd=>by
   rcases aD.1 hd with h | h
   ·have:=HI.o.ow d h; unfold OkD Ku at this; omega
   ·have:=HI.o.oc d h; unfold OkD Ku at this; omega
  obtain⟨nt,A0⟩:=Qe ((want++com).length);have E1:nt=nw+nc:=by rw[A0,af,G,J]
  have E:=Qf (MV (wantM want com) a3 c3 u3 (kr rfl K) D8 (by show((want++com).length:Int)<=_; rw[<-A0]; omega) (by show(([]:Qb).length:Int)<=_; simp));have T:=Qf (enc_len (wantM want com));have D2:Qg ((wantM want com).val a3 c3=.agg #[.int .i64 1,.int .i64 0,.int .i64 (nw:Int),.int .i64 0,.slice a3 nt c3,.string ⟨#[]⟩]):=Qf (by rw[G,A0]; rfl);rw[D2.o] at E;rw[<-A0] at H;rw[<-G] at X H;rw[<-J] at H;generalize encS (wantM want com)=ew at E T M;obtain⟨S1,e1⟩:=ew;simp only at E T M;have A8:(Instr.makeSlice 24 (.int .i64 0) (.int .i64 ((nw:Int)+(nc:Int)))).run Tryz.prog u0=.ok Z u1:=by simpa using C0
  have A9:=Qf D6;have D4:Qg (BK w.heap.size #[.slice N xs.length O,.slice wa nw wc,.slice ca nc cc,.int .i64 id,.int .i64 tot,.slice pa np pc,.bool asked,.bool false] 34 u3):=Qf C6;have F2:=bH S1;obtain⟨c0,c1,c2,c3,c4,c5,c6,c7⟩:=BK.c8 C3;obtain⟨d0,d1,d2,d3,d4,d5,d6,d7⟩:=BK.c8 C4;obtain⟨f0,f1,f2,f3,f4,f5,f6,f7⟩:=BK.c8 C5;obtain⟨g0,g1,g2,g3,g4,g5,g6,g7⟩:=BK.c8 C6;rw[A1] at A8 c0 c1 c2 c3 c4 c5 c6 c7
  show Calls _ _ #[.agg #[.slice N xs.length O,.slice wa want.length wc,.slice ca com.length cc,.int .i64 id,.int .i64 tot,.slice pa ps.length pc,.bool asked,.bool false]] w _;rw[<-G,<-J,<-C1];clear G J E1 C0 I hg hZ B2 B3 B4 D6 C3 C4 C5 C6 A1 D K A5 B7 D8 hi E3 E4 E5 i0 D2 C2 Q C1 A0 Y hR;have C8:=Qf X;have C9:=Qf H;clear X H;go_enter Tryz.func16,Tryz.ntmps16;go_wp2_with (at_builtin; first | (refine Lib.wpList_append_run _ rfl _ _ _ _ rfl _ _ rfl rfl _ _ C8.o ?_) | (refine Lib.wpList_append_run _ rfl _ _ _ _ rfl _ _ rfl rfl _ _ C9.o ?_))
  refine E.o.mono ?_;rintro e u4 ⟨rfl,B5⟩
  have L:=Qf (A9.o.trans (B5.mono A9.o.size));have B1:=Qf (D4.o.below B5);clear B5 A9 D4 E c0 c1 c2 c3 c4 c5 c6 c7 d0 d1 d2 d3 d4 d5 d6 d7 f0 f1 f2 f3 f4 f5 f6 f7 g0 g1 g2 g3 g4 g5 g6 g7 A8 C8 C9;by_cases he:e1=0
  ·subst he
   have C:=Qf (M.o.trans (if_neg (by simp)));have V:Qg (ps=[]↔np=0):=Qf (by rw[D1.o]; exact List.length_eq_zero_iff.symm);obtain⟨c0,c1,c2,c3,c4,c5,c6,c7⟩:=BK.c8 (show BK _ #[.slice N xs.length O,.slice wa nw wc,.slice ca nc cc,.int .i64 id,.int .i64 tot,.slice pa np pc,.bool asked,.bool false] _ _ from B1.o);clear M;by_cases hz:np=0
   ·have g1:((np:Int)==0)=true:=by simp[hz]
    have F:Qg (R=(S1,0)):=Qf (C.o.trans (if_pos (.inl (V.o.2 hz))));clear C hz;go_wp2_with fail;go_ret2;exact⟨by rw[F.o]; rfl,L.o⟩
   ·have g1:((np:Int)==0)=false:=by simp; omega
    have HZ:Qg (ps≠[]):=Qf (fun e=>hz (V.o.1 e));have S:=Qf (A6.o u4 L.o);have E0:gapM ⟨xs,want,com,id,tot,ps,asked,false⟩=⟨3,id,(O8 id tot ps).1,(O8 id tot ps).2.1,[],[]⟩:=rfl;rw[E0] at C;rw[<-D1.o] at S;generalize O8 id tot ps=gg at S C;obtain⟨g1',g2',gb⟩:=gg;simp only at S C;clear hz E0 V A6;go_wp2_with fail
    refine S.o.mono ?_;rintro e u5 ⟨rfl,B6⟩
    have A2:=Qf (L.o.trans (B6.mono L.o.size));have D5:=Qf (B1.o.below B6);obtain⟨d0,d1,d2,d3,d4,d5,d6,d7⟩:=BK.c8 (show BK _ #[.slice N xs.length O,.slice wa nw wc,.slice ca nc cc,.int .i64 id,.int .i64 tot,.slice pa np pc,.bool asked,.bool false] _ _ from D5.o);clear B6 L B1 S c0 c1 c2 c3 c4 c5 c6 c7;cases gb with
    | false=>
     have F:Qg (R=(S1,0)):=Qf (C.o.trans (if_pos (.inr rfl)));clear C;go_wp2_with fail;go_ret2;exact⟨by rw[F.o]; rfl,A2.o⟩
    | true=>
     have F:=Qf (C.o.trans (if_neg (fun h=>h.elim HZ.o (fun h=>by cases h))));have E:=Qf (MV ⟨3,id,g1',g2',[],[]⟩ none 0 u5 (fun i hi=>by simp at hi) (fun d hd=>by cases hd) (by simp) (by simp));have U:=Qf (enc_len ⟨3,id,g1',g2',[],[]⟩);generalize encS ⟨3,id,g1',g2',[],[]⟩=ew at E U F;obtain⟨S2,e2⟩:=ew;simp only[Msg.val,aK] at E U F;clear C;go_wp2_with fail
     refine E.o.mono ?_;rintro e u6 ⟨rfl,D7⟩
     have D0:=Qf (A2.o.trans (D7.mono A2.o.size));clear D7 A2 D5 E d0 d1 d2 d3 d4 d5 d6 d7;by_cases A4:e2=0
     ·subst A4
      have B0:Qg (R=(S1++S2,0)):=Qf (F.o.trans (if_neg (by simp)));have F8:=Hl (A:=S1) (B:=S2) rfl (by have:=T.o; omega) (by have:=U.o; omega);clear F;go_wp2_with fail;go_ret2;exact⟨by rw[B0.o]; rfl,D0.o⟩
     ·have E9:(e2 !=0)=true:=by simpa using A4
      have B0:Qg (R=([],e2)):=Qf (F.o.trans (if_pos A4));clear F A4;go_wp2_with fail;go_ret2;exact⟨by rw[B0.o]; rfl,D0.o⟩
  ·have E9:(e1 !=0)=true:=by simpa using he
   have C:Qg (R=([],e1)):=Qf (M.o.trans (if_pos he));clear M he;go_wp2_with fail;go_ret2;exact⟨by rw[C.o]; rfl,L.o⟩
