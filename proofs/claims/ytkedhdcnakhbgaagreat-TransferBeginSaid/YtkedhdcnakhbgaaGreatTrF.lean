/- transfer: Begin, Result. -/
import Derived.Test.YtkedhdcnakhbgaaGreatTrE
set_option linter.unusedSimpArgs false
set_option maxRecDepth 100000
set_option maxHeartbeats 16000000
namespace Go.Proofs.YtkedhdcnakhbgaaGreat
open Go.RowKit Go.Shelf
set_option linter.unusedVariables false
def begS(xs:List Itm)(want com:Qd):Ses×Int:=
 if(1000:Int)<(want.length:Int)+com.length then(ses0,4) else if ckcS xs [] com≠0 then(ses0,ckcS xs [] com) else(⟨xs,want,com,0,0,[],false,fullS xs want⟩,0)
theorem begS_val{xs:List Itm}{want com:Qd}(A:¬(1000:Int)<(want.length:Int)+com.length)(B:ckcS xs [] com=0):begS xs want com=(⟨xs,want,com,0,0,[],false,fullS xs want⟩,0):=by
 unfold begS; rw[if_neg A,if_neg (by rw[B]; simp)]
def begA(r:Ses×Int)(A:SesA):SesA:=if r.2=0 then A else⟨none,0,none,0,none,0,none,0⟩
theorem begin_any(a:Qa)(xs:List Itm)(c:Nat)(wa:Qa)(want:Qd)(wk:Nat)(ca:Qa)(com:Qd)(cc:Nat)(w:World)(hp:jQ w a xs c)(ha:Asc xs)(hw:dE w.heap.size w wa want)(hc:dE w.heap.size w ca com)(ow:∀d∈want,OkD d)(oc:∀d∈com,OkD d)(A9:(xs.length:Int)<=100)(B8:(want.length:Int)<=1000000000)(B6:(com.length:Int)<=1000000000):
  Qh 12 #[.slice a xs.length c,.slice wa want.length wk,.slice ca com.length cc] w fun e w'=>e=.returned (.tuple #[(begS xs want com).1.val (begA (begS xs want com) ⟨a,c,wa,wk,ca,cc,none,0⟩),.int .i64 (begS xs want com).2])/\PM w w':=by
 obtain⟨u1,I⟩:=Qe (w.alloc (.cells #[.slice none 0 0,.slice none 0 0,.slice none 0 0,.int .i64 0,.int .i64 0,.slice none 0 0,.bool false,.bool false] 34));have M:PM w u1:=by rw[I]; exact ba _ _
 have P:BK w.heap.size #[.slice none 0 0,.slice none 0 0,.slice none 0 0,.int .i64 0,.int .i64 0,.slice none 0 0,.bool false,.bool false] 34 u1:=by rw[I]; exact BK.new _ _ _
 have C:=Qf (fun(h:(com.length:Int)<=1000)=>checkCommon_any a xs c ca com cc u1 (hp.below M) ha (hc.ahead M) oc A9 h);have G:=Qf (fun(h:(want.length:Int)<=1000) W (hW:PM w W)=>hasAll_any a xs c wa want wk W (hp.below hW) ha (hw.ahead hW) ow (by omega) (by omega));obtain⟨R,V⟩:=Qe (begS xs want com);rw[<-V];have A3:=Qf (begS_val (xs:=xs) (want:=want) (com:=com));unfold begS at V;obtain⟨nw,Z⟩:=Qe want.length;obtain⟨nc,Y⟩:=Qe com.length;rw[<-Z] at B8 V G ⊢;rw[<-Y] at B6 V C ⊢;have A6:=Qf Z;have A5:=Qf Y;generalize B5:ckcS xs [] com=ck at V C;have HR:=Qf V;have F:=Qf M;have U:=Qf P;have K:=Qf I;obtain⟨r0,r1,r2,r3,r4,r5,r6,r7⟩:=BK.c8 P;obtain⟨fr0,fr1,fr2,fr3,fr4,fr5,fr6,fr7⟩:=BK.f8 (P);rw[I] at r0 r1 r2 r3 r4 r5 r6 r7 fr0 fr1 fr2 fr3 fr4 fr5 fr6 fr7 C;clear hp ha hw hc ow oc A9 V Z Y B5 I M P;obtain⟨nx,A0⟩:=Qe xs.length;rw[<-A0] at C G ⊢;have B3:=Qf A0;clear A0;by_cases hs:(1000:Int)<(nw:Int)+(nc:Int)
 ·have D:=Qf (HR.o.trans (if_pos hs))
  rw[K.o] at F;clear HR G C U K;go_enter Tryz.func12,Tryz.ntmps12;go_wp2_with fail;refine bodyPost_ret (v:=.tuple #[.agg #[.slice none 0 0,.slice none 0 0,.slice none 0 0,.int .i64 0,.int .i64 0,.slice none 0 0,.bool false,.bool false],.int .i64 4]) (by simp[results,Tryz.results12,go_sem,r0,r1,r2,r3,r4,r5,r6,r7]) rfl ⟨by rw[D.o]; rfl,F.o⟩
 ·have D:=Qf (HR.o.trans (if_neg hs))
  have A4:=Qf (C.o (by omega));have T:=Qf (fun W hW=>G.o (by omega) W hW);have C1:=Qf (A3.o (by rw[<-A6.o,<-A5.o]; exact hs));clear HR C G A3;go_enter Tryz.func12,Tryz.ntmps12;go_wp2_with fail
  refine A4.o.mono ?_;rintro e u2 ⟨rfl,N⟩
  rw[<-K.o] at N;have E:=Qf (U.o.below N);have B:=Qf (F.o.trans (N.mono F.o.size));clear N U F K A4 r0 r1 r2 r3 r4 r5 r6 r7 fr0 fr1 fr2 fr3 fr4 fr5 fr6 fr7;by_cases hz:ck=0
  ·subst hz
   have S:=Qf (T.o u2 B.o);have J:=Qf (D.o.trans (if_neg (by simp)));obtain⟨hb,A8⟩:=Qe (fullS xs want);rw[<-A8] at S J;clear A8 T D;go_wp2_with fail
   refine S.o.mono ?_;rintro e u3 ⟨rfl,X⟩
   have L:=Qf (E.o.below X);have A2:=Qf (B.o.trans (X.mono B.o.size));clear X S E B;obtain⟨r0,r1,r2,r3,r4,r5,r6,r7⟩:=BK.c8 L.o;obtain⟨fr0,fr1,fr2,fr3,fr4,fr5,fr6,fr7⟩:=BK.f8 (L.o);obtain⟨v,O⟩:=Qe ((((((((u3.setCell ⟨w.heap.size,0,none⟩ (.slice a nx c)).setCell ⟨w.heap.size,1,none⟩ (.slice wa nw wk)).setCell ⟨w.heap.size,2,none⟩ (.slice ca nc cc)).setCell ⟨w.heap.size,3,none⟩ (.int .i64 0)).setCell ⟨w.heap.size,4,none⟩ (.int .i64 0)).setCell ⟨w.heap.size,5,none⟩ (.slice none 0 0)).setCell ⟨w.heap.size,6,none⟩ (.bool false)).setCell ⟨w.heap.size,7,none⟩ (.bool hb));have H:BK w.heap.size #[.slice a nx c,.slice wa nw wk,.slice ca nc cc,.int .i64 0,.int .i64 0,.slice none 0 0,.bool false,.bool hb] 34 v:=by rw[O]; exact((((((((L.o.set 0 _).set 1 _).set 2 _).set 3 _).set 4 _).set 5 _).set 6 _).set 7 _)
   have Q:Qg (PM w v):=Qf (by rw[O]; exact A2.o.grown (fM (fM (fM (fM (fM (fM (fM (dN _ _ _ _) _ _) _ _) _ _) _ _) _ _) _ _) _ _) A2.o.size (fun k e=>by cases e; exact nr));have HV:=Qf O;obtain⟨q0,q1,q2,q3,q4,q5,q6,q7⟩:=BK.c8 H;clear H O L;go_wp2_with fail;rw[<-HV.o];clear r0 r1 r2 r3 r4 r5 r6 r7 fr0 fr1 fr2 fr3 fr4 fr5 fr6 fr7 HV;refine bodyPost_ret (v:=.tuple #[.agg #[.slice a nx c,.slice wa nw wk,.slice ca nc cc,.int .i64 0,.int .i64 0,.slice none 0 0,.bool false,.bool hb],.int .i64 0]) (by simp[results,Tryz.results12,go_sem,q0,q1,q2,q3,q4,q5,q6,q7]) rfl ⟨by rw[J.o,B3.o,A6.o,A5.o]; rfl,Q.o⟩
  ·have C3:(ck !=0)=true:=by simpa using hz
   have J:=Qf (D.o.trans (if_pos hz));obtain⟨r0,r1,r2,r3,r4,r5,r6,r7⟩:=BK.c8 E.o;obtain⟨fr0,fr1,fr2,fr3,fr4,fr5,fr6,fr7⟩:=BK.f8 (E.o);obtain⟨v,O⟩:=Qe ((((((((u2.setCell ⟨w.heap.size,0,none⟩ (.slice none 0 0)).setCell ⟨w.heap.size,1,none⟩ (.slice none 0 0)).setCell ⟨w.heap.size,2,none⟩ (.slice none 0 0)).setCell ⟨w.heap.size,3,none⟩ (.int .i64 0)).setCell ⟨w.heap.size,4,none⟩ (.int .i64 0)).setCell ⟨w.heap.size,5,none⟩ (.slice none 0 0)).setCell ⟨w.heap.size,6,none⟩ (.bool false)).setCell ⟨w.heap.size,7,none⟩ (.bool false));have H:BK w.heap.size #[.slice none 0 0,.slice none 0 0,.slice none 0 0,.int .i64 0,.int .i64 0,.slice none 0 0,.bool false,.bool false] 34 v:=by rw[O]; exact((((((((E.o.set 0 _).set 1 _).set 2 _).set 3 _).set 4 _).set 5 _).set 6 _).set 7 _)
   have Q:Qg (PM w v):=Qf (by rw[O]; exact B.o.grown (fM (fM (fM (fM (fM (fM (fM (dN _ _ _ _) _ _) _ _) _ _) _ _) _ _) _ _) _ _) B.o.size (fun k e=>by cases e; exact nr));have HV:=Qf O;have HZ:=Qf hz;obtain⟨q0,q1,q2,q3,q4,q5,q6,q7⟩:=BK.c8 H;clear H O E hz T D B;go_wp2_with fail;rw[<-HV.o];clear r0 r1 r2 r3 r4 r5 r6 r7 fr0 fr1 fr2 fr3 fr4 fr5 fr6 fr7 HV;refine bodyPost_ret (v:=.tuple #[.agg #[.slice none 0 0,.slice none 0 0,.slice none 0 0,.int .i64 0,.int .i64 0,.slice none 0 0,.bool false,.bool false],.int .i64 ck]) (by simp[results,Tryz.results12,go_sem,q0,q1,q2,q3,q4,q5,q6,q7]) rfl ⟨by rw[J.o]; unfold begA; rw[if_neg HZ.o]; rfl,Q.o⟩
theorem result_any(s:Ses)(A:SesA)(w:World):
  Qh 18 #[s.val A] w fun e w'=>e=.returned (.tuple #[if s.done=true then .slice A.ha s.xs.length A.hc else .slice none 0 0,.int .i64 (if s.done=true then 0 else 18)])/\PM w w':=by
 obtain⟨xs,want,com,id,tot,ps,asked,dn⟩:=s;obtain⟨D,E,wa,wk,ca,cc,pa,pc⟩:=A;have B:PM w (w.alloc (.cells #[.slice D xs.length E,.slice wa want.length wk,.slice ca com.length cc,.int .i64 id,.int .i64 tot,.slice pa ps.length pc,.bool asked,.bool dn] 34)):=ba _ _;cases dn with
 | true=>
  have C:=Qf B;clear B;go_enter Tryz.func18,Tryz.ntmps18;go_wp2_with fail;go_ret2;exact⟨rfl,C.o⟩
 | false=>
  have C:=Qf B;clear B;go_enter Tryz.func18,Tryz.ntmps18;go_wp2_with fail;go_ret2;exact⟨rfl,C.o⟩
