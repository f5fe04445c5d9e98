/- Joined texts: TbC, TbD. -/
import Derived.Test.YtkedhdcnakhbgaaGreatP0
import Derived.Test.YtkedhdcnakhbgaaGreatTbB
import Derived.Test.YtkedhdcnakhbgaaGreatWR
import Derived.Test.YtkedhdcnakhbgaaGreatK5
import Derived.Test.YtkedhdcnakhbgaaGreatW2
/- ref17.Request and Result. -/
set_option linter.unusedSimpArgs false
set_option maxRecDepth 100000
set_option maxHeartbeats 16000000
namespace Go.Proofs.YtkedhdcnakhbgaaGreat
open Go.RowKit Go.Shelf
set_option linter.unusedVariables false
variable {W:World}
theorem req_parts{s:Ses}(G:s.done=false)(h:(reqS s).2=0):(encS (wantM s.want s.com)).2=0/\((O8 s.id s.tot s.ps).2.2=false->reqS s=((encS (wantM s.want s.com)).1,0))/\((O8 s.id s.tot s.ps).2.2=true->(encS (gapM s)).2=0/\reqS s=((encS (wantM s.want s.com)).1++(encS (gapM s)).1,0)):=by
 have A:¬s.done=true:=by rw[G]; simp
 have E:(encS (wantM s.want s.com)).2=0:=Classical.byContradiction fun e=>by
  unfold reqS at h;rw[if_neg A,if_pos e] at h;exact e h
 have B:¬(encS (wantM s.want s.com)).2≠0:=fun e=>e E
 refine⟨E,fun C=>?_,fun C=>?_⟩
 ·unfold reqS
  rw[if_neg A,if_neg B,if_pos (.inr C)]
 ·have D:¬(s.ps=[]\/(O8 s.id s.tot s.ps).2.2=false):=fun e=>by
   rcases e with e | e
   ·rw[e] at C; cases C
   ·rw[C] at e; cases e
  have F:(encS (gapM s)).2=0:=Classical.byContradiction fun e=>by
   unfold reqS at h;rw[if_neg A,if_neg B,if_neg D,if_pos e] at h;exact e h
  refine⟨F,?_⟩;unfold reqS;rw[if_neg A,if_neg B,if_neg D,if_neg (fun e=>e F)]
theorem nil_own{B g:Nat}(h:BK g #[] 54 W)(A:B<=g):W.ownsRow B 54 2 (.slice (some ⟨g,0,none⟩) 0 0) 0 []:=⟨rfl,.inr ⟨g,0,#[],rfl,A,h,nr,by decide,rfl,rfl⟩⟩
theorem rrequest_any(s:Ses)(A:SesA)(b:Nat)(w:World)(U:SesIn w s A b)(C2:s.want.length+s.com.length<=1000):
  Qh 17 #[s.val A] w fun e w'=>e=.returned (.tuple #[.string ⟨(reqS s).1.toArray⟩,.int .i64 (reqS s).2])/\PM w w':=by
 have HI:=Qf U;have C1:=vParts_bounds U.vp;have D2:=Qf C1;have A3:=fun hd=>req_parts (s:=s) hd (req_ok hd C2 U.vp)
 obtain⟨R,hR⟩:=Qe (reqS s);rw[<-hR] at A3 ⊢;obtain⟨xs,want,com,id,tot,ps,asked,dn⟩:=s;obtain⟨ha,hc,wa,wc,ca,cc,pa,pc⟩:=A;simp only at A3 C2 ⊢;cases dn with
 | true=>
  have E:Qg (R=([],18)):=Qf (by rw[hR]; rfl);have F0:=Qf ((Below.refl w.heap.size w).alloc nr (.cells #[.slice ha xs.length hc,.slice wa want.length wc,.slice ca com.length cc,.int .i64 id,.int .i64 tot,.slice pa ps.length pc,.bool asked,.bool true] 34));clear hR U C1 HI D2 A3;go_enter Tryz.func17,Tryz.ntmps17;go_wp2_with fail;go_ret2;exact⟨by rw[E.o]; rfl,F0.o⟩
 | false=>
  obtain⟨E3,E4,E5⟩:=A3 rfl;have E:=Qf E4;have H:=Qf E5;have N:=Qf (fun W (hb:PM w W)=>refGap_any id tot pa ps pc W ((HI.o.hq.below hb nr).mono hb.size) (by have:=vParts_len1 HI.o.vp; simpa using this) D2.o.2);obtain⟨nw,G⟩:=Qe want.length;obtain⟨nc,M⟩:=Qe com.length;obtain⟨np,B8⟩:=Qe ps.length;obtain⟨u0,J⟩:=Qe ((w.alloc (.cells #[.slice ha xs.length hc,.slice wa nw wc,.slice ca nc cc,.int .i64 id,.int .i64 tot,.slice pa np pc,.bool asked,.bool false] 34)).drew);have B2:PM w u0:=by rw[J]; exact(ba _ _).drew
  have C3:BK w.heap.size #[.slice ha xs.length hc,.slice wa nw wc,.slice ca nc cc,.int .i64 id,.int .i64 tot,.slice pa np pc,.bool asked,.bool false] 34 u0:=by rw[J]; exact BK.new _ _ _
  rw[<-G,<-M] at C2;obtain⟨u1,A4⟩:=Qe (u0.alloc (.cells #[] 54));have hg:PM u0 u1:=by rw[A4]; exact ba _ _
  have L:=nil_own (show BK u0.heap.size #[] 54 u1 by rw[A4]; exact BK.new _ _ _) nr;have V:w.heap.size<u0.heap.size:=by rw[J]; simp
  have B3:=B2.trans (hg.mono B2.size);have C4:=C3.below hg;obtain⟨v2,u2,T,C,A2,_⟩:=dM u1 u0.heap.size 24 _ [] L wa want wc (HI.o.hw.ahead B3) (by simp only[aK,<-G]; omega) hg.size;have B4:=gM B3 L A2 (Nat.le_of_lt V);have C5:=C4.grow A2 (fun k e he=>by have:=(L.lt k e).1; omega);rw[aY] at C;obtain⟨a2,c2,rfl,_⟩:=aB C;obtain⟨v3,u3,F,I,B7,_⟩:=dM u2 u0.heap.size 24 _ want C ca com cc (HI.o.hc.ahead B4) (by rw[<-G,<-M]; omega) (aC hg.size A2.size);have D5:=gM B4 C B7 (Nat.le_of_lt V);have C6:=C5.grow B7 (fun k e he=>by have:=(C.lt k e).1; omega);obtain⟨a3,c3,rfl,_⟩:=aB I;have D7:DOkW (want++com):=fun d hd=>by
   rcases aD.1 hd with h | h
   ·have:=HI.o.ow d h; unfold OkD Ku at this; omega
   ·have:=HI.o.oc d h; unfold OkD Ku at this; omega
  obtain⟨nt,X⟩:=Qe ((want++com).length);have E2:nt=nw+nc:=by rw[X,af,G,M]
  have D:=Qf (refEncode_any (wantM want com) a3 c3 u3 (kr rfl I) D7 (by show((want++com).length:Int)<=_; rw[<-X]; omega) (by show(([]:Qb).length:Int)<=_; simp));have A6:=Qf (enc_len (wantM want com));have D1:Qg ((wantM want com).val a3 c3=.agg #[.int .i64 1,.int .i64 0,.int .i64 (nw:Int),.int .i64 0,.slice a3 nt c3,.string ⟨#[]⟩]):=Qf (by rw[G,X]; rfl);rw[D1.o,E3] at D;rw[<-X] at F;rw[<-G] at T F;rw[<-M] at F;have D9:gapM ⟨xs,want,com,id,tot,ps,asked,false⟩=⟨3,id,(O8 id tot ps).1,(O8 id tot ps).2.1,[],[]⟩:=rfl;rw[D9] at H;generalize (encS (wantM want com)).1=S1 at D A6 E H;have hS:∀Wx,BK w.heap.size #[.slice ha xs.length hc,.slice wa nw wc,.slice ca nc cc,.int .i64 id,.int .i64 tot,.slice pa np pc,.bool asked,.bool false] 34 Wx->Wx.cell? ⟨w.heap.size,1,none⟩=some (.slice wa nw wc)/\Wx.cell? ⟨w.heap.size,2,none⟩=some (.slice ca nc cc):=fun Wx h=>⟨by rw[h.cell]; rfl,by rw[h.cell]; rfl⟩
  have C9:=Qf (hS _ C5);have D0:=Qf (hS _ C6);have C0:=hS _ C4;have B9:=hS _ C3;have A9:=Qf D5;have B0:=Qf C6;have Y:=Qf T;have C8:=Qf F;have E8:u0.heap.size=w.heap.size+1:=by rw[J]; simp
  rw[E8] at Y;rw[A4,J] at Y C0;rw[J] at B9
  show Calls _ _ #[.agg #[.slice ha xs.length hc,.slice wa want.length wc,.slice ca com.length cc,.int .i64 id,.int .i64 tot,.slice pa ps.length pc,.bool asked,.bool false]] w _;rw[<-G,<-M,<-B8];rw[<-B8] at N;generalize xs.length=nx at *
  clear E8 G M B8 E2 hg L B2 B3 B4 D5 C3 C4 C5 C6 A4 J C I A2 B7 D7 D1 C1 U X V hR E3 E4 E5 D9 T F hS HI;go_enter Tryz.func17,Tryz.ntmps17;go_wp2_with fail;refine iQ (S:=(fun Wx=>Wx.cell? ⟨w.heap.size,1,none⟩=some (.slice wa nw wc)/\Wx.cell? ⟨w.heap.size,2,none⟩=some (.slice ca nc cc))) [7] (by kernel_rfl) B9 (fun hHeld=>?_);refine tl 1 ?_;refine tl 2 ?_;refine tl 4 ?_;refine tl 5 ?_;refine cu (i:=0) (by kernel_rfl) rfl (fun K Q=>?_);go_simp;refine Q.out _ _ ((fun _=>C0)) (fun hHeld=>?_);clear Q K;refine cu (i:=3) (by kernel_rfl) rfl (fun K Q=>?_);refine bN (by rfl) (.tmp 14) (.tmp 16) _ _ (by rfl) _ _ (by rfl) (by rfl) _ _ Y.o ?_;clear hHeld C0;have E6:=C9.o;refine Q.out _ _ ((fun _=>E6)) (fun hHeld=>?_);clear Q K;refine cu (i:=6) (by kernel_rfl) rfl (fun K Q=>?_);refine bN (by rfl) (.tmp 17) (.tmp 19) _ _ (by rfl) _ _ (by rfl) (by rfl) _ _ C8.o ?_;clear hHeld E6;have E7:=D0.o;refine Q.out _ _ ((fun _=>E7)) (fun hHeld=>?_);clear Q K;refine cu (i:=7) (by kernel_rfl) rfl (fun K Q=>?_);go_simp;refine Q.out _ _ ((fun h=>absurd h (by decide))) (fun hHeld=>?_);clear Q K;refine eQ (by kernel_rfl) ?_ _;clear hHeld B9 E7 Y C8 C9 D0;obtain⟨c0,c1,c2,c3,c4,c5,c6,c7⟩:=BK.c8 B0.o;go_wp2_with fail
  refine D.o.mono ?_;rintro e u4 ⟨rfl,B5⟩
  have Z:=Qf (A9.o.trans (B5.mono A9.o.size));have B1:=Qf (B0.o.below B5);have A1:=Qf (N.o u4 Z.o);clear B5 A9 B0 D N c0 c1 c2 c3 c4 c5 c6 c7;obtain⟨c0,c1,c2,c3,c4,c5,c6,c7⟩:=BK.c8 B1.o;generalize O8 id tot ps=gg at A1 E H;obtain⟨g1',g2',gb⟩:=gg;simp only at A1 E H;go_wp2_with fail
  refine A1.o.mono ?_;rintro e u5 ⟨rfl,B6⟩
  have A0:=Qf (Z.o.trans (B6.mono Z.o.size));have D3:=Qf (B1.o.below B6);clear B6 Z B1 A1 c0 c1 c2 c3 c4 c5 c6 c7;cases gb with
  | false=>
   have P:=Qf (E.o rfl);clear E H;go_wp2_with fail;go_ret2;exact⟨by rw[P.o]; rfl,A0.o⟩
  | true=>
   obtain⟨E0,E1⟩:=H.o rfl;have D:=Qf (refEncode_any ⟨3,id,g1',g2',[],[]⟩ none 0 u5 (dE.nil _ _ _) (fun d hd=>by cases hd) (by simp) (by simp));have O:=Qf (enc_len ⟨3,id,g1',g2',[],[]⟩);rw[E0] at D;have P:=Qf E1;generalize (encS ⟨3,id,g1',g2',[],[]⟩).1=S2 at D O P;simp only[Msg.val,aK] at D O P;obtain⟨c0,c1,c2,c3,c4,c5,c6,c7⟩:=BK.c8 D3.o;clear E H E0 E1;go_wp2_with fail
   refine D.o.mono ?_;rintro e u6 ⟨rfl,D6⟩
   have F1:=Qf (A0.o.trans (D6.mono A0.o.size));have F4:=Hl (A:=S1) (B:=S2) rfl (by have:=A6.o; omega) (by have:=O.o; omega);clear D6 A0 D3 D c0 c1 c2 c3 c4 c5 c6 c7;go_wp2_with fail;go_ret2;exact⟨by rw[P.o]; rfl,F1.o⟩
theorem dsame_eq(a b:Qa)(ds:Qd)(ca cb:Nat)(w:World)(C:dE w.heap.size w a ds)(D:dE w.heap.size w b ds)(E:ds.length<=1000):
  Qh 26 #[.slice a ds.length ca,.slice b ds.length cb] w fun e w'=>e=.returned (.bool true)/\PM w w':=by
 have B:=dsame a b ds ds ca cb w C D (by omega);rw[decide_eq_true rfl] at B;exact B.mono (by
  rintro e w' ⟨rfl,q,rfl⟩;exact⟨rfl,below_drewN (bf _) _⟩)
theorem isame_eq(a b:Qa)(ds:List Itm)(ca cb:Nat)(w:World)(C:Its w.heap.size w a ds)(D:Its w.heap.size w b ds)(E:ds.length<=2000):
  Qh 20 #[.slice a ds.length ca,.slice b ds.length cb] w fun e w'=>e=.returned (.bool true)/\PM w w':=by
 have B:=PE a b ds ds ca cb w C D (by omega) (by omega);rw[decide_eq_true rfl] at B;exact B
theorem rsame17_any(s:Ses)(A A':SesA)(b b':Nat)(w:World)(h:SesIn w s A b)(M:SesIn w s A' b'):
  Qh 14 #[s.val A,s.val A'] w fun e w'=>e=.returned (.bool true)/\PM w w':=by
 have S:=vParts_len1 h.vp;have O:=Qf (fun W (F:PM w W)=>isame_eq A.ha A'.ha s.xs A.hc A'.hc W (h.hp.its.ahead F) (M.hp.its.ahead F) h.lx);have P:=Qf (fun W (F:PM w W)=>dsame_eq A.wa A'.wa s.want A.wc A'.wc W (h.hw.ahead F) (M.hw.ahead F) h.lw);have Q:=Qf (fun W (F:PM w W)=>dsame_eq A.ca A'.ca s.com A.cc A'.cc W (h.hc.ahead F) (M.hc.ahead F) h.lc);have R:=Qf (fun W (F:PM w W)=>sameParts_eq s.id s.tot A.pa A'.pa s.ps A.pc A'.pc W ((h.hq.below F nr).mono F.size) ((M.hq.below F nr).mono F.size) (by omega));clear h M S;obtain⟨xs,want,com,id,tot,ps,asked,dn⟩:=s;obtain⟨I,K,wa,wc,ca,cc,pa,pc⟩:=A;obtain⟨C,E,wa',wc',ca',cc',pa',pc'⟩:=A';simp only at O P Q R
 show Calls _ _ #[.agg #[.slice I xs.length K,.slice wa want.length wc,.slice ca com.length cc,.int .i64 id,.int .i64 tot,.slice pa ps.length pc,.bool asked,.bool dn],.agg #[.slice C xs.length E,.slice wa' want.length wc',.slice ca' com.length cc',.int .i64 id,.int .i64 tot,.slice pa' ps.length pc',.bool asked,.bool dn]] w _;generalize xs.length=nx at O ⊢;generalize want.length=nw at P ⊢;generalize com.length=nc at Q ⊢;generalize ps.length=np at R ⊢;obtain⟨u2,G⟩:=Qe ((w.alloc (.cells #[.slice I nx K,.slice wa nw wc,.slice ca nc cc,.int .i64 id,.int .i64 tot,.slice pa np pc,.bool asked,.bool dn] 34)).alloc (.cells #[.slice C nx E,.slice wa' nw wc',.slice ca' nc cc',.int .i64 id,.int .i64 tot,.slice pa' np pc',.bool asked,.bool dn] 34));have J:PM w u2:=by rw[G]; exact(ba _ _).alloc (by simp) _
 have KA:Qg (BK w.heap.size #[.slice I nx K,.slice wa nw wc,.slice ca nc cc,.int .i64 id,.int .i64 tot,.slice pa np pc,.bool asked,.bool dn] 34 u2):=Qf (by rw[G]; exact(BK.new _ _ _).alloc _);have KB:Qg (BK (w.heap.size+1) #[.slice C nx E,.slice wa' nw wc',.slice ca' nc cc',.int .i64 id,.int .i64 tot,.slice pa' np pc',.bool asked,.bool dn] 34 u2):=Qf (by rw[G]; exact BK.new2 _ _ _ _);have D:=Qf (O.o u2 J);rw[G] at D;have H:=Qf J;have L:=Qf G;clear G J O;go_enter Tryz.func14,Tryz.ntmps14;go_wp2_with fail
 refine D.o.mono ?_;rintro e u3 ⟨rfl,B⟩
 rw[<-L.o] at B;have B3:=Qf (H.o.trans (B.mono H.o.size));have KA3:=Qf (KA.o.below B);have KB3:=Qf (KB.o.below B);have D:=Qf (P.o u3 B3.o);obtain⟨pb,N⟩:=Qe (w.heap.size+1);rw[<-N] at KB3 ⊢;clear B H L KA KB P N;obtain⟨c0,c1,c2,c3,c4,c5,c6,c7⟩:=BK.c8 KA3.o;obtain⟨d0,d1,d2,d3,d4,d5,d6,d7⟩:=BK.c8 KB3.o;go_wp2_with fail
 refine D.o.mono ?_;rintro e u4 ⟨rfl,B⟩
 have B4:=Qf (B3.o.trans (B.mono B3.o.size));have KA4:=Qf (KA3.o.below B);have KB4:=Qf (KB3.o.below B);have D:=Qf (Q.o u4 B4.o);clear B B3 KA3 KB3 Q c0 c1 c2 c3 c4 c5 c6 c7 d0 d1 d2 d3 d4 d5 d6 d7;obtain⟨c0,c1,c2,c3,c4,c5,c6,c7⟩:=BK.c8 KA4.o;obtain⟨d0,d1,d2,d3,d4,d5,d6,d7⟩:=BK.c8 KB4.o;go_wp2_with fail
 refine D.o.mono ?_;rintro e u5 ⟨rfl,B⟩
 have B5:=Qf (B4.o.trans (B.mono B4.o.size));have KA5:=Qf (KA4.o.below B);have KB5:=Qf (KB4.o.below B);have D:=Qf (R.o u5 B5.o);clear B B4 KA4 KB4 R c0 c1 c2 c3 c4 c5 c6 c7 d0 d1 d2 d3 d4 d5 d6 d7;obtain⟨c0,c1,c2,c3,c4,c5,c6,c7⟩:=BK.c8 KA5.o;obtain⟨d0,d1,d2,d3,d4,d5,d6,d7⟩:=BK.c8 KB5.o;go_wp2_with fail
 refine D.o.mono ?_;rintro e u6 ⟨rfl,B⟩
 have B6:=Qf (B5.o.trans (B.mono B5.o.size));have KA6:=Qf (KA5.o.below B);have KB6:=Qf (KB5.o.below B);clear B B5 KA5 KB5 D c0 c1 c2 c3 c4 c5 c6 c7 d0 d1 d2 d3 d4 d5 d6 d7;obtain⟨c0,c1,c2,c3,c4,c5,c6,c7⟩:=BK.c8 KA6.o;obtain⟨d0,d1,d2,d3,d4,d5,d6,d7⟩:=BK.c8 KB6.o;go_wp2_with fail;go_ret;exact⟨rfl,B6.o⟩
theorem rresult_any(s:Ses)(A:SesA)(w:World):
  Qh 19 #[s.val A] w fun e w'=>e=.returned (.tuple #[if s.done=true then .slice A.ha s.xs.length A.hc else .slice none 0 0,.int .i64 (if s.done=true then 0 else 18)])/\PM w w':=by
 obtain⟨xs,want,com,id,tot,ps,asked,dn⟩:=s;obtain⟨D,E,wa,wk,ca,cc,pa,pc⟩:=A;have B:PM w (w.alloc (.cells #[.slice D xs.length E,.slice wa want.length wk,.slice ca com.length cc,.int .i64 id,.int .i64 tot,.slice pa ps.length pc,.bool asked,.bool dn] 34)):=ba _ _;cases dn with
 | true=>
  have C:=Qf B;clear B;go_enter Tryz.func19,Tryz.ntmps19;go_wp2_with fail;go_ret2;exact⟨rfl,C.o⟩
 | false=>
  have C:=Qf B;clear B;go_enter Tryz.func19,Tryz.ntmps19;go_wp2_with fail;go_ret2;exact⟨rfl,C.o⟩
theorem ses0_in{b:Nat}:SesIn W ses0 ⟨none,0,none,0,none,0,none,0⟩ b:=
 ⟨⟨Its.nil _ _ _,nr,by decide,fun x A=>(by cases A)⟩,⟨fun i j C _ _=>(by simp[ses0] at C),fun x A=>(by cases A),fun x A=>(by cases A),by decide,fun x A=>(by cases A),nr⟩,dE.nil _ _ _,dE.nil _ _ _,fun i C=>(by simp[ses0] at C),nr,nr,nr,fun ad e D=>(by cases e),fun D ad e=>(by cases e),fun D ad e=>(by cases e),fun ad e=>(by cases e),fun d B=>(by cases B),fun d B=>(by cases B),fun x A=>(by cases A),by decide,fun _=>(by decide),by decide,by decide,rfl⟩
