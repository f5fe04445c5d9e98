/- transfer: each, Receive, Begin, Result. -/
import Derived.Test.YtkedhdcnakhbgaaGreatTrB
import Derived.Test.YtkedhdcnakhbgaaGreatW3
set_option linter.unusedSimpArgs false
set_option maxRecDepth 100000
set_option maxHeartbeats 16000000
namespace Go.Proofs.YtkedhdcnakhbgaaGreat
open Go.RowKit Go.Shelf
set_option linter.unusedVariables false
variable {b:Nat}{s:Ses}{A:SesA}{W:World}
theorem msgs_cl{W':World}{acc:Int}{a:Qa}{ms:List Msg}(I:BK b (s.cl A acc) 96 W)(J:GQ W.heap.size W a ms)(D:W.grownBy W' (some b)):GQ W'.heap.size W' a ms:=by
 have key:∀(j:Nat) (v:Value),W.cell? ⟨b,j,none⟩=some v->(∀t,v≠.string t)/\∀x,v≠.int .u64 x:=fun j v h=>by
  rw[I.cell] at h;rcases j with _ | _ | _ | _ | _ | _ | _ | _ | _ | j
  all_goals first | (simp at h; subst h; exact⟨fun t e=>(by cases e),fun x e=>(by cases e)⟩) | (simp at h)
 intro i H;obtain⟨k,o,da,cd,rfl,B,c0,c1,c2,c3,c4,c5,F⟩:=J i H;have E:k≠b:=fun e=>by subst e; exact(key _ _ c5).1 _ rfl
 have C:=D.block k B (fun e=>E (by cases e; rfl));have mv:∀j,W'.cell? ⟨k,j,none⟩=W.cell? ⟨k,j,none⟩:=fun j=>World.cell?_of_block (a:=⟨k,j,none⟩) C
 refine⟨k,o,da,cd,rfl,aO B D.size,(mv _).trans c0,(mv _).trans c1,(mv _).trans c2,(mv _).trans c3,(mv _).trans c4,(mv _).trans c5,F.kept D (fun G ad e=>?_)⟩;obtain⟨k2,o2,e2,_,q0,_⟩:=F 0 G;rw[e] at e2; cases e2;intro e3;cases e3;exact(key _ _ q0).2 _ rfl
def GotEa(b:Nat)(s:Ses)(acc:Int)(L:Qb)(w:World)(e:Ending)(w':World):Prop:=∃ms n A,BG L ms n/\e=.returned (.tuple #[])/\BK b ((recS s ms).1.cl A (acc+(recS s ms).2)) 96 w'/\SesIn w' (recS s ms).1 A b/\w.grownBy w' (some b)
theorem recS_le:∀(ms:List Msg) (s:Ses),(recS s ms).2<=ms.length
 | [],_=>nr
 | m::ms,s=>by
  rw[recS];have:=recS_le ms (takeS s m).1;simp only[az];split <;> omega
theorem each_any(b:Nat)(s:Ses)(A:SesA)(acc:Int)(L:Qb)(w:World)(hb:BK b (s.cl A acc) 96 w)(C:SesIn w s A b)(C6:0<=acc)(C7:acc<=100000000000)(hL:(L.length:Int)<=100000000000):
  Qh 55 #[.string ⟨L.toArray⟩,.func (.func 56) #[.pointer (some ⟨b,0,none⟩)] #[]] w (GotEa b s acc L w):=by
 have HS:=Qf (PD L w (by omega));have T:=Qf C;have Q:=Qf hb;clear C hb;go_enter Tryz.func55,Tryz.ntmps55;go_wp2_with fail
 refine HS.o.mono ?_;rintro e u ⟨ms,n,a,c,H,rfl,hm,F,hc,B1,A9⟩
 have A3:=H.le;have A7:=Qf (scans_vM H);have A6:=Qf H;obtain⟨N,hN⟩:=Qe ms.length;have HN:=Qf hN;rw[<-hN];have C5:(N:Int)<=100000000000:=by omega
 have V:Qg (∃A',BK b ((recS s (ms.take 0)).1.cl A' (acc+(recS s (ms.take 0)).2)) 96 u/\SesIn u (recS s (ms.take 0)).1 A' b/\w.grownBy u (some b)/\GQ u.heap.size u a ms):=Qf ⟨A,by simpa[recS] using Q.o.below F,by simpa[recS] using T.o.below F,below_rg2 F,hm⟩;clear H hm F hc B1 A9 HS T Q hN A3;go_wp2_with fail;go_loopw [15] (fun i wr=>∃k:Nat,k<=N/\i=.int .i64 k/\Qg (∃A',BK b ((recS s (ms.take k)).1.cl A' (acc+(recS s (ms.take k)).2)) 96 wr/\SesIn wr (recS s (ms.take k)).1 A' b/\w.grownBy wr (some b)/\GQ wr.heap.size wr a ms)) (fun i _=>N-(intOf i).toNat)
 case atStart=>exact⟨0,by omega,rfl,V⟩
 case round=>
  clear V;obtain⟨k,hk,rfl,U⟩:=hrel;by_cases D0:k<N
  ·have B2:(k:Int)<(N:Int):=by omega
   have X:k<ms.length:=by have:=HN.o; omega
   obtain⟨A',E,C,Z,P⟩:=U.out;obtain⟨b0,of0,da,cd,Y,C8,q0,q1,q2,q3,q4,q5,O⟩:=P k X;have D:ms.take (k+1)=ms.take k++[ms[k]]:=ai X;have J:=A7.o _ (ak X);have B3:=recS_le (ms.take k) s;have B4:(ms.take k).length<=k:=List.length_take_le _ _;have I:=recS_snoc (ms.take k) s ms[k];rw[<-D] at I;generalize ms[k]=m at q0 q1 q2 q3 q4 q5 O D J I;obtain⟨kind,mid,off,mtot,dd,data⟩:=m;simp only at q0 q1 q2 q3 q4 q5 O J;have B0:=(zk J).2.2.2.2.2.2.2;obtain⟨v,hv⟩:=Qe (wr.alloc (.cells #[.int .i64 kind,.int .i64 mid,.int .i64 off,.int .i64 mtot,.slice da dd.length cd,.string ⟨data.toArray⟩] 73));have B:PM wr v:=by rw[hv]; exact ba _ _
   have M:=Qf (take_any b (recS s (ms.take k)).1 A' (acc+(recS s (ms.take k)).2) ⟨kind,mid,off,mtot,dd,data⟩ da cd v (E.below B) (C.below B) (by omega) (by omega) (by simp only; omega));have W:=Qf (msgs_cl E P (below_rg2 B));have R:=Qf (E.below B);have S:Qg (w.grownBy v (some b)):=Qf (bu Z (below_rg2 B));have HV:=Qf hv;have K:=Qf I;rw[hv] at M;have B8:=Y;subst Y;clear hv B E C Z P U I D J B3 B4 B0 O;go_wp2_with fail
   refine M.o.mono ?_;rintro e u2 ⟨A2,rfl,A1,A0,G⟩
   rw[<-HV.o] at G;have A5:Qg (∃A',BK b ((recS s (ms.take (k+1))).1.cl A' (acc+(recS s (ms.take (k+1))).2)) 96 u2/\SesIn u2 (recS s (ms.take (k+1))).1 A' b/\w.grownBy u2 (some b)/\GQ u2.heap.size u2 (some ⟨b0,of0,none⟩) ms):=Qf ⟨A2,by
    rw[K.o];have h5:acc+((recS s (ms.take k)).2+if(takeS (recS s (ms.take k)).1 ⟨kind,mid,off,mtot,dd,data⟩).2=true then 1 else 0:Nat)=acc+(recS s (ms.take k)).2+tkN (recS s (ms.take k)).1 ⟨kind,mid,off,mtot,dd,data⟩:=by
     unfold tkN; split <;> omega
    simp only;rw[h5]; exact A1,by rw[K.o]; exact A0,bu S.o G,msgs_cl R.o W.o G⟩
   clear M A1 A0 G K S R W HV;go_wp2_with fail;go_roundw
   case rel=>exact⟨k+1,by omega,by go_num,A5⟩
   case measure=>simp[intOf] <;> omega
  ·have B2:¬(k:Int)<(N:Int):=by omega
   have D:ms.take k=ms:=ag (by have:=HN.o; omega);rw[D] at U;have HF:Qg (GotEa b s acc L w (.returned (.tuple #[])) wr):=Qf (by
    obtain⟨A',X,h2,h3,_⟩:=U.out;exact⟨ms,n,A',A6.o,rfl,X,h2,h3⟩)
   clear U;go_wp2_with fail;refine bodyPost_ret (v:=.tuple #[]) (by simp[results,Tryz.results55,go_sem]) rfl HF.o
theorem SesIn.kind{c:Nat}(h:SesIn W s A b)(C:∀(j:Nat) (v:Value),W.cell? ⟨c,j,none⟩=some v->(∀t,v≠.string t)/\∀x,v≠.int .u64 x):SesIn W s A c:=
 ⟨h.hp,h.hr,h.hw,h.hc,h.hq,h.cq,h.cw,h.cc,fun ad e B=>by
  obtain⟨k,o,e2,_,q0,_⟩:=h.hp.its 0 B;rw[e] at e2; cases e2;intro e3; injection e3 with e3; have e4:c=k:=e3; subst e4
  exact(C _ _ q0).2 _ rfl,fun B ad e=>by
  obtain⟨k,o,e2,_,q0,_⟩:=h.hw 0 B;rw[e] at e2; cases e2;intro e3; injection e3 with e3; have e4:c=k:=e3; subst e4
  exact(C _ _ q0).2 _ rfl,fun B ad e=>by
  obtain⟨k,o,e2,_,q0,_⟩:=h.hc 0 B;rw[e] at e2; cases e2;intro e3; injection e3 with e3; have e4:c=k:=e3; subst e4
  exact(C _ _ q0).2 _ rfl,fun ad e B=>by
  obtain⟨k,o,e2,_,_,q1⟩:=h.hq 0 B;rw[e] at e2; cases e2;intro e3; injection e3 with e3; have e4:c=k:=e3; subst e4
  exact(C _ _ q1).1 _ rfl,h.ow,h.oc,h.ck,h.lx,h.ly,h.lw,h.lc,h.vp⟩
def ses0:Ses:=⟨[],[],[],0,0,[],false,false⟩
def GotRc(s:Ses)(L:Qb)(w:World)(e:Ending)(w':World):Prop:=
 (s.done=true/\e=.returned (.tuple #[ses0.val ⟨none,0,none,0,none,0,none,0⟩,.int .i64 0,.int .i64 18])/\PM w w')\/
 (s.done=false/\∃ms n A,BG L ms n/\e=.returned (.tuple #[(recS s ms).1.val A,.int .i64 (recS s ms).2,.int .i64 0])/\SesIn w' (recS s ms).1 A w'.heap.size/\PM w w')
theorem receive_any(s:Ses)(A:SesA)(b:Nat)(L:Qb)(w:World)(O:SesIn w s A b)(hL:(L.length:Int)<=100000000000):
  Qh 23 #[s.val A,.string ⟨L.toArray⟩] w (GotRc s L w):=by
 have B1:=Qf O;obtain⟨G,hG⟩:=Qe (GotRc s L w);rw[<-hG];obtain⟨xs,want,com,id,tot,ps,asked,dn⟩:=s;obtain⟨I,M,wa,wk,ca,cc,pa,pc⟩:=A;obtain⟨u1,B⟩:=Qe (w.alloc (.cells #[.slice I xs.length M,.slice wa want.length wk,.slice ca com.length cc,.int .i64 id,.int .i64 tot,.slice pa ps.length pc,.bool asked,.bool dn] 34));have J:PM w u1:=by rw[B]; exact ba _ _
 have U:BK w.heap.size #[.slice I xs.length M,.slice wa want.length wk,.slice ca com.length cc,.int .i64 id,.int .i64 tot,.slice pa ps.length pc,.bool asked,.bool dn] 34 u1:=by rw[B]; exact BK.new _ _ _
 obtain⟨u2,C⟩:=Qe (u1.alloc (.cells #[.slice none 0 0,.slice none 0 0,.slice none 0 0,.int .i64 0,.int .i64 0,.slice none 0 0,.bool false,.bool false] 34));have K:PM u1 u2:=by rw[C]; exact ba _ _
 have T:u1.heap.size=w.heap.size+1:=by rw[B]; simp
 have R:BK (w.heap.size+1) #[.slice none 0 0,.slice none 0 0,.slice none 0 0,.int .i64 0,.int .i64 0,.slice none 0 0,.bool false,.bool false] 34 u2:=by rw[<-T,C]; exact BK.new _ _ _
 have H:=J.trans (K.mono J.size);cases dn with
 | true=>
  obtain⟨r0,r1,r2,r3,r4,r5,r6,r7⟩:=BK.c8 R;have HF:Qg (G (.returned (.tuple #[ses0.val ⟨none,0,none,0,none,0,none,0⟩,.int .i64 0,.int .i64 18])) u2):=Qf (by rw[hG]; exact .inl ⟨rfl,rfl,H⟩);rw[C,B] at HF r0 r1 r2 r3 r4 r5 r6 r7;clear hG O U B1 J B C K T R H;go_enter Tryz.func23,Tryz.ntmps23;go_wp2_with fail;refine bodyPost_ret (v:=.tuple #[ses0.val ⟨none,0,none,0,none,0,none,0⟩,.int .i64 0,.int .i64 18]) (by simp[results,Tryz.results23,go_sem,ses0,r0,r1,r2,r3,r4,r5,r6,r7]) rfl HF.o
 | false=>
  obtain⟨q,hq⟩:=Qe (w.heap.size+1+1);obtain⟨u3,F⟩:=Qe (u2.alloc (.cells #[.slice I xs.length M,.slice wa want.length wk,.slice ca com.length cc,.int .i64 id,.int .i64 tot,.slice pa ps.length pc,.bool asked,.bool false,.int .i64 0] 96));have A2:PM u2 u3:=by rw[F]; exact ba _ _
  have B9:u2.heap.size=q:=by rw[hq,C]; simp[T]
  have B6:BK q #[.slice I xs.length M,.slice wa want.length wk,.slice ca com.length cc,.int .i64 id,.int .i64 tot,.slice pa ps.length pc,.bool asked,.bool false,.int .i64 0] 96 u3:=by rw[<-B9,F]; exact BK.new _ _ _
  have A7:=H.trans (A2.mono H.size);have X:=Qf (each_any q ⟨xs,want,com,id,tot,ps,asked,false⟩ ⟨I,M,wa,wk,ca,cc,pa,pc⟩ 0 L u3 B6 ((O.far (by omega)).below A7) (by omega) (by omega) hL);have Z:=Qf (R.below A2);have A1:=Qf A7;have HG:=Qf hG;have HQ:=Qf hq;obtain⟨x0,x1,x2,x3,x4,x5,x6,x7⟩:=BK.c8 U;obtain⟨y0,y1,y2,y3,y4,y5,y6,y7⟩:=BK.c8 (U.below K);rw[B] at x7;rw[C,B] at y0 y1 y2 y3 y4 y5 y6 y7;rw[F,C,B,hq] at X;have B2:Qg (u3=((w.alloc (.cells #[.slice I xs.length M,.slice wa want.length wk,.slice ca com.length cc,.int .i64 id,.int .i64 tot,.slice pa ps.length pc,.bool asked,.bool false] 34)).alloc (.cells #[.slice none 0 0,.slice none 0 0,.slice none 0 0,.int .i64 0,.int .i64 0,.slice none 0 0,.bool false,.bool false] 34)).alloc (.cells #[.slice I xs.length M,.slice wa want.length wk,.slice ca com.length cc,.int .i64 id,.int .i64 tot,.slice pa ps.length pc,.bool asked,.bool false,.int .i64 0] 96)):=Qf (by rw[F,C,B]);clear hG O U B1 J B C K T R H F A2 B9 B6 A7 hq x0 x1 x2 x3 x4 x5 x6;go_enter Tryz.func23,Tryz.ntmps23;go_wp2_with fail
  refine X.o.mono ?_;rintro e u4 ⟨ms,n,A4,A6,rfl,P,A5,N⟩
  simp only;rw[<-B2.o] at N;obtain⟨pb,Q⟩:=Qe (w.heap.size+1);rw[<-HQ.o];rw[<-Q] at Z ⊢;have C3:pb≠q:=by rw[HQ.o,Q]; omega
  have V:PM w u4:=A1.o.grown N A1.o.size (fun k e=>by cases e; have:=HQ.o; omega);have S:=Z.o.grow1 N (by have:=HQ.o; omega);have B8:=recS_le ms ⟨xs,want,com,id,tot,ps,asked,false⟩;have C5:=A6.le;rw[Int.zero_add] at P;have HF:Qg (∀(A:SesA) (u:World),SesIn u (recS ⟨xs,want,com,id,tot,ps,asked,false⟩ ms).1 A u.heap.size->PM w u->G (.returned (.tuple #[(recS ⟨xs,want,com,id,tot,ps,asked,false⟩ ms).1.val A,.int .i64 (recS ⟨xs,want,com,id,tot,ps,asked,false⟩ ms).2,.int .i64 0])) u):=Qf (fun A u h1 h2=>by rw[HG.o]; exact .inr ⟨rfl,ms,n,A,A6,rfl,h1,h2⟩);generalize recS ⟨xs,want,com,id,tot,ps,asked,false⟩ ms=RS at P A5 HF B8;obtain⟨⟨fx,fw,fc,fi,ft,fp,fa,fd⟩,cnt⟩:=RS;obtain⟨D,E,wa4,wk4,ca4,cc4,pa4,pc4⟩:=A4;have B0:=Qf A5;have W:=Qf V;have Y:Qg (BK q #[.slice D fx.length E,.slice wa4 fw.length wk4,.slice ca4 fc.length cc4,.int .i64 fi,.int .i64 ft,.slice pa4 fp.length pc4,.bool fa,.bool fd,.int .i64 (cnt:Int)] 96 u4):=Qf (by rw[HQ.o]; exact P);obtain⟨c0,c1,c2,c3,c4,c5,c6,c7,c8⟩:=BK.c9 Y.o;obtain⟨fc0,fc1,fc2,fc3,fc4,fc5,fc6,fc7,fc8⟩:=BK.f9 (Y.o);obtain⟨r0,r1,r2,r3,r4,r5,r6,r7⟩:=BK.c8 S;obtain⟨fr0,fr1,fr2,fr3,fr4,fr5,fr6,fr7⟩:=BK.f8 (S);have C4:w.heap.size<=pb:=by rw[Q]; omega
  have D1:Tryz.prog.follows .mixedOrders=true:=by kernel_rfl
  have A0:=Qf S;have C7:=Qf C3;clear A6 P A5 N X B2 A1 Z HG HQ C5 B8 S V y0 y1 y2 y3 y4 y5 y6 y7 x7 Q;go_wp2_with fail;go_region;obtain⟨v,hv⟩:=Qe ((((((((u4.setCell ⟨pb,0,none⟩ (.slice D fx.length E)).setCell ⟨pb,1,none⟩ (.slice wa4 fw.length wk4)).setCell ⟨pb,2,none⟩ (.slice ca4 fc.length cc4)).setCell ⟨pb,3,none⟩ (.int .i64 fi)).setCell ⟨pb,4,none⟩ (.int .i64 ft)).setCell ⟨pb,5,none⟩ (.slice pa4 fp.length pc4)).setCell ⟨pb,6,none⟩ (.bool fa)).setCell ⟨pb,7,none⟩ (.bool fd));rw[<-hv];have B7:BK pb #[.slice D fx.length E,.slice wa4 fw.length wk4,.slice ca4 fc.length cc4,.int .i64 fi,.int .i64 ft,.slice pa4 fp.length pc4,.bool fa,.bool fd] 34 v:=by rw[hv]; exact((((((((A0.o.set 0 _).set 1 _).set 2 _).set 3 _).set 4 _).set 5 _).set 6 _).set 7 _)
  have A3:u4.grownBy v (some pb):=by rw[hv]; exact fM (fM (fM (fM (fM (fM (fM (dN _ _ _ _) _ _) _ _) _ _) _ _) _ _) _ _) _ _
  have B5:SesIn v ⟨fx,fw,fc,fi,ft,fp,fa,fd⟩ ⟨D,E,wa4,wk4,ca4,cc4,pa4,pc4⟩ pb:=(B0.o.kind (fun j v h=>by
   rw[A0.o.cell] at h;rcases j with _ | _ | _ | _ | _ | _ | _ | _ | j
   all_goals first | (simp at h; subst h; exact⟨fun t e=>(by cases e),fun x e=>(by cases e)⟩) | (simp at h))).grown A3
  have B4:PM w v.drew:=(W.o.grown A3 W.o.size (fun k e=>by cases e; exact C4)).drew;have C2:=Qf (HF.o ⟨D,E,wa4,wk4,ca4,cc4,pa4,pc4⟩ v.drew ((B5.below (bf _).drew).far nr) B4);clear r0 r1 r2 r3 r4 r5 r6 r7 fr0 fr1 fr2 fr3 fr4 fr5 fr6 fr7 c0 c1 c2 c3 c4 c5 c6 c7 c8 fc0 fc1 fc2 fc3 fc4 fc5 fc6 fc7 fc8;obtain⟨r0,r1,r2,r3,r4,r5,r6,r7⟩:=BK.c8 B7;clear B7 A3 B5 B4 hv B0 W HF Y A0;go_wp2_with fail;refine bodyPost_ret (v:=.tuple #[.agg #[.slice D fx.length E,.slice wa4 fw.length wk4,.slice ca4 fc.length cc4,.int .i64 fi,.int .i64 ft,.slice pa4 fp.length pc4,.bool fa,.bool fd],.int .i64 cnt,.int .i64 0]) (by simp[results,Tryz.results23,go_sem,r0,r1,r2,r3,r4,r5,r6,r7]) rfl C2.o
