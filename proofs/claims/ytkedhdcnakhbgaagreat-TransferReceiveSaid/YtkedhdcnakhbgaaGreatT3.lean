/- Lemmas. -/
import Derived.Test.YtkedhdcnakhbgaaGreatT1
import Derived.Test.YtkedhdcnakhbgaaGreatP8
import Derived.Test.YtkedhdcnakhbgaaGreatG2
import Derived.Test.YtkedhdcnakhbgaaGreatP10
import Derived.Test.YtkedhdcnakhbgaaGreatT2
set_option linter.unusedSimpArgs false
set_option maxRecDepth 100000
set_option maxHeartbeats 16000000
namespace Go.Proofs.YtkedhdcnakhbgaaGreat
open Tryz
open Go.RowKit Go.Shelf
set_option linter.unusedVariables false
variable {ts:List (Qb)}{xs:List Itm}{B b cc wc:Nat}{a ca wa:Qa}{com want:Qd}{W W':World}
def txA:Qb:=[2,0]
def txB:Qb:=[3,8,57,84,7,180,241,54,63,8,50,134,7,180,235,108,135,0,3,97,110,110,0,0]
def dA:Int×Int:=(592597218053142079,590681868797176967)
def dB:Int×Int:=(4535459373733311619,9269567812097712015)
def exX:List Itm:=[⟨dA,txA⟩,⟨dB,txB⟩]
def oA:Ob:=⟨2,[],[],(0,0),[],[],0,[]⟩
def oB:Ob:=⟨3,[],[],dA,[],[97,110,110],0,[]⟩
theorem putA:WX [] oA=([⟨dA,txA⟩],dA,0):=Zl
theorem putB:WX [⟨dA,txA⟩] oB=(exX,dB,0):=Zl
theorem chkX:mV exX=0:=Zl
theorem ascX:Asc exX:=(PP chkX).2
theorem VP:dh exX [dB]=([dA,dB],[]):=by
 have h:fI exX (jC exX [dB]) [dB] [(0,0)] [] []=([dB,dA],[]):=Zl;unfold dh;rw[h];refine Prod.ext (yT (zm Zd) (by unfold EX; decide) (fun x=>?_)) (by simp[kV]);rw[(lJ _).mem_iff];simp[or_comm]
theorem VN:dh exX []=([],[]):=by
 have h:fI exX (jC exX []) [] [(0,0)] [] []=([],[]):=Zl;unfold dh;rw[h];simp[kV]
theorem sendX:M6 exX [dB] []=([dA,dB],0):=by
 have h:vI exX ([dB]++[])=0:=Zl;unfold M6;rw[h,VP,VN];decide
theorem fullX:PV exX [dB]=true:=by
 unfold PV;rw[VP]
 decide +kernel
def pkT:Qb:=(zP exX [dA,dB] []).1
theorem packX:zP exX [dA,dB] []=(pkT,0):=Prod.ext rfl Zl
theorem V8:pkT.length=79:=Zl
theorem unpX:tu pkT []=(exX,0):=Zl
deriving instance DecidableEq for Ses
def se1:Ses:=⟨[],[dB],[],0,0,[],false,false⟩
def pid:Int:=Ux pkT
def rq1:Qb:=(Rx se1).1
def fr2:Qb:=(Uw pid pkT 0 pkT.length 40).1
def pt0:Msg:=⟨2,pid,0,79,[],pkT.take 40⟩
def pt1:Msg:=⟨2,pid,40,79,[],pkT.drop 40⟩
def fr0:Qb:=(Qc pt0).1
def se2:Ses:=⟨[],[dB],[],pid,79,[(0,pkT.take 40)],true,false⟩
def rq2:Qb:=(Rx se2).1
def se3:Ses:=⟨exX,[dB],[],0,0,[],false,true⟩
theorem begX:Qm [] [dB] []=(se1,0):=by
 have h:PV [] [dB]=false:=by
  unfold PV;rw[show List.all [dB] (I7 [])=false by decide +kernel,Bool.false_and]
 unfold Qm;rw[h];decide
theorem reqX1:Rx se1=(rq1,0):=Prod.ext rfl Zl
theorem WQ:BG rq1 [⟨1,0,((1:Nat):Int),0,[dB],[]⟩] rq1.length:=by
 have h:=BG.step (s:=rq1) (m:=⟨1,0,((1:Nat):Int),0,[dB],[]⟩) (u:=rq1.length) (l:=[]) (n:=0) Zl (.stop Zl);exact h
theorem repX:Uw pid pkT 0 pkT.length 40=(fr2,0):=Prod.ext rfl Zl
theorem WU:BG fr2 [pt0,pt1] fr2.length:=by
 have h:=BG.step (s:=fr2) (m:=pt0) (u:=fr0.length) Zl (BG.step (m:=pt1) (u:=fr2.length-fr0.length) Zl (.stop Zl));have e:fr0.length+(fr2.length-fr0.length+0)=fr2.length:=Zl;rw[e] at h;exact h
theorem encP0:Qc pt0=(fr0,0):=Prod.ext rfl Zl
theorem WT:BG fr0 [pt0] fr0.length:=BG.step (s:=fr0) (m:=pt0) (u:=fr0.length) (l:=[]) (n:=0) Zl (.stop Zl)
theorem takX0:Qk se1 pt0=(se2,true):=Zl
theorem takX1:Qk se2 pt0=(se2,true):=Zl
theorem reqX2:Rx se2=(rq2,0):=Prod.ext rfl Zl
def fq1:Qb:=(Qc ⟨1,0,1,0,[dB],[]⟩).1
theorem WP:BG rq2 [⟨1,0,1,0,[dB],[]⟩,⟨3,pid,40,39,[],[]⟩] rq2.length:=by
 have h:=BG.step (s:=rq2) (m:=⟨1,0,1,0,[dB],[]⟩) (u:=fq1.length) Zl (BG.step (m:=⟨3,pid,40,39,[],[]⟩) (u:=rq2.length-fq1.length) Zl (.stop Zl));have e:fq1.length+(rq2.length-fq1.length+0)=rq2.length:=Zl;rw[e] at h;exact h
theorem gatX:Vt se2 pt1=(0,pid,79,[(0,pkT)]):=Zl
theorem WO:y9 pid 79 [(0,pkT)]=(pkT,true):=Zl
theorem takX2:Qk se2 pt1=(se3,true):=by
 have A:Rl se2 (pid,79,[(0,pkT)])={ se3 with asked:=true }:=by
  unfold Rl;simp only;rw[WO]
  show Us { se2 with id:=pid,tot:=79,ps:=[(0,pkT)] } pkT=_;unfold Us;have B:tu pkT ({ se2 with id:=pid,tot:=79,ps:=[(0,pkT)] }:Ses).xs=(exX,0):=unpX;rw[B,if_pos ⟨rfl,fullX⟩];rfl
 unfold Qk;rw[if_neg Zd,gatX,if_neg Zs,A];rfl
theorem recX0:Ql se1 [pt0]=(se2,1):=by
 rw[Ql,takX0]; rfl
theorem recX:Ql se2 [pt0,pt1]=(se3,2):=by
 rw[Ql,takX1];simp only;rw[Ql,takX2];rfl
def T9:Prop:=∀(a:Qa) (c:Nat) (la:Qa) (lc:Nat) (ba:Qa) (bc:Nat) (W:World),jQ W a exX c->dE W W la [dA,dB]->Qh 49 #[.slice a 2 c,.slice la 2 lc,.slice ba 0 bc] W (Xz (.tuple #[pkT,Yi 0]) W)
theorem okDB:OkD dB:=by unfold dB OkD Ku; decide
theorem V7(W:World):jQ W none [] 0:=⟨Its.nil _ _ _,nr,Zs,fun x A=>(by cases A)⟩
theorem VL(h:BK b #[Yu dB.1,Yu dB.2] 54 W):PQ W se1 ⟨none,0,some ⟨b,0,none⟩,1,none,0,none,0⟩ (W:Nat):=
 ⟨V7 W,⟨fun i j B _ _=>(by simp[se1] at B),fun x A=>(by cases A),fun x A=>(by cases A),by simp[se1],fun x A=>(by cases A),nr⟩,Q9 h,fun i B=>(by simp[se1] at B),fun i B=>(by simp[se1] at B),nr,nr,nr,fun ad e=>(by cases e),fun _ ad e=>(by
  cases e
  intro e3;injection e3 with e3
  have e4:(W:Nat)=b:=e3;have:=h.lt
  omega),fun _ ad e=>(by cases e),fun ad e=>(by cases e),fun d C=>(by
  rw[aH.1 C];exact okDB),fun d C=>(by cases C),fun x A=>(by cases A),by simp[se1],fun _=>by simp[se1],by simp[se1],by simp[se1],rfl⟩
theorem Tw{n1 n2 n3 n4 c1 c2 c3 c4:Nat}{a1 a2 a3 a4:Qa}{i t:Int}{x y:Bool}{ty:TypeId}(h:BK b #[.slice a1 n1 c1,.slice a2 n2 c2,.slice a3 n3 c3,Yi i,Yi t,.slice a4 n4 c4,.bool x,.bool y] ty W):∀(j:Nat) (v:Value),W.cell? ⟨b,j,none⟩=some v->(∀t,v≠.string t)/\∀x,v≠Yu x:=fun j v e=>by
 rw[h.cell] at e;rcases j with _ | _ | _ | _ | _ | _ | _ | _ | j
 all_goals first | (simp at e; subst e; exact⟨fun t e=>(by cases e),fun x e=>(by cases e)⟩) | (simp at e)
theorem Ro(h:Its B W a xs)(C:∀(j:Nat) (v:Value),W.cell? ⟨b,j,none⟩=some v->(∀t,v≠.string t)/\∀x,v≠Yu x):∀ad,a=some ad->0<xs.length->some b≠some ad.block:=fun ad e A=>by
 obtain⟨k,o,e2,_,q0,_⟩:=h 0 A;rw[e] at e2; cases e2;intro e3;injection e3 with e3
 have e4:b=k:=e3;subst e4;exact(C _ _ q0).2 _ rfl
abbrev sv1(b:Nat):Value:=.agg #[(),.slice b 1 1,(),Yi 0,Yi 0,(),.bool false,.bool false]
abbrev sv2(A:QF):Value:=.agg #[.slice A.ha 0 A.hc,.slice A.wa 1 A.wc,.slice A.ca 0 A.cc,Yi pid,Yi 79,.slice A.pa 1 A.pc,.bool true,.bool false]
abbrev sv3(A:QF):Value:=.agg #[.slice A.ha 2 A.hc,.slice A.wa 1 A.wc,.slice A.ca 0 A.cc,Yi 0,Yi 0,.slice A.pa 0 A.pc,.bool false,.bool true]
theorem Rt(I8:T9)(w:World):Qh 11 #[] w (Xz (.bool true) w):=by
 have H7:fr2.length<=10000:=Zl;have I6:fr0.length<=10000:=Zl;have I7:rq2.length<=10000:=Zl;have E8:Qg (∀W,Qh 39 #[(),.agg #[Yi 2,Ye,(),Yu 0,Yu 0,(),Ye,Yi 0,Ye]] W (MK W none [] ([⟨dA,txA⟩],dA,0))):=Qf (fun W=>by
  have h:=UT none [] 0 oA none 0 none 0 W (V7 W) (fun i j hi _ _=>by simp at hi) ⟨BI.nil _ _ _,dE.nil _ _ _,nr,by simp[oA],fun e he=>(by cases he),fun e he=>(by cases he),by simp[oA],fun e he=>(by cases he),Zd,by simp[oA],by simp[oA],by simp[oA]⟩;rw[putA] at h;exact h)
 have E9:Qg (∀W a c,jQ W a [⟨dA,txA⟩] c->Qh 39 #[.slice a 1 c,.agg #[Yi 3,Ye,(),Yu dA.1,Yu dA.2,(),.string ⟨#[97,110,110]⟩,Yi 0,Ye]] W (MK W a [⟨dA,txA⟩] (exX,dB,0))):=Qf (fun W a c hp=>by
  have h:=UT a [⟨dA,txA⟩] c oB none 0 none 0 W hp (fun i j hi hj J2=>by simp at hi hj; omega) ⟨BI.nil _ _ _,dE.nil _ _ _,nr,by simp[oB],fun e he=>(by cases he),fun e he=>(by cases he),by simp[oB],fun e he=>(by cases he),Zd,by simp[oB],by simp[oB],by simp[oB]⟩;rw[putB] at h;exact h)
 have F9:Qg (∀W b,BK b #[Yu dB.1,Yu dB.2] 54 W->Qh 12 #[(),.slice b 1 1,()] W (Xz (.tuple #[sv1 b,Yi 0]) W)):=Qf (fun W b B=>by
  have h:=Qx none [] 0 (some ⟨b,0,none⟩) [dB] 1 none [] 0 W (V7 W) (fun i j hi _ _=>by simp at hi) (Q9 B) (fun i hi=>by simp at hi) (fun d hd=>by rw[aH.1 hd]; exact okDB) (fun d hd=>by cases hd) Zs Zs Zs;rw[begX] at h;exact h)
 have G6:Qg (∀W b,BK b #[Yu dB.1,Yu dB.2] 54 W->Qh 16 #[sv1 b] W (Xz (.tuple #[rq1,Yi 0]) W)):=Qf (fun W b B=>by
  have h:=Qt se1 ⟨none,0,some ⟨b,0,none⟩,1,none,0,none,0⟩ _ W (VL B);rw[reqX1] at h;exact h)
 have G5:Qg (∀W b,BK b #[Yu dB.1,Yu dB.2] 54 W->Qh 23 #[sv1 b,fr0] W fun e w'=>∃A,e=.returned (.tuple #[sv2 A,Yi 1,Yi 0])/\PQ w' se2 A w'.heap.size/\PM W w'):=Qf (fun W b B=>(QL se1 ⟨none,0,some ⟨b,0,none⟩,1,none,0,none,0⟩ _ fr0 W (VL B) (Zh I6)).mono (by
  rintro e w' (⟨h,_⟩ | ⟨_,ms,n,A,hs,rfl,h3,h4⟩)
  ·cases h
  obtain⟨rfl,rfl⟩:=hs.one WT;rw[recX0] at h3 ⊢;exact⟨A,rfl,h3,h4⟩))
 have C8:Qg (∀W A b,PQ W se2 A b->Qh 16 #[sv2 A] W (Xz (.tuple #[rq2,Yi 0]) W)):=Qf (fun W A b B=>by
  have h:=Qt se2 A b W B;rw[reqX2] at h;exact h)
 have C7:Qg (∀W A b,PQ W se2 A b->Qh 23 #[sv2 A,fr2] W fun e w'=>∃A,e=.returned (.tuple #[sv3 A,Yi 2,Yi 0])/\Its w'.heap.size w' A.ha exX/\PM W w'):=Qf (fun W A b B=>(QL se2 A b fr2 W B (Zh H7)).mono (by
  rintro e w' (⟨h,_⟩ | ⟨_,ms,n,A,hs,rfl,h3,h4⟩)
  ·cases h
  obtain⟨rfl,rfl⟩:=hs.one WU;rw[recX] at h3 ⊢;exact⟨A,rfl,h3.hp.its,h4⟩))
 have G7:Qg (∀W A,Qh 18 #[sv3 A] W (Xz (.tuple #[.slice A.ha 2 A.hc,Yi 0]) W)):=Qf (fun W A=>QV se3 A W);have G9:Qg (∀W,Qh 32 #[fr2] W fun e w'=>∃a c,e=.returned (.tuple #[.slice a 2 c,Yi fr2.length])/\GQ w'.heap.size w' a [pt0,pt1]/\2<=c/\PM W w'):=Qf (fun W=>(PD fr2 W (Zh H7)).mono (by
  rintro e w' ⟨ms,n,a,c,hs,rfl,h2,h3,h4,h5,h6⟩;obtain⟨rfl,rfl⟩:=hs.one WU;exact⟨a,c,rfl,h2,h4,h3⟩))
 have D0:Qg (∀W,Qh 32 #[rq2] W fun e w'=>∃a c,e=.returned (.tuple #[.slice a 2 c,Yi rq2.length])/\GQ w'.heap.size w' a [⟨1,0,1,0,[dB],[]⟩,⟨3,pid,40,39,[],[]⟩]/\2<=c/\PM W w'):=Qf (fun W=>(PD rq2 W (Zh I7)).mono (by
  rintro e w' ⟨ms,n,a,c,hs,rfl,h2,h3,h4,h5,h6⟩;obtain⟨rfl,rfl⟩:=hs.one WP;exact⟨a,c,rfl,h2,h4,h3⟩))
 have G0:Qg (∀W a c,Qh 33 #[.agg #[Yi 2,Yi pid,Yi 0,Yi 79,.slice a 0 c,(pkT.take 40)]] W (Xz (.tuple #[fr0,Yi 0]) W)):=Qf (fun W a c=>by
  have h:=MV pt0 a c W (fun i hi=>by simp[pt0] at hi) (fun d hd=>by cases hd) (by simp[pt0]) Zl;rw[encP0] at h;exact h)
 have P:Qg (∀W a c,jQ W a exX c->Qh 21 #[.slice a 2 c,rq1,Yi 40] W (Xz (.tuple #[fr2,Yi 0]) W)):=Qf (fun W a c hp=>by
  have h:=SG a exX c rq1 40 W 1 rq1.length 0 [dB] [dA,dB] [] pkT hp ascX Zd WQ rfl Zl Zd (fun d hd=>by rw[aH.1 hd]; exact okDB) Zd Zd Zd sendX (by show(dh exX []).1=[]; rw[VN]) (by rw[V8]; decide) (fun la lc ba bc W2 h1 h2 _=>I8 a c la lc ba bc W2 ⟨h1,hp.cap,hp.len,hp.dat⟩ h2);rw[show Uw (Ux pkT) pkT 0 pkT.length 40=(fr2,0) from repX] at h;exact h)
 have I3:Qg (∀W a c b d,Its W.heap.size W a exX->Its W.heap.size W b exX->Qh 20 #[.slice a 2 c,.slice b 2 d] W (Xz (.bool true) W)):=Qf (fun W a c b d h1 h2=>by
  have h:=PE a b exX exX c d W h1 h2 Zd Zd;rw[XI rfl] at h;exact h)
 unfold MK at E8 E9;go_enter func11,ntmps11;go_wp2_with fail;refine(E8.o _).mono ?_;rintro e u1 ⟨pa,pc,rfl,M,I,F6,B⟩;simp only[az,aK,aZ] at I ⊢;have D8:Qg (PM w u1):=Qf B;obtain⟨v1,B3⟩:=Qe (u1.alloc (.cells #[Yu dA.1,Yu dA.2] 54));have G:PM u1 v1:=B3▸(bf _).alloc nr _;obtain⟨B5,D⟩:=Yj (M.ahead G) (XT D8.o G);have S:=Qf (E9.o v1 pa pc ⟨B5.o,I,Zs,fun x hx=>by rw[aH.1 hx]; simp[txA]⟩);rw[B3] at S;have HV:=Qf B3;clear M I F6 B G B3 E8 E9 B5 D8;go_wp2_with fail;refine S.o.mono ?_;rintro e u2 ⟨F5,I9,rfl,M,I,F6,B⟩;rw[<-HV.o] at B;have F3:=(XT D.o B);obtain⟨v2,A5⟩:=Qe ((u2.alloc (.cells #[Yu dB.1,Yu dB.2] 54)).alloc (.cells #[Yu dB.1,Yu dB.2] 54));have G:PM u2 v2:=A5▸((bf _).alloc nr _).alloc (by simp) _;have G4:=Qf (jQ.mk (M.ahead G) I Zd Zd);have A9:Qg (BK ((u2:Nat)+1) #[Yu dB.1,Yu dB.2] 54 v2):=Qf (A5▸BK.new2 _ _ _ _);obtain⟨A8,E6⟩:=Yj (XT F3 G) (F9.o v2 _ A9.o);rw[A5] at E6;have H1:=Qf A5;clear S HV D M I F6 B F3 G A5 F9;go_wp2_with fail;refine E6.o.mono ?_;rintro e u3 ⟨rfl,B⟩;rw[<-H1.o] at B;obtain⟨bd,H4⟩:=Qe ((u2:Nat)+1);rw[<-H4] at A9 ⊢;obtain⟨v3,A6⟩:=Qe (u3.alloc (.cells #[(),.slice bd 1 1,(),Yi 0,Yi 0,(),.bool false,.bool false] 34));have G:PM u3 v3:=A6▸(bf _).alloc nr _;have O:PM v2 v3:=(XT B G);have F7:=A9.o.below O;have I0:BK u3 #[(),.slice bd 1 1,(),Yi 0,Yi 0,(),.bool false,.bool false] 34 v3:=A6▸BK.new _ _ _;have E7:=Qf (G6.o v3 bd F7);rw[A6] at E7;obtain⟨sb,B2⟩:=Qe (u3:Nat);obtain⟨B6,C1,D9⟩:=Yk F7 (G4.o.below O) (XT A8.o O);have D1:Qg (BK sb #[(),.slice bd 1 1,(),Yi 0,Yi 0,(),.bool false,.bool false] 34 v3):=Qf (B2▸I0);have H2:=Qf A6;have I2:(w:Nat)<=sb:=B2▸aC A8.o.size B.size;have H3:=Qf I2;clear E6 H1 H4 B A6 G O F7 I0 A9 G4 A8 G6 I2;go_wp2_with fail;refine E7.o.mono ?_;rintro e u4 ⟨rfl,B⟩;rw[<-H2.o] at B;rw[<-B2];clear B2 E7 H2;obtain⟨B7,V,D2,E0⟩:=Yl (B6.o.below B) (C1.o.below B) (D1.o.below B) (XT D9.o B);clear B B6 C1 D1 D9;go_wp2_with fail;refine(P.o u4 F5 I9 V.o).mono ?_;rintro e u5 ⟨rfl,B⟩;obtain⟨B8,C2,D3,E1⟩:=Yl (B7.o.below B) (V.o.below B) (D2.o.below B) (XT E0.o B);clear B B7 V D2 E0 P;go_wp2_with fail;refine(G9.o u5).mono ?_;rintro e u6 ⟨ma,mc,rfl,A4,H8,B⟩;obtain⟨B9,X,D4,E2⟩:=Yl (B8.o.below B) (C2.o.below B) (D3.o.below B) (XT E1.o B);clear B B8 C2 D3 E1 G9;obtain⟨b0,J4,da,cd,rfl,I5,q0,q1,q2,q3,q4,q5,_⟩:=A4 0 Zs;simp only[aS,pt0,dG,QI,aK] at q0 q1 q2 q3 q4 q5;clear A4;have G2:Qg (Its u6 u6 F5 exX):=Qf X.o.its;go_wp2_with fail;refine(G0.o u6 da cd).mono ?_;rintro e u7 ⟨rfl,B⟩;obtain⟨C0,C3,A1,E3⟩:=Yl (B9.o.below B) (X.o.below B) (D4.o.below B) (XT E2.o B);clear B B9 X D4 E2 G0 G2 q0 q1 q2 q3 q4 q5 H8 I5;obtain⟨r0,r1,r2,r3,r4,r5,r6,r7⟩:=BK.c8 A1.o;go_wp2_with fail;refine(G5.o u7 bd C0.o).mono ?_;rintro e u8 ⟨A,rfl,hs,B⟩;obtain⟨H,Y,E4⟩:=Yk (A1.o.below B) (C3.o.below B) (XT E3.o B);have I1:PQ u8 se2 A sb:=hs.kind (Tw H.o);have H0:=Qf I1;clear B hs I1 A1 C3 E3 C0 G5 r0 r1 r2 r3 r4 r5 r6 r7;obtain⟨r0,r1,r2,r3,r4,r5,r6,r7⟩:=BK.c8 H.o;obtain⟨fr0,A7,fr2,B0,B1,D7,F1,F2⟩:=BK.f8 (H.o);obtain⟨v,hv⟩:=Qe ((((((((u8.setCell sb (.slice A.ha 0 A.hc)).setCell ⟨sb,1,none⟩ (.slice A.wa 1 A.wc)).setCell ⟨sb,2,none⟩ (.slice A.ca 0 A.cc)).setCell ⟨sb,3,none⟩ (Yi pid)).setCell ⟨sb,4,none⟩ (Yi 79)).setCell ⟨sb,5,none⟩ (.slice A.pa 1 A.pc)).setCell ⟨sb,6,none⟩ (.bool true)).setCell ⟨sb,7,none⟩ (.bool false));have H6:BK sb #[.slice A.ha 0 A.hc,.slice A.wa 1 A.wc,.slice A.ca 0 A.cc,Yi pid,Yi 79,.slice A.pa 1 A.pc,.bool true,.bool false] 34 v:=hv▸((((((((H.o.set 0 _).set 1 _).set 2 _).set 3 _).set 4 _).set 5 _).set 6 _).set 7 _);have C:u8.grownBy v (some sb):=hv▸fM (fM (fM (fM (fM (fM (fM (dN _ _ _ _) _ _) _ _) _ _) _ _) _ _) _ _) _ _;have D:Qg (PM w v):=Qf (E4.o.grown C E4.o.size (fun k e=>by cases e; exact H3.o));obtain⟨P,D6,K,HV⟩:=Yl (H0.o.grown C) H6 (Y.o.grown C (Ro Y.o.its (Tw H.o))) hv;have S:=Qf (C8.o v A sb P.o);rw[hv] at S;clear H6 C hv E4 H0 Y H C8;go_wp2_with fail;refine S.o.mono ?_;rintro e u9 ⟨rfl,B⟩;rw[<-HV.o] at B;obtain⟨G8,C4,D5,E5⟩:=Yl (P.o.below B) (K.o.below B) (D6.o.below B) (XT D.o B);clear B P K D6 D S HV r0 r1 r2 r3 r4 r5 r6 r7 fr0 A7 fr2 B0 B1 D7 F1 F2;go_wp2_with fail;refine(D0.o u9).mono ?_;rintro e J0 ⟨ma,mc,rfl,A4,H8,B⟩;obtain⟨C9,U,J,Q⟩:=Yl (G8.o.below B) (C4.o.below B) (D5.o.below B) (XT E5.o B);clear B G8 C4 D5 E5 D0;obtain⟨b1,A3,J3,J1,rfl,L,q0,_,q2,_,_,q5,_⟩:=A4 1 Zs;simp only[aS,bK,Nat.one_mul] at q0 q2 q5;have H9:b1≠sb:=fun e=>by
  subst e;exact(Tw J.o _ _ q5).1 _ rfl
 clear A4 q5;obtain⟨r0,r1,r2,r3,r4,r5,r6,r7⟩:=BK.c8 J.o;obtain⟨Z,A0⟩:=Yj q0 q2;clear q0 q2;go_wp2_with fail;refine(C7.o J0 A sb C9.o).mono ?_;rintro e F8 ⟨E,rfl,H5,B⟩;obtain⟨F,N,R,T,C5,C6⟩:=Yn (J.o.below B) (U.o.below B) (XT Q.o B) H5 ((B.cell (p:=⟨b1,A3+6,none⟩) L).trans Z.o) ((B.cell (p:=⟨b1,A3+6+2,none⟩) L).trans A0.o);have A2:b1<(F8:Nat):=aO L B.size;clear B H5 J U Q C9 C7 Z A0 L r0 r1 r2 r3 r4 r5 r6 r7;obtain⟨r0,r1,r2,r3,r4,r5,r6,r7⟩:=BK.c8 F.o;obtain⟨fr0,A7,fr2,B0,B1,D7,F1,F2⟩:=BK.f8 (F.o);obtain⟨v,hv⟩:=Qe ((((((((F8.setCell sb (.slice E.ha 2 E.hc)).setCell ⟨sb,1,none⟩ (.slice E.wa 1 E.wc)).setCell ⟨sb,2,none⟩ (.slice E.ca 0 E.cc)).setCell ⟨sb,3,none⟩ (Yi 0)).setCell ⟨sb,4,none⟩ (Yi 0)).setCell ⟨sb,5,none⟩ (.slice E.pa 0 E.pc)).setCell ⟨sb,6,none⟩ (.bool false)).setCell ⟨sb,7,none⟩ (.bool true));have C:F8.grownBy v (some sb):=hv▸fM (fM (fM (fM (fM (fM (fM (dN _ _ _ _) _ _) _ _) _ _) _ _) _ _) _ _) _ _;have D:Qg (PM w v):=Qf (R.o.grown C R.o.size (fun k e=>by cases e; exact H3.o));have K:=Qf (N.o.grown C (Ro N.o.its (Tw F.o))).its;have G3:=Qf ((T.o.grown nr C (Ro T.o (Tw F.o))).mono C.size);have F4:=C.block b1 A2 (fun e=>H9 (by cases e; rfl));obtain⟨Z,A0⟩:=Yj ((XM (a:=⟨b1,A3+6,none⟩) F4).trans C5.o) ((XM (a:=⟨b1,A3+6+2,none⟩) F4).trans C6.o);have L:b1<(v:Nat):=aO A2 C.size;obtain⟨HV,S⟩:=Yj hv (G7.o v E);rw[hv] at S;clear C hv R N F T C5 C6 A2 H9 G7 F4;go_wp2_with fail;refine S.o.mono ?_;rintro e I4 ⟨rfl,B⟩;rw[<-HV.o] at B;obtain⟨F0,G1,B4⟩:=Yk (K.o.ahead B) (G3.o.ahead B) (XT D.o B);have q0:I4.cell? ⟨b1,A3+6,none⟩=some (Yi 3):=(B.cell (p:=⟨b1,A3+6,none⟩) L).trans Z.o;have q2:I4.cell? ⟨b1,A3+6+2,none⟩=some (Yi 40):=(B.cell (p:=⟨b1,A3+6+2,none⟩) L).trans A0.o;clear B K G3 D S HV Z A0 r0 r1 r2 r3 r4 r5 r6 r7 fr0 A7 fr2 B0 B1 D7 F1 F2 L;go_wp2_with fail;refine(I3.o I4 F5 I9 E.ha E.hc F0.o G1.o).mono ?_;rintro e J5 ⟨rfl,B⟩;have HF:=Qf (XT B4.o B);clear B;go_wp2;refine XB (v:=.bool true) (by simp[results,results11,go_sem]) rfl ⟨rfl,HF.o⟩
theorem okDA:OkD dA:=by unfold dA OkD Ku; decide
theorem okAB:∀d∈[dA,dB],OkD d:=fun d A=>by
 rcases XG.1 A with rfl | A
 ·exact okDA
 ·rw[aH.1 A];exact okDB
theorem WY:T9:=fun a c la lc ba bc W C A=>by
 have E:exX.length=2:=rfl;have h:=PG (xs:=exX) (l:=[dA,dB]) (base:=[]) (pa:=a) (la:=la) (ba:=ba) (pc:=c) (lc:=lc) (bc:=bc) (w:=W) ⟨ascX,fun x B=>by
  rcases XG.1 B with rfl | B
  ·exact okDA
  ·rw[aH.1 B];exact okDB,Zd,Zd,C.cap⟩ C.its A (fun i D=>(by simp at D)) okAB (fun d A=>(by cases A)) Zd Zd Zl
 rw[packX] at h;exact h
def Ses.arr(s:Ses)(A:QF):Array Value:=#[.slice A.ha s.xs.length A.hc,.slice A.wa s.want.length A.wc,.slice A.ca s.com.length A.cc,Yi s.id,Yi s.tot,.slice A.pa s.ps.length A.pc,.bool s.asked,.bool s.done]
theorem Txs.below(h:Txs B W a ts)(C:B<=(W:Nat))(D:PM W W'):Txs B W' a ts:=fun i F=>by
 obtain⟨b,G,e,A,E⟩:=h i F;exact⟨b,G,e,A,(D.cell (p:=⟨b,G+i,none⟩) (aO A C)).trans E⟩
theorem Txs.grown(h:Txs B W a ts)(F:B<=(W:Nat))(G:B<=b)(D:W.grownBy W' (some b)):Txs B W' a ts:=fun i E=>by
 obtain⟨k,H,e,A,C⟩:=h i E;exact⟨k,H,e,A,(XM (a:=⟨k,H+i,none⟩) (D.block k Zo (fun e=>by cases e; omega))).trans C⟩
theorem sesM{D:Nat}{F:Qa}(E:B<=(W:Nat))(N:B<=b)(G:Its B W F xs)(k1:xs.length<=D)(g1:xs.length<=90)(g2:∀x∈xs,x.data.length<=1000)(z1:∀x∈xs,vg x=0)(z2:Asc xs)(H:dE B W wa want)(I:dE B W ca com)(kw:want.length<=wc)(kc:com.length<=cc)(o3:∀d∈want,OkD d)(o4:∀d∈com,OkD d)(l3:want.length<=6)(l4:com.length<=6)(dn:Bool):PQ W ⟨xs,want,com,0,0,[],false,dn⟩ ⟨F,D,wa,wc,ca,cc,none,0⟩ b:=by
 have L:jQ W F xs D:=⟨G.mono E,k1,Zo,fun x A=>Zh (g2 x A)⟩;have M:Ps xs D:=⟨z2,fun x A=>(Qp (z1 x A)).1,fun x A=>by rw[<-(Qp (z1 x A)).2]; exact TE _,Zo,fun x A=>Zh (g2 x A),k1⟩;exact⟨L,M,H.mono E,I.mono E,fun i K=>(by simp at K),nr,kw,kc,fun ad e C=>by
  obtain⟨k,o,e2,J,_⟩:=G 0 C;cases e.symm.trans e2;intro e3; injection e3 with e3; have e4:b=k:=e3; omega,fun C ad e=>by
  obtain⟨k,o,e2,J,_⟩:=H 0 C;cases e.symm.trans e2;intro e3; injection e3 with e3; have e4:b=k:=e3; omega,fun C ad e=>by
  obtain⟨k,o,e2,J,_⟩:=I 0 C;cases e.symm.trans e2;intro e3; injection e3 with e3; have e4:b=k:=e3; omega,fun ad e=>(by cases e),o3,o4,z1,by show xs.length<=2000; omega,fun _=>by show xs.length<=1000; omega,by show want.length<=1000; omega,by show com.length<=1000; omega,rfl⟩
theorem sesN{C:Nat}{A:Qa}(G:B<=(W:Nat))(H:B<=b)(D:Its B W A xs)(k1:xs.length<=C)(I:Cr xs=false)(J:mV xs=0)(E:dE B W wa want)(F:dE B W ca com)(kw:want.length<=wc)(kc:com.length<=cc)(o3:∀d∈want,OkD d)(o4:∀d∈com,OkD d)(l3:want.length<=6)(l4:com.length<=6)(dn:Bool):PQ W ⟨xs,want,com,0,0,[],false,dn⟩ ⟨A,C,wa,wc,ca,cc,none,0⟩ b:=by
 obtain⟨g1,g2⟩:=RG I;obtain⟨z1,z2⟩:=PP J;exact sesM G H D k1 Zo (fun x K=>Zh (g2 x K)) z1 z2 E F kw kc o3 o4 l3 l4 dn
theorem PW.below{x:Fet}{A:Sz}(h:PW W x A)(B:PM W W'):PW W' x A:=
 ⟨⟨h.h.its.ahead B,h.h.cap,h.h.dat⟩,⟨h.y.its.ahead B,h.y.cap,h.y.dat⟩,⟨h.w.dig.ahead B,h.w.cap,h.w.ok⟩,⟨h.c.dig.ahead B,h.c.cap,h.c.ok⟩,fun i E=>by
  obtain⟨b,F,e,C,D⟩:=h.t i E;exact⟨b,F,e,aO C B.size,(B.cell (p:=⟨b,F+i,none⟩) C).trans D⟩,h.tl⟩
