/- ref17.Begin. -/
import Derived.Test.YtkedhdcnakhbgaaGreatTbA
import Derived.Test.YtkedhdcnakhbgaaGreatTrF
import Derived.Test.YtkedhdcnakhbgaaGreatTrO
set_option linter.unusedSimpArgs false
set_option maxRecDepth 100000
set_option maxHeartbeats 16000000
namespace Go.Proofs.YtkedhdcnakhbgaaGreat
open Go.RowKit Go.Shelf
set_option linter.unusedVariables false
variable {d:Int×Int}{xs:List Itm}
def ckcR(xs:List Itm):Qd->Int
 | []=>0
 | d::l=>if(aF xs d).2≠0 then(aF xs d).2 else if fullS xs [d]=false then 8 else ckcR xs l
theorem rch_sub{r x:Int×Int}(D:Rch xs [r] d)(h:Rch xs [d] x):Rch xs [r] x:=by
 induction h with
 | root E _=>rw[aH.1 E]; exact D
 | link _ A B C ih=>exact .link ih A B C
theorem full_one(h:(aF xs d).2=0):fullS xs [d]=decide ((dh xs [d]).2=[]):=by
 have C:I7 xs d=true:=by
  have A:=(Ba h).1;unfold dW at A;unfold I7 qw;cases B:xs[D5 xs d]? with
  | none=>rw[B] at A; cases A
  | some y=>
   rw[B] at A;simp only at A ⊢;by_cases e:y.d=d
   ·simpa using e
   ·rw[if_neg e] at A; cases A
 unfold fullS;simp[C]
theorem ckc_same{xs:List Itm}:∀(l met:Qd),(∀d∈met,(dh xs [d]).2=[])->ckcS xs met l=ckcR xs l
 | [],met,h=>by rw[ckcS,ckcR]
 | d::l,met,h=>by
  rw[ckcS,ckcR];by_cases D:(aF xs d).2=0
  ·have A:¬(aF xs d).2≠0:=fun e=>e D
   rw[if_neg A,if_neg A,full_one D];by_cases E:d∈met
   ·rw[if_pos E,h d E,if_neg (by simp)]
    exact ckc_same l met h
   ·rw[if_neg E]
    by_cases B:(dh xs [d]).2=[]
    ·rw[if_neg (fun e=>e B),if_neg (by simp[B])]
     refine ckc_same l _ (fun x C=>?_);rcases aD.1 C with C | C
     ·exact h x C
     ·obtain⟨_,_,g⟩:=gW xs [d]
      obtain⟨_,_,g2⟩:=gW xs [x];refine List.eq_nil_iff_forall_not_mem.2 (fun y I=>?_);have F:=(g2 y).2.1 I;have H:=((g x).1.1 C).1;have G:=(g y).2.2 ⟨rch_sub H F.1,F.2⟩;rw[B] at G;cases G
    ·rw[if_pos B,if_pos (by simp[B])]
  ·rw[if_pos D,if_pos D]
theorem ckcR_at{l:Qd}{k:Nat}(h:k<l.length):ckcR xs (l.drop k)=if(aF xs l[k]).2≠0 then(aF xs l[k]).2 else if fullS xs [l[k]]=false then 8 else ckcR xs (l.drop (k+1)):=by
 rw[aN h,ckcR]
theorem rbegin_any(a:Qa)(xs:List Itm)(c:Nat)(wa:Qa)(want:Qd)(wk:Nat)(ca:Qa)(com:Qd)(cc:Nat)(w:World)(hp:Its w.heap.size w a xs)(ha:Asc xs)(hw:dE w.heap.size w wa want)(hc:dE w.heap.size w ca com)(C0:(xs.length:Int)<=80)(A0:∀x∈xs,(x.data.length:Int)<=1000000)(D9:(want.length:Int)<=6)(D3:(com.length:Int)<=6):
  Qh 13 #[.slice a xs.length c,.slice wa want.length wk,.slice ca com.length cc] w fun e w'=>e=.returned (.tuple #[(begS xs want com).1.val (begA (begS xs want com) ⟨a,c,wa,wk,ca,cc,none,0⟩),.int .i64 (begS xs want com).2])/\PM w w':=by
 obtain⟨G,hG⟩:∃G:Ending->World->Prop,G=fun e w'=>e=.returned (.tuple #[(begS xs want com).1.val (begA (begS xs want com) ⟨a,c,wa,wk,ca,cc,none,0⟩),.int .i64 (begS xs want com).2])/\PM w w':=⟨_,rfl⟩
 rw[<-hG];have A1:begS xs want com=if ckcR xs com≠0 then(ses0,ckcR xs com) else(⟨xs,want,com,0,0,[],false,fullS xs want⟩,0):=by
  unfold begS;rw[if_neg (by omega),ckc_same com [] (fun d hd=>(by cases hd))]
 have A9:Qg (∀er u,er≠0->ckcR xs com=er->PM w u->G (.returned (.tuple #[.agg #[.slice none 0 0,.slice none 0 0,.slice none 0 0,.int .i64 0,.int .i64 0,.slice none 0 0,.bool false,.bool false],.int .i64 er])) u):=Qf (fun er u h0 h1 h2=>by
  rw[hG,A1,h1,if_pos h0];exact⟨by unfold begA; rw[if_neg h0]; rfl,h2⟩)
 have M:Qg (∀u,ckcR xs com=0->PM w u->G (.returned (.tuple #[.agg #[.slice a xs.length c,.slice wa want.length wk,.slice ca com.length cc,.int .i64 0,.int .i64 0,.slice none 0 0,.bool false,.bool (fullS xs want)],.int .i64 0])) u):=Qf (fun u h1 h2=>by
  rw[hG,A1,h1,if_neg (by simp)];exact⟨rfl,h2⟩)
 have V:=Qf (fun d1 d2 W (hW:PM w W)=>KG a xs c d1 d2 W (hp.ahead hW) ha (by omega) A0);have Q:=Qf (fun la l lc W (hW:PM w W) (hl:dE W.heap.size W la l) (D6:(l.length:Int)<=10000)=>rall17_any a xs c la l lc W (hp.ahead hW) ha hl C0 D6 A0);have C8:Qg (∀W,PM w W->dE W.heap.size W wa want):=Qf (fun W hW=>hw.ahead hW);have A7:=Qf hc;obtain⟨nx,B9⟩:=Qe xs.length;obtain⟨nw,A3⟩:=Qe want.length;obtain⟨nc,A2⟩:=Qe com.length;rw[<-B9] at M V Q ⊢;rw[<-A3] at M D9 ⊢;rw[<-A2] at M D3 ⊢;have B1:=Qf A3;have B0:=Qf A2;have hs:¬(1000:Int)<(nw:Int)+(nc:Int):=by omega
 obtain⟨u1,U⟩:=Qe (w.alloc (.cells #[.slice none 0 0,.slice none 0 0,.slice none 0 0,.int .i64 0,.int .i64 0,.slice none 0 0,.bool false,.bool false] 34));have A6:Qg (PM w u1):=Qf (by rw[U]; exact ba _ _);have B5:Qg (BK w.heap.size #[.slice none 0 0,.slice none 0 0,.slice none 0 0,.int .i64 0,.int .i64 0,.slice none 0 0,.bool false,.bool false] 34 u1):=Qf (by rw[U]; exact BK.new _ _ _);have B3:=Qf U;have B2:Qg (ckcR xs com=ckcR xs (com.drop 0)):=Qf rfl;clear hp ha hw hc C0 A0 hG A1 B9 A3 A2 U;go_enter Tryz.func13,Tryz.ntmps13;go_wp2_with fail;rw[<-B3.o];clear B3;go_loopw [8] (fun i wr=>∃k:Nat,k<=nc/\i=.int .i64 k/\Qg (BK w.heap.size #[.slice none 0 0,.slice none 0 0,.slice none 0 0,.int .i64 0,.int .i64 0,.slice none 0 0,.bool false,.bool false] 34 wr)/\Qg (PM w wr)/\Qg (ckcR xs com=ckcR xs (com.drop k))) (fun i _=>nc-(intOf i).toNat)
 case atStart=>exact⟨0,by omega,rfl,B5,A6,B2⟩
 case round=>
  clear B5 A6 B2;obtain⟨k,hk,rfl,HX,L,HR⟩:=hrel;by_cases E5:k<nc
  ·have D5:(k:Int)<(nc:Int):=by omega
   have h1:k<com.length:=by have:=B0.o; omega
   have D:=Qf (HR.out.trans (ckcR_at h1));obtain⟨b0,o0,D2,C,q0,q1⟩:=A7.o k h1;subst D2;have p0:=(L.out.cell (p:=⟨b0,o0+k*2,none⟩) C).trans q0;have p1:=(L.out.cell (p:=⟨b0,o0+k*2+1,none⟩) C).trans q1;have HQ:=Qf (And.intro C (And.intro q0 q1));generalize com[k]=y at p0 p1 D HQ;obtain⟨y1,y2⟩:=y;simp only at p0 p1 HQ;have HC:=Qf (V.o y1 y2 wr L.out);generalize aF xs (y1,y2)=CS at HC D;obtain⟨⟨kd,od,oe,ot,op,oa,om,og⟩,er⟩:=CS;simp only at HC D;clear q0 q1 HR;go_wp2_with fail
   refine HC.o.mono ?_;rintro e u ⟨ea,ec,pa,pc,rfl,_,K⟩
   simp only;have S:=Qf (L.out.trans (K.mono L.out.size));have X:=Qf (HX.out.below K);obtain⟨v,hv⟩:=Qe (u.alloc (.cells #[.int .i64 kd,.string ⟨od.toArray⟩,.slice ea oe.length ec,.int .u64 ot.1,.int .u64 ot.2,.slice pa op.length pc,.string ⟨oa.toArray⟩,.int .i64 om,.string ⟨og.toArray⟩] 59));have Z:PM u v:=by rw[hv]; exact ba _ _
   have F:=Qf (S.o.trans (Z.mono S.o.size));have J:=Qf (X.o.below Z);have HV:=Qf hv;obtain⟨r0,r1,r2,r3,r4,r5,r6,r7⟩:=BK.c8 J.o;obtain⟨fr0,fr1,fr2,fr3,fr4,fr5,fr6,fr7⟩:=BK.f8 (J.o);rw[hv] at r0 r1 r2 r3 r4 r5 r6 r7 fr0 fr1 fr2 fr3 fr4 fr5 fr6 fr7;clear K Z HC p0 p1 L HX;by_cases hz:er=0
   case neg=>
    have E6:(er==0)=false:=by simpa using hz
    obtain⟨v2,B⟩:=Qe ((((((((v.setCell ⟨w.heap.size,0,none⟩ (.slice none 0 0)).setCell ⟨w.heap.size,1,none⟩ (.slice none 0 0)).setCell ⟨w.heap.size,2,none⟩ (.slice none 0 0)).setCell ⟨w.heap.size,3,none⟩ (.int .i64 0)).setCell ⟨w.heap.size,4,none⟩ (.int .i64 0)).setCell ⟨w.heap.size,5,none⟩ (.slice none 0 0)).setCell ⟨w.heap.size,6,none⟩ (.bool false)).setCell ⟨w.heap.size,7,none⟩ (.bool false));have I:BK w.heap.size #[.slice none 0 0,.slice none 0 0,.slice none 0 0,.int .i64 0,.int .i64 0,.slice none 0 0,.bool false,.bool false] 34 v2:=by rw[B]; exact((((((((J.o.set 0 _).set 1 _).set 2 _).set 3 _).set 4 _).set 5 _).set 6 _).set 7 _)
    have HF:=Qf (A9.o er v2 hz (by rw[D.o,if_pos hz]) (by rw[B]; exact F.o.grown (fM (fM (fM (fM (fM (fM (fM (dN _ _ _ _) _ _) _ _) _ _) _ _) _ _) _ _) _ _) F.o.size (fun k e=>by cases e; exact nr)));have N:=Qf B;obtain⟨q0,q1,q2,q3,q4,q5,q6,q7⟩:=BK.c8 I;clear I hv B hz D J F X S;go_wp2_with fail;rw[<-HV.o,<-N.o];refine bodyPost_ret (v:=.tuple #[.agg #[.slice none 0 0,.slice none 0 0,.slice none 0 0,.int .i64 0,.int .i64 0,.slice none 0 0,.bool false,.bool false],.int .i64 er]) (by simp[results,Tryz.results13,go_sem,q0,q1,q2,q3,q4,q5,q6,q7]) rfl HF.o
   subst hz;have T:=Qf (D.o.trans (if_neg (by simp)));obtain⟨C,q0,q1⟩:=HQ.o;have D7:b0<v.heap.size:=aO C F.o.size;have p0:=(F.o.cell (p:=⟨b0,o0+k*2,none⟩) C).trans q0;have p1:=(F.o.cell (p:=⟨b0,o0+k*2+1,none⟩) C).trans q1;obtain⟨v3,O⟩:=Qe (v.alloc (.cells #[.int .u64 y1,.int .u64 y2] 54));have Y:PM v v3:=by rw[O]; exact ba _ _
   have R:=Qf (F.o.trans (Y.mono F.o.size));have B6:=Qf (J.o.below Y);have B8:BK v.heap.size #[.int .u64 y1,.int .u64 y2] 54 v3:=by rw[O]; exact BK.new _ _ _
   have P:=Qf (Q.o (some ⟨v.heap.size,0,none⟩) [(y1,y2)] 1 v3 R.o (digs_bx1 B8) (by simp));simp only[aI] at P;rw[O] at P;have B4:=Qf O;rw[HV.o,World.size_alloc] at P;rw[hv] at p0 p1;clear hv O Y B8;go_wp2_with fail
   refine P.o.mono ?_;rintro e u4 ⟨rfl,K⟩
   rw[<-HV.o,<-B4.o] at K;have H:=Qf (R.o.trans (K.mono R.o.size));have E:=Qf (B6.o.below K);clear K P HV B4 R B6 J F X S p0 p1 q0 q1 C D7 HQ r0 r1 r2 r3 r4 r5 r6 r7 fr0 fr1 fr2 fr3 fr4 fr5 fr6 fr7;obtain⟨r0,r1,r2,r3,r4,r5,r6,r7⟩:=BK.c8 E.o;obtain⟨fr0,fr1,fr2,fr3,fr4,fr5,fr6,fr7⟩:=BK.f8 (E.o);cases hf:fullS xs [(y1,y2)] with
   | false=>
    obtain⟨v2,B⟩:=Qe ((((((((u4.setCell ⟨w.heap.size,0,none⟩ (.slice none 0 0)).setCell ⟨w.heap.size,1,none⟩ (.slice none 0 0)).setCell ⟨w.heap.size,2,none⟩ (.slice none 0 0)).setCell ⟨w.heap.size,3,none⟩ (.int .i64 0)).setCell ⟨w.heap.size,4,none⟩ (.int .i64 0)).setCell ⟨w.heap.size,5,none⟩ (.slice none 0 0)).setCell ⟨w.heap.size,6,none⟩ (.bool false)).setCell ⟨w.heap.size,7,none⟩ (.bool false));have I:BK w.heap.size #[.slice none 0 0,.slice none 0 0,.slice none 0 0,.int .i64 0,.int .i64 0,.slice none 0 0,.bool false,.bool false] 34 v2:=by rw[B]; exact((((((((E.o.set 0 _).set 1 _).set 2 _).set 3 _).set 4 _).set 5 _).set 6 _).set 7 _)
    have HF:=Qf (A9.o 8 v2 (by decide) (by rw[T.o,if_pos hf]) (by rw[B]; exact H.o.grown (fM (fM (fM (fM (fM (fM (fM (dN _ _ _ _) _ _) _ _) _ _) _ _) _ _) _ _) _ _) H.o.size (fun k e=>by cases e; exact nr)));have N:=Qf B;obtain⟨q0,q1,q2,q3,q4,q5,q6,q7⟩:=BK.c8 I;clear I B T H E D;go_wp2_with fail;rw[<-N.o];refine bodyPost_ret (v:=.tuple #[.agg #[.slice none 0 0,.slice none 0 0,.slice none 0 0,.int .i64 0,.int .i64 0,.slice none 0 0,.bool false,.bool false],.int .i64 8]) (by simp[results,Tryz.results13,go_sem,q0,q1,q2,q3,q4,q5,q6,q7]) rfl HF.o
   | true=>
    have C9:=Qf (T.o.trans (if_neg (by rw[hf]; simp)));clear D T hf r0 r1 r2 r3 r4 r5 r6 r7 fr0 fr1 fr2 fr3 fr4 fr5 fr6 fr7;go_wp2_with fail;go_roundw
    case rel=>exact⟨k+1,by omega,by go_num,E,H,C9⟩
    case measure=>simp[intOf] <;> omega
  ·have D5:¬(k:Int)<(nc:Int):=by omega
   have D:Qg (ckcR xs com=0):=Qf (by rw[HR.out,kR (by have:=B0.o; omega),ckcR]);have P:=Qf (Q.o wa want wk wr L.out (C8.o wr L.out) (by rw[<-B1.o]; omega));rw[<-B1.o] at P;clear HR Q V A7;generalize fullS xs want=C at P M;go_wp2_with fail
   refine P.o.mono ?_;rintro e u4 ⟨rfl,K⟩
   have H:=Qf (L.out.trans (K.mono L.out.size));have E:=Qf (HX.out.below K);clear K P HX L;obtain⟨r0,r1,r2,r3,r4,r5,r6,r7⟩:=BK.c8 E.o;obtain⟨fr0,fr1,fr2,fr3,fr4,fr5,fr6,fr7⟩:=BK.f8 (E.o);obtain⟨v2,B⟩:=Qe ((((((((u4.setCell ⟨w.heap.size,0,none⟩ (.slice a nx c)).setCell ⟨w.heap.size,1,none⟩ (.slice wa nw wk)).setCell ⟨w.heap.size,2,none⟩ (.slice ca nc cc)).setCell ⟨w.heap.size,3,none⟩ (.int .i64 0)).setCell ⟨w.heap.size,4,none⟩ (.int .i64 0)).setCell ⟨w.heap.size,5,none⟩ (.slice none 0 0)).setCell ⟨w.heap.size,6,none⟩ (.bool false)).setCell ⟨w.heap.size,7,none⟩ (.bool C));have I:BK w.heap.size #[.slice a nx c,.slice wa nw wk,.slice ca nc cc,.int .i64 0,.int .i64 0,.slice none 0 0,.bool false,.bool C] 34 v2:=by rw[B]; exact((((((((E.o.set 0 _).set 1 _).set 2 _).set 3 _).set 4 _).set 5 _).set 6 _).set 7 _)
   have HF:=Qf (M.o v2 D.o (by rw[B]; exact H.o.grown (fM (fM (fM (fM (fM (fM (fM (dN _ _ _ _) _ _) _ _) _ _) _ _) _ _) _ _) _ _) H.o.size (fun k e=>by cases e; exact nr)));have N:=Qf B;obtain⟨q0,q1,q2,q3,q4,q5,q6,q7⟩:=BK.c8 I;clear I B D H E;go_wp2_with fail;rw[<-N.o];refine bodyPost_ret (v:=.tuple #[.agg #[.slice a nx c,.slice wa nw wk,.slice ca nc cc,.int .i64 0,.int .i64 0,.slice none 0 0,.bool false,.bool C],.int .i64 0]) (by simp[results,Tryz.results13,go_sem,q0,q1,q2,q3,q4,q5,q6,q7]) rfl HF.o
