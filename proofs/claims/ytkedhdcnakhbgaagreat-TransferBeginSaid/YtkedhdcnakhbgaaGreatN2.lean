/- Joined texts: NeSo, NeCp, NeSd, NeBl, NeIn, NeBx, NeSe. -/
import Derived.Test.YtkedhdcnakhbgaaGreatN1
import Derived.Test.YtkedhdcnakhbgaaGreatK11
import Derived.Test.YtkedhdcnakhbgaaGreatK7
/- slices.Values,AppendSeq,Collect,SortedFunc at digests. -/
set_option linter.unusedSimpArgs false
set_option maxRecDepth 100000
set_option maxHeartbeats 16000000
namespace Go.Proofs.YtkedhdcnakhbgaaGreat
open Go.RowKit Go.Shelf
set_option linter.unusedVariables false
attribute [local go_sem] Oper.semAt_some
open Go.RowKit Go.Shelf Go.Sort
theorem Dz{W:World}{bb:Nat}{a a':Qa}{ds es:Qd}{c c':Nat}(B:BK bb #[.slice a ds.length c,.slice a' es.length c'] 24 W)(C:dE W.heap.size W a ds)(D:dE W.heap.size W a' es):Ov W.heap.size W bb [⟨a,ds,c⟩,⟨a',es,c'⟩]:=by
 refine⟨B.lt,fun i A=>?_,fun i A=>?_⟩
 ·rcases(by simp at A; omega:i=0\/i=1) with rfl | rfl
  ·rw[B.cell]; rfl
  ·rw[B.cell]; rfl
 ·rcases(by simp at A; omega:i=0\/i=1) with rfl | rfl
  ·exact C
  ·exact D
theorem Pz(a:Qa)(xs:List Itm)(c:Nat)(wa:Qa)(want:Qd)(wc:Nat)(ca:Qa)(com:Qd)(cc:Nat)(w:World)(hp:jQ w a xs c)(hA:Asc xs)(E6:xs.length<=40)(hw:dE w.heap.size w wa want)(C9:∀d∈want,OkD d)(J7:(want.length:Int)<=45)(hc:dE w.heap.size w ca com)(C8:∀d∈com,OkD d)(I7:(com.length:Int)<=45):
  Qh 48 #[.slice a xs.length c,.slice wa want.length wc,.slice ca com.length cc] w (GotRo w (M6 xs want com)):=by
 have D9:=Qf (fun p q W (hW:PM w W)=>Gr a xs c p q W (hp.below hW) hA);have B2:=Qf (fun W (hW:PM w W)=>zH a xs c wa want wc W (hp.below hW) hA (hw.ahead hW) C9 (by omega) (by omega));have B1:=Qf (fun W (hW:PM w W)=>zH a xs c ca com cc W (hp.below hW) hA (hc.ahead hW) C8 (by omega) (by omega));have A3:=Qf (tL (xs:=xs) (l:=want) E6 (by omega) C9);have A2:=Qf (tL (xs:=xs) (l:=com) E6 (by omega) C8);have B0:=Qf (Fh (xs:=xs) (W:=want) (C:=com));have D8:Qg (∀k (h:k<(want++com).length),vI xs ((want++com).take k)=0->((aF xs (want++com)[k]).2=0->vI xs ((want++com).take (k+1))=0)/\((aF xs (want++com)[k]).2≠0->vI xs (want++com)=(aF xs (want++com)[k]).2)):=Qf (fun k h h0=>JF xs h h0);obtain⟨R,hR⟩:=Qe (M6 xs want com);rw[<-hR];unfold M6 at hR;have HR:=Qf hR;have F2:Qg (∀d∈want++com,OkD d):=Qf (fun d hd=>by
  rcases aD.1 hd with h | h
  ·exact C9 d h
  ·exact C8 d h)
 obtain⟨v,I⟩:=Qe (w.alloc (.cells #[.slice wa want.length wc,.slice ca com.length cc] 24));have B:PM w v:=by rw[I]; exact ba _ _
 have G:jU [⟨wa,want,wc⟩,⟨ca,com,cc⟩]=want++com:=by simp[jU]
 have T:=Qf (Di w.heap.size 2 [⟨wa,want,wc⟩,⟨ca,com,cc⟩] v (Dz (by rw[I]; exact BK.new _ _ _) (hw.ahead B) (hc.ahead B)) (by rw[G,af]; omega) (by simp));rw[G,I] at T;simp only[az,aK,aZ,Nat.reduceAdd] at T;have HV:=Qf I;have D7:=Qf B;have G3:((want++com).length:Int)<=90:=by rw[af]; omega
 generalize I5:dh xs want=rw at B2 A3 B0 HR;generalize I4:dh xs com=rc at B1 A2 B0 HR;clear I5 I4;obtain⟨ra,rb⟩:=rw;obtain⟨ta,tb⟩:=rc;simp only at A3 A2 B0 HR;generalize want++com=all at D8 F2 T HR G3;obtain⟨n,hn⟩:=Qe all.length;rw[<-hn] at G3;have HN:=Qf hn;obtain⟨nra,B6⟩:=Qe ra.length;obtain⟨nrb,B7⟩:=Qe rb.length;obtain⟨nta,B8⟩:=Qe ta.length;obtain⟨ntb,B9⟩:=Qe tb.length;have X:=Qf B6;have Y:=Qf B7;have Z:=Qf B8;have A0:=Qf B9;have J2:=A3.o.1;have J3:=A3.o.2.1;have J4:=A2.o.1;have J5:=A2.o.2.1;rw[<-B6] at J2;rw[<-B7] at J3;rw[<-B8] at J4;rw[<-B9] at J5;generalize want.length=nw at B2 HV T ⊢;generalize com.length=nc at B1 HV T ⊢;generalize xs.length=nx at D9 B2 B1 ⊢;clear hR I B G hn B6 B7 B8 B9 hp hA E6 hw C9 J7 hc C8 I7;go_enter Tryz.func48,Tryz.ntmps48;go_wp2_with fail
 refine T.o.mono ?_;rintro e u ⟨va,vc,rfl,H,K⟩
 rw[<-HV.o] at K;rw[<-HN.o] at H ⊢;have D5:=Qf (D7.o.trans (K.mono D7.o.size));have D4:=Qf (kr HN.o H);clear H K T HV D7;go_wp2_with fail;go_loopw [27] (fun i wr=>∃k:Nat,k<=n/\i=.int .i64 k/\Qg (vI xs (all.take k)=0)/\Qg (PM u wr)) (fun i _=>n-(intOf i).toNat)
 case atStart=>exact⟨0,by omega,rfl,Qf (by simp[vI]),Qf (bf _)⟩
 case round=>
  obtain⟨k,hk,rfl,HJ,J⟩:=hrel;have HB:=Qf (D5.o.trans (J.out.mono D5.o.size));by_cases G7:k<n
  ·have B4:(k:Int)<(n:Int):=by omega
   have h1:k<all.length:=by have:=HN.o; omega
   obtain⟨b0,of0,B3,G4,q0,q1⟩:=(D4.o.ahead J.out) k h1;have A8:=D4;subst B3;have HX:=Qf (D8.o k h1 HJ.out);generalize all[k]=d at q0 q1 HX;obtain⟨d1,d2⟩:=d;simp only at q0 q1;obtain⟨v,I⟩:=Qe (wr.alloc (.cells #[.int .u64 d1,.int .u64 d2] 54));have B:PM wr v:=by rw[I]; exact ba _ _
   have L:=Qf (HB.o.trans (B.mono HB.o.size));have F:=Qf (J.out.trans (B.mono J.out.size));have HC:=Qf (D9.o d1 d2 v L.o);generalize aF xs (d1,d2)=CR at HC HX;obtain⟨⟨kind,data,ents,⟨t1,t2⟩,pars,author,time,msg⟩,er⟩:=CR;simp only at HC HX;rw[I] at HC;have HV:=Qf I;clear I B J HB A8 HJ;go_wp2_with fail
   refine HC.o.mono ?_;rintro e u3 ⟨ea,ec,pa,pc,rfl,J1,K⟩
   rw[<-HV.o] at K;simp only[Ob.val];have Q:=Qf (L.o.trans (K.mono L.o.size));have A9:=Qf (F.o.trans (K.mono F.o.size));generalize pars.length=np;generalize ents.length=ne;obtain⟨v2,E5⟩:=Qe (u3.alloc (.cells #[.int .i64 kind,.string ⟨data.toArray⟩,.slice ea ne ec,.int .u64 t1,.int .u64 t2,.slice pa np pc,.string ⟨author.toArray⟩,.int .i64 time,.string ⟨msg.toArray⟩] 59));have B:PM u3 v2:=by rw[E5]; exact ba _ _
   have S:=Qf (Q.o.trans (B.mono Q.o.size));have H8:=Qf (A9.o.trans (B.mono A9.o.size));have G2:=Qf E5;clear J1 K B E5 HC HV L F Q A9 q0 q1;by_cases he:er=0
   ·subst he
    have A4:=Qf (HX.o.1 rfl);clear HX;go_wp2_with fail;rw[<-G2.o];go_roundw
    case rel=>exact⟨k+1,by omega,by go_num,A4,H8⟩
    case measure=>simp[intOf] <;> omega
   ·have K1:(er !=0)=true:=by simpa using he
    have A5:Qg (R=([],er)):=Qf (by rw[HR.o,HX.o.2 he,if_pos he]);clear HX HR he;go_wp2_with fail;rw[<-G2.o];go_ret2;rw[A5.o];exact⟨none,0,rfl,World.ownsRow_nil _ _ _ _,S.o⟩
  ·have B4:¬(k:Int)<(n:Int):=by omega
   have C0:all.take k=all:=ag (by have:=HN.o; omega);rw[C0] at HJ;have A5:Qg (R=if ¬(∀d∈rb,d∈tb) then([],8) else(ra.filter fun d=>!decide (d∈ta),0)):=Qf (by rw[HR.o,HJ.out]; simp);obtain⟨x0,H0⟩:=Qe wr;rw[<-H0] at HB ⊢;have E9:=Qf (B2.o x0 HB.o);clear H0 C0 HJ J HR D8 F2 D4 D5 B2 D9;go_wp2_with fail
   refine E9.o.mono ?_;rintro e u1 ⟨pa,pc,sa,sc,rfl,M,N,K⟩
   simp only at M N ⊢;rw[<-X.o] at M ⊢;rw[<-Y.o] at N ⊢;have C3:=Qf (HB.o.trans (K.mono HB.o.size));have F3:=Qf (kr X.o M);have F9:=Qf (kr Y.o N);have F0:=Qf (B1.o u1 C3.o);clear M N K E9 HB B1;go_wp2_with fail
   refine F0.o.mono ?_;rintro e u2 ⟨ea,ec,fa,fc,rfl,M,N,K⟩
   simp only at M N ⊢;rw[<-Z.o] at M ⊢;rw[<-A0.o] at N ⊢;have Q:=Qf (C3.o.trans (K.mono C3.o.size));have F4:=Qf (F3.o.ahead K);have G0:=Qf (F9.o.ahead K);obtain⟨v,I⟩:=Qe (u2.alloc (.cells #[.slice ea nta ec,.slice fa ntb fc] 24));have B:PM u2 v:=by rw[I]; exact ba _ _
   have G:jU [⟨ea,ta,ec⟩,⟨fa,tb,fc⟩]=ta++tb:=by simp[jU]
   have C6:=Qf (G8 u2.heap.size 2 [⟨ea,ta,ec⟩,⟨fa,tb,fc⟩] v (Dz (by rw[I,<-Z.o,<-A0.o]; exact BK.new _ _ _) ((kr Z.o M).ahead B) ((kr A0.o N).ahead B)) (by
    rw[G]; intro d hd;rcases aD.1 hd with h | h
    ·exact A2.o.2.2.1 d h
    ·exact A2.o.2.2.2 d h) (by rw[G,af,<-Z.o,<-A0.o]; omega) (by simp))
   rw[G,I] at C6;simp only[az,aK,aZ,Nat.reduceAdd] at C6;have HV:=Qf I;have L:=Qf (Q.o.trans (B.mono Q.o.size));have F7:=Qf (F4.o.ahead B);have G1:=Qf (G0.o.ahead B);clear M N K I B G F0 C3 F3 F9 Q F4 G0;go_wp2_with fail
   refine C6.o.mono ?_;rintro e u3 ⟨mb,rfl,hs,G9,K⟩
   rw[<-HV.o] at G9 K;have S:=Qf (L.o.trans (K.mono L.o.size));have F5:=Qf (F7.o.ahead K);have E1:=Qf (G1.o.ahead K);have E0:=Qf hs;clear hs K G9 C6 HV L F7 G1;go_wp2_with fail;go_loopw [59] (fun i wr=>∃k:Nat,k<=nrb/\i=.int .i64 k/\Qg (∀j (h:j<rb.length),j<k->rb[j]∈tb)/\Qg (PM u3 wr)) (fun i _=>nrb-(intOf i).toNat)
   case atStart=>exact⟨0,by omega,rfl,Qf (fun j h hj=>by omega),Qf (bf _)⟩
   case round=>
    obtain⟨k,hk,rfl,HJ,J⟩:=hrel;by_cases G7:k<nrb
    ·have B4:(k:Int)<(nrb:Int):=by omega
     have h1:k<rb.length:=by have:=Y.o; omega
     obtain⟨b0,of0,B3,G4,q0,q1⟩:=(E1.o.ahead J.out) k h1;have A8:=E1;subst B3;have P:=A3.o.2.2.2 _ (ak h1);have U:=Qf (B0.o.1 _ (ak h1));have F1:Qg (rb[k]∈rb):=Qf (ak h1);have A4:Qg (rb[k]∈tb->∀j (h:j<rb.length),j<k+1->rb[j]∈tb):=Qf (fun J0 j h hj=>by
      by_cases e:j<k
      ·exact HJ.out j h e
      ·obtain rfl:j=k:=by omega
       exact J0)
     generalize rb[k]=d at q0 q1 P U F1 A4;obtain⟨d1,d2⟩:=d;simp only at q0 q1;obtain⟨v,I⟩:=Qe (wr.alloc (.cells #[.int .u64 d1,.int .u64 d2] 54));have B:PM wr v:=by rw[I]; exact ba _ _
     have F:=Qf (J.out.trans (B.mono J.out.size));have E:=(E0.o.below F.o).look P;rw[I] at E;have A6:=Qf I;clear I B J HJ A8;cases D:decide ((d1,d2)∈ta++tb) with
     | true=>
      rw[D] at E;have H9:=Qf (A4.o (U.o.1 (by simpa using D)));clear D A4;go_wp2_with fail;rw[<-A6.o];go_roundw
      case rel=>exact⟨k+1,by omega,by go_num,H9,F⟩
      case measure=>simp[intOf] <;> omega
     | false=>
      rw[D] at E;have C5:Qg (R=([],8)):=Qf (by
       rw[A5.o,if_pos];intro h;have h2:=U.o.2 (h _ F1.o);simp only[decide_eq_false_iff_not] at D;exact D h2)
      have L:=Qf (S.o.trans (F.o.mono S.o.size));clear D A4 A5;go_wp2_with fail;rw[<-A6.o];go_ret2;rw[C5.o];exact⟨none,0,rfl,World.ownsRow_nil _ _ _ _,L.o⟩
    ·have B4:¬(k:Int)<(nrb:Int):=by omega
     have D3:∀d∈rb,d∈tb:=fun d hd=>by
      obtain⟨j,hj,rfl⟩:=aV hd;exact HJ.out j hj (by have:=Y.o; omega)
     have C5:Qg (R=(ra.filter fun d=>!decide (d∈ta),0)):=Qf (by rw[A5.o,if_neg (fun h=>h D3)]);obtain⟨x1,H1⟩:=Qe wr;rw[<-H1] at J ⊢;have D6:=Qf (S.o.trans (J.out.mono S.o.size));have F6:=Qf (F5.o.ahead J.out);have I1:=Qf (E0.o.below J.out);clear H1 D3 A5 HJ J F5 E0 S E1;go_wp2_with fail;go_loopw [19,70] (fun v i wr=>∃(k m:Nat) (out:Qd) (va:Qa) (vc:Nat),k<=nra/\v=.slice va m vc/\i=.int .i64 k/\m<=k/\Qg (m=out.length)/\Qg (out=(ra.take k).filter fun d=>!decide (d∈ta))/\Qg (wr.ownsRow x1.heap.size 54 2 (.slice va m vc) m (aW out))/\Qg (PM x1 wr)) (fun _ i _=>nra-(intOf i).toNat)
     case atStart=>exact⟨0,0,[],none,0,by omega,rfl,rfl,by omega,Qf rfl,Qf (by simp),Qf (World.ownsRow_nil _ _ _ _),Qf (bf _)⟩
     case round=>
      obtain⟨k,m,out,va,vc,hk,rfl,rfl,K2,HM,O,HO,J⟩:=hrel;by_cases G7:k<nra
      ·have B4:(k:Int)<(nra:Int):=by omega
       have h1:k<ra.length:=by have:=X.o; omega
       obtain⟨b0,of0,B3,G4,q0,q1⟩:=(F6.o.ahead J.out) k h1;have A8:=F6;subst B3;have P:=A3.o.2.2.1 _ (ak h1);have U:=Qf (B0.o.2 _ (ak h1));have HF:=Qf (Jk (fun d=>!decide (d∈ta)) h1);rw[<-O.out] at HF;generalize ra[k]=d at q0 q1 P U HF;obtain⟨d1,d2⟩:=d;simp only at q0 q1;obtain⟨v,I⟩:=Qe (wr.alloc (.cells #[.int .u64 d1,.int .u64 d2] 54));have B:PM wr v:=by rw[I]; exact ba _ _
       have F:=Qf (J.out.trans (B.mono J.out.size));have C4:=Qf (own_below HO.out B);have E:=(I1.o.below F.o).look P;rw[I] at E;have A6:=Qf I;clear I B J O HO A8;cases D:decide ((d1,d2)∈ta++tb) with
       | true=>
        rw[D] at E;have B5:(d1,d2)∈ta:=U.o.1 (by simpa using D);have V:Qg (out=(ra.take (k+1)).filter fun d=>!decide (d∈ta)):=Qf (by rw[HF.o]; simp[B5]);clear D B5 HF;go_wp2_with fail;rw[<-A6.o];go_roundw
        case rel=>exact⟨k+1,m,out,va,vc,by omega,rfl,by go_num,by omega,HM,V,C4,F⟩
        case measure=>simp[intOf] <;> omega
       | false=>
        rw[D] at E;have B5:(d1,d2)∉ta:=fun h=>by
         have:=U.o.2 h;simp only[decide_eq_false_iff_not] at D;exact D this
        have V:Qg (out++[(d1,d2)]=(ra.take (k+1)).filter fun d=>!decide (d∈ta)):=Qf (by rw[HF.o]; simp[B5]);have E4:=C4.o;rw[HM.out] at E4;obtain⟨v',W',A1,H,E3,_⟩:=gz E4 d1 d2 (by rw[<-HM.out]; omega) F.o.size;obtain⟨va',vc',rfl,_⟩:=aB H;have hl:(out++[(d1,d2)]).length=m+1:=by rw[af,<-HM.out]; rfl
        rw[hl,<-HM.out] at A1;rw[hl] at H;rw[<-HM.out] at E3;have I0:Qg (m+1=(out++[(d1,d2)]).length):=Qf hl.symm;have I3:=Qf H;have A9:Qg (PM x1 W'):=Qf (gM (F.o.alloc F.o.size _) (C4.o.alloc _) E3 nr);rw[A6.o,World.size_alloc] at A1;have F8:=Qf A1;clear D B5 HF E4 A1 H E3 hl C4 F A6;go_wp2_with (at_builtin; refine Lib.wpList_append_run _ rfl _ _ _ _ rfl _ _ rfl rfl _ _ F8.o ?_);go_roundw
        case rel=>exact⟨k+1,m+1,out++[(d1,d2)],va',vc',by omega,rfl,by go_num,by omega,I0,V,I3,A9⟩
        case measure=>simp[intOf] <;> omega
      ·have B4:¬(k:Int)<(nra:Int):=by omega
       have C0:ra.take k=ra:=ag (by have:=X.o; omega);rw[C0] at O;have HX:Qg (R=(out,0)):=Qf (by rw[C5.o,<-O.out]);have H7:=Qf (D6.o.trans (J.out.mono D6.o.size));clear C0 O C5;go_wp2_with fail;go_ret2;rw[HX.o];exact⟨va,vc,by rw[<-HM.out]; rfl,by rw[<-HM.out]; exact mP HO.out D6.o.size,H7.o⟩
