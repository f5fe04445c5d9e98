/- Joined texts: NeSo, NeCp, NeSd, NeBl, NeIn, NeBx, NeSe. -/
import Derived.Test.YtkedhdcnakhbgaaGreatN1
import Derived.Test.YtkedhdcnakhbgaaGreatK11
import Derived.Test.YtkedhdcnakhbgaaGreatK7
/- slices.Values,AppendSeq,Collect,SortedFunc at digests. -/
set_option linter.unusedSimpArgs false
set_option maxRecDepth 100000
set_option maxHeartbeats 16000000
open Go.Lib (hid)
namespace Go.Proofs.YtkedhdcnakhbgaaGreat
open Go.RowKit Go.Shelf
set_option linter.unusedVariables false
attribute [local go_sem] Oper.semAt_some
open Go.RowKit Go.Shelf Go.Sort
theorem Dz{W:World}{bb:Nat}{a a':Qa}{ds es:Qd}{c c':Nat}(B:BK bb #[.slice a ds.length c,.slice a' es.length c'] 24 W)(C:dE W.heap.size W a ds)(D:dE W.heap.size W a' es):Ov W.heap.size W bb [⟨a,ds,c⟩,⟨a',es,c'⟩]:=by
 refine⟨B.lt,fun i A=>?_,fun i A=>?_⟩
 ·rcases(by simp at A; omega:i=0\/i=1) with rfl | rfl
  ·rw[B.cell]; rfl
  ·rw[B.cell]; rfl
 ·rcases(by simp at A; omega:i=0\/i=1) with rfl | rfl
  ·exact C
  ·exact D
theorem Pz(a:Qa)(xs:List Itm)(c:Nat)(wa:Qa)(want:Qd)(wc:Nat)(ca:Qa)(com:Qd)(cc:Nat)(w:World)(hp:jQ w a xs c)(hA:Asc xs)(E6:xs.length<=40)(hw:dE w.heap.size w wa want)(C9:∀d∈want,OkD d)(J7:(want.length:Int)<=45)(hc:dE w.heap.size w ca com)(C8:∀d∈com,OkD d)(I7:(com.length:Int)<=45):
  Calls Tryz.prog 48 #[.slice a xs.length c,.slice wa want.length wc,.slice ca com.length cc] w (GotRo w (M6 xs want com)):=by
 have D9:=hid (fun p q W (hW:PM w W)=>Gr a xs c p q W (hp.below hW) hA);have B2:=hid (fun W (hW:PM w W)=>zH a xs c wa want wc W (hp.below hW) hA (hw.ahead hW) C9 (by omega) (by omega));have B1:=hid (fun W (hW:PM w W)=>zH a xs c ca com cc W (hp.below hW) hA (hc.ahead hW) C8 (by omega) (by omega));have A3:=hid (tL (xs:=xs) (l:=want) E6 (by omega) C9);have A2:=hid (tL (xs:=xs) (l:=com) E6 (by omega) C8);have B0:=hid (Fh (xs:=xs) (W:=want) (C:=com));have D8:Hid (∀k (h:k<(want++com).length),vI xs ((want++com).take k)=0->((aF xs (want++com)[k]).2=0->vI xs ((want++com).take (k+1))=0)/\((aF xs (want++com)[k]).2≠0->vI xs (want++com)=(aF xs (want++com)[k]).2)):=hid (fun k h h0=>JF xs h h0);obtain⟨R,hR⟩:=Qe (M6 xs want com);rw[<-hR];unfold M6 at hR;have HR:=hid hR;have F2:Hid (∀d∈want++com,OkD d):=hid (fun d hd=>by
  rcases aD.1 hd with h | h
  ·exact C9 d h
  ·exact C8 d h)
 obtain⟨v,I⟩:=Qe (w.alloc (.cells #[.slice wa want.length wc,.slice ca com.length cc] 24));have B:PM w v:=by rw[I]; exact ba _ _
 have G:jU [⟨wa,want,wc⟩,⟨ca,com,cc⟩]=want++com:=by simp[jU]
 have T:=hid (Di w.heap.size 2 [⟨wa,want,wc⟩,⟨ca,com,cc⟩] v (Dz (by rw[I]; exact BK.new _ _ _) (hw.ahead B) (hc.ahead B)) (by rw[G,af]; omega) (by simp));rw[G,I] at T;simp only[az,aK,aZ,Nat.reduceAdd] at T;have HV:=hid I;have D7:=hid B;have G3:((want++com).length:Int)<=90:=by rw[af]; omega
 generalize I5:dh xs want=rw at B2 A3 B0 HR;generalize I4:dh xs com=rc at B1 A2 B0 HR;clear I5 I4;obtain⟨ra,rb⟩:=rw;obtain⟨ta,tb⟩:=rc;simp only at A3 A2 B0 HR;generalize want++com=all at D8 F2 T HR G3;obtain⟨n,hn⟩:=Qe all.length;rw[<-hn] at G3;have HN:=hid hn;obtain⟨nra,B6⟩:=Qe ra.length;obtain⟨nrb,B7⟩:=Qe rb.length;obtain⟨nta,B8⟩:=Qe ta.length;obtain⟨ntb,B9⟩:=Qe tb.length;have X:=hid B6;have Y:=hid B7;have Z:=hid B8;have A0:=hid B9;have J2:=A3.out.1;have J3:=A3.out.2.1;have J4:=A2.out.1;have J5:=A2.out.2.1;rw[<-B6] at J2;rw[<-B7] at J3;rw[<-B8] at J4;rw[<-B9] at J5;generalize want.length=nw at B2 HV T ⊢;generalize com.length=nc at B1 HV T ⊢;generalize xs.length=nx at D9 B2 B1 ⊢;clear hR I B G hn B6 B7 B8 B9 hp hA E6 hw C9 J7 hc C8 I7;go_enter Tryz.func48,Tryz.ntmps48;go_wp2_with fail
 refine T.out.mono ?_;rintro e u ⟨va,vc,rfl,H,K⟩
 rw[<-HV.out] at K;rw[<-HN.out] at H ⊢;have D5:=hid (D7.out.trans (K.mono D7.out.size));have D4:=hid (kr HN.out H);clear H K T HV D7;go_wp2_with fail;go_loopw [27] (fun i wr=>∃k:Nat,k<=n/\i=.int .i64 k/\Hid (vI xs (all.take k)=0)/\Hid (PM u wr)) (fun i _=>n-(intOf i).toNat)
 case atStart=>exact⟨0,by omega,rfl,hid (by simp[vI]),hid (bf _)⟩
 case round=>
  obtain⟨k,hk,rfl,HJ,J⟩:=hrel;have HB:=hid (D5.out.trans (J.out.mono D5.out.size));by_cases G7:k<n
  ·have B4:(k:Int)<(n:Int):=by omega
   have h1:k<all.length:=by have:=HN.out; omega
   obtain⟨b0,of0,B3,G4,q0,q1⟩:=(D4.out.ahead J.out) k h1;have A8:=D4;subst B3;have HX:=hid (D8.out k h1 HJ.out);generalize all[k]=d at q0 q1 HX;obtain⟨d1,d2⟩:=d;simp only at q0 q1;obtain⟨v,I⟩:=Qe (wr.alloc (.cells #[.int .u64 d1,.int .u64 d2] 54));have B:PM wr v:=by rw[I]; exact ba _ _
   have L:=hid (HB.out.trans (B.mono HB.out.size));have F:=hid (J.out.trans (B.mono J.out.size));have HC:=hid (D9.out d1 d2 v L.out);generalize aF xs (d1,d2)=CR at HC HX;obtain⟨⟨kind,data,ents,⟨t1,t2⟩,pars,author,time,msg⟩,er⟩:=CR;simp only at HC HX;rw[I] at HC;have HV:=hid I;clear I B J HB A8 HJ;go_wp2_with fail
   refine HC.out.mono ?_;rintro e u3 ⟨ea,ec,pa,pc,rfl,J1,K⟩
   rw[<-HV.out] at K;simp only[Ob.val];have Q:=hid (L.out.trans (K.mono L.out.size));have A9:=hid (F.out.trans (K.mono F.out.size));generalize pars.length=np;generalize ents.length=ne;obtain⟨v2,E5⟩:=Qe (u3.alloc (.cells #[.int .i64 kind,.string ⟨data.toArray⟩,.slice ea ne ec,.int .u64 t1,.int .u64 t2,.slice pa np pc,.string ⟨author.toArray⟩,.int .i64 time,.string ⟨msg.toArray⟩] 59));have B:PM u3 v2:=by rw[E5]; exact ba _ _
   have S:=hid (Q.out.trans (B.mono Q.out.size));have H8:=hid (A9.out.trans (B.mono A9.out.size));have G2:=hid E5;clear J1 K B E5 HC HV L F Q A9 q0 q1;by_cases he:er=0
   ·subst he
    have A4:=hid (HX.out.1 rfl);clear HX;go_wp2_with fail;rw[<-G2.out];go_roundw
    case rel=>exact⟨k+1,by omega,by go_num,A4,H8⟩
    case measure=>simp[intOf] <;> omega
   ·have K1:(er !=0)=true:=by simpa using he
    have A5:Hid (R=([],er)):=hid (by rw[HR.out,HX.out.2 he,if_pos he]);clear HX HR he;go_wp2_with fail;rw[<-G2.out];go_ret2;rw[A5.out];exact⟨none,0,rfl,World.ownsRow_nil _ _ _ _,S.out⟩
  ·have B4:¬(k:Int)<(n:Int):=by omega
   have C0:all.take k=all:=ag (by have:=HN.out; omega);rw[C0] at HJ;have A5:Hid (R=if ¬(∀d∈rb,d∈tb) then([],8) else(ra.filter fun d=>!decide (d∈ta),0)):=hid (by rw[HR.out,HJ.out]; simp);obtain⟨x0,H0⟩:=Qe wr;rw[<-H0] at HB ⊢;have E9:=hid (B2.out x0 HB.out);clear H0 C0 HJ J HR D8 F2 D4 D5 B2 D9;go_wp2_with fail
   refine E9.out.mono ?_;rintro e u1 ⟨pa,pc,sa,sc,rfl,M,N,K⟩
   simp only at M N ⊢;rw[<-X.out] at M ⊢;rw[<-Y.out] at N ⊢;have C3:=hid (HB.out.trans (K.mono HB.out.size));have F3:=hid (kr X.out M);have F9:=hid (kr Y.out N);have F0:=hid (B1.out u1 C3.out);clear M N K E9 HB B1;go_wp2_with fail
   refine F0.out.mono ?_;rintro e u2 ⟨ea,ec,fa,fc,rfl,M,N,K⟩
   simp only at M N ⊢;rw[<-Z.out] at M ⊢;rw[<-A0.out] at N ⊢;have Q:=hid (C3.out.trans (K.mono C3.out.size));have F4:=hid (F3.out.ahead K);have G0:=hid (F9.out.ahead K);obtain⟨v,I⟩:=Qe (u2.alloc (.cells #[.slice ea nta ec,.slice fa ntb fc] 24));have B:PM u2 v:=by rw[I]; exact ba _ _
   have G:jU [⟨ea,ta,ec⟩,⟨fa,tb,fc⟩]=ta++tb:=by simp[jU]
   have C6:=hid (G8 u2.heap.size 2 [⟨ea,ta,ec⟩,⟨fa,tb,fc⟩] v (Dz (by rw[I,<-Z.out,<-A0.out]; exact BK.new _ _ _) ((kr Z.out M).ahead B) ((kr A0.out N).ahead B)) (by
    rw[G]; intro d hd;rcases aD.1 hd with h | h
    ·exact A2.out.2.2.1 d h
    ·exact A2.out.2.2.2 d h) (by rw[G,af,<-Z.out,<-A0.out]; omega) (by simp))
   rw[G,I] at C6;simp only[az,aK,aZ,Nat.reduceAdd] at C6;have HV:=hid I;have L:=hid (Q.out.trans (B.mono Q.out.size));have F7:=hid (F4.out.ahead B);have G1:=hid (G0.out.ahead B);clear M N K I B G F0 C3 F3 F9 Q F4 G0;go_wp2_with fail
   refine C6.out.mono ?_;rintro e u3 ⟨mb,rfl,hs,G9,K⟩
   rw[<-HV.out] at G9 K;have S:=hid (L.out.trans (K.mono L.out.size));have F5:=hid (F7.out.ahead K);have E1:=hid (G1.out.ahead K);have E0:=hid hs;clear hs K G9 C6 HV L F7 G1;go_wp2_with fail;go_loopw [59] (fun i wr=>∃k:Nat,k<=nrb/\i=.int .i64 k/\Hid (∀j (h:j<rb.length),j<k->rb[j]∈tb)/\Hid (PM u3 wr)) (fun i _=>nrb-(intOf i).toNat)
   case atStart=>exact⟨0,by omega,rfl,hid (fun j h hj=>by omega),hid (bf _)⟩
   case round=>
    obtain⟨k,hk,rfl,HJ,J⟩:=hrel;by_cases G7:k<nrb
    ·have B4:(k:Int)<(nrb:Int):=by omega
     have h1:k<rb.length:=by have:=Y.out; omega
     obtain⟨b0,of0,B3,G4,q0,q1⟩:=(E1.out.ahead J.out) k h1;have A8:=E1;subst B3;have P:=A3.out.2.2.2 _ (ak h1);have U:=hid (B0.out.1 _ (ak h1));have F1:Hid (rb[k]∈rb):=hid (ak h1);have A4:Hid (rb[k]∈tb->∀j (h:j<rb.length),j<k+1->rb[j]∈tb):=hid (fun J0 j h hj=>by
      by_cases e:j<k
      ·exact HJ.out j h e
      ·obtain rfl:j=k:=by omega
       exact J0)
     generalize rb[k]=d at q0 q1 P U F1 A4;obtain⟨d1,d2⟩:=d;simp only at q0 q1;obtain⟨v,I⟩:=Qe (wr.alloc (.cells #[.int .u64 d1,.int .u64 d2] 54));have B:PM wr v:=by rw[I]; exact ba _ _
     have F:=hid (J.out.trans (B.mono J.out.size));have E:=(E0.out.below F.out).look P;rw[I] at E;have A6:=hid I;clear I B J HJ A8;cases D:decide ((d1,d2)∈ta++tb) with
     | true=>
      rw[D] at E;have H9:=hid (A4.out (U.out.1 (by simpa using D)));clear D A4;go_wp2_with fail;rw[<-A6.out];go_roundw
      case rel=>exact⟨k+1,by omega,by go_num,H9,F⟩
      case measure=>simp[intOf] <;> omega
     | false=>
      rw[D] at E;have C5:Hid (R=([],8)):=hid (by
       rw[A5.out,if_pos];intro h;have h2:=U.out.2 (h _ F1.out);simp only[decide_eq_false_iff_not] at D;exact D h2)
      have L:=hid (S.out.trans (F.out.mono S.out.size));clear D A4 A5;go_wp2_with fail;rw[<-A6.out];go_ret2;rw[C5.out];exact⟨none,0,rfl,World.ownsRow_nil _ _ _ _,L.out⟩
    ·have B4:¬(k:Int)<(nrb:Int):=by omega
     have D3:∀d∈rb,d∈tb:=fun d hd=>by
      obtain⟨j,hj,rfl⟩:=aV hd;exact HJ.out j hj (by have:=Y.out; omega)
     have C5:Hid (R=(ra.filter fun d=>!decide (d∈ta),0)):=hid (by rw[A5.out,if_neg (fun h=>h D3)]);obtain⟨x1,H1⟩:=Qe wr;rw[<-H1] at J ⊢;have D6:=hid (S.out.trans (J.out.mono S.out.size));have F6:=hid (F5.out.ahead J.out);have I1:=hid (E0.out.below J.out);clear H1 D3 A5 HJ J F5 E0 S E1;go_wp2_with fail;go_loopw [19,70] (fun v i wr=>∃(k m:Nat) (out:Qd) (va:Qa) (vc:Nat),k<=nra/\v=.slice va m vc/\i=.int .i64 k/\m<=k/\Hid (m=out.length)/\Hid (out=(ra.take k).filter fun d=>!decide (d∈ta))/\Hid (wr.ownsRow x1.heap.size 54 2 (.slice va m vc) m (aW out))/\Hid (PM x1 wr)) (fun _ i _=>nra-(intOf i).toNat)
     case atStart=>exact⟨0,0,[],none,0,by omega,rfl,rfl,by omega,hid rfl,hid (by simp),hid (World.ownsRow_nil _ _ _ _),hid (bf _)⟩
     case round=>
      obtain⟨k,m,out,va,vc,hk,rfl,rfl,K2,HM,O,HO,J⟩:=hrel;by_cases G7:k<nra
      ·have B4:(k:Int)<(nra:Int):=by omega
       have h1:k<ra.length:=by have:=X.out; omega
       obtain⟨b0,of0,B3,G4,q0,q1⟩:=(F6.out.ahead J.out) k h1;have A8:=F6;subst B3;have P:=A3.out.2.2.1 _ (ak h1);have U:=hid (B0.out.2 _ (ak h1));have HF:=hid (Jk (fun d=>!decide (d∈ta)) h1);rw[<-O.out] at HF;generalize ra[k]=d at q0 q1 P U HF;obtain⟨d1,d2⟩:=d;simp only at q0 q1;obtain⟨v,I⟩:=Qe (wr.alloc (.cells #[.int .u64 d1,.int .u64 d2] 54));have B:PM wr v:=by rw[I]; exact ba _ _
       have F:=hid (J.out.trans (B.mono J.out.size));have C4:=hid (own_below HO.out B);have E:=(I1.out.below F.out).look P;rw[I] at E;have A6:=hid I;clear I B J O HO A8;cases D:decide ((d1,d2)∈ta++tb) with
       | true=>
        rw[D] at E;have B5:(d1,d2)∈ta:=U.out.1 (by simpa using D);have V:Hid (out=(ra.take (k+1)).filter fun d=>!decide (d∈ta)):=hid (by rw[HF.out]; simp[B5]);clear D B5 HF;go_wp2_with fail;rw[<-A6.out];go_roundw
        case rel=>exact⟨k+1,m,out,va,vc,by omega,rfl,by go_num,by omega,HM,V,C4,F⟩
        case measure=>simp[intOf] <;> omega
       | false=>
        rw[D] at E;have B5:(d1,d2)∉ta:=fun h=>by
         have:=U.out.2 h;simp only[decide_eq_false_iff_not] at D;exact D this
        have V:Hid (out++[(d1,d2)]=(ra.take (k+1)).filter fun d=>!decide (d∈ta)):=hid (by rw[HF.out]; simp[B5]);have E4:=C4.out;rw[HM.out] at E4;obtain⟨v',W',A1,H,E3,_⟩:=gz E4 d1 d2 (by rw[<-HM.out]; omega) F.out.size;obtain⟨va',vc',rfl,_⟩:=aB H;have hl:(out++[(d1,d2)]).length=m+1:=by rw[af,<-HM.out]; rfl
        rw[hl,<-HM.out] at A1;rw[hl] at H;rw[<-HM.out] at E3;have I0:Hid (m+1=(out++[(d1,d2)]).length):=hid hl.symm;have I3:=hid H;have A9:Hid (PM x1 W'):=hid (gM (F.out.alloc F.out.size _) (C4.out.alloc _) E3 nr);rw[A6.out,World.size_alloc] at A1;have F8:=hid A1;clear D B5 HF E4 A1 H E3 hl C4 F A6;go_wp2_with (at_builtin; refine Lib.wpList_append_run _ rfl _ _ _ _ rfl _ _ rfl rfl _ _ F8.out ?_);go_roundw
        case rel=>exact⟨k+1,m+1,out++[(d1,d2)],va',vc',by omega,rfl,by go_num,by omega,I0,V,I3,A9⟩
        case measure=>simp[intOf] <;> omega
      ·have B4:¬(k:Int)<(nra:Int):=by omega
       have C0:ra.take k=ra:=ag (by have:=X.out; omega);rw[C0] at O;have HX:Hid (R=(out,0)):=hid (by rw[C5.out,<-O.out]);have H7:=hid (D6.out.trans (J.out.mono D6.out.size));clear C0 O C5;go_wp2_with fail;go_ret2;rw[HX.out];exact⟨va,vc,by rw[<-HM.out]; rfl,by rw[<-HM.out]; exact mP HO.out D6.out.size,H7.out⟩
