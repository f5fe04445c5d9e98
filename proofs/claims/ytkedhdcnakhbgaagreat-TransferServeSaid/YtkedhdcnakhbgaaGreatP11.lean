/- Lemmas. -/
import Derived.Test.YtkedhdcnakhbgaaGreatP10
import Derived.Test.YtkedhdcnakhbgaaGreatG5
import Derived.Test.YtkedhdcnakhbgaaGreatP1
import Derived.Test.YtkedhdcnakhbgaaGreatP3
import Derived.Test.YtkedhdcnakhbgaaGreatG4
import Derived.Test.YtkedhdcnakhbgaaGreatG2
import Derived.Deep.RegionHeldLaw
import Derived.Test.YtkedhdcnakhbgaaGreatP8
set_option linter.unusedSimpArgs false
set_option maxRecDepth 100000
set_option maxHeartbeats 16000000
namespace Go.Proofs.YtkedhdcnakhbgaaGreat
open Tryz
open Go.RowKit Go.Shelf
set_option linter.unusedVariables false
variable {x:Dop}{z:Int}{d:Int×Int}{base cs:List Dg}{L R l:List Dop}{xs:List Itm}{i k n:Nat}{A1:Qa}{T a b out:Qb}{v1:Value}{W u z1:World}
section
variable {w W:World} {b:Qb} {k:Nat} {bad:Bool} {cs:Array Value}
end
theorem rpi(n:Nat)(B:(n:Int)<=1099511627776)(w:World):Qh 142 #[Yi (n:Int)] w (Xz (.tuple #[(Cw.enc n),Yi 0]) w):=by
 have h:=xM (n:Int) w;have:GM (n:Int)=(Cw.enc n,0):=by unfold GM; rw[if_pos ((Cw.inR_iff _).2 ⟨Zo,B⟩)]; simp
 rw[this] at h;exact h
theorem rpt(T:Qb)(h:T.length<=65536)(w:World):Qh 89 #[T] w (Xz (.tuple #[.string ⟨(putT T).1.toArray⟩,Yi 0]) w):=by
 have B:=vL ⟨T.toArray⟩ w (Zy bH);have C:putT T=((putT T).1,0):=by unfold putT; rw[if_pos h]
 simp only at B;rw[C] at B;exact B
theorem putT_len(h:T.length<=65536):(putT T).1.length<=65546:=by
 unfold putT;rw[if_pos h,af];have:=aG T.length;omega
theorem encO_bound{o:Dop}(h:o.data.length<=65536):(mU o).length<=65556:=by
 unfold mU;rw[af];have:=aG o.len;have:=aG o.off;have:=putT_len h;split <;> omega
theorem encs_bound:∀(l:List Dop),(∀o∈l,o.data.length<=65536)->(l.flatMap mU).length<=65556*l.length
 | [],_=>Zs
 | o::l,h=>by
  rw[bR,af,az];have B:=encO_bound (h o Zs);have C:=encs_bound l (fun x A=>h x (pM _ A));omega
theorem check_data(h:bW l 65536=0):(∀o∈l,mR o/\o.data.length<=65536/\(o.len:Int)<=1099511627776/\(o.off:Int)<=1099511627776)/\l.length<=65536:=by
 obtain⟨C,A⟩:=Dl h;obtain⟨g1,g2⟩:=yO l 0 A Zo;refine⟨fun o B=>?_,Zo⟩;obtain⟨k1,k2,k3⟩:=g1 o B;refine⟨k1,?_⟩;rcases k1 with⟨c1,c2⟩ | ⟨c1,c2,c3⟩
 ·have:=k3 c1;rw[c2];simp only[aK];omega
 ·unfold bS at k2;rw[if_neg Zo] at k2;omega
theorem encs_take(h:k<l.length):(l.take (k+1)).flatMap mU=(l.take k).flatMap mU++mU l[k]:=by
 rw[ai h,bg];simp
theorem rdenc_any(a:Qa)(l:List Dop)(c:Nat)(w:World)(hl:GIn jm 3 w.heap.size w a l)(C4:(l.length:Int)<=9223372036854775807)(hs:∀o∈l,o.data.length<=1099511627776/\o.len<=1099511627776/\o.off<=1099511627776):
  Qh 199 #[.slice a l.length c] w (Xz (.tuple #[.string ⟨(AV l).1.toArray⟩,Yi (AV l).2]) w):=by
 obtain⟨R,hR⟩:=Qe (AV l);rw[<-hR];have C:Qg (bW l 65536≠0->R=([],bW l 65536)):=Qf (fun h=>hR.trans (by unfold AV; rw[if_pos h]));have H:Qg (bW l 65536=0->R=(Cw.enc l.length++l.flatMap mU,0)):=Qf (fun h=>hR.trans (by unfold AV; rw[if_neg (Zj h)]));have G:Qg (bW l 65536=0->(∀o∈l,mR o/\o.data.length<=65536/\(o.len:Int)<=1099511627776/\(o.off:Int)<=1099511627776)/\l.length<=65536):=Qf check_data;have O:=Qf (rdcheck_any a l c 65536 w hl Zo C4 hs);rw[show((65536:Nat):Int)=65536 from rfl] at O;obtain⟨m,hm⟩:=Qe l.length;rw[<-hm] at O G H ⊢;obtain⟨HM,HL⟩:=Yj hm hl;generalize bW l 65536=ce at O C H G;clear hR hl hs hm;by_cases L:ce=0
 case neg=>
  have E2:(ce !=0)=true:=Zu L;have HR:=Qf (C.o L);clear C H G L;go_enter func199,ntmps199;go_wp2_with fail;refine O.o.mono ?_;rintro e u1 ⟨rfl,hb⟩;have B4:=Qf hb;clear hb O;go_wp2;go_ret2;rw[HR.o];exact⟨rfl,B4.o⟩
 case pos=>
 subst L;have HR:=Qf (H.o rfl);obtain⟨hF,E1⟩:=G.o rfl;obtain⟨HF,A0⟩:=Yj hF (fun W=>rpi m Zo W);clear C H G hF;go_enter func199,ntmps199;go_wp2_with fail;refine O.o.mono ?_;rintro e u1 ⟨rfl,hb⟩;have HB:=Qf hb;clear hb O;go_wp2_with fail;refine(A0.o _).mono ?_;rintro e u2 ⟨rfl,J⟩;have V:=Qf (HB.o.trans (J.mono HB.o.size));have B9:=aG m;obtain⟨E,hE⟩:=Qe (Cw.enc m);rw[<-hE] at HR B9 ⊢;clear J A0 hE HB;go_wp2;go_loopw [5,7] (fun s i wr=>∃(k:Nat) (T:Qb),k<=m/\i=Yi (k:Int)/\s=.string ⟨T.toArray⟩/\Qg (T=E++(l.take k).flatMap mU)/\Qg (PM w wr)) (fun _ i _=>m-(intOf i).toNat)
 case atStart=>exact⟨0,E,Zo,rfl,rfl,Qf Zs,V⟩
 case round=>
  clear V;obtain⟨k,T,hk,rfl,rfl,HT,U⟩:=hrel;by_cases C5:k<m
  ·have C0:(k:Int)<(m:Int):=Zo;have h1:k<l.length:=HM.o▸C5;have E0:=bH T;have D5:T.length<=10+65556*65536:=by
    rw[HT.out,af];have:=encs_bound (l.take k) (fun o ho=>(HF.o o (dK ho)).2.1);rw[aA] at this;have:min k l.length<=65536:=Zo;omega
   obtain⟨b0,A1,B7,S,q0,q1,q2⟩:=xX (HL.o.ahead U.out) h1;have D:Qg (∀W,PM wr W->PM w W/\W.cell? ⟨b0,A1+k*3,none⟩=some (Yi (l[k].off:Int))/\W.cell? ⟨b0,A1+k*3+1,none⟩=some (Yi (l[k].len:Int))/\W.cell? ⟨b0,A1+k*3+2,none⟩=some (.string ⟨l[k].data.toArray⟩)):=Qf (fun W hW=>⟨U.out.trans (hW.mono U.out.size),(hW.cell (p:=⟨b0,A1+k*3,none⟩) S).trans q0,(hW.cell (p:=⟨b0,A1+k*3+1,none⟩) S).trans q1,(hW.cell (p:=⟨b0,A1+k*3+2,none⟩) S).trans q2⟩);obtain⟨f1,f2,f3,f4⟩:=HF.o _ (ak h1);have P:=Qf (encs_take h1);generalize l[k]=o at q0 q1 q2 f1 f2 f3 f4 P D;obtain⟨X,Y,Z⟩:=Yk (fun W=>rpi o.len f3 W) (fun W=>rpt o.data f2 W) (fun W=>rpi o.off f4 W);have M:Qg (mU o=Cw.enc o.len++(if 0<o.len then Cw.enc o.off else(putT o.data).1)):=Qf (by
    unfold mU;by_cases hc:0<o.len
    ·rw[if_pos ((gI f1).2 hc),if_pos hc]
    ·rw[if_neg (fun h=>hc ((gI f1).1 h)),if_neg hc])
   have Q:Qg (T++mU o=E++(l.take (k+1)).flatMap mU):=Qf (by rw[P.o,HT.out,ay]);have C7:=aG o.len;have C8:=aG o.off;have C9:=putT_len f2;generalize Cw.enc o.len=X1 at X M C7;generalize (putT o.data).1=X2 at Y M C9;generalize Cw.enc o.off=X3 at Z M C8;generalize mU o=EO at M Q;obtain⟨A4,A2,data⟩:=o;simp only at *
   subst B7;have D7:=bH X1;have D8:=bH X2;have D9:=bH X3;have D6:(⟨T.toArray⟩:ByteArray)++⟨X1.toArray⟩=⟨(T++X1).toArray⟩:=by rw[Bt]
   have C2:=bH (T++X1);rw[af] at C2;clear HT P f1 f2 f3 f4 h1;go_wp2_with fail;refine(X.o _).mono ?_;rintro e v1 ⟨rfl,K⟩;obtain⟨_,r0,r1,r2⟩:=D.o _ K;clear q0 q1 q2;go_wp2_with fail;refine(Y.o _).mono ?_;rintro e v2 ⟨rfl,J⟩;have I:=K.trans (J.mono K.size);obtain⟨A7,s0,s1,s2⟩:=D.o _ I;obtain⟨A3,B⟩:=Yj A7 I;clear r0 r1 r2 K J A7 I;by_cases A6:0<A2
   ·have C3:0<(A2:Int):=Zo;have F:Qg (T++X1++X3=T++EO):=Qf (by rw[M.o,if_pos A6,ay]);have B8:(⟨(T++X1).toArray⟩:ByteArray)++⟨X3.toArray⟩=⟨(T++EO).toArray⟩:=by rw[Bt,<-F.o]
    clear M F;go_wp2_with fail;refine(Z.o _).mono ?_;rintro e v3 ⟨rfl,A5⟩;have N:=B.o.trans (A5.mono B.o.size);obtain⟨A8,_⟩:=D.o _ N;have B6:=Qf A8;clear A5 N A8 s0 s1 s2 D U A3 B;go_wp2;go_roundw
    case rel=>exact⟨k+1,T++EO,Zo,Zg,rfl,Q,B6⟩
    case measure=>exact Yr
   ·have C3:¬0<(A2:Int):=Zo;have F:Qg (T++X1++X2=T++EO):=Qf (by rw[M.o,if_neg A6,ay]);have B8:(⟨(T++X1).toArray⟩:ByteArray)++⟨X2.toArray⟩=⟨(T++EO).toArray⟩:=by rw[Bt,<-F.o]
    clear M F D U B;go_wp2;go_roundw
    case rel=>exact⟨k+1,T++EO,Zo,Zg,rfl,Q,A3⟩
    case measure=>exact Yr
  ·obtain rfl:k=m:=Zo;have C0:¬(k:Int)<(k:Int):=Zo;have B5:Qg (R=(T,0)):=Qf (by rw[HR.o,HT.out,ag (by rw[<-HM.o]; omega)]);clear HT HR;go_wp2;go_ret2;rw[B5.o];exact⟨rfl,U.out⟩
theorem datI_hit(D:k<xs.length)(C:xs[k].d=d)(B:∀j (A:j<xs.length),j<k->xs[j].d≠d):De xs d=(xs[k].data,0):=by
 have:xs.find? (fun x=>decide (x.d=d))=some xs[k]:=by
  rw[List.find?_eq_some_iff_getElem];refine⟨Zu C,k,D,rfl,fun j A=>?_⟩;simpa using B j Zo A
 unfold De;rw[this]
theorem datI_miss(B:∀j (A:j<xs.length),xs[j].d≠d):De xs d=([],8):=by
 have:xs.find? (fun x=>decide (x.d=d))=none:=by
  rw[List.find?_eq_none];intro x C;obtain⟨j,A,rfl⟩:=aV C;simpa using B j A
 unfold De;rw[this]
theorem rdata_any(a:Qa)(xs:List Itm)(c:Nat)(d1 d2:Int)(w:World)(hp:Its w.heap.size w a xs)(hn:(xs.length:Int)<=9223372036854775807):
  Qh 196 #[.slice a xs.length c,.agg #[Yu d1,Yu d2]] w (Xz (.tuple #[.string ⟨(De xs (d1,d2)).1.toArray⟩,.bool ((De xs (d1,d2)).2==0)]) w):=by
 obtain⟨wa,G⟩:=Qe (w.alloc (.cells #[Yu d1,Yu d2] 54));have S:PM w wa:=G▸(bf _).alloc nr _;have E:=Qf S;have H:Qg (BK w.heap.size #[Yu d1,Yu d2] 54 wa):=Qf (G▸BK.new _ _ _);obtain⟨HP,P⟩:=Yj hp G;obtain⟨R,V⟩:=Qe (De xs (d1,d2));rw[<-V];have C:Qg (∀k (hk:k<xs.length),xs[k].d=(d1,d2)->(∀j (J:j<xs.length),j<k->xs[j].d≠(d1,d2))->R=(xs[k].data,0)):=Qf (fun k hk U h2=>V.trans (datI_hit hk U h2));have B:Qg ((∀j (J:j<xs.length),xs[j].d≠(d1,d2))->R=([],8)):=Qf (fun h=>V.trans (datI_miss h));obtain⟨n,M⟩:=Qe xs.length;rw[<-M] at hn ⊢;have HN:=Qf M;clear G S hp V M;go_enter func196,ntmps196;go_wp2_with fail;rw[<-P.o];clear P;go_loopw [6] (fun i wr=>∃k:Nat,k<=n/\i=Yi (k:Int)/\Qg (∀j (J:j<xs.length),j<k->xs[j].d≠(d1,d2))/\Qg (PM w wr)/\Qg (BK w.heap.size #[Yu d1,Yu d2] 54 wr)) (fun i _=>n-(intOf i).toNat)
 case atStart=>exact⟨0,Zo,rfl,Qf (fun j _ h=>Zo),E,H⟩
 case round=>
  clear E H;obtain⟨k,hk,rfl,N,E,H⟩:=hrel;by_cases A3:k<n
  ·have A2:(k:Int)<(n:Int):=Zo;have U:k<xs.length:=HN.o▸A3;obtain⟨b0,A1,L,A0,q0,q1,q2⟩:=(HP.o.ahead E.o) k U;have O:=Qf (C.o k U);have D:Qg (xs[k].d≠(d1,d2)->∀j (J:j<xs.length),j<k+1->xs[j].d≠(d1,d2)):=Qf (fun h j J A8=>by
    by_cases e:j=k
    ·subst e; exact h
    ·exact N.out j J Zo)
   generalize xs[k]=x at q0 q1 q2 O D;obtain⟨⟨x1,x2⟩,data⟩:=x;simp only at q0 q1 q2 O D;obtain⟨g0,g1⟩:=BK.c2 H.o;have F:=fun W=>jD x1 x2 d1 d2 W
   by_cases I:(x1,x2)=(d1,d2)
   ·have Q:(x1==d1&&x2==d2)=true:=by
     simp only[Prod.mk.injEq] at I;simp[I.1,I.2]
    rw[Q] at F;obtain⟨Z,K⟩:=Yj (O.o I N.out) E.o.drew;have T:PM wr wr.drew:=(bf _).drew;have r2:=(T.cell (p:=⟨b0,A1+k*3+2,none⟩) A0).trans q2;rw[L];clear O D N E H C B I Q L T;go_wp2;go_region;clear q0 q1 q2 g0 g1 F;go_wp2;go_ret2;rw[Z.o];exact⟨rfl,K.o⟩
   ·have Q:(x1==d1&&x2==d2)=false:=by
     cases h:(x1==d1&&x2==d2) with
     | false=>rfl
     | true=>exact absurd (by simp only[Bool.and_eq_true,beq_iff_eq] at h; rw[h.1,h.2]) I
    rw[Q] at F;obtain⟨Y,K,X⟩:=Yk (D.o I) E.o.drew (H.o.below ((bf _).drew));rw[L];clear O D N E H B I Q;go_wp2;go_region;clear q0 q1 q2 g0 g1 F;go_wp2;go_roundw
    case rel=>exact⟨k+1,Zo,Zg,Y,K,X⟩
    case measure=>exact Yr
  ·obtain rfl:k=n:=Zo;have A2:¬(k:Int)<(k:Int):=Zo;have Z:=Qf (B.o (fun j J=>N.out j J (HN.o▸J)));clear N C B H;go_wp2;go_ret2;rw[Z.o];exact⟨rfl,E.o⟩
theorem lcp_next(h:n<=lcp a b):(n+1<=lcp a b)↔∃(B:n<a.length) (C:n<b.length),a[n]=b[n]:=by
 rw[Ee] at h ⊢;obtain⟨B,C,A⟩:=h;constructor
 ·rintro⟨g1,g2,g3⟩;refine⟨Zo,Zo,?_⟩;rw[ai Zo,ai (l:=b) Zo,A] at g3;exact(List.cons.inj (List.append_cancel_left g3)).1
 ·rintro⟨g1,g2,g3⟩;refine⟨Zo,Zo,?_⟩;rw[ai Zo,ai (l:=b) Zo,A,g3]
theorem idx_at(s:Qb)(k:Nat)(hs:k<s.length):∀w,(Instr.index 9 (.string ⟨s.toArray⟩) (Yi (k:Int))).run prog w=.ok (Yb ((s.getD k 0).toNat:Int)) w:=by
 obtain⟨d,_,_,B,C⟩:=idx ⟨s.toArray⟩ k (by rw[bH]; exact hs);intro w;rw[C,B]
theorem getD_get{s:Qb}(h:k<s.length):s.getD k 0=s[k]:=by simp[List.getD,h]
theorem rmatch_any(a b:Qb)(i k:Nat)(w:World)(hi:i<=a.length)(hk:k<=b.length)(ha:(a.length:Int)<=1000000)(hb:(b.length:Int)<=1000000):
  Qh 228 #[a,Yi (i:Int),b,Yi (k:Int)] w (Xz (Yi (lcp (a.drop i) (b.drop k):Int)) w):=by
 have I:Qg (∀j (h:j<a.length),∀w,(Instr.index 9 (.string ⟨a.toArray⟩) (Yi (j:Int))).run prog w=.ok (Yb ((a.getD j 0).toNat:Int)) w):=Qf (fun j h=>idx_at a j h);have J:Qg (∀j (h:j<b.length),∀w,(Instr.index 9 (.string ⟨b.toArray⟩) (Yi (j:Int))).run prog w=.ok (Yb ((b.getD j 0).toNat:Int)) w):=Qf (fun j h=>idx_at b j h);obtain⟨L,hL⟩:=Qe (lcp (a.drop i) (b.drop k));have R:=IA (a.drop i) (b.drop k);rw[ah,ah,<-hL] at R;have M:Qg (∀n,n<=L->((n+1<=L)↔(i+n<a.length/\k+n<b.length/\a.getD (i+n) 0=b.getD (k+n) 0))):=Qf (fun n hn=>by
  rw[hL] at hn ⊢;rw[lcp_next hn];simp only[ah,eF];constructor
  ·rintro⟨O,P,N⟩; exact⟨Zo,Zo,by rw[getD_get Zo,getD_get Zo]; exact N⟩
  ·rintro⟨O,P,N⟩; rw[getD_get O,getD_get P] at N; exact⟨Zo,Zo,N⟩)
 rw[<-hL];clear hL;have A4:=bH a;have A5:=bH b;obtain⟨na,S⟩:=Qe a.length;obtain⟨nb,T⟩:=Qe b.length;obtain⟨HA,HB⟩:=Yj S T;rw[<-S] at A4 hi ha R;rw[<-T] at A5 hk hb R;clear S T;have U:=Qf (Below.refl w.heap.size w);go_enter func228,ntmps228;go_wp2;go_loopw [9] (fun n wr=>∃j:Nat,j<=L/\n=Yi (j:Int)/\Qg (PM w wr)) (fun n _=>L-(intOf n).toNat)
 case atStart=>exact⟨0,Zo,rfl,U⟩
 case round=>
  clear U;obtain⟨j,hj,rfl,Q⟩:=hrel;have A6:IntKind.i64.wrap ((i:Int)+(j:Int))=((i+j:Nat):Int):=by rw[ZV]; omega
  have A7:IntKind.i64.wrap ((k:Int)+(j:Int))=((k+j:Nat):Int):=by rw[ZV]; omega
  have C:=M.o j hj;have G:∀h:i+j<a.length,∀w,(Instr.index 9 (.string ⟨a.toArray⟩) (Yi ((i+j:Nat):Int))).run prog w=.ok (Yb ((a.getD (i+j) 0).toNat:Int)) w:=fun h=>I.o (i+j) h
  have H:∀h:k+j<b.length,∀w,(Instr.index 9 (.string ⟨b.toArray⟩) (Yi ((k+j:Nat):Int))).run prog w=.ok (Yb ((b.getD (k+j) 0).toNat:Int)) w:=fun h=>J.o (k+j) h
  obtain⟨p,X⟩:=Qe (i+j);obtain⟨q,Y⟩:=Qe (k+j);have B6:p<=na:=Zo;have B7:q<=nb:=Zo;have B8:IntKind.i64.wrap ((j:Int)+1)=(j:Int)+1:=ZV;simp only[<-X] at A6 G C;simp only[<-Y] at A7 H C;rw[<-HA.o,<-HB.o] at C;rw[<-HA.o] at G;rw[<-HB.o] at H;have B:Qg (¬j+1<=L->(j:Int)=(L:Int)):=Qf (fun h=>Zo);by_cases O:p<na
  ·have A1:(p:Int)<(na:Int):=Zo;by_cases P:q<nb
   ·have A2:(q:Int)<(nb:Int):=Zo;have i1:=G O;have i2:=H P;by_cases N:a.getD p 0=b.getD q 0
    ·have A3:j+1<=L:=C.2 ⟨O,P,N⟩;rw[N] at i1;generalize (b.getD q 0).toNat=x at i1 i2;clear N C G H M I J X Y O P B;go_upto_region 2 with(fail)
     refine wp_region_quiet_below Zk Zk ?_
     repeat (any_goals (first | go_big_quiet_step (fail) | quiet_step (fail)))
     refine wpQuiet_nil ?_;intro w5 D;have F:=Qf (aX D);clear D;go_wp2;go_roundw
     case rel=>exact⟨j+1,A3,Zg,Qf (Q.out.trans (F.o.mono Q.out.size))⟩
     case measure=>exact Yr
    ·have E:¬j+1<=L:=fun h=>by
      obtain⟨_,_,V⟩:=C.1 h;exact N V
     have W:=B.o E;have Z:((((a.getD p 0).toNat:Int))==((b.getD q 0).toNat:Int))=false:=by
      simp only[beq_eq_false_iff_ne,ne_eq];intro h;exact N (UInt8.toNat_inj.1 Zo)
     generalize (b.getD q 0).toNat=x at i2 Z;generalize (a.getD p 0).toNat=y at i1 Z;have K:=Qf W;clear N C G H M I J X Y O P W B E;go_upto_region 2 with(fail)
     refine wp_region_quiet_below Zk Zk ?_
     repeat (any_goals (first | go_big_quiet_step (fail) | quiet_step (fail)))
     refine wpQuiet_nil ?_;intro w5 D;have F:=Qf (aX D);clear D;go_wp2;go_ret;exact⟨Zw K.o,Q.out.trans (F.o.mono Q.out.size)⟩
   ·have A2:¬(q:Int)<(nb:Int):=Zo;have E:¬j+1<=L:=fun h=>by
     obtain⟨_,V,_⟩:=C.1 h;exact P V
    have K:=Qf (B.o E);clear C G H M I J X Y O P B E;go_upto_region 2 with(fail)
    refine wp_region_quiet_below Zk Zk ?_
    repeat (any_goals (first | go_big_quiet_step (fail) | quiet_step (fail)))
    refine wpQuiet_nil ?_;intro w5 D;have F:=Qf (aX D);clear D;go_wp2;go_ret;exact⟨Zw K.o,Q.out.trans (F.o.mono Q.out.size)⟩
  ·have A1:¬(p:Int)<(na:Int):=Zo;have E:¬j+1<=L:=fun h=>by
    obtain⟨V,_,_⟩:=C.1 h;exact O V
   have K:=Qf (B.o E);clear C G H M I J X Y O B E;go_upto_region 2 with(fail)
   refine wp_region_quiet_below Zk Zk ?_
   repeat (any_goals (first | go_big_quiet_step (fail) | quiet_step (fail)))
   refine wpQuiet_nil ?_;intro w5 D;have F:=Qf (aX D);clear D;go_wp2;go_ret;exact⟨Zw K.o,Q.out.trans (F.o.mono Q.out.size)⟩
theorem gin_src{α:Type}{f:α->List Value}{z B:Nat}{a:Qa}{ys:List α}(C:Lay f z)(h:GIn f z B W a ys):Src W a (gcs f ys):=by
 cases F:ys with
 | nil=>exact .inl rfl
 | cons y ys'=>
  rw[<-F];have H:0<ys.length:=Zn F;obtain⟨b,M,rfl,_⟩:=h 0 H;refine .inr ⟨_,rfl,fun j u D=>?_⟩;have J:j<ys.length*z:=by
   have:=(List.getElem?_eq_some_iff.1 D).1
   rwa[xq C] at this
  have G:=C.pos;have E:j/z<ys.length:=(Nat.div_lt_iff_lt_mul G).2 J;have K:j%z<z:=Nat.mod_lt _ G;have A:j=j/z*z+j%z:=by rw[Nat.mul_comm]; exact(Nat.div_add_mod j z).symm
  obtain⟨b',L,e,_,I⟩:=h (j/z) E;cases e;rw[A,uF C ys _ E _ K] at D;rw[Go.WideShapes.add_plain,A,<-aP];exact I _ _ D
theorem append_ops{base:Nat}{v:Value}(C:W.ownsRow base 246 3 v n (gcs jm l))(O:n=l.length)(a:Qa)(ys:List Dop)(m c:Nat)(M:m=ys.length)(N:GIn jm 3 W.heap.size W a ys)(G:((n+m:Nat):Int)<=1000000)(B:base<=W.heap.size):
  ∃v' W',Qg ((Builtin.append_ #[206,206] 206 #[v,.slice a m c]).run prog W=.ok v' W')/\W'.ownsRow base 246 3 v' (n+m) (gcs jm (l++ys))/\W.grownBy W' v.ownBlock/\(v'.ownBlock=v.ownBlock\/v'.ownBlock=some W.heap.size):=by
 obtain⟨i0,L,D,E,F⟩:=info_parts OZ;obtain⟨v',W',H,I,J,K⟩:=mD (P:=prog) W base 206 206 246 i0 _ 3 32 underlying206 L D E F rfl Zd v n (gcs jm l) C a m c (gcs jm ys) (by rw[xq F3,M]) (gin_src F3 N) (gcs_ones F3 ys) Zm Zo B;exact⟨v',W',Qf H,by rw[Gc]; exact I,J,K⟩
theorem size_op(W:World):(sizeOf (prog.elem 206)).run prog W=.ok 3 W:=by
 obtain⟨i,B,_,C,_⟩:=info_parts OZ;rw[show prog.elem 206=246 by kernel_rfl];simp[sizeOf,typeInfo,B,C]
theorem oslice_hi(a:Qa)(n c f:Nat)(h:f<=c):∃(A1:Qa) (c1:Nat),(∀B W ds,GIn jm 3 B W a ds->GIn jm 3 B W A1 (ds.take f))/\∀W,(Instr.slice 206 (.slice a n c) none (some (Yi f)) none).run prog W=.ok (.slice A1 f c1) W:=by
 refine⟨if c=0 then a else a.map (·.add (0*3)),c,fun B W ps H i G=>?_,fun W=>?_⟩
 ·have C:i<ps.length:=by rw[aA] at G; omega
  obtain⟨b,I,rfl,E,F⟩:=H i C;refine⟨b,I,?_,E,fun j v D=>F j v ?_⟩
  ·split
   ·rfl
   ·simp[Addr.add]
  ·rw[List.getElem_take] at D; exact D
 ·rw[run_slice_h (P:=prog) W 206 a n c Zk .i64 f Zo Zo,size_op];simp[sliced,Result.andThen]
theorem op_one{b:Nat}(A:BK b (jm x).toArray 246 W):GIn jm 3 W.heap.size W (some ⟨b,0,none⟩) [x]:=fun i C=>by
 obtain rfl:i=0:=by simp at C; omega
 refine⟨b,0,rfl,A.lt,fun j v B=>?_⟩;rw[dG,aZ]
 first
 | (rw[A.cell]; simpa using B)
 | (rw[aZ,A.cell]; simpa using B)
def GotLd(w:World)(l:List Dop)(e:Ending)(w':World):Prop:=∃a c,e=.returned (.slice a l.length c)/\GIn jm 3 w'.heap.size w' a l/\l.length<=c/\PM w w'
structure AppEnd (u:World) (L:List Dop) (a3:Qa) (c3:Nat) (z3:World):Prop where
 gin:GIn jm 3 z3.heap.size z3 a3 L
 cap:L.length<=c3
 bel:PM u z3
theorem opB{y:World}{bs:Nat}{c1:Nat}(C:PM u y)(E:y.ownsRow u.heap.size 246 3 (.slice bs 0 0) 0 [])(F:GIn jm 3 u.heap.size u A1 L)(G:k=L.length)(I:(k:Int)<=900000):
  ∃v1 z1,Qg ((Builtin.append_ #[206,206] 206 #[.slice bs 0 0,.slice A1 k c1]).run prog y=.ok v1 z1)/\z1.ownsRow u.heap.size 246 3 v1 k (gcs jm L)/\PM u z1/\y.grownBy z1 (some bs):=by
 obtain⟨v1,z1,H,B,D,_⟩:=append_ops (l:=[]) E rfl A1 L k c1 G (F.ahead C) Zo C.size;rw[aZ,aY] at B;exact⟨v1,z1,H,B,gM C E D nr,D⟩
theorem opD1(x:Dop)(C:z1.ownsRow u.heap.size 246 3 v1 k (gcs jm L))(D:PM u z1)(G:k=L.length)(J:(k:Int)<=900000):
  ∃a3 c3 z3,Qg ((Builtin.append_ #[206,206] 206 #[v1,.slice z1 1 1]).run prog (z1.alloc (.cells (jm x).toArray 246))=.ok (.slice a3 (k+1) c3) z3)/\Qg (AppEnd u (L++[x]) a3 c3 z3):=by
 obtain⟨v',W',I,B,H,_⟩:=BA G C x Zo D.size;have E:PM u (z1.alloc (.cells (jm x).toArray 246)):=D.alloc D.size _;have F:=gM E (C.alloc _) H nr;obtain⟨a3,c3,rfl,K⟩:=aB B;exact⟨a3,c3,W',I,Qf ⟨jw F3 (by rw[af,aI,G]) B,by rw[af,aI]; omega,F⟩⟩
theorem opD2{xb:Nat}(C:z1.ownsRow u.heap.size 246 3 v1 k (gcs jm L))(E:PM u z1)(F:k=L.length)(J:(k:Int)<=900000)(I:BK xb (jm x).toArray 246 z1):
  ∃a3 c3 z3,Qg ((Builtin.append_ #[206,206] 206 #[v1,.slice xb 1 1]).run prog z1=.ok (.slice a3 (k+1) c3) z3)/\Qg (AppEnd u (L++[x]) a3 c3 z3):=by
 obtain⟨v',W',H,B,G,_⟩:=append_ops C F (some ⟨xb,0,none⟩) [x] 1 1 rfl (op_one I) Zo E.size;have D:=gM E C G nr;obtain⟨a3,c3,rfl,K⟩:=aB B;exact⟨a3,c3,W',H,Qf ⟨jw F3 (by rw[af,aI,F]) B,by rw[af,aI]; omega,D⟩⟩
theorem opT1{c1:Nat}(x:Dop)(H:GIn jm 3 u.heap.size u A1 L)(G:k=L.length)(F:(k:Int)<=900000):
  ∃v1 z1 a3 c3 z3,Qg ((Builtin.append_ #[206,206] 206 #[.slice u 0 0,.slice A1 k c1]).run prog (u.alloc (.cells #[] 246))=.ok v1 z1)/\
   Qg ((Builtin.append_ #[206,206] 206 #[v1,.slice z1 1 1]).run prog (z1.alloc (.cells (jm x).toArray 246))=.ok (.slice a3 (k+1) c3) z3)/\Qg (AppEnd u (L++[x]) a3 c3 z3)/\PM u z1:=by
 have J:(u.alloc (.cells #[] 246)).ownsRow u.heap.size 246 3 (.slice u 0 0) 0 []:=(World.ownsRow_made (size:=3) u #[] 0 nr Zd rfl);have D:PM u (u.alloc (.cells #[] 246)):=((bf u).alloc nr _);obtain⟨v1,z1,K,C,B,M⟩:=opB (c1:=c1) D J H G F;obtain⟨a3,c3,z3,E,I⟩:=opD1 x C B G F;exact⟨v1,z1,a3,c3,z3,K,E,I,B⟩
theorem opT2{c1:Nat}(x:Dop)(I:GIn jm 3 u.heap.size u A1 L)(H:k=L.length)(G:(k:Int)<=900000):
  ∃v1 z1 a3 c3 z3,Qg ((Builtin.append_ #[206,206] 206 #[.slice u 0 0,.slice A1 k c1]).run prog (((u.alloc (.cells #[] 246)).alloc (.cells (jm x).toArray 246)))=.ok v1 z1)/\
   Qg ((Builtin.append_ #[206,206] 206 #[v1,.slice (some ⟨u.heap.size+1,0,none⟩) 1 1]).run prog z1=.ok (.slice a3 (k+1) c3) z3)/\Qg (AppEnd u (L++[x]) a3 c3 z3)/\PM u z1:=by
 have M:(((u.alloc (.cells #[] 246)).alloc (.cells (jm x).toArray 246))).ownsRow u.heap.size 246 3 (.slice u 0 0) 0 []:=((World.ownsRow_made (size:=3) u #[] 0 nr Zd rfl).alloc _);have D:PM u (((u.alloc (.cells #[] 246)).alloc (.cells (jm x).toArray 246))):=(((bf u).alloc nr _).alloc Zs _);have E:BK (u.heap.size+1) (jm x).toArray 246 (((u.alloc (.cells #[] 246)).alloc (.cells (jm x).toArray 246))):=BK.new2 u (.cells #[] 246) (jm x).toArray 246;obtain⟨v1,z1,N,C,B,K⟩:=opB (c1:=c1) D M I H G;obtain⟨a3,c3,z3,F,J⟩:=opD2 C B H G (E.grow1 K Zs);exact⟨v1,z1,a3,c3,z3,N,F,J,B⟩
theorem opT3{c1:Nat}(x:Dop)(I:GIn jm 3 u.heap.size u A1 L)(H:k=L.length)(G:(k:Int)<=900000):
  ∃v1 z1 a3 c3 z3,Qg ((Builtin.append_ #[206,206] 206 #[.slice (some ⟨u.heap.size+1,0,none⟩) 0 0,.slice A1 k c1]).run prog (((u.alloc (.cells (jm x).toArray 246)).alloc (.cells #[] 246)))=.ok v1 z1)/\
   Qg ((Builtin.append_ #[206,206] 206 #[v1,.slice u 1 1]).run prog z1=.ok (.slice a3 (k+1) c3) z3)/\Qg (AppEnd u (L++[x]) a3 c3 z3)/\PM u z1:=by
 have M:(((u.alloc (.cells (jm x).toArray 246)).alloc (.cells #[] 246))).ownsRow u.heap.size 246 3 (.slice (some ⟨u.heap.size+1,0,none⟩) 0 0) 0 []:=by
  have:=(World.ownsRow_made (size:=3) (base:=u.heap.size) (e:=246) (u.alloc (.cells (jm x).toArray 246)) #[] 0 Zs Zd rfl)
  rwa[World.size_alloc] at this
 have D:PM u (((u.alloc (.cells (jm x).toArray 246)).alloc (.cells #[] 246))):=(((bf u).alloc nr _).alloc Zs _);have E:BK u.heap.size (jm x).toArray 246 (((u.alloc (.cells (jm x).toArray 246)).alloc (.cells #[] 246))):=(BK.new u (jm x).toArray 246).alloc _;obtain⟨v1,z1,N,C,B,K⟩:=opB (c1:=c1) D M I H G;obtain⟨a3,c3,z3,F,J⟩:=opD2 C B H G (E.grow1 K Zs);exact⟨v1,z1,a3,c3,z3,N,F,J,B⟩
theorem radd04_any(a:Qa)(l:List Dop)(c:Nat)(x:Dop)(w:World)(hl:GIn jm 3 w.heap.size w a l)(hc:l.length<=c)(hn:(l.length:Int)<=800000)(D3:(x.len:Int)<=1000000/\(x.off:Int)<=1000000/\x.data.length<=1000000)(B2:∀o∈l,(o.len:Int)<=1000000/\(o.off:Int)<=1000000/\o.data.length<=1000000):
  Qh 229 #[.slice a l.length c,.agg (jm x).toArray] w (GotLd w (Ko l x)):=by
 obtain⟨w0,F⟩:=Qe (w.alloc (.cells (jm x).toArray 246));have A8:PM w w0:=F▸(bf _).alloc nr _;have B4:w0.heap.size=w.heap.size+1:=Zn F;have C5:Qg (BK w.heap.size (jm x).toArray 246 w0):=Qf (F▸BK.new _ _ _);obtain⟨C2,C3⟩:=Yj A8 (hl.ahead A8);obtain⟨xo,xl,xd⟩:=x;simp only[jm] at F C5;simp only at D3;by_cases h0:l.length=0
 ·obtain rfl:l=[]:=Qr.1 h0;have HR:Qg (Ko [] ⟨xo,xl,xd⟩=[]++[⟨xo,xl,xd⟩]):=Qf rfl;have N:Qg (0=([]:List Dop).length):=Qf rfl;have B8:GIn jm 3 w0.drew.heap.size w0.drew a []:=C3.o;have C:=Qf C2.o.drew;have D:Qg (∀W,Below w0.drew.heap.size w0.drew W->W.cell? w=some (Yi (xo:Int))/\W.cell? ⟨w.heap.size,1,none⟩=some (Yi (xl:Int))/\W.cell? ⟨w.heap.size,2,none⟩=some (.string ⟨xd.toArray⟩)):=Qf (fun W hW=>by
   have h:=C5.o.below (show PM w0 W from((bf w0).drew).trans hW);exact⟨Zw h.cell,Zw h.cell,Zw h.cell⟩)
  have B3:=D.o w0.drew (bf _);obtain⟨D7,z1,za,zc,z3,U,V,H,O⟩:=opT1 (u:=w0.drew) (A1:=a) (c1:=c) ⟨xo,xl,xd⟩ B8 rfl Zs;obtain⟨D4,y1,ya,yc,y3,X,Y,I,A9⟩:=opT2 (u:=w0.drew) (A1:=a) (c1:=c) ⟨xo,xl,xd⟩ B8 rfl Zs;obtain⟨C6,t1,ta,tc,t3,Z,A0,J,B0⟩:=opT3 (u:=w0.drew) (A1:=a) (c1:=c) ⟨xo,xl,xd⟩ B8 rfl Zs;obtain⟨M,A6,A7⟩:=Yk O A9 B0;have G:Below w0.drew.heap.size w0.drew (w0.drew.alloc (.cells #[] 246)):=(bf _).alloc nr _;have E:Below w0.drew.heap.size w0.drew (w0.drew.alloc (.cells (jm ⟨xo,xl,xd⟩).toArray 246)):=(bf _).alloc nr _;obtain⟨G,E⟩:=Yj G E;simp only[jm,aK,aZ] at U V X Y Z A0 E ⊢;have A2:=Qf F;clear A8 hl hc hn h0 O A9 B0 F B8 B4 D3 B2;go_enter func229,ntmps229;go_wp2_with fail;rw[<-A2.o];refine wp_region_held_drew (S:=(fun W=>W.cell? w=some (Yi (xo:Int))/\W.cell? ⟨w.heap.size,1,none⟩=some (Yi (xl:Int))/\W.cell? ⟨w.heap.size,2,none⟩=some (.string ⟨xd.toArray⟩))) Zk B3 (fun hHeld=>?_);refine Xx 1 ?_;refine Xx 3 ?_;refine wpAnyH_ready (rs:=[0,4]) Zk Zs ?_;refine AllReadyH.cons rfl (fun K B=>?_) ?_
  ·go_simp;refine B.out _ _ (D.o _ G.o) (fun hHeld=>?_);clear B K;refine wpAnyH_ready (rs:=[2,4]) Zk Zs ?_;refine AllReadyH.cons rfl (fun K B=>?_) ?_
   ·refine Lib.wp_append_run _ (.tmp 73) (.tmp 74) _ _ rfl _ _ rfl rfl _ _ U.out ?_;refine B.out _ _ (D.o _ M.o) (fun hHeld=>?_);clear B K;refine wpAnyH_ready (rs:=[4]) Zk Zs ?_;refine AllReadyH.cons rfl (fun K B=>?_) AllReadyH.nil;go_simp;refine B.out _ _ (D.o _ (M.o.alloc M.o.size _)) (fun hHeld=>?_);clear B K;refine wpAnyH_ready (rs:=[5]) Zk Zs ?_;refine AllReadyH.cons rfl (fun K B=>?_) AllReadyH.nil;refine Lib.wp_append_run _ (.tmp 75) (.tmp 77) _ _ rfl _ _ rfl rfl _ _ V.out ?_;refine B.out _ _ (D.o _ H.out.bel) (fun hHeld=>?_);clear B K;refine Xx 6 ?_;refine wpAnyH_done Zk ?_ _;go_wp2;go_ret;rw[HR.o];exact⟨za,zc,by rw[af,aI,<-N.o]; rfl,H.out.gin,H.out.cap,C.o.trans (H.out.bel.mono C.o.size)⟩
   ·refine AllReadyH.cons rfl (fun K B=>?_) AllReadyH.nil;go_simp;refine B.out _ _ (D.o _ (G.o.alloc G.o.size _)) (fun hHeld=>?_);clear B K;refine wpAnyH_ready (rs:=[2]) Zk Zs ?_;refine AllReadyH.cons rfl (fun K B=>?_) AllReadyH.nil;refine Lib.wp_append_run _ (.tmp 73) (.tmp 74) _ _ rfl _ _ rfl rfl _ _ X.out ?_;refine B.out _ _ (D.o _ A6.o) (fun hHeld=>?_);clear B K;refine wpAnyH_ready (rs:=[5]) Zk Zs ?_;refine AllReadyH.cons rfl (fun K B=>?_) AllReadyH.nil;refine Lib.wp_append_run _ (.tmp 75) (.tmp 77) _ _ rfl _ _ rfl rfl _ _ Y.out ?_;refine B.out _ _ (D.o _ I.out.bel) (fun hHeld=>?_);clear B K;refine Xx 6 ?_;refine wpAnyH_done Zk ?_ _;go_wp2;go_ret;rw[HR.o];exact⟨ya,yc,by rw[af,aI,<-N.o]; rfl,I.out.gin,I.out.cap,C.o.trans (I.out.bel.mono C.o.size)⟩
  ·refine AllReadyH.cons rfl (fun K B=>?_) AllReadyH.nil;go_simp;refine B.out _ _ (D.o _ E.o) (fun hHeld=>?_);clear B K;refine wpAnyH_ready (rs:=[0]) Zk Zs ?_;refine AllReadyH.cons rfl (fun K B=>?_) AllReadyH.nil;go_simp;refine B.out _ _ (D.o _ (E.o.alloc E.o.size _)) (fun hHeld=>?_);clear B K;refine wpAnyH_ready (rs:=[2]) Zk Zs ?_;refine AllReadyH.cons rfl (fun K B=>?_) AllReadyH.nil;refine Lib.wp_append_run _ (.tmp 73) (.tmp 74) _ _ rfl _ _ rfl rfl _ _ Z.out ?_;refine B.out _ _ (D.o _ A7.o) (fun hHeld=>?_);clear B K;refine wpAnyH_ready (rs:=[5]) Zk Zs ?_;refine AllReadyH.cons rfl (fun K B=>?_) AllReadyH.nil;refine Lib.wp_append_run _ (.tmp 75) (.tmp 77) _ _ rfl _ _ rfl rfl _ _ A0.out ?_;refine B.out _ _ (D.o _ J.out.bel) (fun hHeld=>?_);clear B K;refine Xx 6 ?_;refine wpAnyH_done Zk ?_ _;go_wp2;go_ret;rw[HR.o];exact⟨ta,tc,by rw[af,aI,<-N.o]; rfl,J.out.gin,J.out.cap,C.o.trans (J.out.bel.mono C.o.size)⟩
 ·obtain⟨y,l',rfl⟩:∃y l',l=l'++[y]:=by
   rcases iI l with rfl | ⟨l',y,rfl⟩
   ·exact absurd rfl h0
   ·exact⟨y,l',Zs⟩
  obtain⟨n,T⟩:=Qe l'.length;have A3:(l'++[y]).length=n+1:=by rw[af,aI,T]
  have E4:=B2 y Zs;obtain⟨b0,B9,rfl,E8,q0,q1,q2⟩:=xX C3.o (k:=n) Zo;rw[qK Zo] at q0 q1 q2;simp only[<-T,Nat.sub_self,aS] at q0 q1 q2;obtain⟨w1,L⟩:=Qe (w0.alloc (.cells (jm y).toArray 246));have O:PM w0 w1:=L▸(bf _).alloc nr _;have C9:Qg (BK (w.heap.size+1) (jm y).toArray 246 w1):=Qf (by rw[L,<-B4]; exact BK.new _ _ _);obtain⟨D6,D5,C8⟩:=Yk (C5.o.below O) (C2.o.trans (O.mono C2.o.size)) (C3.o.ahead O);obtain⟨yo,yl,yd⟩:=y;simp only[jm] at q0 q1 q2 L C9;simp only at E4;rw[A3] at hc hn ⊢;have Q:(l'++[(⟨yo,yl,yd⟩:Dop)]).getLast? = some ⟨yo,yl,yd⟩:=Zs;have B1:(l'++[(⟨yo,yl,yd⟩:Dop)]).dropLast=l':=Zs;have E7:=Qf T;have D2:IntKind.i64.wrap (((n+1:Nat):Int)-1)=(n:Int):=by rw[ZV]; omega
  have D0:(0:Int)<((n+1:Nat):Int):=Zo;have E1:(n:Int)<((n+1:Nat):Int):=Zo;obtain⟨m,hm⟩:=Qe (n+1);rw[<-hm] at hc hn D2 D0 E1 ⊢;have HM:=Qf hm;obtain⟨A1,c1,B5,F0⟩:=oslice_hi (some ⟨b0,B9,none⟩) m c n Zo;have E9:(n:Int)<=(c:Int):=Zo;have R:GIn jm 3 w1.drew.heap.size w1.drew A1 l':=by
   have h:=B5 _ _ _ C8.o
   rwa[List.take_left' T.symm] at h
  have C:=Qf D5.o.drew;have D:Qg (∀W,Below w1.drew.heap.size w1.drew W->W.cell? w=some (Yi (xo:Int))/\W.cell? ⟨w.heap.size,1,none⟩=some (Yi (xl:Int))/\W.cell? ⟨w.heap.size,2,none⟩=some (.string ⟨xd.toArray⟩)/\W.cell? ⟨w.heap.size+1,0,none⟩=some (Yi (yo:Int))/\W.cell? ⟨w.heap.size+1,1,none⟩=some (Yi (yl:Int))/\W.cell? ⟨w.heap.size+1,2,none⟩=some (.string ⟨yd.toArray⟩)):=Qf (fun W hW=>by
   have h:=D6.o.below (show PM w1 W from((bf w1).drew).trans hW);have h':=C9.o.below (show PM w1 W from((bf w1).drew).trans hW);exact⟨Zw h.cell,Zw h.cell,Zw h.cell,Zw h'.cell,Zw h'.cell,Zw h'.cell⟩)
  have B3:=D.o w1.drew (bf _);have D9:w1.cell? w=some (Yi (xo:Int))/\w1.cell? ⟨w.heap.size,1,none⟩=some (Yi (xl:Int))/\w1.cell? ⟨w.heap.size,2,none⟩=some (.string ⟨xd.toArray⟩)/\w1.cell? ⟨w.heap.size+1,0,none⟩=some (Yi (yo:Int))/\w1.cell? ⟨w.heap.size+1,1,none⟩=some (Yi (yl:Int))/\w1.cell? ⟨w.heap.size+1,2,none⟩=some (.string ⟨yd.toArray⟩):=D.o w1 (by exact⟨rfl,rfl,rfl,nr,fun _ _=>rfl⟩);obtain⟨p0,p1,p2,r0,r1,r2⟩:=D9;have N:Qg (n=l'.length):=Qf T;have C4:Qg (GIn jm 3 w1.drew.heap.size w1.drew (some ⟨b0,B9,none⟩) (l'++[(⟨yo,yl,yd⟩:Dop)])):=C8;have B6:((n:Nat):Int)<=900000:=Zo;have C7:((m:Nat):Int)<=900000:=Zo;have B7:Qg (m=(l'++[(⟨yo,yl,yd⟩:Dop)]).length):=Qf (by rw[A3,hm]);by_cases A4:xl=0/\yl=0
  ·have D8:=A4;obtain⟨rfl,rfl⟩:=A4;have HR:Qg (Ko (l'++[(⟨yo,0,yd⟩:Dop)]) ⟨xo,0,xd⟩=l'++[⟨0,0,yd++xd⟩]):=Qf (by unfold Ko; rw[Q,B1]; simp only; simp);obtain⟨D7,z1,za,zc,z3,U,V,H,O⟩:=opT1 (u:=w1.drew) (A1:=A1) (c1:=c1) ⟨0,0,yd++xd⟩ R T B6;obtain⟨D4,y1,ya,yc,y3,X,Y,I,A9⟩:=opT2 (u:=w1.drew) (A1:=A1) (c1:=c1) ⟨0,0,yd++xd⟩ R T B6;obtain⟨C6,t1,ta,tc,t3,Z,A0,J,B0⟩:=opT3 (u:=w1.drew) (A1:=A1) (c1:=c1) ⟨0,0,yd++xd⟩ R T B6;obtain⟨M,A6,A7⟩:=Yk O A9 B0;have G:Below w1.drew.heap.size w1.drew (w1.drew.alloc (.cells #[] 246)):=(bf _).alloc nr _;have E:Below w1.drew.heap.size w1.drew (w1.drew.alloc (.cells (jm ⟨0,0,yd++xd⟩).toArray 246)):=(bf _).alloc nr _;obtain⟨G,E⟩:=Yj G E;have E6:∀W,(Op.stringOp .add ⟨yd.toArray⟩ ⟨xd.toArray⟩).run prog W=.ok (.string ⟨(yd++xd).toArray⟩) W:=fun W=>(run_string_add_sum (P:=prog) (w:=W) ⟨yd.toArray⟩ ⟨xd.toArray⟩ (by rw[bH,bH]; omega)).trans (by rw[Bt])
   replace F:w0=w.alloc (.cells #[Yi (xo:Int),Yi 0,xd] 246):=F;replace L:w1=w0.alloc (.cells #[Yi (yo:Int),Yi 0,yd] 246):=L;replace p1:w1.cell? ⟨w.heap.size,1,none⟩=some (Yi 0):=p1;replace r1:w1.cell? ⟨w.heap.size+1,1,none⟩=some (Yi 0):=r1;replace q1:w0.cell? ⟨b0,B9+n*3+1,none⟩=some (Yi 0):=q1;simp only[jm] at U V X Y Z A0 E ⊢;obtain⟨A2,A5⟩:=Yj F L;rw[L,F] at p0 p1 p2 r0 r1 r2;rw[F] at q0 q1 q2;clear F L A8 hl O B4 Q B1 T hm A3 B2 h0 R B5;go_enter func229,ntmps229;go_wp2_with fail;rw[<-A2.o,<-A5.o];clear p0 p1 p2 r0 r1 r2 q0 q1 q2;refine wp_region_held_drew (S:=(fun W=>W.cell? w=some (Yi (xo:Int))/\W.cell? ⟨w.heap.size,1,none⟩=some (Yi 0)/\W.cell? ⟨w.heap.size,2,none⟩=some (.string ⟨xd.toArray⟩)/\W.cell? ⟨w.heap.size+1,0,none⟩=some (Yi (yo:Int))/\W.cell? ⟨w.heap.size+1,1,none⟩=some (Yi 0)/\W.cell? ⟨w.heap.size+1,2,none⟩=some (.string ⟨yd.toArray⟩))) Zk B3 (fun hHeld=>?_);refine Xx 1 ?_;refine Xx 2 ?_;refine Xx 3 ?_;refine Xx 4 ?_;refine Xx 5 ?_;refine Xx 7 ?_;refine Xx 8 ?_;refine Xx 9 ?_;refine Xx 10 ?_;refine Xx 11 ?_;refine Xx 12 ?_;refine wpAnyH_ready (rs:=[0,13]) Zk Zs ?_;refine AllReadyH.cons rfl (fun K B=>?_) ?_
   ·go_simp;refine B.out _ _ (D.o _ G.o) (fun hHeld=>?_);clear B K;refine wpAnyH_ready (rs:=[6,13]) Zk Zs ?_;refine AllReadyH.cons rfl (fun K B=>?_) ?_
    ·refine Lib.wp_append_run _ (.tmp 23) (.tmp 28) _ _ rfl _ _ rfl rfl _ _ U.out ?_;refine B.out _ _ (D.o _ M.o) (fun hHeld=>?_);clear B K;refine wpAnyH_ready (rs:=[13]) Zk Zs ?_;refine AllReadyH.cons rfl (fun K B=>?_) AllReadyH.nil;go_simp;refine B.out _ _ (D.o _ (M.o.alloc M.o.size _)) (fun hHeld=>?_);clear B K;refine wpAnyH_ready (rs:=[14]) Zk Zs ?_;refine AllReadyH.cons rfl (fun K B=>?_) AllReadyH.nil;refine Lib.wp_append_run _ (.tmp 29) (.tmp 36) _ _ rfl _ _ rfl rfl _ _ V.out ?_;refine B.out _ _ (D.o _ H.out.bel) (fun hHeld=>?_);clear B K;refine Xx 15 ?_;refine wpAnyH_done Zk ?_ _;go_wp2;go_ret;rw[HR.o];exact⟨za,zc,by rw[af,aI,<-N.o]; rfl,H.out.gin,H.out.cap,C.o.trans (H.out.bel.mono C.o.size)⟩
    ·refine AllReadyH.cons rfl (fun K B=>?_) AllReadyH.nil;go_simp;refine B.out _ _ (D.o _ (G.o.alloc G.o.size _)) (fun hHeld=>?_);clear B K;refine wpAnyH_ready (rs:=[6]) Zk Zs ?_;refine AllReadyH.cons rfl (fun K B=>?_) AllReadyH.nil;refine Lib.wp_append_run _ (.tmp 23) (.tmp 28) _ _ rfl _ _ rfl rfl _ _ X.out ?_;refine B.out _ _ (D.o _ A6.o) (fun hHeld=>?_);clear B K;refine wpAnyH_ready (rs:=[14]) Zk Zs ?_;refine AllReadyH.cons rfl (fun K B=>?_) AllReadyH.nil;refine Lib.wp_append_run _ (.tmp 29) (.tmp 36) _ _ rfl _ _ rfl rfl _ _ Y.out ?_;refine B.out _ _ (D.o _ I.out.bel) (fun hHeld=>?_);clear B K;refine Xx 15 ?_;refine wpAnyH_done Zk ?_ _;go_wp2;go_ret;rw[HR.o];exact⟨ya,yc,by rw[af,aI,<-N.o]; rfl,I.out.gin,I.out.cap,C.o.trans (I.out.bel.mono C.o.size)⟩
   ·refine AllReadyH.cons rfl (fun K B=>?_) AllReadyH.nil;go_simp;refine B.out _ _ (D.o _ E.o) (fun hHeld=>?_);clear B K;refine wpAnyH_ready (rs:=[0]) Zk Zs ?_;refine AllReadyH.cons rfl (fun K B=>?_) AllReadyH.nil;go_simp;refine B.out _ _ (D.o _ (E.o.alloc E.o.size _)) (fun hHeld=>?_);clear B K;refine wpAnyH_ready (rs:=[6]) Zk Zs ?_;refine AllReadyH.cons rfl (fun K B=>?_) AllReadyH.nil;refine Lib.wp_append_run _ (.tmp 23) (.tmp 28) _ _ rfl _ _ rfl rfl _ _ Z.out ?_;refine B.out _ _ (D.o _ A7.o) (fun hHeld=>?_);clear B K;refine wpAnyH_ready (rs:=[14]) Zk Zs ?_;refine AllReadyH.cons rfl (fun K B=>?_) AllReadyH.nil;refine Lib.wp_append_run _ (.tmp 29) (.tmp 36) _ _ rfl _ _ rfl rfl _ _ A0.out ?_;refine B.out _ _ (D.o _ J.out.bel) (fun hHeld=>?_);clear B K;refine Xx 15 ?_;refine wpAnyH_done Zk ?_ _;go_wp2;go_ret;rw[HR.o];exact⟨ta,tc,by rw[af,aI,<-N.o]; rfl,J.out.gin,J.out.cap,C.o.trans (J.out.bel.mono C.o.size)⟩
  ·by_cases C0:0<xl/\0<yl/\yo+yl=xo
   ·obtain⟨g1,g2,g3⟩:=C0;obtain⟨s2,C1⟩:=Qe (yl+xl);have HR:Qg (Ko (l'++[(⟨yo,yl,yd⟩:Dop)]) ⟨xo,xl,xd⟩=l'++[⟨yo,s2,[]⟩]):=Qf (by unfold Ko; rw[Q,B1]; simp only; rw[if_neg Zo,if_pos ⟨g1,g2,g3⟩,C1]);obtain⟨D7,z1,za,zc,z3,U,V,H,O⟩:=opT1 (u:=w1.drew) (A1:=A1) (c1:=c1) ⟨yo,s2,[]⟩ R T B6;obtain⟨D4,y1,ya,yc,y3,X,Y,I,A9⟩:=opT2 (u:=w1.drew) (A1:=A1) (c1:=c1) ⟨yo,s2,[]⟩ R T B6;obtain⟨C6,t1,ta,tc,t3,Z,A0,J,B0⟩:=opT3 (u:=w1.drew) (A1:=A1) (c1:=c1) ⟨yo,s2,[]⟩ R T B6;obtain⟨M,A6,A7⟩:=Yk O A9 B0;have G:Below w1.drew.heap.size w1.drew (w1.drew.alloc (.cells #[] 246)):=(bf _).alloc nr _;have E:Below w1.drew.heap.size w1.drew (w1.drew.alloc (.cells (jm ⟨yo,s2,[]⟩).toArray 246)):=(bf _).alloc nr _;obtain⟨G,E⟩:=Yj G E;have E2:IntKind.i64.wrap ((yo:Int)+(yl:Int))=(xo:Int):=by rw[ZV]; omega
    have F3:IntKind.i64.wrap ((yl:Int)+(xl:Int))=(s2:Int):=by rw[ZV]; omega
    have F4:¬xl=0:=Zo;have F5:((xl:Int)==0)=false:=Zt;have E3:(0:Int)<(xl:Int):=Zo;have E5:(0:Int)<(yl:Int):=Zo;simp only[jm] at U V X Y Z A0 E ⊢;clear C1;obtain⟨A2,A5⟩:=Yj F L;rw[L,F] at p0 p1 p2 r0 r1 r2;rw[F] at q0 q1 q2;clear F L A8 hl O B4 Q B1 T hm A3 B2 h0 R B5;go_enter func229,ntmps229;go_wp2_with fail;rw[<-A2.o,<-A5.o];clear p0 p1 p2 r0 r1 r2 q0 q1 q2;refine wp_region_held_drew (S:=(fun W=>W.cell? w=some (Yi (xo:Int))/\W.cell? ⟨w.heap.size,1,none⟩=some (Yi (xl:Int))/\W.cell? ⟨w.heap.size,2,none⟩=some (.string ⟨xd.toArray⟩)/\W.cell? ⟨w.heap.size+1,0,none⟩=some (Yi (yo:Int))/\W.cell? ⟨w.heap.size+1,1,none⟩=some (Yi (yl:Int))/\W.cell? ⟨w.heap.size+1,2,none⟩=some (.string ⟨yd.toArray⟩))) Zk B3 (fun hHeld=>?_);refine Xx 1 ?_;refine Xx 2 ?_;refine Xx 3 ?_;refine Xx 4 ?_;refine Xx 5 ?_;refine Xx 7 ?_;refine Xx 8 ?_;refine Xx 9 ?_;refine Xx 10 ?_;refine Xx 11 ?_;refine Xx 12 ?_;refine Xx 13 ?_;refine Xx 14 ?_;refine wpAnyH_ready (rs:=[0,15]) Zk Zs ?_;refine AllReadyH.cons rfl (fun K B=>?_) ?_
    ·go_simp;refine B.out _ _ (D.o _ G.o) (fun hHeld=>?_);clear B K;refine wpAnyH_ready (rs:=[6,15]) Zk Zs ?_;refine AllReadyH.cons rfl (fun K B=>?_) ?_
     ·refine Lib.wp_append_run _ (.tmp 56) (.tmp 61) _ _ rfl _ _ rfl rfl _ _ U.out ?_;refine B.out _ _ (D.o _ M.o) (fun hHeld=>?_);clear B K;refine wpAnyH_ready (rs:=[15]) Zk Zs ?_;refine AllReadyH.cons rfl (fun K B=>?_) AllReadyH.nil;go_simp;refine B.out _ _ (D.o _ (M.o.alloc M.o.size _)) (fun hHeld=>?_);clear B K;refine wpAnyH_ready (rs:=[16]) Zk Zs ?_;refine AllReadyH.cons rfl (fun K B=>?_) AllReadyH.nil;refine Lib.wp_append_run _ (.tmp 62) (.tmp 71) _ _ rfl _ _ rfl rfl _ _ V.out ?_;refine B.out _ _ (D.o _ H.out.bel) (fun hHeld=>?_);clear B K;refine Xx 17 ?_;refine wpAnyH_done Zk ?_ _;go_wp2;go_ret;rw[HR.o];exact⟨za,zc,by rw[af,aI,<-N.o]; rfl,H.out.gin,H.out.cap,C.o.trans (H.out.bel.mono C.o.size)⟩
     ·refine AllReadyH.cons rfl (fun K B=>?_) AllReadyH.nil;go_simp;refine B.out _ _ (D.o _ (G.o.alloc G.o.size _)) (fun hHeld=>?_);clear B K;refine wpAnyH_ready (rs:=[6]) Zk Zs ?_;refine AllReadyH.cons rfl (fun K B=>?_) AllReadyH.nil;refine Lib.wp_append_run _ (.tmp 56) (.tmp 61) _ _ rfl _ _ rfl rfl _ _ X.out ?_;refine B.out _ _ (D.o _ A6.o) (fun hHeld=>?_);clear B K;refine wpAnyH_ready (rs:=[16]) Zk Zs ?_;refine AllReadyH.cons rfl (fun K B=>?_) AllReadyH.nil;refine Lib.wp_append_run _ (.tmp 62) (.tmp 71) _ _ rfl _ _ rfl rfl _ _ Y.out ?_;refine B.out _ _ (D.o _ I.out.bel) (fun hHeld=>?_);clear B K;refine Xx 17 ?_;refine wpAnyH_done Zk ?_ _;go_wp2;go_ret;rw[HR.o];exact⟨ya,yc,by rw[af,aI,<-N.o]; rfl,I.out.gin,I.out.cap,C.o.trans (I.out.bel.mono C.o.size)⟩
    ·refine AllReadyH.cons rfl (fun K B=>?_) AllReadyH.nil;go_simp;refine B.out _ _ (D.o _ E.o) (fun hHeld=>?_);clear B K;refine wpAnyH_ready (rs:=[0]) Zk Zs ?_;refine AllReadyH.cons rfl (fun K B=>?_) AllReadyH.nil;go_simp;refine B.out _ _ (D.o _ (E.o.alloc E.o.size _)) (fun hHeld=>?_);clear B K;refine wpAnyH_ready (rs:=[6]) Zk Zs ?_;refine AllReadyH.cons rfl (fun K B=>?_) AllReadyH.nil;refine Lib.wp_append_run _ (.tmp 56) (.tmp 61) _ _ rfl _ _ rfl rfl _ _ Z.out ?_;refine B.out _ _ (D.o _ A7.o) (fun hHeld=>?_);clear B K;refine wpAnyH_ready (rs:=[16]) Zk Zs ?_;refine AllReadyH.cons rfl (fun K B=>?_) AllReadyH.nil;refine Lib.wp_append_run _ (.tmp 62) (.tmp 71) _ _ rfl _ _ rfl rfl _ _ A0.out ?_;refine B.out _ _ (D.o _ J.out.bel) (fun hHeld=>?_);clear B K;refine Xx 17 ?_;refine wpAnyH_done Zk ?_ _;go_wp2;go_ret;rw[HR.o];exact⟨ta,tc,by rw[af,aI,<-N.o]; rfl,J.out.gin,J.out.cap,C.o.trans (J.out.bel.mono C.o.size)⟩
   ·have HR:Qg (Ko (l'++[(⟨yo,yl,yd⟩:Dop)]) ⟨xo,xl,xd⟩=(l'++[(⟨yo,yl,yd⟩:Dop)])++[⟨xo,xl,xd⟩]):=Qf (by unfold Ko; rw[Q]; simp only; rw[if_neg A4,if_neg C0]);have N:=B7;obtain⟨D7,z1,za,zc,z3,U,V,H,O⟩:=opT1 (u:=w1.drew) (A1:=(some ⟨b0,B9,none⟩)) (c1:=c) ⟨xo,xl,xd⟩ C4.o B7.o C7;obtain⟨D4,y1,ya,yc,y3,X,Y,I,A9⟩:=opT2 (u:=w1.drew) (A1:=(some ⟨b0,B9,none⟩)) (c1:=c) ⟨xo,xl,xd⟩ C4.o B7.o C7;obtain⟨C6,t1,ta,tc,t3,Z,A0,J,B0⟩:=opT3 (u:=w1.drew) (A1:=(some ⟨b0,B9,none⟩)) (c1:=c) ⟨xo,xl,xd⟩ C4.o B7.o C7;obtain⟨M,A6,A7⟩:=Yk O A9 B0;have G:Below w1.drew.heap.size w1.drew (w1.drew.alloc (.cells #[] 246)):=(bf _).alloc nr _;have E:Below w1.drew.heap.size w1.drew (w1.drew.alloc (.cells (jm ⟨xo,xl,xd⟩).toArray 246)):=(bf _).alloc nr _;obtain⟨G,E⟩:=Yj G E;simp only[jm] at U V X Y Z A0 E ⊢;by_cases e1:xl=0
    ·have e2:¬yl=0:=fun h=>A4 ⟨e1,h⟩
     have e3:((yl:Int)==0)=false:=Zt;clear A4 C0;subst e1;replace F:w0=w.alloc (.cells #[Yi (xo:Int),Yi 0,xd] 246):=F;replace p1:w1.cell? ⟨w.heap.size,1,none⟩=some (Yi 0):=p1;obtain⟨A2,A5⟩:=Yj F L;rw[L,F] at p0 p1 p2 r0 r1 r2;rw[F] at q0 q1 q2;clear F L A8 hl O B4 Q B1 T hm A3 B2 h0 R B5;go_enter func229,ntmps229;go_wp2_with fail;rw[<-A2.o,<-A5.o];clear p0 p1 p2 r0 r1 r2 q0 q1 q2;refine wp_region_held_drew (S:=(fun W=>W.cell? w=some (Yi (xo:Int))/\W.cell? ⟨w.heap.size,1,none⟩=some (Yi 0)/\W.cell? ⟨w.heap.size,2,none⟩=some (.string ⟨xd.toArray⟩)/\W.cell? ⟨w.heap.size+1,0,none⟩=some (Yi (yo:Int))/\W.cell? ⟨w.heap.size+1,1,none⟩=some (Yi (yl:Int))/\W.cell? ⟨w.heap.size+1,2,none⟩=some (.string ⟨yd.toArray⟩))) Zk B3 (fun hHeld=>?_);refine Xx 1 ?_;refine Xx 3 ?_;refine wpAnyH_ready (rs:=[0,4]) Zk Zs ?_;refine AllReadyH.cons rfl (fun K B=>?_) ?_
     ·go_simp;refine B.out _ _ (D.o _ G.o) (fun hHeld=>?_);clear B K;refine wpAnyH_ready (rs:=[2,4]) Zk Zs ?_;refine AllReadyH.cons rfl (fun K B=>?_) ?_
      ·refine Lib.wp_append_run _ (.tmp 73) (.tmp 74) _ _ rfl _ _ rfl rfl _ _ U.out ?_;refine B.out _ _ (D.o _ M.o) (fun hHeld=>?_);clear B K;refine wpAnyH_ready (rs:=[4]) Zk Zs ?_;refine AllReadyH.cons rfl (fun K B=>?_) AllReadyH.nil;go_simp;refine B.out _ _ (D.o _ (M.o.alloc M.o.size _)) (fun hHeld=>?_);clear B K;refine wpAnyH_ready (rs:=[5]) Zk Zs ?_;refine AllReadyH.cons rfl (fun K B=>?_) AllReadyH.nil;refine Lib.wp_append_run _ (.tmp 75) (.tmp 77) _ _ rfl _ _ rfl rfl _ _ V.out ?_;refine B.out _ _ (D.o _ H.out.bel) (fun hHeld=>?_);clear B K;refine Xx 6 ?_;refine wpAnyH_done Zk ?_ _;go_wp2;go_ret;rw[HR.o];exact⟨za,zc,by rw[af,aI,<-N.o]; rfl,H.out.gin,H.out.cap,C.o.trans (H.out.bel.mono C.o.size)⟩
      ·refine AllReadyH.cons rfl (fun K B=>?_) AllReadyH.nil;go_simp;refine B.out _ _ (D.o _ (G.o.alloc G.o.size _)) (fun hHeld=>?_);clear B K;refine wpAnyH_ready (rs:=[2]) Zk Zs ?_;refine AllReadyH.cons rfl (fun K B=>?_) AllReadyH.nil;refine Lib.wp_append_run _ (.tmp 73) (.tmp 74) _ _ rfl _ _ rfl rfl _ _ X.out ?_;refine B.out _ _ (D.o _ A6.o) (fun hHeld=>?_);clear B K;refine wpAnyH_ready (rs:=[5]) Zk Zs ?_;refine AllReadyH.cons rfl (fun K B=>?_) AllReadyH.nil;refine Lib.wp_append_run _ (.tmp 75) (.tmp 77) _ _ rfl _ _ rfl rfl _ _ Y.out ?_;refine B.out _ _ (D.o _ I.out.bel) (fun hHeld=>?_);clear B K;refine Xx 6 ?_;refine wpAnyH_done Zk ?_ _;go_wp2;go_ret;rw[HR.o];exact⟨ya,yc,by rw[af,aI,<-N.o]; rfl,I.out.gin,I.out.cap,C.o.trans (I.out.bel.mono C.o.size)⟩
     ·refine AllReadyH.cons rfl (fun K B=>?_) AllReadyH.nil;go_simp;refine B.out _ _ (D.o _ E.o) (fun hHeld=>?_);clear B K;refine wpAnyH_ready (rs:=[0]) Zk Zs ?_;refine AllReadyH.cons rfl (fun K B=>?_) AllReadyH.nil;go_simp;refine B.out _ _ (D.o _ (E.o.alloc E.o.size _)) (fun hHeld=>?_);clear B K;refine wpAnyH_ready (rs:=[2]) Zk Zs ?_;refine AllReadyH.cons rfl (fun K B=>?_) AllReadyH.nil;refine Lib.wp_append_run _ (.tmp 73) (.tmp 74) _ _ rfl _ _ rfl rfl _ _ Z.out ?_;refine B.out _ _ (D.o _ A7.o) (fun hHeld=>?_);clear B K;refine wpAnyH_ready (rs:=[5]) Zk Zs ?_;refine AllReadyH.cons rfl (fun K B=>?_) AllReadyH.nil;refine Lib.wp_append_run _ (.tmp 75) (.tmp 77) _ _ rfl _ _ rfl rfl _ _ A0.out ?_;refine B.out _ _ (D.o _ J.out.bel) (fun hHeld=>?_);clear B K;refine Xx 6 ?_;refine wpAnyH_done Zk ?_ _;go_wp2;go_ret;rw[HR.o];exact⟨ta,tc,by rw[af,aI,<-N.o]; rfl,J.out.gin,J.out.cap,C.o.trans (J.out.bel.mono C.o.size)⟩
    ·have e2:((xl:Int)==0)=false:=Zt;have E3:(0:Int)<(xl:Int):=Zo;by_cases e4:yl=0
     ·clear A4 C0;subst e4;replace L:w1=w0.alloc (.cells #[Yi (yo:Int),Yi 0,yd] 246):=L;replace r1:w1.cell? ⟨w.heap.size+1,1,none⟩=some (Yi 0):=r1;replace q1:w0.cell? ⟨b0,B9+n*3+1,none⟩=some (Yi 0):=q1;obtain⟨A2,A5⟩:=Yj F L;rw[L,F] at p0 p1 p2 r0 r1 r2;rw[F] at q0 q1 q2;clear F L A8 hl O B4 Q B1 T hm A3 B2 h0 R B5;go_enter func229,ntmps229;go_wp2_with fail;rw[<-A2.o,<-A5.o];clear p0 p1 p2 r0 r1 r2 q0 q1 q2;refine wp_region_held_drew (S:=(fun W=>W.cell? w=some (Yi (xo:Int))/\W.cell? ⟨w.heap.size,1,none⟩=some (Yi (xl:Int))/\W.cell? ⟨w.heap.size,2,none⟩=some (.string ⟨xd.toArray⟩)/\W.cell? ⟨w.heap.size+1,0,none⟩=some (Yi (yo:Int))/\W.cell? ⟨w.heap.size+1,1,none⟩=some (Yi 0)/\W.cell? ⟨w.heap.size+1,2,none⟩=some (.string ⟨yd.toArray⟩))) Zk B3 (fun hHeld=>?_);refine Xx 1 ?_;refine Xx 3 ?_;refine wpAnyH_ready (rs:=[0,4]) Zk Zs ?_;refine AllReadyH.cons rfl (fun K B=>?_) ?_
      ·go_simp;refine B.out _ _ (D.o _ G.o) (fun hHeld=>?_);clear B K;refine wpAnyH_ready (rs:=[2,4]) Zk Zs ?_;refine AllReadyH.cons rfl (fun K B=>?_) ?_
       ·refine Lib.wp_append_run _ (.tmp 73) (.tmp 74) _ _ rfl _ _ rfl rfl _ _ U.out ?_;refine B.out _ _ (D.o _ M.o) (fun hHeld=>?_);clear B K;refine wpAnyH_ready (rs:=[4]) Zk Zs ?_;refine AllReadyH.cons rfl (fun K B=>?_) AllReadyH.nil;go_simp;refine B.out _ _ (D.o _ (M.o.alloc M.o.size _)) (fun hHeld=>?_);clear B K;refine wpAnyH_ready (rs:=[5]) Zk Zs ?_;refine AllReadyH.cons rfl (fun K B=>?_) AllReadyH.nil;refine Lib.wp_append_run _ (.tmp 75) (.tmp 77) _ _ rfl _ _ rfl rfl _ _ V.out ?_;refine B.out _ _ (D.o _ H.out.bel) (fun hHeld=>?_);clear B K;refine Xx 6 ?_;refine wpAnyH_done Zk ?_ _;go_wp2;go_ret;rw[HR.o];exact⟨za,zc,by rw[af,aI,<-N.o]; rfl,H.out.gin,H.out.cap,C.o.trans (H.out.bel.mono C.o.size)⟩
       ·refine AllReadyH.cons rfl (fun K B=>?_) AllReadyH.nil;go_simp;refine B.out _ _ (D.o _ (G.o.alloc G.o.size _)) (fun hHeld=>?_);clear B K;refine wpAnyH_ready (rs:=[2]) Zk Zs ?_;refine AllReadyH.cons rfl (fun K B=>?_) AllReadyH.nil;refine Lib.wp_append_run _ (.tmp 73) (.tmp 74) _ _ rfl _ _ rfl rfl _ _ X.out ?_;refine B.out _ _ (D.o _ A6.o) (fun hHeld=>?_);clear B K;refine wpAnyH_ready (rs:=[5]) Zk Zs ?_;refine AllReadyH.cons rfl (fun K B=>?_) AllReadyH.nil;refine Lib.wp_append_run _ (.tmp 75) (.tmp 77) _ _ rfl _ _ rfl rfl _ _ Y.out ?_;refine B.out _ _ (D.o _ I.out.bel) (fun hHeld=>?_);clear B K;refine Xx 6 ?_;refine wpAnyH_done Zk ?_ _;go_wp2;go_ret;rw[HR.o];exact⟨ya,yc,by rw[af,aI,<-N.o]; rfl,I.out.gin,I.out.cap,C.o.trans (I.out.bel.mono C.o.size)⟩
      ·refine AllReadyH.cons rfl (fun K B=>?_) AllReadyH.nil;go_simp;refine B.out _ _ (D.o _ E.o) (fun hHeld=>?_);clear B K;refine wpAnyH_ready (rs:=[0]) Zk Zs ?_;refine AllReadyH.cons rfl (fun K B=>?_) AllReadyH.nil;go_simp;refine B.out _ _ (D.o _ (E.o.alloc E.o.size _)) (fun hHeld=>?_);clear B K;refine wpAnyH_ready (rs:=[2]) Zk Zs ?_;refine AllReadyH.cons rfl (fun K B=>?_) AllReadyH.nil;refine Lib.wp_append_run _ (.tmp 73) (.tmp 74) _ _ rfl _ _ rfl rfl _ _ Z.out ?_;refine B.out _ _ (D.o _ A7.o) (fun hHeld=>?_);clear B K;refine wpAnyH_ready (rs:=[5]) Zk Zs ?_;refine AllReadyH.cons rfl (fun K B=>?_) AllReadyH.nil;refine Lib.wp_append_run _ (.tmp 75) (.tmp 77) _ _ rfl _ _ rfl rfl _ _ A0.out ?_;refine B.out _ _ (D.o _ J.out.bel) (fun hHeld=>?_);clear B K;refine Xx 6 ?_;refine wpAnyH_done Zk ?_ _;go_wp2;go_ret;rw[HR.o];exact⟨ta,tc,by rw[af,aI,<-N.o]; rfl,J.out.gin,J.out.cap,C.o.trans (J.out.bel.mono C.o.size)⟩
     ·have E5:(0:Int)<(yl:Int):=Zo;obtain⟨s1,D1⟩:=Qe (yo+yl);have E2:IntKind.i64.wrap ((yo:Int)+(yl:Int))=(s1:Int):=by rw[ZV]; omega
      have F1:¬s1=xo:=fun h=>C0 ⟨Zo,Zo,Zo⟩
      have F2:((s1:Int)==(xo:Int))=false:=Zt;clear D1 A4 C0;obtain⟨A2,A5⟩:=Yj F L;rw[L,F] at p0 p1 p2 r0 r1 r2;rw[F] at q0 q1 q2;clear F L A8 hl O B4 Q B1 T hm A3 B2 h0 R B5;go_enter func229,ntmps229;go_wp2_with fail;rw[<-A2.o,<-A5.o];clear p0 p1 p2 r0 r1 r2 q0 q1 q2;refine wp_region_held_drew (S:=(fun W=>W.cell? w=some (Yi (xo:Int))/\W.cell? ⟨w.heap.size,1,none⟩=some (Yi (xl:Int))/\W.cell? ⟨w.heap.size,2,none⟩=some (.string ⟨xd.toArray⟩)/\W.cell? ⟨w.heap.size+1,0,none⟩=some (Yi (yo:Int))/\W.cell? ⟨w.heap.size+1,1,none⟩=some (Yi (yl:Int))/\W.cell? ⟨w.heap.size+1,2,none⟩=some (.string ⟨yd.toArray⟩))) Zk B3 (fun hHeld=>?_);refine Xx 1 ?_;refine Xx 3 ?_;refine wpAnyH_ready (rs:=[0,4]) Zk Zs ?_;refine AllReadyH.cons rfl (fun K B=>?_) ?_
      ·go_simp;refine B.out _ _ (D.o _ G.o) (fun hHeld=>?_);clear B K;refine wpAnyH_ready (rs:=[2,4]) Zk Zs ?_;refine AllReadyH.cons rfl (fun K B=>?_) ?_
       ·refine Lib.wp_append_run _ (.tmp 73) (.tmp 74) _ _ rfl _ _ rfl rfl _ _ U.out ?_;refine B.out _ _ (D.o _ M.o) (fun hHeld=>?_);clear B K;refine wpAnyH_ready (rs:=[4]) Zk Zs ?_;refine AllReadyH.cons rfl (fun K B=>?_) AllReadyH.nil;go_simp;refine B.out _ _ (D.o _ (M.o.alloc M.o.size _)) (fun hHeld=>?_);clear B K;refine wpAnyH_ready (rs:=[5]) Zk Zs ?_;refine AllReadyH.cons rfl (fun K B=>?_) AllReadyH.nil;refine Lib.wp_append_run _ (.tmp 75) (.tmp 77) _ _ rfl _ _ rfl rfl _ _ V.out ?_;refine B.out _ _ (D.o _ H.out.bel) (fun hHeld=>?_);clear B K;refine Xx 6 ?_;refine wpAnyH_done Zk ?_ _;go_wp2;go_ret;rw[HR.o];exact⟨za,zc,by rw[af,aI,<-N.o]; rfl,H.out.gin,H.out.cap,C.o.trans (H.out.bel.mono C.o.size)⟩
       ·refine AllReadyH.cons rfl (fun K B=>?_) AllReadyH.nil;go_simp;refine B.out _ _ (D.o _ (G.o.alloc G.o.size _)) (fun hHeld=>?_);clear B K;refine wpAnyH_ready (rs:=[2]) Zk Zs ?_;refine AllReadyH.cons rfl (fun K B=>?_) AllReadyH.nil;refine Lib.wp_append_run _ (.tmp 73) (.tmp 74) _ _ rfl _ _ rfl rfl _ _ X.out ?_;refine B.out _ _ (D.o _ A6.o) (fun hHeld=>?_);clear B K;refine wpAnyH_ready (rs:=[5]) Zk Zs ?_;refine AllReadyH.cons rfl (fun K B=>?_) AllReadyH.nil;refine Lib.wp_append_run _ (.tmp 75) (.tmp 77) _ _ rfl _ _ rfl rfl _ _ Y.out ?_;refine B.out _ _ (D.o _ I.out.bel) (fun hHeld=>?_);clear B K;refine Xx 6 ?_;refine wpAnyH_done Zk ?_ _;go_wp2;go_ret;rw[HR.o];exact⟨ya,yc,by rw[af,aI,<-N.o]; rfl,I.out.gin,I.out.cap,C.o.trans (I.out.bel.mono C.o.size)⟩
      ·refine AllReadyH.cons rfl (fun K B=>?_) AllReadyH.nil;go_simp;refine B.out _ _ (D.o _ E.o) (fun hHeld=>?_);clear B K;refine wpAnyH_ready (rs:=[0]) Zk Zs ?_;refine AllReadyH.cons rfl (fun K B=>?_) AllReadyH.nil;go_simp;refine B.out _ _ (D.o _ (E.o.alloc E.o.size _)) (fun hHeld=>?_);clear B K;refine wpAnyH_ready (rs:=[2]) Zk Zs ?_;refine AllReadyH.cons rfl (fun K B=>?_) AllReadyH.nil;refine Lib.wp_append_run _ (.tmp 73) (.tmp 74) _ _ rfl _ _ rfl rfl _ _ Z.out ?_;refine B.out _ _ (D.o _ A7.o) (fun hHeld=>?_);clear B K;refine wpAnyH_ready (rs:=[5]) Zk Zs ?_;refine AllReadyH.cons rfl (fun K B=>?_) AllReadyH.nil;refine Lib.wp_append_run _ (.tmp 75) (.tmp 77) _ _ rfl _ _ rfl rfl _ _ A0.out ?_;refine B.out _ _ (D.o _ J.out.bel) (fun hHeld=>?_);clear B K;refine Xx 6 ?_;refine wpAnyH_done Zk ?_ _;go_wp2;go_ret;rw[HR.o];exact⟨ta,tc,by rw[af,aI,<-N.o]; rfl,J.out.gin,J.out.cap,C.o.trans (J.out.bel.mono C.o.size)⟩
theorem len_sum:∀{l:List Dop},(∀o∈l,mR o)->l.length<=(l.map bS).sum
 | [],_=>Zs
 | o::l,h=>by
  have g1:=len_sum (l:=l) (fun x A=>h x (Zj A));have g2:=sF (h o Zs);rw[az,eX,List.sum_cons];omega
structure DfSt (a b:Qb) (R:List Dop) (k:Nat) (l:List Dop):Prop where
 le:k<=b.length
 good:qJ a (b.take k) l
 go:∃f,b.length<=k+f/\uU a b f k l=R
theorem DfSt.start(a b:Qb):DfSt a b (iM a b) 0 []:=⟨Q6 _,qJ.nil a,b.length,Zo,rfl⟩
theorem DfSt.len(h:DfSt a b R k l):l.length<=k/\∀o∈l,o.len<=k/\o.off<=a.length/\o.data.length<=k:=by
 have hs:=h.good.sum;rw[aA,mM h.le] at hs;refine⟨Zh (len_sum h.good.fit),fun o A=>?_⟩;have C:=G9 A;have D:=Et (h.good.fit o A);have B:=h.good.inr o A;rcases h.good.fit o A with⟨g1,g2⟩ | ⟨g1,g2,g3⟩
 ·have:=B g1;have:bS o=o.len:=by unfold bS; rw[if_pos g1]
  omega
 ·omega
theorem DfSt.done(h:DfSt a b R k l)(B:¬k<b.length):l=R:=by
 obtain⟨f,_,A⟩:=h.go;cases f with
 | zero=>exact A
 | succ f=>rw[uU,if_neg B] at A; exact A
theorem next_size(E:k<b.length):k+bS (eH a b k)<=b.length/\1<=bS (eH a b k):=by
 obtain⟨A,B,C⟩:=zV (a:=a) E;refine⟨?_,sF A⟩;have D:=congrArg List.length C;rw[af,aA,aA,Cu A B] at D;omega
theorem DfSt.next(h:DfSt a b R k l)(A:k<b.length):DfSt a b R (k+bS (eH a b k)) (Ko l (eH a b k)):=by
 obtain⟨f,F,B⟩:=h.go;obtain⟨C,D,E⟩:=zV (a:=a) A;obtain⟨s1,s2⟩:=next_size (a:=a) A;refine⟨s1,?_,?_⟩
 ·rw[<-E]; exact h.good.add C D
 ·cases f with
  | zero=>omega
  | succ f=>
   rw[uU,if_pos A] at B;exact⟨f,Zo,B⟩
theorem rdiff04_any(a b:Qb)(w:World)(ha:a.length<=60000)(G:b.length<=60000):
  Qh 200 #[a,b] w (GotLd w (iM a b)):=by
 have HM:=Qf (fun i k W (hi:i<=a.length) (hk:k<=b.length)=>rmatch_any a b i k W hi hk Zo Zo);have C8:=bH a;have C9:=bH b;obtain⟨R,hR⟩:=Qe (iM a b);have A6:Qg (DfSt a b R 0 []):=Qf (hR▸DfSt.start a b);rw[<-hR];clear hR;obtain⟨na,A0⟩:=Qe a.length;obtain⟨nb,A1⟩:=Qe b.length;obtain⟨HA,HB⟩:=Yj A0 A1;rw[<-A0] at C8 ha;rw[<-A1] at C9 G;clear A0 A1;have A7:=Qf (Below.refl w.heap.size w);have D7:¬(65536:Int)<(na:Int):=Zo;have D8:¬(65536:Int)<(nb:Int):=Zo;go_enter func200,ntmps200;go_wp2;go_loopw [5,6] (fun o kk wr=>∃(k:Nat) (l:List Dop) (oa:Qa) (oc:Nat),o=.slice oa l.length oc/\kk=Yi (k:Int)/\Qg (DfSt a b R k l)/\Qg (GIn jm 3 wr.heap.size wr oa l/\l.length<=oc)/\Qg (PM w wr)) (fun _ kk _=>nb-(intOf kk).toNat)
 case atStart=>exact⟨0,[],none,0,rfl,rfl,A6,Qf ⟨GIn.nil _ _ _,nr⟩,A7⟩
 case round=>
  clear A6 A7;obtain⟨k,l,oa,oc,rfl,rfl,HS,HG,HW⟩:=hrel;obtain⟨nl,A2⟩:=Qe l.length;rw[<-A2];have A5:=Qf A2;clear A2;by_cases B2:k<nb
  ·have C6:(k:Int)<(nb:Int):=Zo;have B0:k<b.length:=HB.o▸B2;have Q:=Qf (HS.out.next B0);have O:=next_size (a:=a) B0;rw[<-HB.o] at O;have H:=ES a (b.drop k);rw[ah,<-HA.o,<-HB.o] at H;obtain⟨y,hy⟩:=Qe (b.drop k);have N:=Qf (fun i W (hi:i<=a.length)=>HM.o i k W hi Zo);rw[<-hy] at H N;obtain⟨HY,T⟩:=Yj hy (Below.refl wr.heap.size wr);generalize D1:wr=x0 at HG HW T ⊢;clear D1 hy;go_wp2;go_loopw [7,8,9] (fun p q i W'=>∃j:Nat,j<=na/\i=Yi (j:Int)/\p=Yi ((ja a y j).1:Int)/\q=Yi ((ja a y j).2:Int)/\Qg (PM x0 W')) (fun _ _ i _=>na-(intOf i).toNat)
   case atStart=>exact⟨0,Zo,rfl,rfl,rfl,T⟩
   case round=>
    clear T;obtain⟨j,hj,rfl,rfl,rfl,F⟩:=hrel;by_cases D9:j<na
    ·have C5:(j:Int)<(na:Int):=Zo;have C:=Qf (N.o j wr (by rw[<-HA.o]; omega));have D:Qg (ja a y (j+1)=if(ja a y j).2<lcp (a.drop j) y then(j,lcp (a.drop j) y) else ja a y j):=Qf rfl;have B1:=IA (a.drop j) y;rw[ah,<-HA.o] at B1;obtain⟨L,hL⟩:=Qe (lcp (a.drop j) y);rw[<-hL] at C D B1;obtain⟨⟨p,q⟩,K⟩:=Qe (ja a y j);rw[<-K] at D ⊢;simp only at D ⊢;clear hL K H;by_cases B3:q<L
     ·have C7:(q:Int)<(L:Int):=Zo;have I:Qg (ja a y (j+1)=(j,L)):=Qf (by rw[D.o,if_pos B3]);clear D;go_wp2_with fail;refine C.o.mono ?_;rintro e u ⟨rfl,G⟩;have U:=Qf (F.out.trans (G.mono F.out.size));clear G C;go_wp2;go_roundw
      case rel=>exact⟨j+1,Zo,Zg,Zx I.o,Zx I.o,U⟩
      case measure=>exact Yr
     ·have C7:¬(q:Int)<(L:Int):=Zo;have I:Qg (ja a y (j+1)=(p,q)):=Qf (by rw[D.o,if_neg B3]);clear D;go_wp2_with fail;refine C.o.mono ?_;rintro e u ⟨rfl,G⟩;have U:=Qf (F.out.trans (G.mono F.out.size));clear G C;go_wp2;go_roundw
      case rel=>exact⟨j+1,Zo,Zg,Zx I.o,Zx I.o,U⟩
      case measure=>exact Yr
    ·obtain rfl:j=na:=Zo;have C5:¬(j:Int)<(j:Int):=Zo;have X:=Qf (HG.out.1.ahead F.out);have S:=HS.out.len;have J:=Qf (fun(x:Dop) (hx:(x.len:Int)<=1000000/\(x.off:Int)<=1000000/\x.data.length<=1000000)=>radd04_any oa l oc x wr X.o HG.out.2 Zo hx (fun o ho=>by have:=S.2 o ho; rw[<-HA.o] at this; omega));have B:Qg (eH a b k=if 4<=(ja a y j).2 then⟨(ja a y j).1,(ja a y j).2,[]⟩ else⟨0,0,y.take 1⟩):=Qf (by unfold eH iD; rw[<-HY.o,<-HA.o]);have E:(ja a y j).2<=nb-k/\(ja a y j).1+(ja a y j).2<=j:=by
      unfold iD at H
      rwa[<-HA.o] at H
     have M:=Qf (HW.out.trans (F.out.mono HW.out.size));rw[<-A5.o] at J;obtain⟨⟨p,q⟩,K⟩:=Qe (ja a y j);rw[<-K] at B E ⊢;simp only at B E ⊢;clear K H S;by_cases h4:4<=q
     ·have C2:¬(q:Int)<4:=Zo;rw[if_pos h4] at B;have hs:bS (eH a b k)=q:=by rw[B.o]; unfold bS; rw[if_pos Zp]
      rw[hs] at Q O;have C:=Qf (J.o (eH a b k) (by rw[B.o]; simp only[aK]; omega));rw[B.o] at C Q;simp only[jm] at C;have B4:IntKind.i64.wrap ((k:Int)+(q:Int))=((k+q:Nat):Int):=by rw[ZV]; omega
      obtain⟨kq,Z⟩:=Qe (k+q);rw[<-Z] at Q B4 O;have B9:=Qf Z;clear hs Z J B N X HM E;go_wp2_with fail;refine C.o.mono ?_;rintro e u ⟨ra,rc,rfl,hg,hc,G⟩;obtain⟨V,Y⟩:=Yj (And.intro hg hc) (M.o.trans (G.mono M.o.size));clear hg hc G C;go_wp2;go_roundw
      case rel=>exact⟨kq,_,ra,rc,rfl,rfl,Q,V,Y⟩
      case measure=>simp[intOf] <;> (have:=B9.o; omega)
     ·have C2:(q:Int)<4:=Zo;rw[if_neg h4] at B;have D3:0<y.length:=by rw[HY.o,ah]; omega
      have hs:bS (eH a b k)=1:=by rw[B.o]; unfold bS; simp only; rw[if_neg Zo,aA]; omega
      rw[hs] at Q O;have C:=Qf (J.o (eH a b k) (by rw[B.o]; simp only; rw[aA]; omega));rw[B.o] at C Q;simp only[jm] at C;have B4:IntKind.i64.wrap ((k:Int)+1)=(k:Int)+1:=ZV;have D0:∀W,(Instr.slice 9 (.string ⟨b.toArray⟩) (some (Yi (k:Int))) (some (Yi ((k:Int)+1))) none).run prog W=.ok (.string ⟨(y.take 1).toArray⟩) W:=fun W=>by
       have h:=DD b k (k+1) Zo Zo W;rw[show((k+1:Nat):Int)=(k:Int)+1 by omega,show k+1-k=1 by omega,<-HY.o] at h;exact h
      clear hs J B N X HM E D3;generalize y.take 1=z at C Q D0;replace C:Qg (Qh 229 #[.slice oa nl oc,.agg #[Yi 0,Yi 0,z]] wr (GotLd wr (Ko l ⟨0,0,z⟩))):=C;go_wp2_with fail;refine C.o.mono ?_;rintro e u ⟨ra,rc,rfl,hg,hc,G⟩;obtain⟨V,Y⟩:=Yj (And.intro hg hc) (M.o.trans (G.mono M.o.size));clear hg hc G C;go_wp2;go_roundw
      case rel=>exact⟨k+1,_,ra,rc,rfl,Zg,Q,V,Y⟩
      case measure=>exact Yr
  ·have C6:¬(k:Int)<(nb:Int):=Zo;have HD:=Qf (HS.out.done (HB.o▸B2));clear HM;go_wp2;go_ret;rw[A5.o];refine⟨oa,oc,?_,?_,?_,HW.out⟩
   ·rw[HD.o]; rfl
   ·rw[<-HD.o]; exact HG.out.1
   ·rw[<-HD.o]; exact HG.out.2
theorem rnumw_any(n:Nat)(h:(n:Int)<=1099511627776)(w:World):Qh 156 #[Yi (n:Int)] w (Xz (.string ⟨(Cw.enc n).toArray⟩) w):=by
 have B:=Qf (rpi n h);generalize Cw.enc n=T at B;go_enter func156,ntmps156;go_wp2_with fail;refine(B.o _).mono ?_;rintro e u ⟨rfl,C⟩;go_wp2;go_ret;exact⟨rfl,C⟩
theorem putT_eq(h:T.length<=65536):(putT T).1=fF T:=by unfold putT fF; rw[if_pos h]
theorem rtextw_any(T:Qb)(h:T.length<=65536)(w:World):Qh 197 #[T] w (Xz (.string ⟨(fF T).toArray⟩) w):=by
 have B:=Qf (rpt T h);rw[putT_eq h] at B;generalize fF T=X at B;go_enter func197,ntmps197;go_wp2_with fail;refine(B.o _).mono ?_;rintro e u ⟨rfl,C⟩;go_wp2;go_ret;exact⟨rfl,C⟩
structure EwSt (xs:List Itm) (d:Dg) (cs:List Dg) (R:Qb) (i:Nat) (z:Int) (out:Qb):Prop where
 st:∃r,out=Ph xs d r/\Ph xs d (xS (fun c=>(txS xs d c).length) (cs.drop i) z.toNat r)=R
theorem EwSt.start(xs:List Itm)(d:Dg)(cs:List Dg):EwSt xs d cs (Ph xs d (QK xs d cs)) 0 (((fF (gL xs d)).length:Int)-16) (Ph xs d none):=
 ⟨none,rfl,by unfold QK; rw[List.drop_zero]; congr 2; omega⟩
theorem EwSt.next{d:Dg}{R:Qb}(h:EwSt xs d cs R i z out)(B:i<cs.length):
  (((txS xs d cs[i]).length:Int)<z->EwSt xs d cs R (i+1) ((txS xs d cs[i]).length:Int) (Ph xs d (some cs[i])))/\(¬((txS xs d cs[i]).length:Int)<z->EwSt xs d cs R (i+1) z out):=by
 obtain⟨r,rfl,A⟩:=h.st;rw[aN B,xS] at A;refine⟨fun C=>⟨some cs[i],rfl,?_⟩,fun C=>⟨r,rfl,?_⟩⟩
 ·rw[if_pos Zo] at A;rw[aj];exact A
 ·rw[if_neg Zo] at A;exact A
theorem EwSt.done{d:Dg}{R:Qb}(h:EwSt xs d cs R i z out)(B:cs.length<=i):out=R:=by
 obtain⟨r,rfl,A⟩:=h.st;rw[dV B,xS] at A;exact A
theorem entB_none(xs:List Itm)(d:Dg):Ph xs d none=beD d++Cw.enc 0++fF (gL xs d):=by unfold Ph; simp
theorem entB_some(xs:List Itm)(d c:Dg):Ph xs d (some c)=beD d++Cw.enc 1++beD c++txS xs d c:=by unfold Ph; simp
theorem saddK(A B:Qb)(h:A.length+B.length<=9000000)(W:World):(Op.stringOp .add ⟨A.toArray⟩ ⟨B.toArray⟩).run prog W=.ok (.string ⟨(A++B).toArray⟩) W:=
 (run_string_add_sum (P:=prog) (w:=W) ⟨A.toArray⟩ ⟨B.toArray⟩ (by rw[bH,bH]; omega)).trans (by rw[Bt])
theorem wrap_neg{x:Int}(A:-1000<=x)(B:x<=1000000):IntKind.i64.wrap x=x:=by
 simp[IntKind.wrap,IntKind.bits,IntKind.signed];omega
theorem okb{x y:Int}(h:OkD (x,y)):(0<=x/\x<=18446744073709551615)/\0<=y/\y<=18446744073709551615:=by
 obtain⟨A,B⟩:=h;unfold Ku at A B;simp only at A B;omega
theorem enc_one(n:Nat)(h:n<=1):(Cw.enc n).length=1:=by
 rcases(by omega:n=0\/n=1) with rfl | rfl
 ·decide +kernel
 ·decide +kernel
theorem putX_len{m:Nat}(h:T.length<=m):(fF T).length<=m+10:=by
 unfold fF;rw[af];have:=aG T.length;omega
theorem tx_facts{F A:Qb}(H:F.length<=1000)(G:A.length<=1000):(AV (iM F A)).2=0/\(AV (iM F A)).1.length<=65536/\(iM F A).length<=1000/\∀o∈iM F A,o.data.length<=1099511627776/\o.len<=1099511627776/\o.off<=1099511627776:=by
 obtain⟨C,D,_,_⟩:=yJ (a:=F) (b:=A) Zo Zo;have B:DfSt F A (iM F A) A.length (iM F A):=⟨nr,by rw[rC]; exact uS F A,0,Zo,rfl⟩;obtain⟨g1,g2⟩:=B.len;exact⟨C,D,Zo,fun o E=>Zh (g2 o E)⟩
theorem rentryw_any(a:Qa)(xs:List Itm)(c:Nat)(d1 d2:Int)(ca:Qa)(cs:List Dg)(cc:Nat)(w:World)(hp:Its w.heap.size w a xs)(hn:(xs.length:Int)<=9223372036854775807)(S:∀d,(gL xs d).length<=1000)(F9:dE w.heap.size w ca cs)(D2:OkD (d1,d2))(A5:∀x∈cs,OkD x)(I0:(cs.length:Int)<=1000000):
  Qh 157 #[.slice a xs.length c,.agg #[Yu d1,Yu d2],.slice ca cs.length cc] w (Xz (.string ⟨(Ph xs (d1,d2) (QK xs (d1,d2) cs)).toArray⟩) w):=by
 obtain⟨w0,V⟩:=Qe (w.alloc (.cells #[Yu d1,Yu d2] 54));have C5:PM w w0:=V▸(bf _).alloc nr _;have E5:Qg (BK w.heap.size #[Yu d1,Yu d2] 54 w0):=Qf (V▸BK.new _ _ _);obtain⟨A7,B2,H1,H3,H0,A4⟩:=Yn C5 (fun x y W (hW:PM w W)=>(show Qh 196 #[.slice a xs.length c,.agg #[Yu x,Yu y]] W ((Xz (.tuple #[(gL xs (x,y)),.bool ((De xs (x,y)).2==0)]) W)) from rdata_any a xs c x y W (hp.ahead hW) hn)) (fun W (hW:PM w W)=>F9.ahead hW) S A5 D2;obtain⟨R,hR⟩:=Qe (Ph xs (d1,d2) (QK xs (d1,d2) cs));have I:Qg (EwSt xs (d1,d2) cs R 0 (((fF (gL xs (d1,d2))).length:Int)-16) (Ph xs (d1,d2) none)):=Qf (hR▸EwSt.start _ _ _);rw[<-hR];obtain⟨n,G2⟩:=Qe xs.length;rw[<-G2] at B2 ⊢;obtain⟨m,hm⟩:=Qe cs.length;rw[<-hm] at I0 ⊢;have HM:=Qf hm;have P:=B2.o d1 d2 w0 C5;obtain⟨A,hA⟩:=Qe (gL xs (d1,d2));have C1:A.length<=1000:=hA▸S _;rw[<-hA] at P I;rw[V] at P;obtain⟨P,HA,B8,D6,B7⟩:=Ym P hA (fun W=>rtextw_any A Zo W) (fun W=>pX d1 d2 (okb D2).1 (okb D2).2 W) (fun W=>rnumw_any 0 Zd W);have E9:(A.length:Int)<=1000:=Zo;have D5:=Qf C1;obtain⟨X,hX⟩:=Qe (fF A);have F7:X.length<=1010:=hX▸putX_len C1;rw[<-hX] at B8 I;obtain⟨B,hB⟩:=Qe (beD (d1,d2));have C2:B.length=16:=hB▸bX _;rw[<-hB] at D6;obtain⟨Z,hZ⟩:=Qe (Cw.enc 0);have H9:Z.length=1:=hZ▸enc_one 0 (by omega);rw[<-hZ] at B7;have h1:=saddK B Z Zo;have h2:=saddK (B++Z) X (Zy af);have A1:Ph xs (d1,d2) none=B++Z++X:=by rw[entB_none,<-hA,<-hX,<-hB,<-hZ]
 obtain⟨BZ,F1⟩:=Qe (B++Z);rw[<-F1] at h1 h2 A1;obtain⟨O0,F2⟩:=Qe (BZ++X);rw[<-F2] at h2 A1;rw[A1] at I;have B0:=Qf hB;have G4:=bH X;obtain⟨nx,G3⟩:=Qe X.length;rw[<-G3] at G4 F7 I;obtain⟨z0,D3⟩:∃z0:Int,z0=(nx:Int)-16:=⟨_,rfl⟩;have I5:IntKind.i64.wrap ((nx:Int)-16)=z0:=D3▸wrap_neg (by omega) (by omega);rw[<-D3] at I;have H5:Qg (-20<=z0/\z0<=70000):=Qf Zo;have E4:=Qf V;have A3:Qg (∀W,Qh 156 #[Yi 0] W (Xz (.string ⟨Z.toArray⟩) W)):=B7;clear V C5 hp hn S F9 A5 hR G2 hm hA C1 E9 hX F7 hB C2 hZ H9 A1 F1 F2 G3 D3 B7;go_enter func157,ntmps157;go_wp2_with fail;refine P.o.mono ?_;rintro e u ⟨rfl,H⟩;rw[<-E4.o] at H;obtain⟨A8,E6⟩:=Yj (A7.o.trans (H.mono A7.o.size)) (E5.o.below H);clear H P E5 A7 E4;go_wp2_with fail;refine(B8.o _).mono ?_;rintro e u2 ⟨rfl,H⟩;obtain⟨J,B9⟩:=Yj (A8.o.trans (H.mono A8.o.size)) (E6.o.below H);clear H B8 E6 A8;obtain⟨f0,f1⟩:=BK.c2 B9.o;go_wp2_with fail;clear f0 f1;refine(D6.o _).mono ?_;rintro e u3 ⟨rfl,H⟩;obtain⟨K,E7⟩:=Yj (J.o.trans (H.mono J.o.size)) (B9.o.below H);clear H B9 J;go_wp2_with fail;refine(A3.o _).mono ?_;rintro e u4 ⟨rfl,H⟩;obtain⟨M,L⟩:=Yj (K.o.trans (H.mono K.o.size)) (E7.o.below H);clear H E7 K;go_wp2_with fail;clear h1 h2 G4 I5 A3;generalize I6:z0=z1 at I H5 ⊢;clear I6;go_loopw [10,11,12] (fun o l i wr=>∃(k:Nat) (z:Int) (O:Qb),k<=m/\i=Yi (k:Int)/\l=Yi z/\o=.string ⟨O.toArray⟩/\Qg (EwSt xs (d1,d2) cs R k z O)/\Qg (PM w wr)/\Qg (BK w.heap.size #[Yu d1,Yu d2] 54 wr)) (fun _ _ i _=>m-(intOf i).toNat)
 case atStart=>exact⟨0,z1,O0,Zo,rfl,rfl,rfl,I,M,L⟩
 case round=>
  clear I M L;obtain⟨k,z,O,hk,rfl,rfl,rfl,I,HB,HX⟩:=hrel;by_cases I2:k<m
  ·have I1:(k:Int)<(m:Int):=Zo;have A2:k<cs.length:=HM.o▸I2;obtain⟨lb,lo,rfl,G0,c0,c1⟩:=H1.o wr HB.out k A2;have B4:Qg (∀W,PM wr W->W.cell? ⟨lb,lo+k*2,none⟩=some (Yu cs[k].1)/\W.cell? ⟨lb,lo+k*2+1,none⟩=some (Yu cs[k].2)):=Qf (fun W hW=>⟨(hW.cell (p:=⟨lb,lo+k*2,none⟩) G0).trans c0,(hW.cell (p:=⟨lb,lo+k*2+1,none⟩) G0).trans c1⟩);have HN:=Qf (I.o.next A2);have C8:=H0.o _ (ak A2);generalize cs[k]=cd at c0 c1 B4 HN C8;obtain⟨e1,e2⟩:=cd;simp only at c0 c1 B4;have D0:=B2.o e1 e2 wr HB.out;have C3:=H3.o (e1,e2);have G5:txS xs (d1,d2) (e1,e2)=fF (AV (iM (gL xs (e1,e2)) A)).1:=by unfold txS; rw[<-HA.o]
   have G:=entB_some xs (d1,d2) (e1,e2);rw[G5] at HN G;obtain⟨F,hF⟩:=Qe (gL xs (e1,e2));rw[<-hF] at D0 C3 HN G;obtain⟨t1,t2,t3,t4⟩:=tx_facts C3 D5.o;have B1:=Qf D0;generalize ((De xs (e1,e2)).2==0)=bb at B1;obtain⟨Y,Q⟩:=Yj (fun W=>rdiff04_any F A W Zo (Zh D5.o)) (fun W oa oc (h:GIn jm 3 W.heap.size W oa (iM F A))=>rdenc_any oa (iM F A) oc W h Zo t4);have U:=fun W=>rpt (AV (iM F A)).1 t2 W
   rw[t1] at Q;rw[putT_eq t2] at U;have C4:=putX_len t2;generalize (AV (iM F A)).1=E at Q U HN G C4;generalize iM F A=D at Y Q;generalize fF E=T at U HN G C4;obtain⟨D7,H2⟩:=Yj U G;clear t1 t2 t3 t4 U D0 hF C3 G G5 A2;go_wp2_with fail;refine B1.o.mono ?_;rintro e v ⟨rfl,H⟩;have J:=Qf (H);unfold GotLd at Y;clear H B1 c0 c1;go_wp2_with fail;refine(Y.o _).mono ?_;rintro e v2 ⟨da,dc,rfl,hg,_,H⟩;obtain⟨K,B3⟩:=Yj (J.o.trans (H.mono J.o.size)) (Q.o v2 da dc hg);generalize D.length=nd at B3 ⊢;clear hg H J Y Q;go_wp2_with fail;refine B3.o.mono ?_;rintro e v3 ⟨rfl,H⟩;have M:=Qf (K.o.trans (H.mono K.o.size));clear H K B3;go_wp2_with fail;refine(D7.o _).mono ?_;rintro e v4 ⟨rfl,H⟩;have N:=Qf (M.o.trans (H.mono M.o.size));clear H M D7;have I4:=bH T;by_cases F6:(T.length:Int)<z
   ·have B6:=Qf (HN.o.1 F6);obtain⟨Z1,A0⟩:=Qe (Cw.enc 1);have F8:Z1.length=1:=A0▸enc_one 1 (by omega);obtain⟨C,hC⟩:=Qe (beD (e1,e2));have H7:C.length=16:=hC▸bX _;have C2:B.length=16:=B0.o▸bX _;have a1:=saddK B Z1 Zo;have a2:=saddK (B++Z1) C (Zy af);have a3:=saddK (B++Z1++C) T (by rw[af,af]; omega);have G:=H2.o;rw[<-A0,<-hC,<-B0.o] at G;have I7:=Qf G;obtain⟨P1,F3⟩:=Qe (B++Z1);rw[<-F3] at a1 a2 a3 G;obtain⟨P2,F4⟩:=Qe (P1++C);rw[<-F4] at a2 a3 G;obtain⟨P3,F5⟩:=Qe (P2++T);rw[<-F5] at a3 G;rw[G] at B6;have C7:=fun W=>pX d1 d2 (okb A4.o).1 (okb A4.o).2 W
    have C9:=fun W=>pX e1 e2 (okb C8).1 (okb C8).2 W
    have D1:=fun W=>rnumw_any 1 Zd W
    rw[<-B0.o] at C7;rw[<-hC] at C9;rw[<-A0] at D1;obtain⟨E1,E2⟩:=Yj C7 C9;have E3:Qg (∀W,Qh 156 #[Yi 1] W (Xz (.string ⟨Z1.toArray⟩) W)):=Qf D1;have L:=HX.out.below N.o;obtain⟨f0,f1⟩:=BK.c2 L;obtain⟨c0,c1⟩:=B4.o v4 N.o;have f0:=cell_regrown f0;have f1:=cell_regrown f1;have c0:=cell_regrown c0;have c1:=cell_regrown c1;obtain⟨D8,D9,E0⟩:=Yk (fun d os=>Calls.regrown_of (w:=v4) (d:=d) (os:=os) (E1.o _)) (fun d os=>Calls.regrown_of (w:=v4) (d:=d) (os:=os) (E2.o _)) (fun d os=>Calls.regrown_of (w:=v4) (d:=d) (os:=os) (E3.o _));obtain⟨nT,G1⟩:=Qe T.length;rw[<-G1] at I4 F6 B6;have L:=Qf L;clear C7 C9 D1 G F3 F4 F5 hC A0 F8 H7 C2 G1 C4 E1 E2 E3;go_wp2_with fail;refine wp_region_quiet_below Zk Zk ?_
    repeat (any_goals (first | go_big_quiet_step (first | (with_reducible exact D8.o _ _) | (with_reducible exact D9.o _ _) | (with_reducible exact E0.o _ _)) | quiet_step (first | (with_reducible exact D8.o _ _) | (with_reducible exact D9.o _ _) | (with_reducible exact E0.o _ _))))
    refine wpQuiet_nil ?_;intro w5 G6;have C6:=aX G6;obtain⟨A9,C0⟩:=Yj (HB.out.trans ((N.o.trans (C6.mono N.o.size)).mono HB.out.size)) (L.o.below C6);clear G6 C6;go_wp2;go_roundw
    case rel=>exact⟨k+1,_,P3,Zo,Zg,rfl,rfl,B6,A9,C0⟩
    case measure=>exact Yr
   ·obtain⟨H4,A9,C0⟩:=Yk (HN.o.2 Zo) (HB.out.trans (N.o.mono HB.out.size)) (HX.out.below N.o);go_wp2;go_roundw
    case rel=>exact⟨k+1,z,O,Zo,Zg,rfl,rfl,H4,A9,C0⟩
    case measure=>exact Yr
  ·have I1:¬(k:Int)<(m:Int):=Zo;have HD:=Qf (I.o.done (by rw[<-HM.o]; omega));go_wp2_with fail;go_ret;exact⟨by rw[HD.o]; first | done | rfl,HB.out⟩
theorem bsE_take(h:∀j (A:j<base.length),I7 xs base[j]=true):bsE xs base=0:=by
 unfold bsE;rw[if_pos (P5.2 (fun x B=>by obtain⟨j,A,rfl⟩:=aV B; exact h j A))]
theorem bsE_miss{j:Nat}(A:j<base.length)(h:I7 xs base[j]=false):bsE xs base=8:=by
 unfold bsE;rw[if_neg (fun e=>by have:=P5.1 e _ (ak A); rw[h] at this; cases this)]
def packT(xs:List Itm)(l base:List Dg)(k:Nat):Qb:=Cw.enc l.length++(List.range k).flatMap (VU xs l base)
theorem packT_next(xs:List Itm)(l base:List Dg)(k:Nat):packT xs l base (k+1)=packT xs l base k++VU xs l base k:=by
 unfold packT;rw[List.range_succ,bg,ay];simp
theorem ent_len(A:∀d,(gL xs d).length<=1000)(l base:List Dg)(i:Nat):(VU xs l base i).length<=1027:=by
 unfold VU;obtain⟨m,C,h⟩:=Vx xs (l.getD i (0,0)) (base++l.take i);rw[h];have B:=putX_len (A (l.getD i (0,0)));split <;> omega
theorem packT_len(B:∀d,(gL xs d).length<=1000)(l base:List Dg)(k:Nat):(packT xs l base k).length<=10+k*1027:=by
 unfold packT;rw[af];have C:=aG l.length;have A:=R8 (ent_len B l base) (List.range k);rw[List.length_range] at A;omega
theorem rpackw_any{l:List Dg}{a la ba:Qa}{c lc bc:Nat}{w:World}(hp:Pt xs c)(hi:Its w.heap.size w a xs)(hl:dE w.heap.size w la l)(B:dE w.heap.size w ba base)(H1:∀d∈l,OkD d)(H0:∀d∈base,OkD d)(A3:l.length<=1000)(I8:l.length<=lc)(I4:(base.length:Int)<=100000):
  Qh 102 #[.slice a xs.length c,.slice la l.length lc,.slice ba base.length bc] w (Xz (.tuple #[.string ⟨(zP xs l base).1.toArray⟩,Yi (zP xs l base).2]) w):=by
 have A2:=NQ hp.dat;have G:=hp.len;obtain⟨R,Q,HL,E5,F5,H9⟩:=Yn (fun x y W (I:PM w W)=>Vm a xs c x y W (hi.ahead I) hp.asc (Zh hp.len)) (fun x y ca cs cc W (I:PM w W) (hc:dE W.heap.size W ca cs) (U:OkD (x,y)) (h2:∀d∈cs,OkD d) (h3:(List.length cs:Int)<=1000000)=>rentryw_any a xs c x y ca cs cc W (hi.ahead I) (Zh hp.len) A2 hc U h2 h3) (fun W (I:PM w W)=>hl.ahead I) (fun W (I:PM w W)=>B.ahead I) H1 H0;obtain⟨E7,E3⟩:=Yj A2 (Below.refl w.heap.size w);obtain⟨P,hP⟩:=Qe (zP xs l base);rw[<-hP];have N:Qg (Cs xs l base≠0->P=([],Cs xs l base)):=Qf (fun h=>by rw[hP]; unfold zP; rw[if_pos h]);have A0:Qg (Cs xs l base=0->P=(BX (packT xs l base l.length),0)):=Qf (fun h=>hP▸pack_ok h);have B3:Qg (Cs xs l base=if pkE xs l []≠0 then pkE xs l [] else bsE xs base):=Qf (by unfold Cs; rw[if_neg Zo]);obtain⟨n,hn⟩:=Qe xs.length;obtain⟨m,hm⟩:=Qe l.length;obtain⟨nb,D2⟩:=Qe base.length;rw[<-hn] at R Q ⊢;rw[<-hm] at A3 I8 A0 ⊢;rw[<-D2] at I4 ⊢;obtain⟨HM,T⟩:=Yj hm D2;have J9:¬(1000:Int)<(m:Int):=Zo;have J8:(m:Int)<=1000:=Zo;have C0:Qg (pkE xs (l.drop 0) (l.take 0)=pkE xs l []):=Qf (by rw[List.drop_zero,List.take_zero]);clear hp hi hl B H1 H0 A2 G hP hn hm D2 A3;go_enter func102,ntmps102;go_wp2;go_loopw [8] (fun i wr=>∃k:Nat,k<=m/\i=Yi (k:Int)/\Qg (pkE xs (l.drop k) (l.take k)=pkE xs l [])/\Qg (PM w wr)) (fun i _=>m-(intOf i).toNat)
 case atStart=>exact⟨0,Zo,rfl,C0,E3⟩
 case round=>
  clear C0 E3;obtain⟨k,hk,rfl,B4,E⟩:=hrel;by_cases A4:k<m
  ·have I6:(k:Int)<(m:Int):=Zo;have C:k<l.length:=HM.o▸A4;have H:=B4.out;rw[OM C] at H;obtain⟨lb,lo,D1,V,c0,c1⟩:=HL.o wr E.out k C;have F:Qg (∀W,PM wr W->W.cell? ⟨lb,lo+k*2,none⟩=some (Yu l[k].1)/\W.cell? ⟨lb,lo+k*2+1,none⟩=some (Yu l[k].2)):=Qf (fun W I=>⟨(I.cell (p:=⟨lb,lo+k*2,none⟩) V).trans c0,(I.cell (p:=⟨lb,lo+k*2+1,none⟩) V).trans c1⟩);generalize l[k]=d at H c0 c1 F;obtain⟨d1,d2⟩:=d;simp only at c0 c1 F;have J:=R.o d1 d2 wr E.out;obtain⟨h,hh⟩:=Qe (I7 xs (d1,d2));rw[<-hh] at J H;have J:=Qf J;have G9:k<=lc:=Zo;obtain⟨L1,A9,I2,D8⟩:=Js la m lc k G9;have C6:=Qf I2;rw[D1] at D8 ⊢;cases h with
   | false=>
    have HE:Qg (P=([],8)):=Qf (by
     rw[if_pos rfl] at H;have U:=B3.o;rw[<-H,if_pos Zd] at U;have h2:=N.o (by rw[U]; decide);rw[U] at h2;exact h2)
    clear H hh Q R C6 D8;go_wp2_with fail;refine J.o.mono ?_;rintro e u ⟨rfl,B⟩;have D:=Qf (E.out.trans (B.mono E.out.size));clear B J;go_wp2;go_ret2;rw[HE.o];exact⟨rfl,D.o⟩
   | true=>
    rw[if_neg Zd] at H;have G0:Qg ((l.take k).length=k):=Qf (Zy aA);have C5:=Qf (fun W (I:PM w W)=>(show Qh 78 #[.slice L1 k A9,.agg #[Yu d1,Yu d2]] W ((Xz (.bool (decide ((d1,d2)∈l.take k))) W)) from by
     have h:=Hr L1 (l.take k) A9 d1 d2 W (C6.o _ _ _ (HL.o W I)) (Zy G0.o)
     rwa[G0.o] at h))
    obtain⟨mb,A5⟩:=Qe (decide ((d1,d2)∈l.take k));rw[<-A5] at C5;obtain⟨B2,O⟩:=Yj A5 H;clear H hh A5 Q C6 B4;go_wp2_with fail;clear c0 c1;refine J.o.mono ?_;rintro e u ⟨rfl,B⟩;have D:=Qf (E.out.trans (B.mono E.out.size));have G5:=F.o u B;have E6:=Qf (fun W (I:PM u W)=>F.o W (B.trans (I.mono B.size)));clear B J;go_wp2_with fail;refine wp_region_held_drew (S:=(fun W=>W.cell? ⟨lb,lo+k*2,none⟩=some (Yu d1)/\W.cell? ⟨lb,lo+k*2+1,none⟩=some (Yu d2))) Zk G5 (fun hHeld=>?_);refine Xx 0 ?_;refine Xx 1 ?_;refine Xx 2 ?_;refine Xx 3 ?_;refine Xx 4 ?_;refine Xx 5 ?_;refine Xx 6 ?_;refine wpAnyH_ready (rs:=[7]) Zk Zs ?_;refine AllReadyH.cons rfl (fun K hK=>?_) AllReadyH.nil;go_simp;refine(C5.o _ D.o.drew).mono ?_;rintro e u2 ⟨rfl,B⟩;have E1:=Qf (D.o.trans (((bf u).drew.trans (B.mono nr)).mono D.o.size));refine hK.out _ _ (E6.o _ ((bf u).drew.trans (B.mono nr))) (fun hHeld=>?_);clear hK K;refine wpAnyH_done Zk ?_ _;clear B G5 E6 C5 F;cases mb with
    | true=>
     have HE:Qg (P=([],7)):=Qf (by
      have h0:=O.o;rw[if_pos (of_decide_eq_true B2.o.symm)] at h0;have U:=B3.o;rw[<-h0,if_pos Zd] at U;have h2:=N.o (by rw[U]; decide);rw[U] at h2;exact h2)
     clear O B2;go_wp2;go_ret2;rw[HE.o];exact⟨rfl,E1.o⟩
    | false=>
     have F6:Qg (pkE xs (l.drop (k+1)) (l.take (k+1))=pkE xs l []):=Qf (by
      have h0:=O.o
      rwa[if_neg (of_decide_eq_false B2.o.symm)] at h0)
     clear O B2 D8;go_wp2;go_roundw
     case rel=>exact⟨k+1,Zo,Zg,F6,E1⟩
     case measure=>exact Yr
  ·obtain rfl:k=m:=Zo;have I6:¬(k:Int)<(k:Int):=Zo;have C7:Qg (Cs xs l base=bsE xs base):=Qf (by
    have h0:=B4.out;rw[dV (HM.o▸nr),pkE] at h0;rw[B3.o,<-h0]
    rfl)
   have E0:Qg (∀j (h:j<base.length),j<0->I7 xs base[j]=true):=Qf (fun j _ h=>Zo);have E4:=E;clear B4;go_wp2;go_loopw [9] (fun i W'=>∃j:Nat,j<=nb/\i=Yi (j:Int)/\Qg (∀i (h:i<base.length),i<j->I7 xs base[i]=true)/\Qg (PM w W')) (fun i _=>nb-(intOf i).toNat)
   case atStart=>exact⟨0,Zo,rfl,E0,E4⟩
   case round=>
    clear E0 E4 E;obtain⟨j,hj,rfl,HA,E⟩:=hrel;by_cases A4:j<nb
    ·have I5:(j:Int)<(nb:Int):=Zo;have D0:j<base.length:=T.o▸A4;obtain⟨lb,lo,I3,V,c0,c1⟩:=E5.o wr E.out j D0;have Y:Qg (I7 xs base[j]=true->∀i (h:i<base.length),i<j+1->I7 xs base[i]=true):=Qf (fun h i hi J7=>by
      by_cases e:i=j
      ·subst e; exact h
      ·exact HA.out i hi Zo)
     have X:Qg (I7 xs base[j]=false->P=([],8)):=Qf (fun h=>by
      have U:=C7.o;rw[bsE_miss D0 h] at U;have h2:=N.o (by rw[U]; decide);rw[U] at h2;exact h2)
     generalize base[j]=d at c0 c1 Y X;obtain⟨d1,d2⟩:=d;simp only at c0 c1;have J:=R.o d1 d2 wr E.out;obtain⟨h,hh⟩:=Qe (I7 xs (d1,d2));rw[<-hh] at J Y X;have J:=Qf J;rw[I3];clear hh D0;cases h with
     | false=>
      have HE:=Qf (X.o rfl);clear Y X Q R;go_wp2_with fail;refine J.o.mono ?_;rintro e u ⟨rfl,B⟩;have D:=Qf (E.out.trans (B.mono E.out.size));clear B J;go_wp2;go_ret2;rw[HE.o];exact⟨rfl,D.o⟩
     | true=>
      have H5:=Qf (Y.o rfl);clear Y X;go_wp2_with fail;refine J.o.mono ?_;rintro e u ⟨rfl,B⟩;have D:=Qf (E.out.trans (B.mono E.out.size));clear B J c0 c1;go_wp2;go_roundw
      case rel=>exact⟨j+1,Zo,Zg,H5,D⟩
      case measure=>exact Yr
    ·obtain rfl:j=nb:=Zo;have I5:¬(j:Int)<(j:Int):=Zo;have C4:Qg (P=(BX (packT xs l base k),0)):=Qf (A0.o (by rw[C7.o]; exact bsE_take (fun i hi=>HA.out i hi (T.o▸hi))));have Z:=Qf (rnumw_any k Zo);have G3:Cw.enc k=packT xs l base 0:=by unfold packT; rw[<-HM.o]; simp
     rw[G3] at Z;obtain⟨C1,Z⟩:=Yj (fun i=>packT_len E7.o l base i) (Z.o wr);clear G3 C7 HA N A0 B3 R;have F4:Qg (∀d∈base,OkD d):=H9;go_wp2_with fail;refine Z.o.mono ?_;rintro e u ⟨rfl,B⟩;have D:=Qf (E.out.trans (B.mono E.out.size));obtain⟨w4,B9⟩:=Qe (u.alloc (.cells #[] 54));have B6:PM u w4:=B9▸(bf _).alloc nr _;have D5:w4.ownsRow u.heap.size 54 2 (.slice u 0 0) 0 []:=B9▸World.ownsRow_made (size:=2) u #[] 0 nr (by decide) rfl;obtain⟨v1,W5,D7,M,G8,_⟩:=dM w4 u.heap.size 24 _ [] D5 ba base bc (E5.o _ (D.o.trans (B6.mono D.o.size))) (by rw[<-T.o]; simp; omega) B6.size;have E2:=Qf (gM B6 D5 G8 nr);rw[<-T.o,B9] at D7;rw[aY,<-T.o] at M;have F3:Qg (W5.ownsRow u.heap.size 54 2 v1 (j+0) (aW (base++l.take 0))):=Qf (by rw[List.take_zero,bG,QI]; exact M);have I1:=Qf D7;clear B B9 B6 D5 M G8 D7 Z E;go_wp2_with (at_builtin; refine Lib.wpList_append_run _ rfl _ _ _ _ rfl _ _ rfl rfl _ _ I1.o ?_);go_loopw [10,11,12] (fun o cv i W'=>∃(p:Nat) (PT:Qb),p<=k/\i=Yi (p:Int)/\o=.string ⟨PT.toArray⟩/\Qg (PT=packT xs l base p)/\Qg (W'.ownsRow u.heap.size 54 2 cv (j+p) (aW (base++l.take p)))/\Qg (PM u W')) (fun _ _ i _=>k-(intOf i).toNat)
     case atStart=>exact⟨0,_,Zo,rfl,rfl,Qf rfl,F3,E2⟩
     case round=>
      clear F3 E2;obtain⟨p,PT,hp,rfl,rfl,F7,HO,E⟩:=hrel;obtain⟨np,D3⟩:=Qe (j+p);rw[<-D3] at HO;obtain⟨va,vc,rfl,K0⟩:=aB HO.out;obtain⟨B1,F1⟩:=Yj (D.o.trans (E.out.mono D.o.size)) D3;have J4:(np:Int)<=200000:=Zo;by_cases A4:p<k
      ·have J0:(p:Int)<(k:Int):=Zo;have A7:p<l.length:=HM.o▸A4;obtain⟨lb,lo,D1,V,c0,c1⟩:=HL.o wr B1.o p A7;have F:Qg (∀W,PM wr W->W.cell? ⟨lb,lo+p*2,none⟩=some (Yu l[p].1)/\W.cell? ⟨lb,lo+p*2+1,none⟩=some (Yu l[p].2)):=Qf (fun W I=>⟨(I.cell (p:=⟨lb,lo+p*2,none⟩) V).trans c0,(I.cell (p:=⟨lb,lo+p*2+1,none⟩) V).trans c1⟩);have C:np=(base++l.take p).length:=by rw[af,aA,F1.o,T.o]; omega
       have G6:VU xs l base p=Ph xs l[p] (QK xs l[p] (base++l.take p)):=by
        unfold VU;rw[List.getD_eq_getElem?_getD,List.getElem?_eq_getElem A7]; rfl
       have G:=packT_next xs l base p;have B5:Qg (base++l.take p++[l[p]]=base++l.take (p+1)):=Qf (by rw[ai A7,ay]);have A6:=F5.o _ (ak A7);have C3:∀x∈base++l.take p,OkD x:=fun x hx=>(aD.1 hx).elim (F4.o x) (fun h=>F5.o x (dK h))
       rw[G6] at G;generalize l[p]=d at c0 c1 F G B5 A6;obtain⟨d1,d2⟩:=d;simp only at c0 c1 F;have B7:=Q.o d1 d2 va (base++l.take p) vc wr B1.o (kr C HO.out) A6 C3 (by rw[<-C]; omega);rw[<-C] at B7;have G7:(Ph xs (d1,d2) (QK xs (d1,d2) (base++l.take p))).length<=1027:=by
        obtain⟨m',_,h⟩:=Vx xs (d1,d2) (base++l.take p);rw[h];have:=putX_len (E7.o (d1,d2));split <;> omega
       obtain⟨EB,G1⟩:=Qe (Ph xs (d1,d2) (QK xs (d1,d2) (base++l.take p)));rw[<-G1] at B7 G G7;have A1:=C1.o p;rw[<-F7.out] at G A1;have G4:=saddK PT EB Zo;obtain⟨PN,G2⟩:=Qe (PT++EB);rw[<-G2] at G4 G;have I0:Qg (PN=packT xs l base (p+1)):=Qf G.symm;obtain⟨E9,F0⟩:=Yj B7 C;rw[D1];clear B7 G6 G A6 C3 G7 G1 G2 A1 C A7 D3;go_wp2_with fail;refine E9.o.mono ?_;rintro e v ⟨rfl,B⟩;have B0:=E.out.trans (B.mono E.out.size);obtain⟨c2,c3⟩:=F.o v B;have B8:=PO HO.out B;obtain⟨ll,A3⟩:=Qe (base++l.take p);have C:=F0.o;rw[<-A3] at B8 B5 C;have D4:=B8;rw[C] at D4;obtain⟨v',W',A8,L,C9,_⟩:=gz D4 d1 d2 (by rw[<-C]; omega) B0.size;rw[<-C] at A8 C9;obtain⟨F8,H6⟩:=Yj A8 (gM (B0.alloc B0.size _) (B8.alloc (.cells #[Yu d1,Yu d2] 54)) C9 nr);rw[af,aI,<-C,B5.o] at L;have H8:Qg (W'.ownsRow u.heap.size 54 2 v' (j+(p+1)) (aW (base++l.take (p+1)))):=Qf (by rw[show j+(p+1)=np+1 by rw[F1.o]; omega]; exact L);clear B B0 B8 A3 C F0 D4 A8 L C9 B5 E9 F c0 c1 HO;go_wp2_with (at_builtin; refine Lib.wpList_append_run _ rfl _ _ _ _ rfl _ _ rfl rfl _ _ F8.o ?_);go_roundw
       case rel=>exact⟨p+1,PN,Zo,Zg,rfl,I0,H8,H6⟩
       case measure=>exact Yr
      ·obtain rfl:p=k:=Zo;have J0:¬(p:Int)<(p:Int):=Zo;have A1:=C1.o p;rw[<-F7.out] at A1 C4;have F9:=Qf (seal_any PT wr Zo);generalize BX PT=SP at F9 C4;clear A1 Q;go_wp2_with fail;refine F9.o.mono ?_;rintro e u2 ⟨rfl,B⟩;go_wp2;go_ret2;rw[C4.o];exact⟨rfl,B1.o.trans (B.mono B1.o.size)⟩
