/- Lemmas. -/
import Derived.Test.YtkedhdcnakhbgaaGreatP1
import Derived.Test.YtkedhdcnakhbgaaGreatT1
import Derived.Test.YtkedhdcnakhbgaaGreatG5
import Derived.Test.YtkedhdcnakhbgaaGreatT3
import Derived.Test.YtkedhdcnakhbgaaGreatW4
import Derived.Test.YtkedhdcnakhbgaaGreatG2
import Derived.Test.YtkedhdcnakhbgaaGreatW2
import Derived.Test.YtkedhdcnakhbgaaGreatP11
import Derived.Test.YtkedhdcnakhbgaaGreatP3
import Derived.Test.YtkedhdcnakhbgaaGreatW5
import Derived.Deep.RegionHeldLaw
import Derived.Deep.CutRange
set_option linter.unusedSimpArgs false
set_option maxRecDepth 100000
set_option maxHeartbeats 16000000
namespace Go.Proofs.YtkedhdcnakhbgaaGreat
open Tryz
open Go.RowKit Go.Shelf
set_option linter.unusedVariables false
variable {Pq:List Itm}{B b c k n0:Nat}{a:Qa}{W W' w:World}
theorem Qz(a:Qa)(xs:List Itm)(c:Nat)(la:Qa)(l:Qd)(lc:Nat)(w:World)(hp:Its w w a xs)(ha:Asc xs)(hl:dE w w la l)(U:(xs.length:Int)<=2500)(S:(l.length:Int)<=10000)(Q:∀x∈xs,(x.data.length:Int)<=1000000):
  Qh 31 #[.slice a xs.length c,.slice la l.length lc] w (Xz (.bool (PV xs l)) w):=by
 obtain⟨E,HL,B⟩:=Yk (fun x y W (Y:PM w W)=>Vm a xs c x y W (hp.ahead Y) ha Zo) hl (fun W (hW:PM w W)=>Ui a xs c la l lc W (hp.ahead hW) ha (hl.ahead hW) U S Q);obtain⟨R,X⟩:=Qe (PV xs l);rw[<-X];unfold PV at X;have F:=Qf X;generalize dh xs l=rr at B F;obtain⟨ra,rb⟩:=rr;simp only at F;obtain⟨n,hn⟩:=Qe l.length;have HN:=Qf hn;obtain⟨m,hm⟩:=Qe rb.length;have HM:=Qf hm;rw[<-hn] at B S ⊢;generalize xs.length=nx at E B ⊢;have I:=Qf (Below.refl (w:Nat) w);clear hp ha hl U X hn hm Q;go_enter func31,ntmps31;go_wp2;go_loopw [5] (fun i wr=>∃k:Nat,k<=n/\i=Yi k/\Qg (PM w wr)/\Qg (∀d∈l.take k,I7 xs d=true)) (fun i _=>n-(intOf i).toNat)
 case atStart=>exact⟨0,Zo,rfl,I,Qf Zs⟩
 case round=>
  clear I;obtain⟨k,hk,rfl,C,V⟩:=hrel;by_cases B8:k<n
  ·have A3:(k:Int)<(n:Int):=Zo;have G:k<l.length:=Zh HN.o;obtain⟨b0,A1,A2,B7,q0,q1⟩:=(HL.o.ahead C.out) k G;subst A2;have O:Qg (l.take (k+1)=l.take k++[l[k]]):=Qf (ai G);have M:Qg (l[k]∈l):=Qf (ak G);generalize l[k]=d at q0 q1 O M;obtain⟨d1,d2⟩:=d;simp only at q0 q1;have HC:=Qf (E.o d1 d2 wr C.out);go_wp2_with fail;refine HC.o.mono ?_;rintro e u ⟨rfl,P⟩;have K:=Qf (XT C.out P);clear HC P C q0 q1;cases Z:I7 xs (d1,d2) with
   | false=>
    have D:Qg (R=false):=Qf (by
     rw[F.o];have:l.all (I7 xs)=false:=by
      rw[Bool.eq_false_iff];intro h;rw[P5.1 h _ M.o] at Z;cases Z
     rw[this]; rfl)
    clear F;go_wp2;go_ret;exact⟨Zw D.o,K.o⟩
   | true=>
    have A0:Qg (∀d∈l.take (k+1),I7 xs d=true):=Qf (fun d hd=>by
     rw[O.o] at hd;rcases aD.1 hd with h | h
     ·exact V.out d h
     ·rw[aH.1 h]; exact Z)
    clear V Z;go_wp2;go_roundw
    case rel=>exact⟨k+1,Zo,Zg,K,A0⟩
    case measure=>exact Yr
  ·have A3:¬(k:Int)<(n:Int):=Zo;have D:Qg (R=decide (rb=[])):=Qf (by
    have G:=V.out;rw[show l.take k=l from ag (Zh HN.o)] at G;rw[F.o,P5.2 G,Bool.true_and])
   obtain⟨x0,T⟩:=Qe wr;rw[<-T] at C ⊢;have L:=Qf (B.o x0 C.out);clear T F B HL E V;go_wp2_with fail;refine L.o.mono ?_;rintro e u1 ⟨pa,pc,sa,sc,rfl,A7,A8,Y⟩;have J:=Qf (XT C.out Y);simp only;rw[<-HM.o];have N:Qg (R=(m==0)):=Qf (by
    rw[D.o];have:=HM.o;cases rb with
    | nil=>simp at this; simp[this]
    | cons x y=>simp at this; simp[this])
   clear A7 A8 Y L C D;cases H:(m==0) with
   | true=>
    have A5:((m:Int)==0)=true:=by simp at H; simp[H]
    go_wp2;go_ret;exact⟨by rw[N.o,H]; rfl,J.o⟩
   | false=>
    have A5:((m:Int)==0)=false:=by simp at H; simp[H]
    go_wp2;go_ret;exact⟨by rw[N.o,H]; rfl,J.o⟩
theorem TS(a b:Qa)(ds:Qd)(ca cb:Nat)(w:World)(C:dE w w a ds)(D:dE w w b ds)(E:ds.length<=1000):
  Qh 26 #[.slice a ds.length ca,.slice b ds.length cb] w (Xz (.bool true) w):=by
 have B:=Xj a b ds ds ca cb w C D Zo;rw[XI rfl] at B;exact B.mono (by
  rintro e w' ⟨rfl,q,rfl⟩;exact⟨rfl,below_drewN (bf _) _⟩)
theorem Sr(a b:Qa)(ds:List Itm)(ca cb:Nat)(w:World)(C:Its w w a ds)(D:Its w w b ds)(E:ds.length<=2000):
  Qh 20 #[.slice a ds.length ca,.slice b ds.length cb] w (Xz (.bool true) w):=by
 have B:=PE a b ds ds ca cb w C D Zo Zo;rw[XI rfl] at B;exact B
theorem Tq(s:Ses)(A A':QF)(b b':Nat)(w:World)(h:PQ w s A b)(M:PQ w s A' b'):
  Qh 14 #[s.val A,s.val A'] w (Xz (.bool true) w):=by
 have S:=Qi h.vp;obtain⟨O,P,Q,R⟩:=Yl (fun W (F:PM w W)=>Sr A.ha A'.ha s.xs A.hc A'.hc W (h.hp.its.ahead F) (M.hp.its.ahead F) h.lx) (fun W (F:PM w W)=>TS A.wa A'.wa s.want A.wc A'.wc W (h.hw.ahead F) (M.hw.ahead F) h.lw) (fun W (F:PM w W)=>TS A.ca A'.ca s.com A.cc A'.cc W (h.hc.ahead F) (M.hc.ahead F) h.lc) (fun W (F:PM w W)=>SH s.id s.tot A.pa A'.pa s.ps A.pc A'.pc W ((h.hq.below F nr).mono F.size) ((M.hq.below F nr).mono F.size) Zo);clear h M S;obtain⟨xs,A2,A9,id,U,ps,T,dn⟩:=s;obtain⟨I,K,wa,wc,ca,cc,pa,pc⟩:=A;obtain⟨C,E,A0,A1,V,X,Y,Z⟩:=A';simp only at O P Q R
 show Calls _ _ #[.agg #[.slice I xs.length K,.slice wa A2.length wc,.slice ca A9.length cc,Yi id,Yi U,.slice pa ps.length pc,.bool T,.bool dn],.agg #[.slice C xs.length E,.slice A0 A2.length A1,.slice V A9.length X,Yi id,Yi U,.slice Y ps.length Z,.bool T,.bool dn]] w _;generalize xs.length=nx at O ⊢;generalize A2.length=nw at P ⊢;generalize A9.length=nc at Q ⊢;generalize ps.length=np at R ⊢;obtain⟨u2,G⟩:=Qe ((w.alloc (.cells #[.slice I nx K,.slice wa nw wc,.slice ca nc cc,Yi id,Yi U,.slice pa np pc,.bool T,.bool dn] 34)).alloc (.cells #[.slice C nx E,.slice A0 nw A1,.slice V nc X,Yi id,Yi U,.slice Y np Z,.bool T,.bool dn] 34));have J:PM w u2:=G▸(ba _ _).alloc (by simp) _;have KA:Qg (BK w #[.slice I nx K,.slice wa nw wc,.slice ca nc cc,Yi id,Yi U,.slice pa np pc,.bool T,.bool dn] 34 u2):=Qf (G▸(BK.new _ _ _).alloc _);have KB:Qg (BK ((w:Nat)+1) #[.slice C nx E,.slice A0 nw A1,.slice V nc X,Yi id,Yi U,.slice Y np Z,.bool T,.bool dn] 34 u2):=Qf (G▸BK.new2 _ _ _ _);have D:=Qf (O.o u2 J);rw[G] at D;obtain⟨H,L⟩:=Yj J G;clear G J O;go_enter func14,ntmps14;go_wp2_with fail;refine D.o.mono ?_;rintro e u3 ⟨rfl,B⟩;rw[<-L.o] at B;obtain⟨B3,A4,A3⟩:=Yk (XT H.o B) (KA.o.below B) (KB.o.below B);have D:=Qf (P.o u3 B3.o);obtain⟨pb,N⟩:=Qe ((w:Nat)+1);rw[<-N] at A3 ⊢;clear B H L KA KB P N;obtain⟨c0,c1,c2,c3,c4,c5,c6,c7⟩:=BK.c8 A4.o;obtain⟨d0,d1,d2,d3,d4,d5,d6,d7⟩:=BK.c8 A3.o;go_wp2_with fail;refine D.o.mono ?_;rintro e u4 ⟨rfl,B⟩;obtain⟨B4,A5,A7⟩:=Yk (XT B3.o B) (A4.o.below B) (A3.o.below B);have D:=Qf (Q.o u4 B4.o);clear B B3 A4 A3 Q c0 c1 c2 c3 c4 c5 c6 c7 d0 d1 d2 d3 d4 d5 d6 d7;obtain⟨c0,c1,c2,c3,c4,c5,c6,c7⟩:=BK.c8 A5.o;obtain⟨d0,d1,d2,d3,d4,d5,d6,d7⟩:=BK.c8 A7.o;go_wp2_with fail;refine D.o.mono ?_;rintro e u5 ⟨rfl,B⟩;obtain⟨B5,A6,A8⟩:=Yk (XT B4.o B) (A5.o.below B) (A7.o.below B);have D:=Qf (R.o u5 B5.o);clear B B4 A5 A7 R c0 c1 c2 c3 c4 c5 c6 c7 d0 d1 d2 d3 d4 d5 d6 d7;obtain⟨c0,c1,c2,c3,c4,c5,c6,c7⟩:=BK.c8 A6.o;obtain⟨d0,d1,d2,d3,d4,d5,d6,d7⟩:=BK.c8 A8.o;go_wp2_with fail;refine D.o.mono ?_;rintro e u6 ⟨rfl,B⟩;obtain⟨B6,B0,B1⟩:=Yk (XT B5.o B) (A6.o.below B) (A8.o.below B);clear B B5 A6 A8 D c0 c1 c2 c3 c4 c5 c6 c7 d0 d1 d2 d3 d4 d5 d6 d7;obtain⟨c0,c1,c2,c3,c4,c5,c6,c7⟩:=BK.c8 B0.o;obtain⟨d0,d1,d2,d3,d4,d5,d6,d7⟩:=BK.c8 B1.o;go_wp2;go_ret;exact⟨rfl,B6.o⟩
theorem V4:PQ W UJ ⟨none,0,none,0,none,0,none,0⟩ b:=
 ⟨⟨Its.nil _ _ _,nr,Zd,fun x A=>(by cases A)⟩,⟨fun i j C _ _=>(by simp[UJ] at C),fun x A=>(by cases A),fun x A=>(by cases A),Zd,fun x A=>(by cases A),nr⟩,dE.nil _ _ _,dE.nil _ _ _,fun i C=>(by simp[UJ] at C),nr,nr,nr,fun ad e D=>(by cases e),fun D ad e=>(by cases e),fun D ad e=>(by cases e),fun ad e=>(by cases e),fun d B=>(by cases B),fun d B=>(by cases B),fun x A=>(by cases A),Zd,fun _=>Zd,Zd,Zd,rfl⟩
theorem dat_short{s:Qb}{xs:List Itm}{l:List Pe}{i:Nat}(h:i<l.length)(A:(NK s xs l i).2=0):(NK s xs l i).1.length<=65536:=by
 have D:∀(t:Qb) (d:Int×Int),(iK.rightS t d).2=0->(iK.rightS t d).1.length<=65536:=fun t d h=>by
  unfold iK.rightS at h ⊢;by_cases B:(bI t).2≠0
  ·rw[if_pos B] at h;cases h
  ·rw[if_neg B] at h ⊢;by_cases C:iY t≠d
   ·rw[if_pos C] at h;cases h
   ·rw[if_neg C];exact Wt (Zu B)
 rw[JB h] at A ⊢;unfold iK at A ⊢;by_cases k1:l[i].kind=1
 ·rw[if_pos k1] at A ⊢;by_cases k2:(wu xs l (NK s xs l) i l[i].base).2≠0
  ·rw[if_pos k2] at A;exact absurd A k2
  ·rw[if_neg k2] at A ⊢;by_cases k3:(sK ((s.drop l[i].off).take l[i].len)).2≠0
   ·rw[if_pos k3] at A;cases A
   ·rw[if_neg k3] at A ⊢;by_cases k4:(gP (wu xs l (NK s xs l) i l[i].base).1 (sK ((s.drop l[i].off).take l[i].len)).1).2≠0
    ·rw[if_pos k4] at A;cases A
    ·rw[if_neg k4] at A ⊢;exact D _ _ A
 ·rw[if_neg k1] at A ⊢;exact D _ _ A
structure RUn (B n0 k:Nat) (a:Qa) (c:Nat) (Pq:List Itm) (W:World):Prop where
 its:Its W W a Pq
 cap:Pq.length<=c
 asc:Asc Pq
 len:Pq.length<=n0+k
 dat:∀x∈Pq,(x.data.length:Int)<=140737488355328
 new:∀ad,a=some ad->B<=ad.block
theorem RUn.below(h:RUn B n0 k a c Pq W)(A:PM W W'):RUn B n0 k a c Pq W':=⟨h.its.ahead A,h.cap,h.asc,h.len,h.dat,h.new⟩
theorem RUn.pool(h:RUn B n0 k a c Pq W)(A:n0+k<=100000):jQ W a Pq c:=⟨h.its,h.cap,Zh h.len,h.dat⟩
theorem RUn.next{a':Qa}{c':Nat}{Q:List Itm}{x:Itm}(h:RUn B n0 k a c Pq W)(K:B<=(W:Nat))(G:iF W a Pq Q a' c' W')(L:x.data.length<=65536)(H:rJ Pq x=(Q,0)):RUn B n0 (k+1) a' c' Q W':=by
 obtain⟨D,E,C,J⟩:=G;obtain⟨g1,g2,g3⟩:=IU h.asc (J2 H);refine⟨D,E,g1,Zh h.len,fun y I=>?_,fun ad A=>?_⟩
 ·rcases(g2 y).1 I with F | rfl
  ·exact h.dat y F
  ·omega
 ·rcases C with⟨rfl,_⟩ | C
  ·exact h.new ad A
  ·have:=C ad A; omega
theorem pool_empty(pa:Qa)(ps:List Itm)(h:PM w W):iF w pa ps [] (some ⟨W,0,none⟩) 0 (W.alloc (.cells #[] 56)):=⟨Its.nil _ _ _,nr,.inr (fun ad e=>by cases e; exact h.size),h.alloc h.size _⟩
theorem runpack_any(s:Qb)(xs:List Itm)(pa:Qa)(pc:Nat)(w:World)(hl:(s.length:Int)<=70368744177664)(A2:Its w w pa xs)(hp:Ps xs pc)(D2:(xs.length:Int)<=50000):Qh 108 #[s,.slice pa xs.length pc] w (J7 w pa xs (tu s xs)):=by
 have HE:=Qf (rentries10_any s w hl);unfold J9 at HE;have G:kN (s.take (s.length-16)) (bi s).1/\(bi s).1.length<=1000:=by
  by_cases h:(bi s).2=0
  ·obtain⟨g1,g2,_⟩:=uM (s:=s) (l:=(bi s).1) (by rw[<-h]);exact⟨g1,g2⟩
  ·rw[AQ h]; exact⟨kN.nil _,Zs⟩
 obtain⟨U,B⟩:=Qe (tu s xs);rw[<-B];unfold tu at B;obtain⟨l,er,hE⟩:∃l er,bi s=(l,er):=⟨_,_,rfl⟩;rw[hE] at HE B G;simp only at HE B G;obtain⟨O,B8,F,A5,A8⟩:=Ym B A2 hp G D2;have E3:=G.2;obtain⟨n,hn⟩:=Qe l.length;rw[<-hn] at E3;have M:=Qf hn;obtain⟨nx,B1⟩:=Qe xs.length;obtain⟨H,C1⟩:=Yj B1 hl;rw[<-B1];rw[<-hn] at HE;clear B hE A2 hp hl D2 hn B1 G;unfold J7;go_enter func108,ntmps108;go_wp2_with fail;refine HE.o.mono ?_;rintro e u ⟨ea,ec,rfl,hg,hb⟩;obtain⟨I,HG⟩:=Yj hb hg;clear hb hg HE;by_cases X:er=0
 case neg=>
  have C9:(er !=0)=true:=Zu X;have D1:=O.o;rw[if_pos X] at D1;subst D1;clear O X;go_wp2;go_ret2;exact⟨_,0,rfl,pool_empty _ _ I.o⟩
 case pos=>
 subst X;have C2:Qg (U=Fb (NK s xs l) l (l.length-0) 0 xs):=Qf (by rw[O.o,if_neg Zs]; rfl);have D0:Rdr.Ok ⟨0,s,l,ea,ec,xs,pa,pc⟩:=⟨F.o.asc,F.o.val,F.o.dig,F.o.xl,F.o.xd,F.o.pc,C1.o,A5.o.1,A5.o.2⟩;have D7:Qg (∀k,k<n->∀W:World,GIn tX 7 W.heap.size W ea l->Its W.heap.size W pa xs->Qh 164 #[s,.slice ea n ec,Yi (k:Int),.slice pa nx pc] W (Xz (.tuple #[.string ⟨(NK s xs l k).1.toArray⟩,Yi (NK s xs l k).2]) W)):=Qf (fun k hk W h1 h2=>by
  have h:=read_all D0 (k+1) k Zo (M.o▸hk) W h1 h2;simp only[<-M.o,<-H.o] at h;exact h)
 have ho:(u.alloc (.cells #[] 56)).ownsRow u 56 3 (.slice u 0 0) 0 []:=XW (size:=3) u #[] 0 nr Zd rfl;have R:PM u (u.alloc (.cells #[] 56)):=ba u _;obtain⟨v1,z1,B2,E,C6,_⟩:=GH (u.alloc (.cells #[] 56)) (u:Nat) 23 _ [] ho pa xs pc (Its.ahead (B8.o.ahead I.o) R) (by have:=A8.o; simp; omega) R.size;have S:PM u z1:=gM R ho C6 nr;rw[aY] at E;obtain⟨a1,c1,rfl,C4⟩:=aB E;rw[<-H.o] at B2;have B5:=Qf (XT I.o S);have B7:Qg (GIn tX 7 (z1:Nat) z1 ea l):=Qf ((HG.o.below S nr).mono S.size);have C3:Qg (RUn (w:Nat) nx 0 a1 c1 xs z1):=Qf ⟨Ct E,C4,F.o.asc,Zh H.o,F.o.xd,fun ad E0=>by have:=Nf E ad E0; have:=I.o.size; omega⟩;clear ho R E C6 S C4 O D0 I HG F A5 C1;have A0:=Qf B2;clear B2;go_wp2_with (at_builtin; refine Lib.wpList_append_run _ rfl _ _ _ _ rfl _ _ rfl rfl _ _ A0.o ?_);clear A0;go_loopw [8,9] (fun p i wr=>∃(k:Nat) (a:Qa) (c:Nat) (Pq:List Itm),k<=n/\p=.slice a Pq.length c/\i=Yi (k:Int)/\Qg (U=Fb (NK s xs l) l (l.length-k) k Pq)/\Qg (RUn (w:Nat) nx k a c Pq wr)/\Qg (GIn tX 7 wr.heap.size wr ea l)/\Qg (PM w wr)) (fun _ i _=>n-(intOf i).toNat)
 case atStart=>exact⟨0,a1,c1,xs,Zo,Zx H.o,rfl,C2,C3,B7,B5⟩
 case round=>
  clear C2 C3 B7 B5;obtain⟨k,a,c,Pq,hk,rfl,rfl,O,HP,HG,I⟩:=hrel;obtain⟨np,B0⟩:=Qe Pq.length;have B9:=Qf B0;rw[<-B0];clear B0;by_cases C8:k<n
  ·have E1:(k:Int)<(n:Int):=Zo;have A9:k<l.length:=M.o▸C8;have HR:=Qf (D7.o k C8 wr HG.o (B8.o.ahead I.o));have Z:=O.o.trans (GY A9 Pq);have Y:=dat_short (s:=s) (xs:=xs) A9;obtain⟨D,de,C5⟩:∃D de,NK s xs l k=(D,de):=⟨_,_,rfl⟩;rw[C5] at Z Y HR;simp only at Z Y HR;obtain⟨N,A7⟩:=Yj Z Y;clear Z Y C5 O;go_wp2_with fail;refine HR.o.mono ?_;rintro e u2 ⟨rfl,hb⟩;have J:=Qf (XT I.o hb);have A3:Qg (GIn tX 7 (u2:Nat) u2 ea l):=Qf ((HG.o.below hb nr).mono hb.size);have K:=Qf (HP.out.below hb);clear hb HR I HG HP;by_cases T:de=0
   case neg=>
    have C9:(de !=0)=true:=Zu T;have B:=N.o;rw[if_pos T] at B;subst B;clear N A7 T;go_wp2;go_ret2;exact⟨_,0,rfl,pool_empty _ _ J.o⟩
   case pos=>
   subst T;have hD:D.length<=65536:=A7.o rfl;have B:=N.o;rw[if_neg Zs] at B;obtain⟨bl,B3,rfl,E9,q0,q1,q2,q3,q4,q5,q6⟩:=rX A3.o A9;have C:=radd_any a Pq c l[k].d.1 l[k].d.2 D u2 (K.o.pool (by have:=A8.o; have:=H.o; omega)) K.o.asc Zo (by have:=K.o.len; have:=A8.o; have:=H.o; omega);generalize l[k]=x at B C q0 q1 q2 q3 q4 q5 q6;obtain⟨⟨d1,d2⟩,kd,bs,C0,B4⟩:=x;simp only at B C q0 q1;obtain⟨Q,A1,hQ⟩:∃Q e2,rJ Pq ⟨(d1,d2),D⟩=(Q,e2):=⟨_,_,rfl⟩;have A4:Qg (∀h0:A1=0,∀{a':Qa} {c':Nat} {W':World},iF u2 a Pq Q a' c' W'->RUn (w:Nat) nx (k+1) a' c' Q W'):=Qf (fun h0 a' c' W' h=>K.o.next J.o.size h (x:=⟨(d1,d2),D⟩) hD (by rw[hQ,h0]));rw[hQ] at C B;simp only at B;unfold J7 at C;simp only[<-B9.o] at C;obtain⟨HA,P⟩:=Yj C B;clear C B hQ hD q2 q3 q4 q5 q6 K N A7;go_wp2_with fail;refine HA.o.mono ?_;rintro e u3 ⟨a2,c2,rfl,L⟩;have B6:=Qf (J.o.trans (L.2.2.2.mono J.o.size));have D5:Qg (GIn tX 7 (u3:Nat) u3 (some ⟨bl,B3,none⟩) l):=Qf ((A3.o.below L.2.2.2 nr).mono L.2.2.2.size);have A6:=Qf L;clear L HA J A3 q0 q1;by_cases V:A1=0
   case neg=>
    have C9:(A1 !=0)=true:=Zu V;have B:=P.o;rw[if_pos V] at B;subst B;clear P A4 A6 V;go_wp2;go_ret2;exact⟨_,0,rfl,pool_empty _ _ B6.o⟩
   case pos=>
   subst V;have B:=P.o;rw[if_neg Zs] at B;obtain⟨D8,D6⟩:=Yj B (A4.o rfl A6.o);clear B P A4 A6;go_wp2;go_roundw
   case rel=>exact⟨k+1,a2,c2,Q,Zo,rfl,rfl,D8,D6,D5,B6⟩
   case measure=>exact Yq
  ·have E1:¬(k:Int)<(n:Int):=Zo;have C7:k=l.length:=Zh M.o;have B:=O.o;rw[C7,Nat.sub_self,Fb] at B;subst B;clear O C7;go_wp2;go_ret2;exact⟨a,c,Zw B9.o,HP.out.its,HP.out.cap,.inr HP.out.new,I.o⟩
def oldR(s:Ses)(m:Msg):Int×Int×List P:=if s.id≠m.id\/s.tot≠m.tot then(0,0,[]) else(s.id,s.tot,s.ps)
theorem gat_old(s:Ses)(m:Msg):nJ (oldR s m).1 (oldR s m).2.1 (oldR s m).2.2 m.kind m.id m.off m.tot m.ds.length m.data=Vt s m:=by
 unfold Vt WJ oldR;by_cases h:s.id≠m.id\/s.tot≠m.tot
 ·rw[if_pos h,if_pos (.inr h)]
 ·by_cases A:s.ps=[]
  ·rw[if_neg h,if_pos (.inl A),A];unfold nJ;simp[gm]
  ·rw[if_neg h,if_neg (fun e=>e.elim A h)]
def GotAc(s:Ses)(m:Msg)(w:World)(e:Ending)(w':World):Prop:=∃A,e=.returned (.tuple #[(Qk s m).1.val A,.bool (Qk s m).2])/\PQ w' (Qk s m).1 A (w':Nat)/\PM w w'
theorem raccept_any(s:Ses)(A:QF)(b:Nat)(m:Msg)(ma:Qa)(mc:Nat)(w:World)(G9:PQ w s A b)(hd:s.done=false)(hk:m.kind=2)(hT:(m.data.length:Int)<=1048576)(hD:(m.ds.length:Int)<=140737488355328):
  Qh 57 #[s.val A,m.val ma mc] w (GotAc s m w):=by
 have B2:=Qf (G9.far nr);obtain⟨xs,A9,C9,id,D2,ps,asked,dn⟩:=s;obtain⟨N9,E0,E4,D3,ds,data⟩:=m;obtain⟨B,C,wa,wk,ca,cc,pa,pc⟩:=A;simp only at hd hk hT hD;subst hd;subst hk;obtain⟨G,hG⟩:=Qe (GotAc ⟨xs,A9,C9,id,D2,ps,asked,false⟩ ⟨2,E0,E4,D3,ds,data⟩ w);rw[<-hG];have HG:=Qf hG;obtain⟨u1,K⟩:=Qe (((w.alloc (.cells #[.slice B xs.length C,.slice wa A9.length wk,.slice ca C9.length cc,Yi id,Yi D2,.slice pa ps.length pc,.bool asked,.bool false] 34)).alloc (.cells #[Yi 2,Yi E0,Yi E4,Yi D3,.slice ma ds.length mc,data] 73)).alloc (.cells #[(),(),(),Yi 0,Yi 0,(),.bool false,.bool false] 34));have hS:BK w #[.slice B xs.length C,.slice wa A9.length wk,.slice ca C9.length cc,Yi id,Yi D2,.slice pa ps.length pc,.bool asked,.bool false] 34 u1:=K▸((BK.new _ _ _).alloc _).alloc _;have hM:BK ((w:Nat)+1) #[Yi 2,Yi E0,Yi E4,Yi D3,.slice ma ds.length mc,data] 73 u1:=by
  have h:=(BK.new (w.alloc (.cells #[.slice B xs.length C,.slice wa A9.length wk,.slice ca C9.length cc,Yi id,Yi D2,.slice pa ps.length pc,.bool asked,.bool false] 34)) #[Yi 2,Yi E0,Yi E4,Yi D3,.slice ma ds.length mc,data] 73).alloc (.cells #[(),(),(),Yi 0,Yi 0,(),.bool false,.bool false] 34);rw[XU] at h;rw[K];exact h
 have hZ:BK ((w:Nat)+1+1) #[(),(),(),Yi 0,Yi 0,(),.bool false,.bool false] 34 u1:=by
  have h:=BK.new ((w.alloc (.cells #[.slice B xs.length C,.slice wa A9.length wk,.slice ca C9.length cc,Yi id,Yi D2,.slice pa ps.length pc,.bool asked,.bool false] 34)).alloc (.cells #[Yi 2,Yi E0,Yi E4,Yi D3,.slice ma ds.length mc,data] 73)) #[(),(),(),Yi 0,Yi 0,(),.bool false,.bool false] 34;rw[XU,XU] at h;rw[K];exact h
 have G8:PM w u1:=by rw[K]; exact((ba w _).alloc Zs _).alloc Zt _
 have E9:(u1:Nat)=(w:Nat)+3:=Zn K;obtain⟨n,hn⟩:=Qe ps.length;have HN:=Qf hn;rw[<-hn] at K hS;obtain⟨u2,E5⟩:=Qe (u1.alloc (.cells #[Yi id,Yi D2,.slice pa n pc] 32));have C3:PM u1 u2:=E5▸ba _ _;have H0:BK u1 #[Yi id,Yi D2,.slice pa n pc] 32 u2:=E5▸BK.new _ _ _;rw[E9] at H0;obtain⟨B4,I0,F4,I7,E1,I4⟩:=Yn H0 (hS.below C3) (hM.below C3) (hZ.below C3) (XT G8 C3) (E5.trans (Zx K));obtain⟨O,hO⟩:=Qe (oldR ⟨xs,A9,C9,id,D2,ps,asked,false⟩ ⟨2,E0,E4,D3,ds,data⟩);obtain⟨o1,o2,os⟩:=O;have H7:=Qf hO;have G6:(id≠E0\/D2≠D3)->(o1,o2,os)=(0,0,[]):=fun h=>by
  rw[hO]; unfold oldR;rw[if_pos h]
 have G7:¬(id≠E0\/D2≠D3)->(o1,o2,os)=(id,D2,ps):=fun h=>by
  rw[hO]; unfold oldR;rw[if_neg h]
 have F9:Qg (gm o1 o2 os=true):=Qf (by
  by_cases h:id≠E0\/D2≠D3
  ·have:=G6 h; cases this; rfl
  ·have:=G7 h; cases this; exact G9.vp)
 obtain⟨H6,E8⟩:=Yj G6 G7;obtain⟨c0,c1,c2,c3,c4,c5,c6,c7⟩:=BK.c8 hS;obtain⟨m0,m1,m2,m3,m4,m5⟩:=BK.c6 hM;rw[K] at c0 c1 c2 c3 c4 c5 c6 c7 m0 m1 m2 m3 m4 m5;simp only[Ses.val,Msg.val,<-hn];obtain⟨sb,J7⟩:=Qe (w:Nat);have M7:=Qf J7;clear hG G9 K hS hM hZ G8 E9 E5 C3 H0 hO G6 G7 hn J7;go_enter func57,ntmps57;go_upto_region 2 with fail
 rw[<-I4.o];clear c0 c1 c2 c3 c4 c5 c6 c7 m0 m1 m2 m3 m4 m5 I4;obtain⟨p0,p1,p2⟩:=BK.c3 B4.o;obtain⟨N3,N4,N5⟩:=BK.f3 (B4.o);obtain⟨m0,m1,m2,m3,m4,m5⟩:=BK.c6 F4.o;go_cut [25] from 14 (fun c wx=>c=.bool (decide (id≠E0\/D2≠D3))/\u2=wx)
 case first=>
  by_cases hi:id=E0
  ·have g2:(id !=E0)=false:=Zu hi;by_cases ht:D2=D3
   ·have g3:(D2 !=D3)=false:=Zu ht;have HE:Qg (decide (id≠E0\/D2≠D3)=false):=Qf (XN (fun h=>h.elim (fun h=>h hi) (fun h=>h ht)));clear hi ht;go_wp2_with fail;go_meet
    case rel=>exact⟨congrArg Value.bool HE.o.symm,rfl⟩
   ·have g3:(D2 !=D3)=true:=Zu ht;have HE:Qg (decide (id≠E0\/D2≠D3)=true):=Qf (XI (.inr ht));clear hi ht;go_wp2_with fail;go_meet
    case rel=>exact⟨congrArg Value.bool HE.o.symm,rfl⟩
  ·have g2:(id !=E0)=true:=Zu hi;have HE:Qg (decide (id≠E0\/D2≠D3)=true):=Qf (XI (.inl hi));clear hi;go_wp2_with fail;go_meet
   case rel=>exact⟨congrArg Value.bool HE.o.symm,rfl⟩
 case rest=>
 obtain⟨rfl,rfl⟩:=hcut;go_upto_if 25 with fail
 go_cut [] from 25 (fun wx=>∃oa oc,Qg (BK ((w:Nat)+3) #[Yi o1,Yi o2,.slice oa os.length oc] 32 wx/\Pcs wx.heap.size wx oa os/\os.length<=oc)/\Qg (u2.grownBy wx (some ((w:Nat)+3))))
 case first=>
  cases hz:decide (id≠E0\/D2≠D3) with
  | true=>
   have HE:=Qf (H6.o (Zu hz));clear hz;go_wp2_with fail;go_meet
   case rel=>
    have he:=HE.o;cases he;exact⟨none,0,Qf ⟨((B4.o.set 0 _).set 1 _).set 2 _,fun i hi=>by simp at hi,nr⟩,Qf (bu (bu (dN _ _ _ _) (dN _ _ _ _)) (dN _ _ _ _))⟩
  | false=>
   have HE:=Qf (E8.o (Zu hz));clear hz;go_wp2_with fail;go_meet
   case rel=>
    have he:=HE.o;cases he;exact⟨pa,pc,Qf ⟨by have h5:=B4.o; rw[HN.o] at h5; exact h5,(B2.o.below E1.o).hq,B2.o.cq⟩,Qf ⟨rfl,rfl,rfl,nr,fun k _ _=>rfl⟩⟩
 case rest=>
 obtain⟨oa,oc,D1,H4⟩:=hcut;have C6:=H4.out;have F7:Qg (BK w #[.slice B xs.length C,.slice wa A9.length wk,.slice ca C9.length cc,Yi id,Yi D2,.slice pa n pc,.bool asked,.bool false] 34 wc):=Qf (I0.o.grow1 C6 Zo);obtain⟨F5,I8,G0,D5,B1⟩:=Ym (F4.o.grow1 C6 Zo) (I7.o.grow1 C6 Zo) (E1.o.grown C6 E1.o.size (fun k e=>by cases e; omega)) D1.out.1 (refGather_any o1 o2 oa os oc 2 E0 E4 D3 ma ds.length mc data wc D1.out.2.1 D1.out.2.2 (Qi F9.o) (P6 F9.o).2 hT hD);obtain⟨g,hg⟩:=Qe (nJ o1 o2 os 2 E0 E4 D3 ds.length data);rw[<-hg] at B1;have D4:Qg (Vt ⟨xs,A9,C9,id,D2,ps,asked,false⟩ ⟨2,E0,E4,D3,ds,data⟩=g):=Qf (by rw[<-gat_old,<-H7.o,hg]);obtain⟨ge,g1,g2,gs⟩:=g;have F1:=Qf hg;obtain⟨gn,J2⟩:=Qe gs.length;have F2:=Qf J2;obtain⟨on,J4⟩:=Qe os.length;rw[<-J4] at D5 B1;obtain⟨nd,J3⟩:=Qe ds.length;rw[<-J3] at F5 B1;clear hg J2 J4 J3 D1 H4 C6 I0 F4 I7 E1 B4 H6 E8 H7 F9 p0 p1 p2 N3 N4 N5 m0 m1 m2 m3 m4 m5;obtain⟨p0,p1,p2⟩:=BK.c3 D5.o;obtain⟨m0,m1,m2,m3,m4,m5⟩:=BK.c6 F5.o;go_wp2_with fail;refine B1.o.mono ?_;rintro e u4 ⟨ga,gc,rfl,H1,C4,C5,C7⟩;simp only at H1 C5 C7 ⊢;rw[<-F2.o];obtain⟨G1,I1,I9⟩:=Yk (XT G0.o C4) (F7.o.below C4) (I8.o.below C4);have M6:(w:Nat)+3<(u4:Nat):=by have:=D5.o.lt; have:=C4.size; omega
 have M1:(w:Nat)<(wc:Nat):=F7.o.lt;have A1:Qg (∀ad,ga=some ad->(w:Nat)<ad.block):=Qf (fun ad e=>Zh (C7 ad e));obtain⟨H9,B0⟩:=Yj H1 C5;have K7:Qg ((w:Nat)+2<(u4:Nat)):=Qf Zo;clear H1 C5 C7 C4 B1 F7 I8 G0 F5 D5 p0 p1 p2 m0 m1 m2 m3 m4 m5;obtain⟨u5,E6⟩:=Qe (u4.alloc (.cells #[Yi g1,Yi g2,.slice ga gn gc] 32));have A7:PM u4 u5:=E6▸ba _ _;have E2:Qg (BK u4 #[Yi g1,Yi g2,.slice ga gn gc] 32 u5):=Qf (E6▸BK.new _ _ _);obtain⟨R,V,N,B5,C0⟩:=Ym (I1.o.below A7) (I9.o.below A7) (XT G1.o A7) ((H9.o.below A7 nr).mono A7.size) E6;clear I1 I9 G1 H9 A7 E6;by_cases he:ge=0
 ·subst he;obtain⟨N7,N8,M2,N2,_⟩:=Ot F1.o.symm;subst N7;subst N8;obtain⟨u7,E7⟩:=Qe ((((u5.setCell ⟨w,3,none⟩ (Yi g1)).setCell ⟨w,4,none⟩ (Yi g2)).setCell ⟨w,5,none⟩ (.slice ga gn gc)).setCell ⟨w,6,none⟩ (.bool true));have A0:u5.grownBy u7 (some (w:Nat)):=E7▸bu (bu (bu (dN _ _ _ _) (dN _ _ _ _)) (dN _ _ _ _)) (dN _ _ _ _);have N0:=K7.o;have I2:Qg (BK w #[.slice B xs.length C,.slice wa A9.length wk,.slice ca C9.length cc,Yi g1,Yi g2,.slice ga gn gc,.bool true,.bool false] 34 u7):=Qf (E7▸(((R.o.set 3 _).set 4 _).set 5 _).set 6 _);obtain⟨I6,J0,B6⟩:=Yk (E2.o.grow1 A0 Zo) (V.o.grow1 A0 Zo) ((B5.o.grown nr A0 (fun ad e _ e2=>by have:=A1.o ad e; injection e2 with e2; omega)).mono A0.size);have H8:Qg (PQ u7 ⟨xs,A9,C9,g1,g2,gs,true,false⟩ ⟨B,C,wa,wk,ca,cc,ga,gc⟩ (w:Nat)):=Qf (by
   have h:=(B2.o.below N.o).grown A0;exact⟨h.hp,h.hr,h.hw,h.hc,B6.o,B0.o,h.cw,h.cc,h.nh,h.nw,h.nc,fun ad e _ e2=>by have:=A1.o ad e; injection e2 with e2; omega,h.ow,h.oc,h.ck,h.lx,h.ly,h.lw,h.lc,M2⟩)
  have G2:Qg (PM w u7):=Qf (N.o.grown A0 N.o.size (fun k e=>by cases e; exact nr));have A4:=Qf (refWhole_any g1 g2 ga gs gc u7 B6.o (Qi M2) (P6 M2).2);rw[<-F2.o] at A4;have M:Qg (Qk ⟨xs,A9,C9,id,D2,ps,asked,false⟩ ⟨2,g1,E4,g2,ds,data⟩=({ Rl ⟨xs,A9,C9,id,D2,ps,asked,false⟩ (g1,g2,gs) with asked:=decide (0<(Rl ⟨xs,A9,C9,id,D2,ps,asked,false⟩ (g1,g2,gs)).ps.length) },true)):=Qf (by
   unfold Qk;rw[if_neg Zs,D4.o,if_neg Zs])
  have B9:Qg ((y9 g1 g2 gs).2=true->((y9 g1 g2 gs).1.length:Int)<=1048576):=Qf (UA M2);have K4:Qg (0<gs.length):=Qf (bJ.2 N2);obtain⟨WH,H2⟩:=Qe (y9 g1 g2 gs);rw[<-H2] at A4 B9;have G4:=Qf H2;obtain⟨T,ok⟩:=WH;simp only at B9 A4;have F8:=Qf (E7.trans (Zx C0.o));obtain⟨c0,c1,c2,c3,c4,c5,c6,c7⟩:=BK.c8 R.o;obtain⟨F0,H3,J9,K0,K1,K2,K3,K5⟩:=BK.f8 (R.o);obtain⟨x0,x1,x2⟩:=BK.c3 I6.o;obtain⟨y0,y1,y2⟩:=BK.c3 E2.o;rw[C0.o] at c0 c1 c2 c3 c4 c5 c6 c7 F0 H3 J9 K0 K1 K2 K3 K5 y0 y1 y2;rw[F8.o] at x0 x1 x2 A4;clear H2 R E2 V B5 N A0 E7 B6 M2 N2 F1 D4 A1 B0;go_wp2_with fail;refine A4.o.mono ?_;rintro e u8 ⟨rfl,A8⟩;rw[<-F8.o] at A8;obtain⟨B7,W,D6,A3⟩:=Yl (I2.o.below A8) (J0.o.below A8) (H8.o.below A8) (XT G2.o A8);clear A8 I2 H8 J0 G2 I6 A4 F8 C0 c0 c1 c2 c3 c4 c5 c6 c7 F0 H3 J9 K0 K1 K2 K3 K5 x0 x1 x2 y0 y1 y2;obtain⟨c0,c1,c2,c3,c4,c5,c6,c7⟩:=BK.c8 B7.o;obtain⟨F0,H3,J9,K0,K1,K2,K3,K5⟩:=BK.f8 (B7.o);cases ok with
  | false=>
   have J:Qg (Rl ⟨xs,A9,C9,id,D2,ps,asked,false⟩ (g1,g2,gs)=⟨xs,A9,C9,g1,g2,gs,asked,false⟩):=Qf (by unfold Rl; simp only; rw[<-G4.o]; rfl);obtain⟨v,H⟩:=Qe ((((((((u8.setCell ⟨(w:Nat)+1+1,0,none⟩ (.slice B xs.length C)).setCell ⟨(w:Nat)+1+1,1,none⟩ (.slice wa A9.length wk)).setCell ⟨(w:Nat)+1+1,2,none⟩ (.slice ca C9.length cc)).setCell ⟨(w:Nat)+1+1,3,none⟩ (Yi g1)).setCell ⟨(w:Nat)+1+1,4,none⟩ (Yi g2)).setCell ⟨(w:Nat)+1+1,5,none⟩ (.slice ga gn gc)).setCell ⟨(w:Nat)+1+1,6,none⟩ (.bool true)).setCell ⟨(w:Nat)+1+1,7,none⟩ (.bool false));have E:BK ((w:Nat)+1+1) #[.slice B xs.length C,.slice wa A9.length wk,.slice ca C9.length cc,Yi g1,Yi g2,.slice ga gn gc,.bool true,.bool false] 34 v:=H▸((((((((W.o.set 0 _).set 1 _).set 2 _).set 3 _).set 4 _).set 5 _).set 6 _).set 7 _);have D:u8.grownBy v (some ((w:Nat)+1+1)):=H▸fM (fM (fM (fM (fM (fM (fM (dN _ _ _ _) _ _) _ _) _ _) _ _) _ _) _ _) _ _;have F:PM w v:=A3.o.grown D A3.o.size (fun k e=>by cases e; omega);have HF:Qg (G (.returned (.tuple #[.agg #[.slice B xs.length C,.slice wa A9.length wk,.slice ca C9.length cc,Yi g1,Yi g2,.slice ga gn gc,.bool true,.bool false],.bool true])) v):=Qf (by
    rw[HG.o]; unfold GotAc; rw[M.o,J.o];have h6:decide (0<gs.length)=true:=XI K4.o;simp only[h6];rw[F2.o];exact⟨⟨B,C,wa,wk,ca,cc,ga,gc⟩,rfl,((D6.o.kind (Tw W.o)).grown D).far nr,F⟩)
   have HV:=Qf H;obtain⟨q0,q1,q2,q3,q4,q5,q6,q7⟩:=BK.c8 E;clear E D F H J M HG B9;obtain⟨z0,z1,z2,z3,z4,z5,z6,z7⟩:=BK.c8 W.o;obtain⟨K9,L0,L5,L6,L7,L8,L9,M0⟩:=BK.f8 (W.o);clear B7 W D6 A3;go_wp2_with fail;rw[<-HV.o];refine XB (v:=.tuple #[.agg #[.slice B xs.length C,.slice wa A9.length wk,.slice ca C9.length cc,Yi g1,Yi g2,.slice ga gn gc,.bool true,.bool false],.bool true]) (by simp[results,results57,go_sem,q0,q1,q2,q3,q4,q5,q6,q7]) rfl HF.o
  | true=>
   obtain⟨u9,C8⟩:=Qe ((((u8.setCell ⟨w,3,none⟩ (Yi 0)).setCell ⟨w,4,none⟩ (Yi 0)).setCell ⟨w,5,none⟩ (.slice none 0 0)).setCell ⟨w,6,none⟩ (.bool false));have E3:u8.grownBy u9 (some (w:Nat)):=C8▸bu (bu (bu (dN _ _ _ _) (dN _ _ _ _)) (dN _ _ _ _)) (dN _ _ _ _);have D8:Qg (BK w #[.slice B xs.length C,.slice wa A9.length wk,.slice ca C9.length cc,Yi 0,Yi 0,(),.bool false,.bool false] 34 u9):=Qf (C8▸(((B7.o.set 3 _).set 4 _).set 5 _).set 6 _);have J1:=Qf (W.o.grow1 E3 Zo);have I:Qg (PQ u9 ⟨xs,A9,C9,0,0,[],false,false⟩ ⟨B,C,wa,wk,ca,cc,none,0⟩ (w:Nat)):=Qf (((D6.o.grown E3).nop).ask false);have G3:Qg (PM w u9):=Qf (A3.o.grown E3 A3.o.size (fun k e=>by cases e; exact nr));have J:Qg (Rl ⟨xs,A9,C9,id,D2,ps,asked,false⟩ (g1,g2,gs)=Us ⟨xs,A9,C9,g1,g2,gs,asked,false⟩ T):=Qf (by unfold Rl; simp only; rw[<-G4.o]; rfl);have L3:=I.o.lx;have L4:=I.o.ly rfl;simp only at L3 L4;have C1:=Qf (runpack_any T xs B C u9 (Zh (B9.o rfl)) I.o.hp.its I.o.hr Zo);have J8:∀Q,tu T xs=(Q,0)->_:=fun Q h=>Vg I.o h
   have D9:=Qf J8;clear J8;have L:Qg (Us ⟨xs,A9,C9,g1,g2,gs,asked,false⟩ T=if(tu T xs).2=0/\PV (tu T xs).1 A9=true then⟨(tu T xs).1,A9,C9,0,0,[],asked,true⟩ else⟨xs,A9,C9,0,0,[],asked,false⟩):=Qf rfl;generalize tu T xs=U at C1 D9 L;obtain⟨Q,er⟩:=U;simp only at C1 L;obtain⟨q,hq⟩:=Qe Q.length;obtain⟨HQ,I5⟩:=Yj hq C8;obtain⟨d0,d1,d2,d3,d4,d5,d6,d7⟩:=BK.c8 D8.o;rw[C8] at C1 d0 d1 d2 d3 d4 d5 d6 d7;clear C8 E3 hq B7 W D6 A3 G4 B9;go_wp2_with fail;refine C1.o.mono ?_;rintro e M8 ⟨a,c,rfl,Z⟩;rw[<-I5.o] at Z;simp only;rw[<-HQ.o];obtain⟨S,X,A5,D7⟩:=Yl (D8.o.below Z.2.2.2) (J1.o.below Z.2.2.2) (G3.o.trans (Z.2.2.2.mono G3.o.size)) (I.o.below Z.2.2.2);have L2:=D8.o.lt;have D0:=Qf Z;clear Z C1 I5 D8 J1 G3 d0 d1 d2 d3 d4 d5 d6 d7 c0 c1 c2 c3 c4 c5 c6 c7 F0 H3 J9 K0 K1 K2 K3 K5;by_cases he:er=0
   ·subst he;obtain⟨M4,M5,M9,N6,N1⟩:=D9.o Q rfl;have M4:Q.length<=xs.length+1000:=M4;have J5:Q.length<=2000:=Zo;have J6:=N1 c D0.o.2.1 Zo;have B3:=Qf (I.o.pool L2 D0.o J6 M5 J5);have HH:=Qf (Qz a Q c wa A9 wk M8 B3.o.hp.its M9 B3.o.hw Zo (by have h8:A9.length<=1000:=B3.o.lw; omega) (fun x hx=>Zh (Wt (Qp (M5 x hx)).1)));rw[<-HQ.o] at HH;obtain⟨c0,c1,c2,c3,c4,c5,c6,c7⟩:=BK.c8 S.o;obtain⟨F0,H3,J9,K0,K1,K2,K3,K5⟩:=BK.f8 (S.o);clear D9 D0 M4 M5 M9 N6 N1 J6 J5;go_wp2_with fail;refine HH.o.mono ?_;rintro e M3 ⟨rfl,hb⟩;obtain⟨B8,Y,A6,F6,F3⟩:=Ym (S.o.below hb) (X.o.below hb) (XT A5.o hb) (D7.o.below hb) (B3.o.below hb);clear hb HH S X A5 D7 B3 I c0 c1 c2 c3 c4 c5 c6 c7 F0 H3 J9 K0 K1 K2 K3 K5;obtain⟨c0,c1,c2,c3,c4,c5,c6,c7⟩:=BK.c8 B8.o;obtain⟨F0,H3,J9,K0,K1,K2,K3,K5⟩:=BK.f8 (B8.o);cases hh:PV Q A9 with
    | true=>
     obtain⟨K6,P⟩:=Qe ((M3.setCell w (.slice a q c)).setCell ⟨w,7,none⟩ (.bool true));have A2:M3.grownBy K6 (some (w:Nat)):=P▸bu (dN _ _ _ _) (dN _ _ _ _);have I3:Qg (BK w #[.slice a q c,.slice wa A9.length wk,.slice ca C9.length cc,Yi 0,Yi 0,(),.bool false,.bool true] 34 K6):=Qf (P▸(B8.o.set 0 _).set 7 _);have C2:=Qf (Y.o.grow1 A2 Zo);have G5:Qg (PM w K6):=Qf (A6.o.grown A2 A6.o.size (fun k e=>by cases e; exact nr));have H5:=Qf (F3.o.grown A2);obtain⟨v,H⟩:=Qe ((((((((K6.setCell ⟨(w:Nat)+1+1,0,none⟩ (.slice a q c)).setCell ⟨(w:Nat)+1+1,1,none⟩ (.slice wa A9.length wk)).setCell ⟨(w:Nat)+1+1,2,none⟩ (.slice ca C9.length cc)).setCell ⟨(w:Nat)+1+1,3,none⟩ (Yi 0)).setCell ⟨(w:Nat)+1+1,4,none⟩ (Yi 0)).setCell ⟨(w:Nat)+1+1,5,none⟩ (.slice none 0 0)).setCell ⟨(w:Nat)+1+1,6,none⟩ (.bool false)).setCell ⟨(w:Nat)+1+1,7,none⟩ (.bool true));have E:BK ((w:Nat)+1+1) #[.slice a q c,.slice wa A9.length wk,.slice ca C9.length cc,Yi 0,Yi 0,(),.bool false,.bool true] 34 v:=H▸((((((((C2.o.set 0 _).set 1 _).set 2 _).set 3 _).set 4 _).set 5 _).set 6 _).set 7 _);have D:K6.grownBy v (some ((w:Nat)+1+1)):=H▸fM (fM (fM (fM (fM (fM (fM (dN _ _ _ _) _ _) _ _) _ _) _ _) _ _) _ _) _ _;have F:PM w v:=G5.o.grown D G5.o.size (fun k e=>by cases e; omega);have HF:Qg (G (.returned (.tuple #[.agg #[.slice a q c,.slice wa A9.length wk,.slice ca C9.length cc,Yi 0,Yi 0,(),.bool false,.bool true],.bool true])) v):=Qf (by
      rw[HG.o]; unfold GotAc; rw[M.o,J.o,L.o,if_pos ⟨trivial,hh⟩];rw[HQ.o];exact⟨⟨a,c,wa,wk,ca,cc,none,0⟩,rfl,(((H5.o.ask false).kind (Tw C2.o)).grown D).far nr,F⟩)
     have HV:=Qf H;obtain⟨q0,q1,q2,q3,q4,q5,q6,q7⟩:=BK.c8 E;clear E D F H J M L HG;have K8:=Qf P;obtain⟨d0,d1,d2,d3,d4,d5,d6,d7⟩:=BK.c8 I3.o;obtain⟨z0,z1,z2,z3,z4,z5,z6,z7⟩:=BK.c8 C2.o;obtain⟨K9,L0,L5,L6,L7,L8,L9,M0⟩:=BK.f8 (C2.o);rw[P] at d0 d1 d2 d3 d4 d5 d6 d7 z0 z1 z2 z3 z4 z5 z6 z7 K9 L0 L5 L6 L7 L8 L9 M0;clear P A2 B8 Y A6 F6 F3 I3 C2 G5 H5;go_wp2_with fail;rw[<-K8.o];rw[<-HV.o];refine XB (v:=.tuple #[.agg #[.slice a q c,.slice wa A9.length wk,.slice ca C9.length cc,Yi 0,Yi 0,(),.bool false,.bool true],.bool true]) (by simp[results,results57,go_sem,q0,q1,q2,q3,q4,q5,q6,q7]) rfl HF.o
    | false=>
     obtain⟨v,H⟩:=Qe ((((((((M3.setCell ⟨(w:Nat)+1+1,0,none⟩ (.slice B xs.length C)).setCell ⟨(w:Nat)+1+1,1,none⟩ (.slice wa A9.length wk)).setCell ⟨(w:Nat)+1+1,2,none⟩ (.slice ca C9.length cc)).setCell ⟨(w:Nat)+1+1,3,none⟩ (Yi 0)).setCell ⟨(w:Nat)+1+1,4,none⟩ (Yi 0)).setCell ⟨(w:Nat)+1+1,5,none⟩ (.slice none 0 0)).setCell ⟨(w:Nat)+1+1,6,none⟩ (.bool false)).setCell ⟨(w:Nat)+1+1,7,none⟩ (.bool false));have E:BK ((w:Nat)+1+1) #[.slice B xs.length C,.slice wa A9.length wk,.slice ca C9.length cc,Yi 0,Yi 0,(),.bool false,.bool false] 34 v:=H▸((((((((Y.o.set 0 _).set 1 _).set 2 _).set 3 _).set 4 _).set 5 _).set 6 _).set 7 _);have D:M3.grownBy v (some ((w:Nat)+1+1)):=H▸fM (fM (fM (fM (fM (fM (fM (dN _ _ _ _) _ _) _ _) _ _) _ _) _ _) _ _) _ _;have F:PM w v:=A6.o.grown D A6.o.size (fun k e=>by cases e; omega);have HF:Qg (G (.returned (.tuple #[.agg #[.slice B xs.length C,.slice wa A9.length wk,.slice ca C9.length cc,Yi 0,Yi 0,(),.bool false,.bool false],.bool true])) v):=Qf (by
      rw[HG.o]; unfold GotAc; rw[M.o,J.o,L.o,if_neg (fun h=>by have h2:=h.2; rw[hh] at h2; cases h2)];exact⟨⟨B,C,wa,wk,ca,cc,none,0⟩,rfl,((F6.o.kind (Tw Y.o)).grown D).far nr,F⟩)
     have HV:=Qf H;obtain⟨q0,q1,q2,q3,q4,q5,q6,q7⟩:=BK.c8 E;clear E D F H J M L HG;obtain⟨z0,z1,z2,z3,z4,z5,z6,z7⟩:=BK.c8 Y.o;obtain⟨K9,L0,L5,L6,L7,L8,L9,M0⟩:=BK.f8 (Y.o);clear B8 Y A6 F6 F3;go_wp2_with fail;rw[<-HV.o];refine XB (v:=.tuple #[.agg #[.slice B xs.length C,.slice wa A9.length wk,.slice ca C9.length cc,Yi 0,Yi 0,(),.bool false,.bool false],.bool true]) (by simp[results,results57,go_sem,q0,q1,q2,q3,q4,q5,q6,q7]) rfl HF.o
   ·have L1:(er==0)=false:=Zu he;obtain⟨c0,c1,c2,c3,c4,c5,c6,c7⟩:=BK.c8 S.o;obtain⟨F0,H3,J9,K0,K1,K2,K3,K5⟩:=BK.f8 (S.o);obtain⟨v,H⟩:=Qe ((((((((M8.setCell ⟨(w:Nat)+1+1,0,none⟩ (.slice B xs.length C)).setCell ⟨(w:Nat)+1+1,1,none⟩ (.slice wa A9.length wk)).setCell ⟨(w:Nat)+1+1,2,none⟩ (.slice ca C9.length cc)).setCell ⟨(w:Nat)+1+1,3,none⟩ (Yi 0)).setCell ⟨(w:Nat)+1+1,4,none⟩ (Yi 0)).setCell ⟨(w:Nat)+1+1,5,none⟩ (.slice none 0 0)).setCell ⟨(w:Nat)+1+1,6,none⟩ (.bool false)).setCell ⟨(w:Nat)+1+1,7,none⟩ (.bool false));have E:BK ((w:Nat)+1+1) #[.slice B xs.length C,.slice wa A9.length wk,.slice ca C9.length cc,Yi 0,Yi 0,(),.bool false,.bool false] 34 v:=H▸((((((((X.o.set 0 _).set 1 _).set 2 _).set 3 _).set 4 _).set 5 _).set 6 _).set 7 _);have D:M8.grownBy v (some ((w:Nat)+1+1)):=H▸fM (fM (fM (fM (fM (fM (fM (dN _ _ _ _) _ _) _ _) _ _) _ _) _ _) _ _) _ _;have F:PM w v:=A5.o.grown D A5.o.size (fun k e=>by cases e; omega);have HF:Qg (G (.returned (.tuple #[.agg #[.slice B xs.length C,.slice wa A9.length wk,.slice ca C9.length cc,Yi 0,Yi 0,(),.bool false,.bool false],.bool true])) v):=Qf (by
     rw[HG.o]; unfold GotAc; rw[M.o,J.o,L.o,if_neg (fun h=>he h.1)];exact⟨⟨B,C,wa,wk,ca,cc,none,0⟩,rfl,((D7.o.kind (Tw X.o)).grown D).far nr,F⟩)
    have HV:=Qf H;obtain⟨q0,q1,q2,q3,q4,q5,q6,q7⟩:=BK.c8 E;clear E D F H J M L HG;obtain⟨z0,z1,z2,z3,z4,z5,z6,z7⟩:=BK.c8 X.o;obtain⟨K9,L0,L5,L6,L7,L8,L9,M0⟩:=BK.f8 (X.o);clear S X A5 D7 I D0 D9 he;go_wp2_with fail;rw[<-HV.o];refine XB (v:=.tuple #[.agg #[.slice B xs.length C,.slice wa A9.length wk,.slice ca C9.length cc,Yi 0,Yi 0,(),.bool false,.bool false],.bool true]) (by simp[results,results57,go_sem,q0,q1,q2,q3,q4,q5,q6,q7]) rfl HF.o
 ·have L1:(ge !=0)=true:=Zu he;obtain⟨c0,c1,c2,c3,c4,c5,c6,c7⟩:=BK.c8 R.o;obtain⟨F0,H3,J9,K0,K1,K2,K3,K5⟩:=BK.f8 (R.o);obtain⟨v,H⟩:=Qe ((((((((u5.setCell ⟨(w:Nat)+1+1,0,none⟩ (.slice B xs.length C)).setCell ⟨(w:Nat)+1+1,1,none⟩ (.slice wa A9.length wk)).setCell ⟨(w:Nat)+1+1,2,none⟩ (.slice ca C9.length cc)).setCell ⟨(w:Nat)+1+1,3,none⟩ (Yi id)).setCell ⟨(w:Nat)+1+1,4,none⟩ (Yi D2)).setCell ⟨(w:Nat)+1+1,5,none⟩ (.slice pa n pc)).setCell ⟨(w:Nat)+1+1,6,none⟩ (.bool asked)).setCell ⟨(w:Nat)+1+1,7,none⟩ (.bool false));have E:BK ((w:Nat)+1+1) #[.slice B xs.length C,.slice wa A9.length wk,.slice ca C9.length cc,Yi id,Yi D2,.slice pa n pc,.bool asked,.bool false] 34 v:=H▸((((((((V.o.set 0 _).set 1 _).set 2 _).set 3 _).set 4 _).set 5 _).set 6 _).set 7 _);have D:u5.grownBy v (some ((w:Nat)+1+1)):=H▸fM (fM (fM (fM (fM (fM (fM (dN _ _ _ _) _ _) _ _) _ _) _ _) _ _) _ _) _ _;have F:PM w v:=N.o.grown D N.o.size (fun k e=>by cases e; omega);have HF:Qg (G (.returned (.tuple #[.agg #[.slice B xs.length C,.slice wa A9.length wk,.slice ca C9.length cc,Yi id,Yi D2,.slice pa n pc,.bool asked,.bool false],.bool false])) v):=Qf (by
   rw[HG.o]; unfold GotAc;have ht:Qk ⟨xs,A9,C9,id,D2,ps,asked,false⟩ ⟨2,E0,E4,D3,ds,data⟩=(⟨xs,A9,C9,id,D2,ps,asked,false⟩,false):=by
    unfold Qk;rw[if_neg Zs,D4.o,if_pos he]
   rw[ht,HN.o];exact⟨⟨B,C,wa,wk,ca,cc,pa,pc⟩,rfl,(((B2.o.below N.o).kind (Tw V.o)).grown D).far nr,F⟩)
  have HV:=Qf H;obtain⟨q0,q1,q2,q3,q4,q5,q6,q7⟩:=BK.c8 E;clear E D F H D4 F1 HG B2 he;obtain⟨z0,z1,z2,z3,z4,z5,z6,z7⟩:=BK.c8 V.o;obtain⟨K9,L0,L5,L6,L7,L8,L9,M0⟩:=BK.f8 (V.o);rw[C0.o] at c0 c1 c2 c3 c4 c5 c6 c7 z0 z1 z2 z3 z4 z5 z6 z7 K9 L0 L5 L6 L7 L8 L9 M0;clear R V E2 B5 N A1 B0;go_wp2_with fail;rw[<-C0.o];rw[<-HV.o];refine XB (v:=.tuple #[.agg #[.slice B xs.length C,.slice wa A9.length wk,.slice ca C9.length cc,Yi id,Yi D2,.slice pa n pc,.bool asked,.bool false],.bool false]) (by simp[results,results57,go_sem,q0,q1,q2,q3,q4,q5,q6,q7]) rfl HF.o
theorem msgs_k8{ms:List Msg}(key:∀(j:Nat) (v:Value),W.cell? ⟨b,j,none⟩=some v->(∀t,v≠.string t)/\∀x,v≠Yu x)(H:GQ W W a ms)(C:W.grownBy W' (some b)):GQ W' W' a ms:=by
 intro i G;obtain⟨k,o,da,cd,rfl,A,c0,c1,c2,c3,c4,c5,E⟩:=H i G;have D:k≠b:=fun e=>by subst e; exact(key _ _ c5).1 _ rfl
 have B:=C.block k A (fun e=>D (by cases e; rfl));have mv:∀j,W'.cell? ⟨k,j,none⟩=W.cell? ⟨k,j,none⟩:=fun j=>XM (a:=⟨k,j,none⟩) B
 refine⟨k,o,da,cd,rfl,aO A C.size,(mv _).trans c0,(mv _).trans c1,(mv _).trans c2,(mv _).trans c3,(mv _).trans c4,(mv _).trans c5,E.kept C (fun F ad e=>?_)⟩;obtain⟨k2,o2,e2,_,q0,_⟩:=E 0 F;rw[e] at e2; cases e2;intro e3;cases e3;exact(key _ _ q0).2 _ rfl
theorem recS_done{s:Ses}(h:s.done=true):∀(ms:List Msg),Ql s ms=(s,0)
 | []=>rfl
 | m::ms=>by
  have A:Qk s m=(s,false):=by unfold Qk; rw[if_pos (.inl h)]
  rw[Ql,A];simp only;rw[recS_done h ms];rfl
theorem recS_stop:∀(l:List Msg) {s:Ses} (r:List Msg),(Ql s l).1.done=true->Ql s (l++r)=Ql s l
 | [],s,r,h=>recS_done h r
 | m::l,s,r,h=>by
  rw[Ql] at h;simp only at h;rw[bz,Ql,recS_stop l r h,Ql]
structure LRv (w:World) (a:Qa) (ms:List Msg) (s:Ses) (A:QF) (W:World):Prop where
 k:BK w #[.slice A.ha s.xs.length A.hc,.slice A.wa s.want.length A.wc,.slice A.ca s.com.length A.cc,Yi s.id,Yi s.tot,.slice A.pa s.ps.length A.pc,.bool s.asked,.bool s.done] 34 W
 z:BK ((w:Nat)+1) #[(),(),(),Yi 0,Yi 0,(),.bool false,.bool false] 34 W
 si:PQ W s A (w:Nat)
 be:PM w W
 ms:GQ W W a ms
theorem rreceive_any(s:Ses)(A:QF)(b:Nat)(L:Qb)(w:World)(D2:PQ w s A b)(hL:(L.length:Int)<=100000):
  Qh 24 #[s.val A,L] w (Xo s L w):=by
 obtain⟨G,hG⟩:=Qe (Xo s L w);rw[<-hG];obtain⟨xs,C3,D6,id,E5,ps,A6,dn⟩:=s;obtain⟨ha,hc,wa,wk,ca,cc,pa,pc⟩:=A;obtain⟨u2,M⟩:=Qe ((w.alloc (.cells #[.slice ha xs.length hc,.slice wa C3.length wk,.slice ca D6.length cc,Yi id,Yi E5,.slice pa ps.length pc,.bool A6,.bool dn] 34)).alloc (.cells #[(),(),(),Yi 0,Yi 0,(),.bool false,.bool false] 34));have C5:PM w u2:=M▸(ba _ _).alloc (by simp) _;have I:BK w #[.slice ha xs.length hc,.slice wa C3.length wk,.slice ca D6.length cc,Yi id,Yi E5,.slice pa ps.length pc,.bool A6,.bool dn] 34 u2:=M▸(BK.new _ _ _).alloc _;have C6:BK ((w:Nat)+1) #[(),(),(),Yi 0,Yi 0,(),.bool false,.bool false] 34 u2:=M▸BK.new2 _ _ _ _;cases dn with
 | true=>
  obtain⟨r0,r1,r2,r3,r4,r5,r6,r7⟩:=BK.c8 C6;have HF:Qg (G (.returned (.tuple #[UJ.val ⟨none,0,none,0,none,0,none,0⟩,Yi 0,Yi 18])) u2):=Qf (by rw[hG]; exact .inl ⟨rfl,rfl,C5⟩);rw[M] at HF r0 r1 r2 r3 r4 r5 r6 r7;clear hG D2 M C5 I C6;go_enter func24,ntmps24;go_wp2;refine XB (v:=.tuple #[UJ.val ⟨none,0,none,0,none,0,none,0⟩,Yi 0,Yi 18]) (by simp[results,results24,go_sem,UJ,r0,r1,r2,r3,r4,r5,r6,r7]) rfl HF.o
 | false=>
  have HS:=Qf (refScan_any L u2 Zo);rw[M] at HS;obtain⟨D8,HG,E3,E0,E4,B8⟩:=Yn (D2.far (B:=(w:Nat)) nr) hG M I C6 C5;obtain⟨y0,y1,y2,y3,y4,y5,y6,y7⟩:=BK.c8 I;rw[M] at y7;clear hG D2 M C5 I C6 y0 y1 y2 y3 y4 y5 y6;go_enter func24,ntmps24;go_wp2_with fail;refine HS.o.mono ?_;rintro e u ⟨ms,n,a,c,C1,rfl,hm,A5,E8,V,G6⟩;rw[<-E3.o] at A5;have F4:=C1.le;obtain⟨B0,A7⟩:=Yj (Vl C1) V;obtain⟨N,hN⟩:=Qe ms.length;have HN:=Qf hN;rw[<-hN];have H7:(N:Int)<=100000:=Zo;obtain⟨pb,D4⟩:=Qe ((w:Nat)+1);have G0:=Qf D4;rw[<-D4];have E2:Qg ((w:Nat)<=pb):=Qf Zo;have A2:Qg (∀(R:Ses×Nat),Ql ⟨xs,C3,D6,id,E5,ps,A6,false⟩ ms=R->∀(A:QF) (u:World),PQ u R.1 A u.heap.size->PM w u->G (.returned (.tuple #[R.1.val A,Yi (R.2:Int),Yi 0])) u):=Qf (fun R h A u h1 h2=>by
   rw[HG.o,<-h];rw[<-h] at h1;exact .inr ⟨rfl,ms,n,A,C1,rfl,h1,h2⟩)
  have D9:Qg (∃A',LRv w a ms (Ql ⟨xs,C3,D6,id,E5,ps,A6,false⟩ (ms.take 0)).1 A' u):=Qf ⟨⟨ha,hc,wa,wk,ca,cc,pa,pc⟩,E0.o.below A5,E4.o.below A5,(D8.o.below B8.o).below A5,(XT B8.o A5),hm⟩;clear C1 hm A5 E8 V G6 HS D8 hN F4 D4 E0 E4 B8 E3 y7 HG;go_wp2;go_loopw [9,10] (fun nv i wr=>∃k:Nat,k<=N/\nv=Yi ((Ql ⟨xs,C3,D6,id,E5,ps,A6,false⟩ (ms.take k)).2:Int)/\i=Yi k/\Qg (∃A',LRv w a ms (Ql ⟨xs,C3,D6,id,E5,ps,A6,false⟩ (ms.take k)).1 A' wr)) (fun _ i _=>N-(intOf i).toNat)
  case atStart=>exact⟨0,Zo,rfl,rfl,D9⟩
  case round=>
   clear D9;obtain⟨k,hk,rfl,rfl,HJ⟩:=hrel;have D5:=Tt (ms.take k) ⟨xs,C3,D6,id,E5,ps,A6,false⟩;have G9:(ms.take k).length<=k:=List.length_take_le _ _;have T:Qg (k=N\/(Ql ⟨xs,C3,D6,id,E5,ps,A6,false⟩ (ms.take k)).1.done=true->Ql ⟨xs,C3,D6,id,E5,ps,A6,false⟩ ms=Ql ⟨xs,C3,D6,id,E5,ps,A6,false⟩ (ms.take k)):=Qf (fun h=>by
    rcases h with h | h
    ·rw[show ms.take k=ms from ag (Zh HN.o)]
    ·have:=recS_stop (ms.take k) (ms.drop k) h
     rwa[aQ] at this)
   have Y:Qg (∀h:k<ms.length,Ql ⟨xs,C3,D6,id,E5,ps,A6,false⟩ (ms.take (k+1))=((Qk (Ql ⟨xs,C3,D6,id,E5,ps,A6,false⟩ (ms.take k)).1 ms[k]).1,(Ql ⟨xs,C3,D6,id,E5,ps,A6,false⟩ (ms.take k)).2+if(Qk (Ql ⟨xs,C3,D6,id,E5,ps,A6,false⟩ (ms.take k)).1 ms[k]).2=true then 1 else 0)):=Qf (fun h=>by
    rw[ai h];exact SX _ _ _)
   generalize Ql ⟨xs,C3,D6,id,E5,ps,A6,false⟩ (ms.take k)=RK at HJ T Y D5 ⊢;obtain⟨⟨fx,fw,fc,fi,ft,fp,fa,fd⟩,H4⟩:=RK;simp only at D5 T HJ Y ⊢;obtain⟨⟨F8,G2,G8,H1,F6,F7,G4,G5⟩,hl⟩:=HJ.out;have D3:=hl.z;rw[<-G0.o] at D3;have D:Qg (LRv w a ms ⟨fx,fw,fc,fi,ft,fp,fa,fd⟩ ⟨F8,G2,G8,H1,F6,F7,G4,G5⟩ wr):=Qf hl;clear HJ hl;have HZ:=Qf D3;clear D3;obtain⟨c0,c1,c2,c3,c4,c5,c6,c7⟩:=BK.c8 D.o.k;obtain⟨J7,J8,J9,K0,K1,K2,K3,K4⟩:=BK.f8 (D.o.k);have E8:(H4:Int)<=100000:=Zo;clear D5 G9;by_cases H9:k<N
   ·have G7:(k:Int)<(N:Int):=Zo;cases fd with
    | true=>
     have V:=T.o (.inr Zv);obtain⟨v,hv⟩:=Qe ((((((((wr.setCell pb (.slice F8 fx.length G2)).setCell ⟨pb,1,none⟩ (.slice G8 fw.length H1)).setCell ⟨pb,2,none⟩ (.slice F6 fc.length F7)).setCell ⟨pb,3,none⟩ (Yi fi)).setCell ⟨pb,4,none⟩ (Yi ft)).setCell ⟨pb,5,none⟩ (.slice G4 fp.length G5)).setCell ⟨pb,6,none⟩ (.bool fa)).setCell ⟨pb,7,none⟩ (.bool true));have B4:BK pb #[.slice F8 fx.length G2,.slice G8 fw.length H1,.slice F6 fc.length F7,Yi fi,Yi ft,.slice G4 fp.length G5,.bool fa,.bool true] 34 v:=hv▸((((((((HZ.o.set 0 _).set 1 _).set 2 _).set 3 _).set 4 _).set 5 _).set 6 _).set 7 _);have Z:wr.grownBy v (some pb):=hv▸fM (fM (fM (fM (fM (fM (fM (dN _ _ _ _) _ _) _ _) _ _) _ _) _ _) _ _) _ _;obtain⟨HF,HV⟩:=Yj (A2.o _ V _ v (((D.o.si.kind (Tw HZ.o)).grown Z).far nr) (D.o.be.grown Z D.o.be.size (fun k e=>by cases e; exact E2.o))) hv;obtain⟨z0,z1,z2,z3,z4,z5,z6,z7⟩:=BK.c8 HZ.o;obtain⟨I9,J0,J1,J2,J3,J4,J5,J6⟩:=BK.f8 (HZ.o);obtain⟨q0,q1,q2,q3,q4,q5,q6,q7⟩:=BK.c8 B4;clear B4 Z hv V D A2 Y T HZ B0 A7;go_wp2_with fail;rw[<-HV.o];refine XB (v:=.tuple #[.agg #[.slice F8 fx.length G2,.slice G8 fw.length H1,.slice F6 fc.length F7,Yi fi,Yi ft,.slice G4 fp.length G5,.bool fa,.bool true],Yi (H4:Int),Yi 0]) (by simp[results,results24,go_sem,q0,q1,q2,q3,q4,q5,q6,q7]) rfl HF.o
    | false=>
     have h1:k<ms.length:=Zh HN.o;obtain⟨b0,C9,da,cd,E7,A3,q0,q1,q2,q3,q4,q5,B9⟩:=D.o.ms k h1;have X:=Y.o h1;have B5:=B0.o _ (ak h1);have C0:=A7.o _ (ak h1);generalize ms[k]=m at q0 q1 q2 q3 q4 q5 B9 B5 X C0;obtain⟨H5,H6,I0,H2,dd,data⟩:=m;simp only at q0 q1 q2 q3 q4 q5 B9 B5 C0;have E9:=(zk B5).2.2.2.2.2.2.2;have H3:=E7;subst E7;by_cases I:H5=2
     ·subst I;have A1:=Qf (fun W (O:PM wr W)=>raccept_any ⟨fx,fw,fc,fi,ft,fp,fa,false⟩ ⟨F8,G2,G8,H1,F6,F7,G4,G5⟩ (w:Nat) ⟨2,H6,I0,H2,dd,data⟩ da cd W (D.o.si.below O) rfl rfl Zp Zp);have H0:IntKind.i64.wrap ((H4:Int)+1)=(H4:Int)+1:=ZV;unfold GotAc at A1;generalize Qk ⟨fx,fw,fc,fi,ft,fp,fa,false⟩ ⟨2,H6,I0,H2,dd,data⟩=TK at A1 X;obtain⟨⟨mx,mw,mc,mi,mt,mp,ma,md⟩,ok⟩:=TK;simp only at X A1;have Q:=Qf X;have J:=D.o.k.lt;have P:Qg (∀Wx,PM wr Wx->Wx.cell? w=some (.slice F8 fx.length G2)/\Wx.cell? ⟨w,1,none⟩=some (.slice G8 fw.length H1)/\Wx.cell? ⟨w,2,none⟩=some (.slice F6 fc.length F7)/\Wx.cell? ⟨w,3,none⟩=some (Yi fi)/\Wx.cell? ⟨w,4,none⟩=some (Yi ft)/\Wx.cell? ⟨w,5,none⟩=some (.slice G4 fp.length G5)/\Wx.cell? ⟨w,6,none⟩=some (.bool fa)/\Wx.cell? ⟨w,7,none⟩=some (.bool false)/\Wx.cell? ⟨b0,C9+k*6,none⟩=some (Yi 2)/\Wx.cell? ⟨b0,C9+k*6+1,none⟩=some (Yi H6)/\Wx.cell? ⟨b0,C9+k*6+2,none⟩=some (Yi I0)/\Wx.cell? ⟨b0,C9+k*6+3,none⟩=some (Yi H2)/\Wx.cell? ⟨b0,C9+k*6+4,none⟩=some (.slice da dd.length cd)/\Wx.cell? ⟨b0,C9+k*6+5,none⟩=some (.string ⟨data.toArray⟩)):=Qf (fun Wx O=>⟨(O.cell (p:=⟨w,0,none⟩) J).trans c0,(O.cell (p:=⟨w,1,none⟩) J).trans c1,(O.cell (p:=⟨w,2,none⟩) J).trans c2,(O.cell (p:=⟨w,3,none⟩) J).trans c3,(O.cell (p:=⟨w,4,none⟩) J).trans c4,(O.cell (p:=⟨w,5,none⟩) J).trans c5,(O.cell (p:=⟨w,6,none⟩) J).trans c6,(O.cell (p:=⟨w,7,none⟩) J).trans c7,(O.cell (p:=⟨b0,C9+k*6,none⟩) A3).trans q0,(O.cell (p:=⟨b0,C9+k*6+1,none⟩) A3).trans q1,(O.cell (p:=⟨b0,C9+k*6+2,none⟩) A3).trans q2,(O.cell (p:=⟨b0,C9+k*6+3,none⟩) A3).trans q3,(O.cell (p:=⟨b0,C9+k*6+4,none⟩) A3).trans q4,(O.cell (p:=⟨b0,C9+k*6+5,none⟩) A3).trans q5⟩);clear X B5 C0 E9 B9 Y T B0 A7 A2;go_upto_region 9 with fail
      go_cut [11,12] from 21 to 50 (fun nx K5 wx=>∃(nb:Nat) (E:QF),nx=.pointer (some ⟨nb,0,none⟩)/\K5=.bool ok/\Qg (BK nb #[.slice E.ha mx.length E.hc,.slice E.wa mw.length E.wc,.slice E.ca mc.length E.cc,Yi mi,Yi mt,.slice E.pa mp.length E.pc,.bool ma,.bool md] 34 wx/\PQ wx ⟨mx,mw,mc,mi,mt,mp,ma,md⟩ E (w:Nat)/\PM wr wx))
      case first=>
       have E1:Qg (∀W,PM wr W->∀(j:Nat) (v:Value),W.cell? ⟨w,j,none⟩=some v->(∀t,v≠.string t)/\∀x,v≠Yu x):=Qf (fun W O=>Tw (D.o.k.below O));have B1:PM wr wr.drew:=(bf wr).drew;have B6:Qg (PM wr (wr.drew.alloc (.cells #[(),(),(),Yi 0,Yi 0,(),.bool false,.bool false] 34))):=Qf (B1.alloc B1.size _);have F9:Qg (BK wr #[(),(),(),Yi 0,Yi 0,(),.bool false,.bool false] 34 (wr.drew.alloc (.cells #[(),(),(),Yi 0,Yi 0,(),.bool false,.bool false] 34))):=Qf (BK.new wr.drew _ _);have D7:=Qf B1;have E6:=P.o _ B1;clear B1 H0 D HZ Q c0 c1 c2 c3 c4 c5 c6 c7 J7 J8 J9 K0 K1 K2 K3 K4 q0 q1 q2 q3 q4 q5;refine wp_region_held_drew (S:=(fun Wx=>Wx.cell? w=some (.slice F8 fx.length G2)/\Wx.cell? ⟨w,1,none⟩=some (.slice G8 fw.length H1)/\Wx.cell? ⟨w,2,none⟩=some (.slice F6 fc.length F7)/\Wx.cell? ⟨w,3,none⟩=some (Yi fi)/\Wx.cell? ⟨w,4,none⟩=some (Yi ft)/\Wx.cell? ⟨w,5,none⟩=some (.slice G4 fp.length G5)/\Wx.cell? ⟨w,6,none⟩=some (.bool fa)/\Wx.cell? ⟨w,7,none⟩=some (.bool false)/\Wx.cell? ⟨b0,C9+k*6,none⟩=some (Yi 2)/\Wx.cell? ⟨b0,C9+k*6+1,none⟩=some (Yi H6)/\Wx.cell? ⟨b0,C9+k*6+2,none⟩=some (Yi I0)/\Wx.cell? ⟨b0,C9+k*6+3,none⟩=some (Yi H2)/\Wx.cell? ⟨b0,C9+k*6+4,none⟩=some (.slice da dd.length cd)/\Wx.cell? ⟨b0,C9+k*6+5,none⟩=some (.string ⟨data.toArray⟩))) Zk E6 (fun hHeld=>?_);clear E6;refine Xx 0 ?_;refine Xx 1 ?_;refine Xx 2 ?_;refine Xx 3 ?_;refine Xx 4 ?_;refine wpAnyH_ready (rs:=[5,9]) Zk Zs ?_;refine AllReadyH.cons rfl (fun K U=>?_) ?_
       ·go_simp;refine(A1.o _ D7.o).mono ?_;rintro e u5 ⟨E,rfl,A0,A4⟩;simp only at A0 ⊢;have C:Qg (PM wr u5):=Qf (D7.o.trans A4);have B7:=Qf A0;clear A0 A4;refine U.out _ _ (P.o _ C.o) (fun hHeld=>?_);clear U K;refine Xx 6 ?_;refine Xx 7 ?_;refine Xx 8 ?_;refine wpAnyH_ready (rs:=[9]) Zk Zs ?_;refine AllReadyH.cons rfl (fun K U=>?_) AllReadyH.nil;go_simp;refine U.out _ _ (P.o _ (C.o.alloc C.o.size _)) (fun hHeld=>?_);clear U K;refine wpAnyH_ready (rs:=[10]) Zk Zs ?_;refine AllReadyH.cons rfl (fun K U=>?_) AllReadyH.nil;go_simp;refine U.out _ _ (P.o _ (C.o.alloc C.o.size _)) (fun hHeld=>?_);clear U K;refine Xx 11 ?_;refine wpAnyH_done Zk ?_ _;go_wp2_with fail;go_meet
        case rel=>
         have F:PM u5 (u5.alloc (.cells #[.slice E.ha mx.length E.hc,.slice E.wa mw.length E.wc,.slice E.ca mc.length E.cc,Yi mi,Yi mt,.slice E.pa mp.length E.pc,.bool ma,.bool md] 34)):=ba _ _;exact⟨u5,E,rfl,rfl,Qf ⟨BK.new _ _ _,(B7.o.kind (E1.o _ C.o)).below F,(XT C.o F)⟩⟩
       ·refine AllReadyH.cons rfl (fun K U=>?_) AllReadyH.nil;go_simp;refine U.out _ _ (P.o _ B6.o) (fun hHeld=>?_);clear U K;refine wpAnyH_ready (rs:=[5]) Zk Zs ?_;refine AllReadyH.cons rfl (fun K U=>?_) AllReadyH.nil;go_simp;refine(A1.o _ B6.o).mono ?_;rintro e u5 ⟨E,rfl,A0,A4⟩;simp only at A0 ⊢;have C:Qg (PM wr u5):=Qf (XT B6.o A4);obtain⟨B7,A8⟩:=Yj A0 (F9.o.below A4);clear A0 A4;refine U.out _ _ (P.o _ C.o) (fun hHeld=>?_);clear U K;refine Xx 6 ?_;refine Xx 7 ?_;refine Xx 8 ?_;obtain⟨u6,C2⟩:=Qe ((((((((u5.setCell wr (.slice E.ha mx.length E.hc)).setCell ⟨wr,1,none⟩ (.slice E.wa mw.length E.wc)).setCell ⟨wr,2,none⟩ (.slice E.ca mc.length E.cc)).setCell ⟨wr,3,none⟩ (Yi mi)).setCell ⟨wr,4,none⟩ (Yi mt)).setCell ⟨wr,5,none⟩ (.slice E.pa mp.length E.pc)).setCell ⟨wr,6,none⟩ (.bool ma)).setCell ⟨wr,7,none⟩ (.bool md));have F0:BK wr #[.slice E.ha mx.length E.hc,.slice E.wa mw.length E.wc,.slice E.ca mc.length E.cc,Yi mi,Yi mt,.slice E.pa mp.length E.pc,.bool ma,.bool md] 34 u6:=C2▸((((((((A8.o.set 0 _).set 1 _).set 2 _).set 3 _).set 4 _).set 5 _).set 6 _).set 7 _);have D1:u5.grownBy u6 (some (wr:Nat)):=C2▸fM (fM (fM (fM (fM (fM (fM (dN _ _ _ _) _ _) _ _) _ _) _ _) _ _) _ _) _ _;have C7:Qg (PM wr u6):=Qf (C.o.grown D1 C.o.size (fun k e=>by cases e; exact nr));have G1:Qg (BK wr #[.slice E.ha mx.length E.hc,.slice E.wa mw.length E.wc,.slice E.ca mc.length E.cc,Yi mi,Yi mt,.slice E.pa mp.length E.pc,.bool ma,.bool md] 34 u6/\PQ u6 ⟨mx,mw,mc,mi,mt,mp,ma,md⟩ E (w:Nat)/\PM wr u6):=Qf ⟨F0,((B7.o.kind (Tw A8.o)).grown D1 |>.kind (E1.o _ C7.o)),C7.o⟩;obtain⟨z0,z1,z2,z3,z4,z5,z6,z7⟩:=BK.c8 A8.o;obtain⟨I9,J0,J1,J2,J3,J4,J5,J6⟩:=BK.f8 (A8.o);have G3:=Qf C2;clear F0 D1 C2 B7 A8;refine wpAnyH_ready (rs:=[10]) Zk Zs ?_;refine AllReadyH.cons rfl (fun K U=>?_) AllReadyH.nil;go_simp;clear z0 z1 z2 z3 z4 z5 z6 z7 I9 J0 J1 J2 J3 J4 J5 J6;rw[<-G3.o];refine U.out _ _ (P.o _ C7.o) (fun hHeld=>?_);clear U K;refine Xx 11 ?_;refine wpAnyH_done Zk ?_ _;go_wp2_with fail;go_meet
        case rel=>exact⟨wr,E,rfl,rfl,G1⟩
      case rest=>
      obtain⟨nb,⟨I3,I4,I7,I8,I1,I2,I5,I6⟩,rfl,rfl,H⟩:=hcut;simp only at H;obtain⟨F2,F3,F⟩:=H.out;have B3:=D.o.k.below F;have F5:=D.o.z.below F;obtain⟨v7,C4⟩:=Qe ((((((((wc.setCell w (.slice I3 mx.length I4)).setCell ⟨w,1,none⟩ (.slice I7 mw.length I8)).setCell ⟨w,2,none⟩ (.slice I1 mc.length I2)).setCell ⟨w,3,none⟩ (Yi mi)).setCell ⟨w,4,none⟩ (Yi mt)).setCell ⟨w,5,none⟩ (.slice I5 mp.length I6)).setCell ⟨w,6,none⟩ (.bool ma)).setCell ⟨w,7,none⟩ (.bool md));have F1:BK w #[.slice I3 mx.length I4,.slice I7 mw.length I8,.slice I1 mc.length I2,Yi mi,Yi mt,.slice I5 mp.length I6,.bool ma,.bool md] 34 v7:=C4▸((((((((B3.set 0 _).set 1 _).set 2 _).set 3 _).set 4 _).set 5 _).set 6 _).set 7 _);have B2:wc.grownBy v7 (some (w:Nat)):=C4▸fM (fM (fM (fM (fM (fM (fM (dN _ _ _ _) _ _) _ _) _ _) _ _) _ _) _ _) _ _;have D0:=(XT D.o.be F);have A9:Qg (LRv w (some ⟨b0,C9,none⟩) ms ⟨mx,mw,mc,mi,mt,mp,ma,md⟩ ⟨I3,I4,I7,I8,I1,I2,I5,I6⟩ v7):=Qf ⟨F1,F5.grow1 B2 Zo,F3.grown B2,D0.grown B2 D0.size (fun k e=>by cases e; exact nr),msgs_k8 (Tw B3) ((D.o.ms.below F nr).mono F.size) B2⟩;obtain⟨r0,r1,r2,r3,r4,r5,r6,r7⟩:=BK.c8 B3;obtain⟨K6,K7,K8,K9,L0,L1,L2,L3⟩:=BK.f8 (B3);obtain⟨x0,x1,x2,x3,x4,x5,x6,x7⟩:=BK.c8 F2;rw[C4] at A9;clear c0 c1 c2 c3 c4 c5 c6 c7 J7 J8 J9 K0 K1 K2 K3 K4 F2 B3 C4 F1 B2 F3 F H F5 D0 A1 D HZ q0 q1 q2 q3 q4 q5 J P;cases ok with
      | true=>
       have C8:=A9;clear A9;go_wp2;go_roundw
       case rel=>exact⟨k+1,Zo,by rw[Q.o]; go_num,Zg,Q.o▸Qf ⟨_,C8.out⟩⟩
       case measure=>exact Yr
      | false=>
       have C8:=A9;clear A9;go_wp2;go_roundw
       case rel=>exact⟨k+1,Zo,by rw[Q.o]; go_num,Zg,Q.o▸Qf ⟨_,C8.out⟩⟩
       case measure=>exact Yr
     ·have H8:(H5==2)=false:=Zu I;have ht:Qk ⟨fx,fw,fc,fi,ft,fp,fa,false⟩ ⟨H5,H6,I0,H2,dd,data⟩=(⟨fx,fw,fc,fi,ft,fp,fa,false⟩,false):=by unfold Qk; rw[if_pos (.inr I)]
      rw[ht] at X;have Q:=Qf X;clear X B5 C0 E9 B9 Y T B0 A7 A2 ht I;go_wp2;go_roundw
      case rel=>exact⟨k+1,Zo,by rw[Q.o]; go_num,Zg,Q.o▸Qf ⟨_,D.o⟩⟩
      case measure=>exact Yr
   ·have G7:¬(k:Int)<(N:Int):=Zo;have V:=T.o (.inl Zo);obtain⟨v,hv⟩:=Qe ((((((((wr.setCell pb (.slice F8 fx.length G2)).setCell ⟨pb,1,none⟩ (.slice G8 fw.length H1)).setCell ⟨pb,2,none⟩ (.slice F6 fc.length F7)).setCell ⟨pb,3,none⟩ (Yi fi)).setCell ⟨pb,4,none⟩ (Yi ft)).setCell ⟨pb,5,none⟩ (.slice G4 fp.length G5)).setCell ⟨pb,6,none⟩ (.bool fa)).setCell ⟨pb,7,none⟩ (.bool fd));have B4:BK pb #[.slice F8 fx.length G2,.slice G8 fw.length H1,.slice F6 fc.length F7,Yi fi,Yi ft,.slice G4 fp.length G5,.bool fa,.bool fd] 34 v:=hv▸((((((((HZ.o.set 0 _).set 1 _).set 2 _).set 3 _).set 4 _).set 5 _).set 6 _).set 7 _);have Z:wr.grownBy v (some pb):=hv▸fM (fM (fM (fM (fM (fM (fM (dN _ _ _ _) _ _) _ _) _ _) _ _) _ _) _ _) _ _;obtain⟨HF,HV⟩:=Yj (A2.o _ V _ v (((D.o.si.kind (Tw HZ.o)).grown Z).far nr) (D.o.be.grown Z D.o.be.size (fun k e=>by cases e; exact E2.o))) hv;obtain⟨z0,z1,z2,z3,z4,z5,z6,z7⟩:=BK.c8 HZ.o;obtain⟨I9,J0,J1,J2,J3,J4,J5,J6⟩:=BK.f8 (HZ.o);obtain⟨q0,q1,q2,q3,q4,q5,q6,q7⟩:=BK.c8 B4;clear B4 Z hv V D A2 Y T HZ B0 A7;go_wp2_with fail;rw[<-HV.o];refine XB (v:=.tuple #[.agg #[.slice F8 fx.length G2,.slice G8 fw.length H1,.slice F6 fc.length F7,Yi fi,Yi ft,.slice G4 fp.length G5,.bool fa,.bool fd],Yi (H4:Int),Yi 0]) (by simp[results,results24,go_sem,q0,q1,q2,q3,q4,q5,q6,q7]) rfl HF.o
theorem rc_pair(s:Ses)(A:QF)(b:Nat)(t:Qb)(I:t.length<=6000):∃(R:Ses) (n f:Int),(∀W,PQ W s A b->Qh 23 #[.agg (Ses.arr s A),t] W fun e w'=>∃E,e=.returned (.tuple #[.agg (Ses.arr R E),Yi n,Yi f])/\PQ w' R E w'.heap.size/\PM W w')/\∀W,PQ W s A b->Qh 24 #[.agg (Ses.arr s A),t] W fun e w'=>∃E,e=.returned (.tuple #[.agg (Ses.arr R E),Yi n,Yi f])/\PQ w' R E w'.heap.size/\PM W w':=by
 obtain⟨ms,n,B⟩:=BG.total t.length t nr;cases C:s.done with
 | true=>
  have J:∀W e w',Xo s t W e w'->∃E,e=.returned (.tuple #[.agg (Ses.arr UJ E),Yi 0,Yi 18])/\PQ w' UJ E w'.heap.size/\PM W w':=fun W e w' h=>by
   rcases h with⟨_,rfl,H⟩ | ⟨h,_⟩
   ·exact⟨_,rfl,V4,H⟩
   ·rw[C] at h; cases h
  exact⟨UJ,0,18,fun W h=>(QL s A b t W h Zo).mono (J W),fun W h=>(rreceive_any s A b t W h Zo).mono (J W)⟩
 | false=>
  have J:∀W e w',Xo s t W e w'->∃E,e=.returned (.tuple #[.agg (Ses.arr (Ql s ms).1 E),Yi (Ql s ms).2,Yi 0])/\PQ w' (Ql s ms).1 E w'.heap.size/\PM W w':=fun W e w' h=>by
   rcases h with⟨h,_⟩ | ⟨_,K,n2,E,D,rfl,F,G⟩
   ·rw[C] at h; cases h
   ·obtain⟨rfl,_⟩:=B.one D;exact⟨E,rfl,F,G⟩
  exact⟨(Ql s ms).1,(Ql s ms).2,0,fun W h=>(QL s A b t W h Zo).mono (J W),fun W h=>(rreceive_any s A b t W h Zo).mono (J W)⟩
theorem beg_in{x:Fet}{A:Sz}(h:PW w x A)(S:QM x):∃(R:Ses) (k:Int) (E:QF),(∀W,PM w W->Qh 12 #[.slice A.ha x.xs.length A.hc,.slice A.wa x.want.length A.wc,.slice A.ca x.com.length A.cc] W (Xz (.tuple #[R.val E,Yi k]) W))/\(k=0->∀W b,PM w W->(w:Nat)<=b->PQ W R E b):=by
 obtain⟨xs,ys,X,Y,ts,sz⟩:=x;obtain⟨I,J,ya,yc,wa,wc,ca,cc,ta,tc⟩:=A;obtain⟨F,N,C,D,O,P⟩:=h;obtain⟨f1,f2,f3,f4,f5,f6,f7,f8⟩:=S;simp only at F N C D O P f1 f2 f3 f4 f5 f6;obtain⟨T,K⟩:=RG f1;obtain⟨V,M⟩:=PP f2;have L:jQ w I xs J:=⟨F.its,F.cap.1,Zo,fun x U=>Zh (K x U)⟩;refine⟨(Qm xs X Y).1,(Qm xs X Y).2,Uy (Qm xs X Y) ⟨I,J,wa,wc,ca,cc,none,0⟩,fun W B=>Qx I xs J wa X wc ca Y cc W (L.below B) M (C.dig.ahead B) (D.dig.ahead B) C.ok D.ok Zo Zo Zo,fun H W b B Q=>?_⟩;have G:QR xs [] Y=0:=Classical.byContradiction fun G=>by
  unfold Qm at H;rw[if_neg Zo,if_pos G] at H;exact G H
 rw[Sy Zo G];exact sesN B.size Q (F.its.below B nr) F.cap.1 f1 f2 (C.dig.below B nr) (D.dig.below B nr) C.cap.1 D.cap.1 C.ok D.ok f3 f4 _
structure LRx (w:World) (qb:Nat) (ta:Qa) (ts:List (Qb)) (s:Ses) (A:QF) (W:World):Prop where
 k4:BK qb (Ses.arr s A) 34 W
 si:PQ W s A qb
 be:PM w W
 tx:Txs w W ta ts
theorem treceive_any(F7:T9)(x:Fet)(A:Sz)(w:World)(h:PW w x A):
  Qh 5 #[.agg (x.arr A)] w (Xz (.bool true) w):=by
 obtain⟨G,hG⟩:∃G:Ending->World->Prop,G=(Xz (.bool true) w):=⟨_,rfl⟩;rw[<-hG];have HG:Qg (∀u,PM w u->G (.returned (.bool true)) u):=Qf (fun u hu=>by rw[hG]; exact⟨rfl,hu⟩);obtain⟨Z,L,P⟩:=Yk (fun W=>Rt F7 W) (fun W (hW:PM w W)=>Sa x A W (h.below hW)) (fun(hf:QM x)=>beg_in h hf);have C:Qg (QM x->∀t∈x.ts,t.length<=6000):=Qf (fun hf=>hf.tl);have S:=Qf h.t;clear hG h;obtain⟨xs,ys,J0,J1,ts,sz⟩:=x;obtain⟨ha,hc,ya,yc,wa,wc,ca,cc,ta,tc⟩:=A;simp only[Fet.arr] at L P C S ⊢;obtain⟨nx,E7⟩:=Qe xs.length;obtain⟨nw,E6⟩:=Qe J0.length;obtain⟨nc,E5⟩:=Qe J1.length;obtain⟨nt,C4⟩:=Qe ts.length;rw[<-E7,<-E6,<-E5] at L P ⊢;rw[<-C4] at L ⊢;generalize ys.length=ny at L ⊢;have D3:=Qf C4;clear E7 E6 E5 C4;obtain⟨u1,U⟩:=Qe (w.alloc (.cells #[.slice ha nx hc,.slice ya ny yc,.slice wa nw wc,.slice ca nc cc,.slice ta nt tc,Yi sz] 27));have B9:PM w u1:=U▸ba _ _;have D9:Qg (BK w #[.slice ha nx hc,.slice ya ny yc,.slice wa nw wc,.slice ca nc cc,.slice ta nt tc,Yi sz] 27 u1):=Qf (U▸BK.new _ _ _);have HD:=Qf (L.o u1 B9);rw[U] at HD;obtain⟨B2,D6⟩:=Yj B9 U;clear U B9 L;go_enter func5,ntmps5;go_wp2_with fail;refine HD.o.mono ?_;rintro e u2 ⟨⟨r,rfl,hr⟩,B⟩;rw[<-D6.o] at B;obtain⟨J,A4⟩:=Yj (XT B2.o B) (D9.o.below B);clear B HD D6 B2 D9;cases r with
 | false=>
  clear P C S hr;go_wp2_with fail;refine(Z.o u2).mono ?_;rintro e u3 ⟨rfl,B⟩;have HF:=Qf (HG.o u3 (XT J.o B));clear B;go_wp2_with fail;exact HF.o
 | true=>
  have A2:=Qf (hr Zv);have C:=Qf (C.o A2.o);have E3:ts.length<=4:=A2.o.lt;have E3:nt<=4:=D3.o▸E3;obtain⟨⟨sx,sw,sc,si,st,sp,sa,sd⟩,e0,⟨I4,I5,I8,I9,I2,I3,I6,I7⟩,g1,g2⟩:=P.o A2.o;unfold Ses.val at g1;simp only at g1;obtain⟨G1,B4⟩:=Yj (g1 u2 J.o) g2;obtain⟨x0,x1,x2,x3,x4,x5⟩:=BK.c6 A4.o;clear hr P g1 g2 A2;go_wp2_with fail;refine G1.o.mono ?_;rintro e u3 ⟨rfl,B⟩;obtain⟨v3,V⟩:=Qe (u3.alloc (.cells #[.slice I4 sx.length I5,.slice I8 sw.length I9,.slice I2 sc.length I3,Yi si,Yi st,.slice I6 sp.length I7,.bool sa,.bool sd] 34));have E1:PM u3 v3:=V▸ba _ _;have T:=(XT B E1);have K:=Qf (XT J.o T);have B5:Qg (BK u3 #[.slice I4 sx.length I5,.slice I8 sw.length I9,.slice I2 sc.length I3,Yi si,Yi st,.slice I6 sp.length I7,.bool sa,.bool sd] 34 v3):=Qf (V▸BK.new _ _ _);have E0:=Qf (A4.o.below T);have F9:(w:Nat)<(u3:Nat):=aO A4.o.lt B.size;obtain⟨x0,x1,x2,x3,x4,x5⟩:=BK.c6 E0.o;rw[V] at x4;have A3:=Qf V;clear V B E1 T G1 A4 J E0 x0 x1 x2 x3 x5;by_cases hz:e0=0
  case neg=>
   have H1:(e0 !=0)=true:=Zu hz;have O:=K;rw[A3.o] at O;clear hz B4 C S B5 K A3;go_wp2_with fail;refine(Z.o _).mono ?_;rintro e u4 ⟨rfl,B⟩;have HF:=Qf (HG.o u4 (XT O.out B));clear B;go_wp2_with fail;exact HF.o
  subst hz;obtain⟨qb,C5⟩:=Qe (u3:Nat);have C9:Qg (∃s A,LRx w qb ta ts s A v3):=Qf ⟨⟨sx,sw,sc,si,st,sp,sa,sd⟩,⟨I4,I5,I8,I9,I2,I3,I6,I7⟩,C5▸B5.o,B4.o rfl v3 qb K.o Zo,K.o,S.o.below nr K.o⟩;have D5:Qg ((w:Nat)<qb):=Qf Zo;clear B4 S B5 K F9;go_wp2_with fail;rw[<-A3.o,<-C5];clear x4 C5 A3;go_loopw [33] (fun i wr=>∃k:Nat,k<=nt/\i=Yi k/\Qg (∃s A,LRx w qb ta ts s A wr)) (fun i _=>nt-(intOf i).toNat)
  case atStart=>exact⟨0,Zo,rfl,C9⟩
  case round=>
   obtain⟨k,hk,rfl,HJ⟩:=hrel;obtain⟨⟨fx,fw,fc,fi,ft,fp,fa,fd⟩,⟨G2,G3,H2,H3,F6,F8,G4,H0⟩,hl⟩:=HJ.out;have H:=Qf hl;have A8:=hl.k4;unfold Ses.arr at A8;simp only at A8;have F:=Qf A8;clear HJ C9 hl A8;by_cases G8:k<nt
   ·have F5:(k:Int)<(nt:Int):=Zo;have h1:k<ts.length:=Zh D3.o;obtain⟨b0,o0,G0,G5,q0⟩:=H.o.tx k h1;have E8:=C.o _ (ak h1);subst G0;generalize ts[k]=t at q0 E8;obtain⟨⟨mx,mw,mc,mi,mt,mp,ma,md⟩,n,f,k1,k2⟩:=rc_pair ⟨fx,fw,fc,fi,ft,fp,fa,fd⟩ ⟨G2,G3,H2,H3,F6,F8,G4,H0⟩ qb t E8;simp only[Ses.arr] at k1 k2;obtain⟨D,C2⟩:=Yj (k1 wr H.o.si) k2;obtain⟨c0,c1,c2,c3,c4,c5,c6,c7⟩:=BK.c8 F.o;clear k1 k2;go_wp2_with fail;refine D.o.mono ?_;rintro e u5 ⟨⟨E9,F0,F3,F4,B3,C3,F1,F2⟩,rfl,C6,A5⟩;simp only at C6 ⊢;obtain⟨v6,X⟩:=Qe (u5.alloc (.cells #[.slice E9 mx.length F0,.slice F3 mw.length F4,.slice B3 mc.length C3,Yi mi,Yi mt,.slice F1 mp.length F2,.bool ma,.bool md] 34));have C0:PM u5 v6:=X▸ba _ _;have E:=Qf (XT A5 C0);obtain⟨ab,B8⟩:=Qe (u5:Nat);have C8:Qg (BK ab #[.slice E9 mx.length F0,.slice F3 mw.length F4,.slice B3 mc.length C3,Yi mi,Yi mt,.slice F1 mp.length F2,.bool ma,.bool md] 34 v6):=Qf (by rw[X,B8]; exact BK.new _ _ _);have D4:Qg (PQ v6 ⟨mx,mw,mc,mi,mt,mp,ma,md⟩ ⟨E9,F0,F3,F4,B3,C3,F1,F2⟩ qb):=Qf ((C6.kind (Tw (F.o.below A5))).below C0);obtain⟨D,D1⟩:=Yj (C2.o v6 (H.o.si.below E.o)) (F.o.below E.o);have q6:=(XT H.o.be E.o).size;have p0:=(H.o.tx.below H.o.be.size E.o) k h1;clear c0 c1 c2 c3 c4 c5 c6 c7 C6 A5 C0 C2;obtain⟨c0,c1,c2,c3,c4,c5,c6,c7⟩:=BK.c8 D1.o;rw[X] at c0 c1 c2 c3 c4 c5 c6 c7 D;have D7:=Qf X;clear X p0 q6;go_wp2_with fail;refine D.o.mono ?_;rintro e u7 ⟨⟨H6,H7,I0,I1,H4,H5,H8,H9⟩,rfl,C7,A6⟩;rw[<-D7.o] at A6;simp only at C7 ⊢;rw[<-B8];obtain⟨v8,Y⟩:=Qe (u7.alloc (.cells #[.slice H6 mx.length H7,.slice I0 mw.length I1,.slice H4 mc.length H5,Yi mi,Yi mt,.slice H8 mp.length H9,.bool ma,.bool md] 34));have C1:PM u7 v8:=Y▸ba _ _;have I:=(XT A6 C1);obtain⟨A0,B0,B6⟩:=Yk (XT E.o I) (C8.o.below I) (D4.o.below I);have D2:=Qf (F.o.below A0.o);have E4:BK u7 #[.slice H6 mx.length H7,.slice I0 mw.length I1,.slice H4 mc.length H5,Yi mi,Yi mt,.slice H8 mp.length H9,.bool ma,.bool md] 34 v8:=Y▸BK.new _ _ _;have D:=Qf (Tq ⟨mx,mw,mc,mi,mt,mp,ma,md⟩ ⟨E9,F0,F3,F4,B3,C3,F1,F2⟩ ⟨H6,H7,I0,I1,H4,H5,H8,H9⟩ qb (u7:Nat) v8 B6.o (C7.below C1));unfold Ses.val at D;simp only at D;clear c0 c1 c2 c3 c4 c5 c6 c7 C7 A6 C1 I C8 D4 D1 E D7;obtain⟨c0,c1,c2,c3,c4,c5,c6,c7⟩:=BK.c8 B0.o;obtain⟨d0,d1,d2,d3,d4,d5,d6,d7⟩:=BK.c8 E4;rw[Y] at c0 c1 c2 c3 c4 c5 c6 c7 d0 d1 d2 d3 d4 d5 d6 d7 D;have D8:=Qf Y;clear Y E4 B8;have G9:(n !=n)=false:=Zs;have G7:(f !=f)=false:=Zs;go_wp2_with fail;refine D.o.mono ?_;rintro e u9 ⟨rfl,M⟩;rw[<-D8.o] at M;obtain⟨A1,B1,B7,R⟩:=Yl (XT A0.o M) (B0.o.below M) (B6.o.below M) (D2.o.below M);clear c0 c1 c2 c3 c4 c5 c6 c7 d0 d1 d2 d3 d4 d5 d6 d7 M D D8 B0 B6 D2 A0;have N:=(XT H.o.be A1.o);by_cases hf:f=0
    case neg=>
     have G6:(f !=0)=true:=Zu hf;have Q:=Qf N;clear hf N H F A1 B1 B7 R C q0;go_wp2_with fail;refine(Z.o _).mono ?_;rintro e u4 ⟨rfl,B⟩;have HF:=Qf (HG.o u4 (XT Q.o B));clear B;go_wp2_with fail;exact HF.o
    subst hf;obtain⟨v7,A9⟩:=Qe ((((((((u9.setCell qb (.slice E9 mx.length F0)).setCell ⟨qb,1,none⟩ (.slice F3 mw.length F4)).setCell ⟨qb,2,none⟩ (.slice B3 mc.length C3)).setCell ⟨qb,3,none⟩ (Yi mi)).setCell ⟨qb,4,none⟩ (Yi mt)).setCell ⟨qb,5,none⟩ (.slice F1 mp.length F2)).setCell ⟨qb,6,none⟩ (.bool ma)).setCell ⟨qb,7,none⟩ (.bool md));have E2:BK qb #[.slice E9 mx.length F0,.slice F3 mw.length F4,.slice B3 mc.length C3,Yi mi,Yi mt,.slice F1 mp.length F2,.bool ma,.bool md] 34 v7:=A9▸((((((((R.o.set 0 _).set 1 _).set 2 _).set 3 _).set 4 _).set 5 _).set 6 _).set 7 _);have A7:u9.grownBy v7 (some qb):=A9▸fM (fM (fM (fM (fM (fM (fM (dN _ _ _ _) _ _) _ _) _ _) _ _) _ _) _ _) _ _;have D0:Qg (∃s A,LRx w qb (some ⟨b0,o0,none⟩) ts s A v7):=Qf ⟨⟨mx,mw,mc,mi,mt,mp,ma,md⟩,⟨E9,F0,F3,F4,B3,C3,F1,F2⟩,E2,B7.o.grown A7,N.grown A7 N.size (fun k e=>by cases e; exact Nat.le_of_lt D5.o),(H.o.tx.below H.o.be.size A1.o).grown N.size (Nat.le_of_lt D5.o) A7⟩;obtain⟨r0,r1,r2,r3,r4,r5,r6,r7⟩:=BK.c8 R.o;obtain⟨J2,J3,J4,J5,J6,J7,J8,J9⟩:=BK.f8 (R.o);obtain⟨x0,x1,x2,x3,x4,x5,x6,x7⟩:=BK.c8 B1.o;rw[A9] at D0;clear A9 E2 A7 N H F A1 B1 B7 R C q0;go_wp2;go_roundw
    case rel=>exact⟨k+1,Zo,Zg,D0⟩
    case measure=>exact Yr
   ·have F5:¬(k:Int)<(nt:Int):=Zo;have Q:=Qf H.o.be;clear H F C;go_wp2_with fail;refine(Z.o _).mono ?_;rintro e u4 ⟨rfl,B⟩;have HF:=Qf (HG.o u4 (XT Q.o B));clear B;go_wp2_with fail;exact HF.o
