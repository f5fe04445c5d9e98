/- Lemmas. -/
import Derived.Test.YtkedhdcnakhbgaaGreatG2
import Derived.Test.YtkedhdcnakhbgaaGreatG4
import Derived.Test.YtkedhdcnakhbgaaGreatW3
import Derived.Deep.RegionWith
import Derived.Test.YtkedhdcnakhbgaaGreatG1
set_option linter.unusedSimpArgs false
set_option maxRecDepth 100000
set_option maxHeartbeats 16000000
namespace Go.Proofs.YtkedhdcnakhbgaaGreat
open Tryz
open Go.RowKit
set_option linter.unusedVariables false
variable {ns:List Int}{c j:Nat}{L T l r:Qb}{ds:Qd}
theorem QQ(f:Nat):∀(x:Int) (w:World),f<=8->0<=x->x<18446744073709551616->
  Qh 88 #[Yu x,Yi f] w (Xz (.string ⟨(be f x).toArray⟩) w):=by
 induction f with
 | zero=>
  intro x w _ O _;go_enter func88,ntmps88;go_wp2;go_ret;exact⟨rfl,bf _⟩
 | succ f ih=>
  intro x w Y O X;obtain⟨y,E⟩:=Qe (x/256);obtain⟨c,B⟩:=Qe (x%256);obtain⟨L,C⟩:=Qe (be f y);have IH:Qg (∀w:World,Qh 88 #[Yu y,Yi f] w (Xz (.string ⟨L.toArray⟩) w)):=Qf (fun w=>C▸ih y w (by omega) (by omega) (by omega));have Q:L.length<=10:=by rw[C,bY]; omega
  have N:Qg (be (f+1) x=L++[UInt8.ofNat c.toNat]):=Qf (by rw[JR,C,E,B]);have U:=EE;have J:=yK;have I:=fun W=>run_string_add_lists (P:=prog) W L [UInt8.ofNat c.toNat] Zo Zs
  have Z:x/2^8=y:=Zw E;have V:x/256=y:=E.symm;have hr:IntKind.u8.wrap x=c:=by rw[B]; simp[IntKind.wrap,IntKind.bits,IntKind.signed]
  have R:0<=c:=Zo;have S:c<256:=Zo;have F:(((f+1:Nat):Int)==0)=false:=Zt;have G:((f+1:Nat):Int)-1=(f:Int):=Zo;have K:IntKind.i64.wrap (f:Int)=(f:Int):=ZV;clear ih C;obtain⟨n,M⟩:∃n:Int,n=((f+1:Nat):Int):=⟨_,rfl⟩;rw[<-M] at F G ⊢;clear M E B;go_enter func88,ntmps88;go_wp2_with fail;go_region_with (go_at_call 88; (with_reducible refine(IH.o _).mono ?_); rintro e w' ⟨rfl,D⟩; have T:=fun H B=>Df w' (w:Nat) c ((D.cell (p:=⟨w,0,none⟩) H).trans B))
  all_goals
   go_wp2;go_ret;refine⟨Cc rfl N.o.symm,?_⟩
   first
    | exact(((ba w _).drew).trans (D.mono Zs))
    | exact((bf w).drew.trans D).alloc (D.size) _
theorem Qo(n:Int)(E:0<=n)(F:n<=1099511627776)(w:World):Qh 87 #[Yi n] w (Xz (.string ⟨(Cw.enc n.toNat).toArray⟩) w):=by
 have D:Qg (∀W,Qh 142 #[Yi n] W (Xz (.tuple #[(Cw.enc n.toNat),Yi 0]) W)):=Qf (fun W=>by
  have h:=xM n W;have:GM n=(Cw.enc n.toNat,0):=by unfold GM; rw[if_pos ((Cw.inR_iff n).2 ⟨E,F⟩)]
  rw[this] at h;exact h)
 go_enter func87,ntmps87;go_wp2_with fail;refine(D.o _).mono ?_;rintro e x ⟨rfl,B⟩;have C:=Qf B;clear B;go_wp2;go_ret;exact⟨rfl,C.o⟩
def refN:Nat->Qb->List Int×Qb
 | 0,l=>([],l)
 | k+1,l=>((Cw.getI l).1::(refN k (l.drop (Cw.getI l).2.1.toNat)).1,(refN k (l.drop (Cw.getI l).2.1.toNat)).2)
def refDs:Nat->Qb->Qd×Qb
 | 0,l=>([],l)
 | c+1,l=>if l.length<16 then([],l) else((mJ (l.take 8),mJ ((l.drop 8).take 8))::(refDs c (l.drop 16)).1,(refDs c (l.drop 16)).2)
def refBodyS(l:Qb):Msg:=
 ⟨(refN 5 l).1.getD 0 0,(refN 5 l).1.getD 1 0,(refN 5 l).1.getD 2 0,(refN 5 l).1.getD 3 0,(refDs ((refN 5 l).1.getD 4 0).toNat (refN 5 l).2).1,(Cw.getT (refDs ((refN 5 l).1.getD 4 0).toNat (refN 5 l).2).2).1⟩
theorem refN_of:∀(k:Nat) (l:Qb) (ns:List Int) (r:Qb),Li k l=some (ns,r)->refN k l=(ns,r)
 | 0,l,ns,r,h=>by simpa[Li,refN] using h
 | k+1,l,ns,r,h=>by
  rw[Li] at h;split at h
  ·cases h
  ·cases A:Li k (l.drop (Cw.getI l).2.1.toNat) with
   | none=>rw[A] at h; cases h
   | some x=>
    obtain⟨B,r'⟩:=x;rw[A] at h;simp only[Option.map_some,XY,XC] at h;rw[refN,refN_of k _ _ _ A,<-h.1,<-h.2]
theorem refDs_of:∀(c:Nat) (r:Qb),16*c<=r.length->refDs c r=(rF c r,r.drop (16*c))
 | 0,r,_=>by simp[refDs,rF]
 | c+1,r,h=>by
  rw[refDs,if_neg Zo,refDs_of c (r.drop 16) (Zy ah),rF,eY];rw[show 16*(c+1)=16+16*c by omega]
theorem refBody_of{m:Msg}(h:Jw T=some m):refBodyS T=m:=by
 unfold Jw at h;split at h
 ·rename_i D id E F c r A;split at h
  ·cases h
  ·rename_i C;have B:=(getN_canon 5 T _ _ A).2 c Zs;unfold refBodyS;rw[refN_of 5 _ _ _ A];simp only[List.getD_cons_zero,List.getD_cons_succ];rw[refDs_of c.toNat r Zo];unfold Pk at h;split at h
   ·cases h
   ·split at h
    ·cases h; rfl
    ·cases h
 ·cases h
theorem refDs_ok:∀(c:Nat) (l:Qb),WG (refDs c l).1/\16*(refDs c l).1.length<=l.length/\(refDs c l).2.length<=l.length
 | 0,l=>by simp[refDs,WG]
 | c+1,l=>by
  rw[refDs];split
  ·simp[WG]
  ·obtain⟨B,C,D⟩:=refDs_ok c (l.drop 16);rw[ah] at C D;refine⟨fun d A=>?_,?_,?_⟩
   ·rcases XG.1 A with rfl | A
    ·exact⟨gu _ Zt,gu _ Zt⟩
    ·exact B d A
   ·rw[az]; omega
   ·simp only; omega
def R5(L:Qb)(k:Nat)(ns:List Int)(l:Qb):Prop:=refN 5 L=(ns++(refN (5-k) l).1,(refN (5-k) l).2)
theorem R5.start(L:Qb):R5 L 0 [] L:=rfl
theorem R5.next{k:Nat}(h:R5 L k ns l)(B:k<5){n u er:Int}(A:Cw.getI l=(n,u,er)):R5 L (k+1) (ns++[n]) (l.drop u.toNat):=by
 unfold R5 at h ⊢;rw[h,show 5-k=(5-(k+1))+1 by omega,refN,A];simp
theorem R5.fin(h:R5 L 5 ns l):refN 5 L=(ns,l):=by
 unfold R5 at h;rw[h];simp[refN]
def WRD(c:Nat)(r:Qb)(j:Nat)(ds:Qd)(l:Qb):Prop:=refDs c r=(ds++(refDs (c-j) l).1,(refDs (c-j) l).2)/\ds.length=j
theorem WRD.start(c:Nat)(r:Qb):WRD c r 0 [] r:=⟨rfl,rfl⟩
theorem WRD.next(h:WRD c r j ds l)(C:j<c)(D:16<=l.length):WRD c r (j+1) (ds++[(mJ (l.take 8),mJ ((l.drop 8).take 8))]) (l.drop 16):=by
 obtain⟨A,B⟩:=h;refine⟨?_,Zj B⟩;rw[A,show c-j=(c-(j+1))+1 by omega,refDs,if_neg Zo];simp
theorem WRD.fin(h:WRD c r j ds l)(hs:c<=j\/l.length<16):refDs c r=(ds,l):=by
 obtain⟨A,_⟩:=h;rw[A];by_cases B:c<=j
 ·rw[Nat.sub_eq_zero_of_le B]; simp[refDs]
 ·rw[show c-j=(c-(j+1))+1 by omega,refDs,if_pos Zo]; simp
def Bodd(w:World)(m:Msg)(e:Ending)(w':World):Prop:=
 ∃a c,e=.returned (m.val a c)/\dE w' w' a m.ds/\PM w w'/\(∀ad,a=some ad->(w:Nat)<=ad.block)/\m.ds.length<=c
theorem bodd_ok{w x:World}{R:Msg}{n0 n1 n2 n3:Int}{av:Qa}{cv:Nat}(C:R=⟨n0,n1,n2,n3,ds,T⟩)(G:PM w x)(H:x.ownsRow ((w:Nat)+3) 54 2 (.slice av ds.length cv) ds.length (aW ds)):
  Bodd w R (.returned (.agg #[Yi n0,Yi n1,Yi n2,Yi n3,.slice av ds.length cv,T]))
   ((((((x.setCell w (Yi n0)).setCell ⟨w,1,none⟩ (Yi n1)).setCell ⟨w,2,none⟩ (Yi n2)).setCell ⟨w,3,none⟩ (Yi n3)).setCell ⟨w,4,none⟩ (.slice av ds.length cv)).setCell ⟨w,5,none⟩ (.string ⟨T.toArray⟩)):=by
 have h:=NI (R:=some R) (Zx C) G H;obtain⟨a,c,E,D,A,F⟩:=h;subst C;simp only[Option.getD_some,Ending.returned.injEq,Value.tuple.injEq] at E D;have B:Value.agg #[Yi n0,Yi n1,Yi n2,Yi n3,.slice av ds.length cv,T]=(Msg.val ⟨n0,n1,n2,n3,ds,T⟩ a c):=by
  have:=congrArg (fun x:Array Value=>x[0]?) E;simpa using this
 exact⟨a,c,Zx B,D,A,F.1,Zu F.2⟩
theorem refBody_any(L:Qb)(w:World)(hL:(L.length:Int)<=1000000000000):
  Qh 100 #[L] w (Bodd w (refBodyS L)):=by
 obtain⟨R,hR⟩:=Qe (refBodyS L);rw[<-hR];have HR:=Qf hR;clear hR;go_enter func100,ntmps100;go_upto_block 0 with fail
 go_cut [0] from 4 to 25 (fun s wx=>∃(n0 n1 n2 n3 n4:Int) (l:Qb),s=.string ⟨l.toArray⟩/\wx=decW w n0 n1 n2 n3 n4/\(l.length:Int)<=L.length/\Qg (R5 L 5 [n0,n1,n2,n3,n4] l)/\Qg (inN [n0,n1,n2,n3,n4]))
 case first=>
  go_wp2;go_loopw [0,4] (fun s i wr=>∃(k:Nat) (n0 n1 n2 n3 n4:Int) (l:Qb),k<=5/\i=Yi k/\s=.string ⟨l.toArray⟩/\wr=decW w n0 n1 n2 n3 n4/\(l.length:Int)<=L.length/\Qg (R5 L k ([n0,n1,n2,n3,n4].take k) l)/\Qg (inN ([n0,n1,n2,n3,n4].take k))) (fun _ i _=>5-(intOf i).toNat)
  case atStart=>exact⟨0,0,0,0,0,0,L,Zo,rfl,rfl,rfl,Zo,Qf (R5.start L),Qf (fun n hn=>by simp at hn)⟩
  case round=>
   obtain⟨k,n0,n1,n2,n3,n4,l,hk,rfl,rfl,rfl,hl,F,G⟩:=hrel;by_cases E:k<5
   ·obtain⟨n,u,er,hg⟩:∃n u er,Cw.getI l=(n,u,er):=⟨_,_,_,rfl⟩;have H:=Qf (fun X=>qQ (s:=⟨l.toArray⟩) (n:=n) (k:=u) (er:=er) (Zu hg) X);have hb:=gH hg;have C:=Qf (F.out.next Zo hg);have D:Qg (inN ([n0,n1,n2,n3,n4].take k++[n])):=Qf (fun x hx=>by
     rcases aD.1 hx with hx | hx
     ·exact G.out x hx
     ·simp only[aH] at hx; subst hx; omega)
    obtain⟨u0,rfl⟩:∃u0:Nat,u=(u0:Int):=⟨u.toNat,Zo⟩;rw[aj] at C;have C7:u0<=l.length:=Zo;have C6:=fun W=>jY l u0 C7 W
    have C5:(l:ByteArray).extract u0 l.length=⟨(l.drop u0).toArray⟩:=by rw[dw,ag Zs]
    obtain⟨l',Z⟩:∃l',l'=l.drop u0:=⟨_,rfl⟩;have I:(l'.length:Int)<=L.length:=by rw[Z,ah]; omega
    rw[<-Z] at C6 C C5;clear Z hg hb F G;rcases(show k=0\/k=1\/k=2\/k=3\/k=4 by omega) with rfl | rfl | rfl | rfl | rfl
    all_goals clear hk E
    ·go_wp2_with fail;refine(H.o _).mono ?_;rintro e w' ⟨rfl,rfl⟩;go_wp2;go_roundw
     case rel=>exact⟨1,n,n1,n2,n3,n4,l',Zo,rfl,rfl,rfl,I,C,D⟩
     case measure=>simp[intOf]
    ·go_wp2_with fail;refine(H.o _).mono ?_;rintro e w' ⟨rfl,rfl⟩;go_wp2;go_roundw
     case rel=>exact⟨2,n0,n,n2,n3,n4,l',Zo,rfl,rfl,rfl,I,C,D⟩
     case measure=>simp[intOf]
    ·go_wp2_with fail;refine(H.o _).mono ?_;rintro e w' ⟨rfl,rfl⟩;go_wp2;go_roundw
     case rel=>exact⟨3,n0,n1,n,n3,n4,l',Zo,rfl,rfl,rfl,I,C,D⟩
     case measure=>simp[intOf]
    ·go_wp2_with fail;refine(H.o _).mono ?_;rintro e w' ⟨rfl,rfl⟩;go_wp2;go_roundw
     case rel=>exact⟨4,n0,n1,n2,n,n4,l',Zo,rfl,rfl,rfl,I,C,D⟩
     case measure=>simp[intOf]
    ·go_wp2_with fail;refine(H.o _).mono ?_;rintro e w' ⟨rfl,rfl⟩;go_wp2;go_roundw
     case rel=>exact⟨5,n0,n1,n2,n3,n,l',Zo,rfl,rfl,rfl,I,C,D⟩
     case measure=>simp[intOf]
   ·obtain rfl:k=5:=Zo;go_wp2_with fail;go_meet
    case rel=>exact⟨n0,n1,n2,n3,n4,l,rfl,rfl,hl,F,G⟩
 case rest=>
  obtain⟨n0,n1,n2,n3,n4,l,rfl,rfl,hl,F,G⟩:=hcut;have A4:=Qf F.out.fin;have B2:=G.out n4 Zs;obtain⟨c,rfl⟩:∃c:Nat,n4=(c:Int):=⟨n4.toNat,Zo⟩;clear G F;have A7:Qg (R=⟨n0,n1,n2,n3,(refDs c l).1,(Cw.getT (refDs c l).2).1⟩):=Qf (by
   rw[HR.o];unfold refBodyS;rw[A4.o];simp only[List.getD_cons_zero,List.getD_cons_succ,aj])
  obtain⟨B4,hi,B6,D0,D1⟩:=XR ul;have C2:=Qf B6;clear B6 HR A4;have D7:(c:Int)<=1099511627776:=B2.2;clear B2;go_wp2;go_loopw [0,9] (fun s i wr=>∃(j:Nat) (l2:Qb) (ds:Qd) (v:Value),j<=c/\i=Yi j/\s=.string ⟨l2.toArray⟩/\16*j+l2.length<=l.length/\Qg (wr.ownsRow ((w:Nat)+3) 54 2 v ds.length (aW ds))/\Qg (DW (w:Nat) ((w:Nat)+1+1) n0 n1 n2 n3 wr v (.string ⟨#[]⟩))/\Qg (PM w wr)/\(w:Nat)+3<=wr.heap.size/\Qg (WRD c l j ds l2)/\Qg (wr.cell? ⟨(w:Nat)+1,4,none⟩=some (Yi c))) (fun _ i _=>c-(intOf i).toNat)
  case atStart=>exact⟨0,l,[],.slice none 0 0,Zo,rfl,rfl,Zo,Qf (XE _ _ _ _),Qf ⟨by simp[go_sem],by simp[go_sem],by simp[go_sem],by simp[go_sem],by simp[go_sem],by simp[go_sem],fun j=>by simp[go_sem],by simp[go_sem],by simp[go_sem],by simp[go_sem],by simp[go_sem],by simp[go_sem],by simp[go_sem],fun j=>by simp[go_sem]⟩,Qf ((gy w n0 n1 n2 n3 c).alloc Zt _),Zs,Qf (WRD.start c l),Qf (by simp[go_sem])⟩
  case round=>
   obtain⟨j,l2,ds,v,hj,rfl,rfl,E0,K,Y,HB,E5,M,A1⟩:=hrel;have U:ds.length=j:=M.out.2;have a4:=A1.out;by_cases E:j<c/\16<=l2.length
   ·obtain⟨E,O⟩:=E;have D3:(16:Int)<=(l2.length:Int):=Zo;obtain⟨V,C⟩:=Yj U (M.out.next E O);obtain⟨X1,P⟩:=Qe (l2.take 8);obtain⟨X2,Q⟩:=Qe ((l2.drop 8).take 8);obtain⟨X3,S⟩:=Qe (l2.drop 16);have C8:16*(j+1)+X3.length<=l.length:=by rw[S,ah]; omega
    rw[<-P,<-Q,<-S] at C;have E2:∀W,(Instr.slice 9 (.string ⟨l2.toArray⟩) none (some (Yi 8)) none).run prog W=.ok (.string ⟨X1.toArray⟩) W:=fun W=>P▸OJ l2 8 (by omega) W
    have E3:∀W,(Instr.slice 9 (.string ⟨l2.toArray⟩) (some (Yi 8)) (some (Yi 16)) none).run prog W=.ok (.string ⟨X2.toArray⟩) W:=fun W=>Q▸DD l2 8 16 (by omega) (by omega) W
    have E4:(l2:ByteArray).extract 16 l2.length=⟨X3.toArray⟩:=by rw[S,dw,ag Zs]
    obtain⟨A2,A3⟩:=Yj (fun W=>value_any X1 W (by rw[P]; simp; omega)) (fun W=>value_any X2 W (by rw[Q]; simp; omega));generalize mJ X1=y1 at A2 C;generalize mJ X2=y2 at A3 C;have D5:(ds.length:Int)<=1000000000000:=Zo;clear P Q S U;have c4:=Y.out.c4;have B7:=fun x=>bP c4 x
    go_wp2_with fail;go_region_law
     (first
     | (refine step_append_lies _ Zr (.tmp 47) (.tmp 55) _ Zr ((w:Nat)+3) 54 B4 _ 2 16 underlying24 hi C2.o D0 D1 rfl Zo _ ds.length (aW ds) Zr (K.out.alloc _).drew ⟨wr,0,none⟩ 1 1 [.int .u64 y1,.int .u64 y2] Zr Zr (World.news_of_block (cs:=#[.int .u64 y1,.int .u64 y2]) (t:=54) (fr:=(0,0)) (heap_alloc_new wr _)) (by simp[Value.oneCell']) Zo (by have:=V.o; unfold maxLen; omega) (Zh V.o) Zt _ rfl ?_; intro g A0 x J B B1 B5; (have N:=(Y.out.below (((bf _).alloc nr (.cells #[.int .u64 y1,.int .u64 y2] 54)).drew) Zo Zo).keep (fun j=>Mt B (b:=(w:Nat)+1+1) Zt (fun e=>Zh ((K.out.lt _ e).1)) j) (fun j=>Mt B (b:=(w:Nat)) Zt (fun e=>Zh ((K.out.lt _ e).1)) j)); (have A9:=(Mt B (b:=(w:Nat)+1) Zt (fun e=>Zh ((K.out.lt _ e).1)) 4).1); (have e4:=N.c4); (have e5:=N.f 4))
     | (go_simp; (first | (with_reducible refine(A2.o _).mono ?_) | (with_reducible refine(A3.o _).mono ?_)); rintro e w' ⟨rfl,rfl⟩)
     | fail)
    all_goals
     have B9:Qg (PM w x):=Qf (Below.grown ((HB.out.alloc Zo _).drew) B Zt (fun k hk=>Zh ((K.out.lt k hk).1)));have C9:(w:Nat)+3<=(x:Nat):=by have:=B.size; simp at this; omega
     obtain⟨B0,C1⟩:=Yj J N;have C0:Qg (x.cell? ⟨(w:Nat)+1,4,none⟩=some (Yi c)):=Qf (A9.trans (bP A1.out _));clear J B B1 B5 N A9;go_wp2;go_roundw
     case rel=>
      refine⟨j+1,X3,ds++[(y1,y2)],.slice g (ds.length+1) A0,Zo,Zg,rfl,C8,Qf ?_,Qf (C1.o.set4 Zo _),Qf (B9.o.setCell Zt _),Zu C9,C,Qf ?_⟩
      ·rw[gK,af];exact B0.o.kept (dN _ _ _ _) (.inr (fun e=>Zh ((B0.o.lt _ e).1)))
      ·have hk:=Below.heap_setCell x ⟨(w:Nat)+1+1,4,none⟩ (.slice g (ds.length+1) A0) ((w:Nat)+1) Zs;exact(XM (a:=⟨(w:Nat)+1,4,none⟩) hk).trans C0.o
     case measure=>exact Yq
   ·have A5:=Qf (M.out.fin Zo);obtain⟨av,cv,rfl,D8⟩:=aB K.out;obtain⟨T,us,er,hT⟩:∃T us er,Cw.getT l2=(T,us,er):=⟨_,_,_,rfl⟩;have A8:Qg (∀X,Qh 154 #[l2] X fun e w'=>e=.returned (.tuple #[T,Yi us,Yi er])/\X=w'):=Qf (fun X=>by
     have:=vN ⟨l2.toArray⟩ X (Zy bH);rw[show(l2:ByteArray).data.toList=l2 by simp,hT] at this;exact this)
    have A6:Qg (R=⟨n0,n1,n2,n3,ds,T⟩):=Qf (by rw[A7.o,A5.o,hT]);obtain⟨c0,c1,c2,c3,c4,c5,f,z0,z1,z2,z3,z4,z5,g⟩:=Y.out;have f5:=f 5;have g0:=g 0;have g1:=g 1;have g2:=g 2;have g3:=g 3;have g4:=g 4;have g5:=g 5;have V:=Qf U;clear f g hT A5 A7 M U;by_cases B3:j<c
    ·have O:¬(16:Int)<=l2.length:=Zo;have dc:decide (j<c)=true:=Zu B3;have B8:decide ((16:Int)<=(l2.length:Int))=false:=Zu O;clear E O;go_wp2_with fail;refine(A8.o _).mono ?_;rintro e x ⟨rfl,rfl⟩;go_wp2;refine XB (v:=.agg #[Yi n0,Yi n1,Yi n2,Yi n3,.slice av ds.length cv,T]) (by simp[results,results100,go_sem,z0,z1,z2,z3,z4,z5]) rfl ?_;exact bodd_ok A6.o (HB.out.setCell Zt _) (K.out.kept (dN _ _ _ _) (.inr (fun e=>Zh ((K.out.lt _ e).1))))
    ·have dc:decide (j<c)=false:=Zu B3;clear E;go_wp2_with fail;refine(A8.o _).mono ?_;rintro e x ⟨rfl,rfl⟩;go_wp2;refine XB (v:=.agg #[Yi n0,Yi n1,Yi n2,Yi n3,.slice av ds.length cv,T]) (by simp[results,results100,go_sem,z0,z1,z2,z3,z4,z5]) rfl ?_;exact bodd_ok A6.o (HB.out.setCell Zt _) (K.out.kept (dN _ _ _ _) (.inr (fun e=>Zh ((K.out.lt _ e).1))))
theorem QO(m:Msg)(a:Qa)(cd:Nat)(w:World)(hd:dE w w a m.ds)(A8:WG m.ds)(hn:(m.ds.length:Int)<=140737488355328)(hT:(m.data.length:Int)<=140737488355328):
  Qh 45 #[m.val a cd] w (Xz (.tuple #[.string ⟨(Qc m).1.toArray⟩,Yi (Qc m).2]) w):=by
 obtain⟨R,E,L⟩:∃R E,Qc m=(R,E):=⟨_,_,rfl⟩;rw[L];have hV:=fun W=>Ub m.kind m.id m.off m.tot a m.ds.length cd m.data W hT hn
 by_cases hw:m.why=0
 ·obtain⟨h0,h1,hv⟩:=Sg hw;have M:=zk hv;obtain⟨bs,A7⟩:=Qe (yP m);have H7:bs.length<=100000:=A7▸Bn m (by omega) (by omega);have G:Qg (R=be 4 bs.length++(be 8 (iY bs).1++bs)/\E=0):=Qf (by
   unfold Qc at L;rw[if_pos hw,XC] at L;rw[A7];exact⟨L.1.symm,L.2.symm⟩)
  have O:Qg (∀W,Qh 86 #[.agg #[Yi m.kind,Yi m.id,Yi m.off,Yi m.tot,.slice a m.ds.length cd,m.data]] W (Xz (Yi 0) W)):=Qf (fun W=>by
   have:=hV W
   rwa[show Uv m.kind m.id m.off m.tot m.ds.length m.data.length=0 from hw] at this)
  change Qh 45 #[.agg #[Yi m.kind,Yi m.id,Yi m.off,Yi m.tot,.slice a m.ds.length cd,m.data]] w _;obtain⟨B3,id,D3,E5,ds,T⟩:=m;simp only at hn hT hd A8 h0 h1 M O ⊢;obtain⟨nd,A9⟩:=Qe ds.length;have E6:=Qf A9;rw[<-A9] at hn O M ⊢;obtain⟨k1,k2,o1,o2,t1,t2,n1,d1⟩:=M;obtain⟨HD,D9⟩:=Yj hd A8;obtain⟨E0,S⟩:=Qe (Cw.enc B3.toNat);obtain⟨E1,V⟩:=Qe (Cw.enc id.toNat);obtain⟨E2,Z⟩:=Qe (Cw.enc D3.toNat);obtain⟨E3,A0⟩:=Qe (Cw.enc E5.toNat);obtain⟨E4,A1⟩:=Qe (Cw.enc nd);have l0:E0.length<=10:=S▸aG _;have l1:E1.length<=10:=V▸aG _;have l2:E2.length<=10:=Z▸aG _;have l3:E3.length<=10:=A0▸aG _;have l4:E4.length<=10:=A1▸aG _;obtain⟨C1,C2,C3,C4,N⟩:=Ym (fun W=>Qo B3 Zo Zo W) (fun W=>Qo id Zo Zo W) (fun W=>Qo D3 Zo Zo W) (fun W=>Qo E5 Zo Zo W) (fun W=>Qo (nd:Int) Zo Zo W);rw[aj] at N;rw[<-S] at C1;rw[<-V] at C2;rw[<-Z] at C3;rw[<-A0] at C4;rw[<-A1] at N;obtain⟨P1,A2⟩:=Qe (E0++E1);obtain⟨P2,A3⟩:=Qe (P1++E2);obtain⟨P3,A4⟩:=Qe (P2++E3);obtain⟨P4,A5⟩:=Qe (P3++E4);have p1:P1.length<=20:=by rw[A2,af]; omega
  have p2:P2.length<=30:=by rw[A3,af]; omega
  have p3:P3.length<=40:=by rw[A4,af]; omega
  have p4:P4.length<=50:=by rw[A5,af]; omega
  have s1:=Hl A2 Zo Zo;have s2:=Hl A3 Zo Zo;have s3:=Hl A4 Zo Zo;have s4:=Hl A5 Zo Zo;have B7:Qg (bs=P4++(qF ds++(Cw.enc T.length++T))):=Qf (by
   rw[A7,A5,A4,A3,A2,S,V,Z,A0,A1];simp[yP,qE,A9])
  clear A7 A9 hd A8 hV L hw hv S V Z A0 A1 A2 A3 A4 A5;go_enter func45,ntmps45;go_wp2_with fail;refine(O.o _).mono ?_;rintro e x1 ⟨rfl,M⟩;have HB:Qg (PM w x1):=Qf ((ba w _).trans (M.mono Zs));have B:=M.block (w:Nat) Zs;rw[YL w _] at B;have D2:(w:Nat)<(x1:Nat):=by have:=M.size; simp at this; omega
  have B0:=Qf B;have c0:x1.cell? w=some (Yi B3):=Zc B;have c1:x1.cell? ⟨w,1,none⟩=some (Yi id):=Zc B;have c2:x1.cell? ⟨w,2,none⟩=some (Yi D3):=Zc B;have c3:x1.cell? ⟨w,3,none⟩=some (Yi E5):=Zc B;have c4:x1.cell? ⟨w,4,none⟩=some (.slice a nd cd):=Zc B;clear M B O;go_wp2_with fail;have f0:=YG c0;have f1:=YG c1;have f2:=YG c2;have f3:=YG c3;have f4:=YG c4;obtain⟨C,D,B4,B5,B6⟩:=Ym (fun d os=>YJ (w:=x1) (d:=d) (os:=os) (C1.o _)) (fun d os=>YJ (w:=x1) (d:=d) (os:=os) (C2.o _)) (fun d os=>YJ (w:=x1) (d:=d) (os:=os) (C3.o _)) (fun d os=>YJ (w:=x1) (d:=d) (os:=os) (C4.o _)) (fun d os=>YJ (w:=x1) (d:=d) (os:=os) (N.o _));refine YH Zk Zk ?_
  repeat (any_goals (first | go_big_quiet_step (first | (with_reducible exact C.o _ _) | (with_reducible exact D.o _ _) | (with_reducible exact B4.o _ _) | (with_reducible exact B5.o _ _) | (with_reducible exact B6.o _ _)) | quiet_step (first | (with_reducible exact C.o _ _) | (with_reducible exact D.o _ _) | (with_reducible exact B4.o _ _) | (with_reducible exact B5.o _ _) | (with_reducible exact B6.o _ _))))
  refine YI ?_;intro w2 D1;obtain⟨G0,J⟩:=Yj (XT HB.o (aX D1)) (((aX D1).block (w:Nat) D2).trans B0.o);clear D1 C D B4 B5 B6 f0 f1 f2 f3 f4 c0 c1 c2 c3 c4 C1 C2 C3 C4 N s1 s2 s3 s4 B0 HB;go_wp2;go_loopw [5,6] (fun s i wr=>∃(j:Nat) (l:Qb),j<=nd/\i=Yi j/\s=.string ⟨l.toArray⟩/\l.length<=50+16*j/\Qg (l=P4++qF (ds.take j))/\Qg (PM w wr)/\(w:Nat)<wr.heap.size/\Qg (wr.heap[(w:Nat)]? = some (.cells #[Yi B3,Yi id,Yi D3,Yi E5,.slice a nd cd,T] 73 (0,0)))) (fun _ i _=>nd-(intOf i).toNat)
  case atStart=>exact⟨0,P4,Zo,rfl,rfl,Zo,Qf (by simp[qF]),G0,(XA.1 J.o).1,J⟩
  case round=>
   obtain⟨j,l,hj,rfl,rfl,hl,HL,I,F3,C7⟩:=hrel;have c4:wr.cell? ⟨w,4,none⟩=some (.slice a nd cd):=Zc C7.out;by_cases F1:j<nd
   ·have D0:j<ds.length:=E6.o▸F1;obtain⟨b0,o0,rfl,H6,e1,e2⟩:=(HD.o.below I.out nr) j D0;obtain⟨x,hx⟩:=Qe (ds[j].1);obtain⟨y,hy⟩:=Qe (ds[j].2);have B2:=D9.o _ (ak D0);rw[<-hx,<-hy] at B2;obtain⟨⟨G8,D2⟩,⟨H0,H1⟩⟩:=B2;rw[<-hx] at e1;rw[<-hy] at e2;have K:=Qf (Gw ds j D0);rw[<-hx,<-hy] at K;clear hx hy;have B8:Qg (∀W,Qh 88 #[Yu x,Yi 8] W (Xz (.string ⟨(be 8 x).toArray⟩) W)):=Qf (fun W=>QQ 8 x W Zo G8 D2);have B9:Qg (∀W,Qh 88 #[Yu y,Yi 8] W (Xz (.string ⟨(be 8 y).toArray⟩) W)):=Qf (fun W=>QQ 8 y W Zo H0 H1);have lx:=bY 8 x;have ly:=bY 8 y;generalize be 8 x=X at B8 K lx;generalize be 8 y=Y at B9 K ly;obtain⟨Q1,F⟩:=Qe (l++X);obtain⟨Q2,A6⟩:=Qe (Q1++Y);have q1:Q1.length<=58+16*j:=by rw[F,af]; omega
    have q2:Q2.length<=50+16*(j+1):=by rw[A6,af]; omega
    have s1:=Hl F Zo Zo;have s2:=Hl A6 Zo Zo;have G4:Qg (Q2=P4++qF (ds.take (j+1))):=Qf (by rw[A6,F,HL.out,K.o]; simp);clear F A6 K lx ly HL;go_wp2_with fail;have f4:=YG c4;have f1:=YG e1;have f2:=YG e2;obtain⟨C,D⟩:=Yj (fun d os=>YJ (w:=wr) (d:=d) (os:=os) (B8.o _)) (fun d os=>YJ (w:=wr) (d:=d) (os:=os) (B9.o _));refine YH Zk Zk ?_
    repeat (any_goals (first | go_big_quiet_step (first | (with_reducible exact C.o _ _) | (with_reducible exact D.o _ _)) | quiet_step (first | (with_reducible exact C.o _ _) | (with_reducible exact D.o _ _))))
    refine YI ?_;intro w3 H;obtain⟨G1,G5⟩:=Yj (XT I.out (aX H)) (((aX H).block (w:Nat) F3).trans C7.out);have F2:=aO F3 (aX H).size;clear H C D f1 f2 f4 c4 e1 e2 B8 B9 s1 s2;go_wp2;go_roundw
    case rel=>exact⟨j+1,Q2,Zo,Zg,rfl,q2,G4,G1,F2,G5⟩
    case measure=>exact Yq
   ·have D8:Qg (ds.take j=ds):=Qf (ag (by rw[<-E6.o]; omega));rw[D8.o] at HL;have c5:wr.cell? ⟨w,5,none⟩=some (.string ⟨T.toArray⟩):=Zc C7.out;have C6:Qg (∀W,Qh 89 #[T] W (Xz (.tuple #[(Cw.enc T.length++T),Yi 0]) W)):=Qf (fun W=>by
     have h1:=vL ⟨T.toArray⟩ W (Zy bH);have:putT T=(Cw.enc T.length++T,0):=if_pos d1;simp only[this] at h1;exact h1)
    have H8:=aG T.length;obtain⟨U,hU⟩:=Qe (Cw.enc T.length++T);have H5:U.length<=70000:=by rw[hU,af]; omega
    rw[<-hU] at C6 B7;have B1:bs=l++U:=by rw[B7.o,HL.out]; simp
    have s1:=Hl B1 Zo Zo;have C5:=Qf (fun W=>Hu bs W Zo);have C8:=LH bs;have C9:=U4 bs;generalize iY bs=dg at C5 G C8 C9;obtain⟨g1,g2⟩:=dg;simp only at C5 G C8 C9;have D4:Qg (∀W,Qh 88 #[Yu (bs.length:Int),Yi 4] W (Xz (.string ⟨(be 4 bs.length).toArray⟩) W)):=Qf (fun W=>QQ 4 bs.length W Zo Zo Zo);have D5:Qg (∀W,Qh 88 #[Yu g1,Yi 8] W (Xz (.string ⟨(be 8 g1).toArray⟩) W)):=Qf (fun W=>QQ 8 g1 W Zo C8 C9);have lx:=bY 4 bs.length;have ly:=bY 8 g1;generalize be 4 (bs.length:Int)=X at D4 G lx;generalize be 8 g1=Y at D5 G ly;obtain⟨Q1,F⟩:=Qe (X++Y);have q1:Q1.length<=12:=by rw[F,af]; omega
    have E7:R=Q1++bs:=by rw[G.o.1,F]; simp
    have s2:=Hl F Zo Zo;have s3:=Hl E7 Zo Zo;have H9:IntKind.u64.wrap (bs.length:Int)=(bs.length:Int):=Zy wrap_u64;have G3:=Qf G.o.2;clear hU B1 F E7 G lx ly D8 HL B7 HD D9;go_wp2_with fail;refine(C6.o _).mono ?_;rintro e x2 ⟨rfl,E9⟩;have D6:=Qf (XT I.out E9);clear E9 c4 c5 C6;go_wp2_with fail;refine(C5.o _).mono ?_;rintro e x3 ⟨rfl,F0⟩;have D7:=Qf (XT D6.o F0);have G9:=D7.o.size;clear F0;go_wp2_with fail;have e1:(x3.alloc (.cells #[Yu g1,Yu g2] 54)).cell? x3=some (Yu g1):=Zs;have C0:=Qf (D7.o.alloc G9 (.cells #[Yu g1,Yu g2] 54));generalize x3.alloc (.cells #[Yu g1,Yu g2] 54)=x4 at e1 C0 ⊢;have f1:=YG e1;obtain⟨C,D⟩:=Yj (fun d os=>YJ (w:=x4) (d:=d) (os:=os) (D4.o _)) (fun d os=>YJ (w:=x4) (d:=d) (os:=os) (D5.o _));refine YH Zk Zk ?_
    repeat (any_goals (first | go_big_quiet_step (first | (with_reducible exact C.o _ _) | (with_reducible exact D.o _ _)) | quiet_step (first | (with_reducible exact C.o _ _) | (with_reducible exact D.o _ _))))
    refine YI ?_;intro w3 H;have G2:=Qf (XT C0.o (aX H));clear H C D f1;go_wp2;go_ret2;rw[G3.o];exact⟨rfl,G2.o⟩
 ·have E8:R=[]/\E=m.why:=by
   unfold Qc at L;rw[if_neg hw,XC] at L;exact⟨L.1.symm,L.2.symm⟩
  have O:Qg (∀W,Qh 86 #[.agg #[Yi m.kind,Yi m.id,Yi m.off,Yi m.tot,.slice a m.ds.length cd,m.data]] W (Xz (Yi m.why) W)):=Qf hV;change Qh 45 #[.agg #[Yi m.kind,Yi m.id,Yi m.off,Yi m.tot,.slice a m.ds.length cd,m.data]] w _;generalize m.why=y at hw E8 O;obtain⟨rfl,rfl⟩:=E8;have he:(E !=0)=true:=Zu hw;generalize m.ds.length=nd at O hn ⊢;clear hw hV L hd A8;obtain⟨B3,id,D3,E5,ds,T⟩:=m;simp only at O hT ⊢;go_enter func45,ntmps45;go_wp2_with fail;refine(O.o _).mono ?_;rintro e x ⟨rfl,M⟩;have HB:=Qf M;clear M;go_wp2;go_ret2;exact⟨rfl,(ba w _).trans (HB.o.mono Zs)⟩
theorem refN_len:∀(k:Nat) (l:Qb),(refN k l).2.length<=l.length
 | 0,l=>nr
 | k+1,l=>by
  rw[refN];refine aC (refN_len k _) ?_;rw[ah]; omega
theorem getT_len(l:Qb):(Cw.getT l).1.length<=65536:=by
 obtain⟨n,k,er,_,B⟩:=jM l;rcases B with⟨_,A⟩ | ⟨_,_,A⟩ | ⟨_,_,_,A⟩ | ⟨_,_,_,A⟩
 ·rw[A]; simp
 ·rw[A]; simp
 ·rw[A]; simp
 ·rw[A]; simp only[aA,ah]; omega
theorem refBody_ok(l:Qb):WG (refBodyS l).ds/\(refBodyS l).ds.length<=l.length/\(refBodyS l).data.length<=65536:=by
 have h:=refDs_ok ((refN 5 l).1.getD 4 0).toNat (refN 5 l).2;have A:=refN_len 5 l;exact⟨h.1,by show(refDs _ _).1.length<=_; omega,getT_len _⟩
theorem encS_cases(m:Msg):(m.why=0/\Qc m=(O9 m,0))\/(m.why≠0/\Qc m=([],m.why)):=by
 by_cases h:m.why=0
 ·exact .inl ⟨h,if_pos h⟩
 ·exact .inr ⟨h,if_neg h⟩
theorem frame_ref{s F R:Qb}{n:Nat}{E:Int}(L:12<=s.length)(P:n=Gf (s.take 4))(hs:n<=s.length-12)(J:F=s.take (12+n))(N:T=(s.drop 12).take n)(A:Qc (refBodyS T)=(R,E)):
  pg s=if E=0/\R=F then some (refBodyS T,12+n) else none:=by
 by_cases D:E=0/\R=F
 ·rw[if_pos D];obtain⟨rfl,rfl⟩:=D;rcases encS_cases (refBodyS T) with⟨K,C⟩ | ⟨K,C⟩
  ·rw[A,XC] at C;have G:s=O9 (refBodyS T)++s.drop (12+n):=by rw[<-C.1,J,aQ]
   have H:(O9 (refBodyS T)).length=12+n:=by rw[<-C.1,J,aA]; omega
   have I:=Vv K (refBody_ok T).1 (s.drop (12+n));rw[<-G,H] at I;exact I
  ·rw[A,XC] at C;exact absurd C.2.symm K
 ·rw[if_neg D];cases B:pg s with
  | none=>rfl
  | some x=>
   obtain⟨m,u⟩:=x;exfalso;apply D;obtain⟨G,H,I⟩:=frame_canon B;unfold pg at B;rw[if_neg Zo,<-P,if_neg Zo,<-N] at B;split at B
   ·cases B
   ·simp only[Option.map_eq_some_iff,XC] at B;obtain⟨m',O,rfl,rfl⟩:=B;have M:=refBody_of O;rw[M] at A;unfold Qc at A;rw[if_pos H,XC] at A;exact⟨A.2.symm,by rw[<-A.1,<-G,J]⟩
theorem refScan_any(L:Qb)(w:World)(hL:(L.length:Int)<=1000000000):
  Qh 52 #[L] w (Pv w L):=by
 obtain⟨i0,hi,C2,C3,C4⟩:=XR IW;obtain⟨D1,D2,D3⟩:=Yk C2 C3 C4;clear C2 C3 C4;go_enter func52,ntmps52;go_wp2;go_loopw [4,5] (fun v i wr=>∃(at_:Nat) (B8:List MA),i=Yi at_/\at_<=L.length/\B8.length*12<=at_/\Qg (GL w wr v B8)/\Qg (SR L at_ (B8.map Prod.fst))) (fun _ i _=>L.length-(intOf i).toNat)
 case atStart=>exact⟨0,[],rfl,Zo,Zs,Qf (GL.start w),Qf (SR.start L)⟩
 case round=>
  obtain⟨at_,B8,rfl,F0,D6,HM,G⟩:=hrel;by_cases E5:at_+12<=L.length
  ·obtain⟨X4,K⟩:=Qe ((L.drop at_).take 4);obtain⟨n,hn⟩:=Qe (Gf X4);have C1:X4.length=4:=by rw[K]; simp; omega
   have F3:n<4294967296:=hn▸Lm X4 (by omega);have H4:Qg (∀W,Qh 99 #[X4] W fun e w'=>e=.returned (Yu (n:Int))/\W=w'):=Qf (fun W=>by
    have:=value_any X4 W Zo
    rwa[Es X4 Zo,<-hn] at this)
   have D8:(L:ByteArray).extract at_ (at_+4)=⟨X4.toArray⟩:=by rw[dw,K,jR]
   have F6:IntKind.u64.wrap ((L.length:Int)-at_-12)=(L.length:Int)-at_-12:=Zy wrap_u64;have F5:IntKind.i64.wrap (n:Int)=(n:Int):=ZV;by_cases D5:L.length-at_-12<n
   ·have I:=Qf (G.out.fin (by
     unfold pg;rw[if_neg (Zy ah),<-K,<-hn,if_pos (Zy ah)]))
    have B9:(L.length:Int)-at_-12<n:=Zo;obtain⟨av,cv,rfl,C⟩:=aB HM.out.own;clear K hn C1;go_wp2_with fail;refine(H4.o _).mono ?_;rintro e x ⟨rfl,rfl⟩;go_wp2;go_ret2;exact HM.out.got I.o C
   ·have B9:(n:Int)<=(L.length:Int)-at_-12:=Zo;have C6:decide ((L.length:Int)-at_-12<n)=false:=Zt;obtain⟨T,hT⟩:=Qe (((L.drop at_).drop 12).take n);obtain⟨F,hF⟩:=Qe ((L.drop at_).take (12+n));obtain⟨m,hm⟩:=Qe (refBodyS T);obtain⟨R,E,Q⟩:∃R E,Qc m=(R,E):=⟨_,_,rfl⟩;have B4:T.length=n:=by rw[hT]; simp; omega
    have B3:F.length=12+n:=by rw[hF]; simp; omega
    have H:=Qf (frame_ref (s:=L.drop at_) (n:=n) (R:=R) (E:=E) (Zy ah) (K▸hn) (Zy ah) hF hT (hm▸Q));rw[<-hm] at H;have D9:(L:ByteArray).extract at_ (at_+12+n)=⟨F.toArray⟩:=by rw[dw,hF,show at_+12+n-at_=12+n by omega]
    have E0:(F:ByteArray).extract 12 F.length=⟨T.toArray⟩:=by
     rw[dw,ag Zs,hF,hT,List.drop_take,jR]
    have Z:=Qf (fun W=>refBody_any T W Zo);rw[<-hm] at Z;have A4:=refBody_ok T;rw[<-hm,B4] at A4;have C0:E=0->m.why=0:=fun h=>by
     rcases encS_cases m with⟨hw,_⟩ | ⟨hw,he⟩
     ·exact hw
     ·rw[Q,XC] at he; rw[<-he.2]; exact h
    have M:Qg (E=0->m.ds.length<=1000):=Qf (fun h=>by
     have:=zk (Sg (C0 h)).2.2
     omega)
    have A0:Qg (∀(a:Qa) (cd:Nat) W,dE W.heap.size W a m.ds->Qh 45 #[m.val a cd] W (Xz (.tuple #[R,Yi E]) W)):=Qf (fun a cd W hd=>by
     have:=QO m a cd W hd A4.1 Zo Zo
     rwa[Q] at this)
    have E7:(12:Int)+n<=F.length:=Zo;have E8:(F.length:Int)<=12+n:=Zo;have E4:=Qf B3;clear K hn C1 hT hF hm Q A4 C0 D5 B3 B4;go_wp2_with fail;refine(H4.o _).mono ?_;rintro e x ⟨rfl,rfl⟩;go_wp2_with fail;refine(Z.o _).mono ?_;rintro e x1 ⟨da,dc,rfl,U,A1,B5,B6⟩;have C8:=Qf B6;clear B6;obtain⟨B0,A8⟩:=Yj (HM.out.below A1) B5;have F7:=A1.size;obtain⟨P,V⟩:=Yj U HM.out.own.lt;clear U A1 B5 Z H4;obtain⟨A5,id,A6,B2,ds,data⟩:=m;simp only at P M;change Qg (∀(a:Qa) (cd:Nat) W,dE W.heap.size W a ds->Qh 45 #[.agg #[Yi A5,Yi id,Yi A6,Yi B2,.slice a ds.length cd,data]] W (Xz (.tuple #[R,Yi E]) W)) at A0;go_wp2_with fail;have A7:Qg (dE (x1.alloc (.cells #[Yi A5,Yi id,Yi A6,Yi B2,.slice da ds.length dc,data] 73)).heap.size (x1.alloc (.cells #[Yi A5,Yi id,Yi A6,Yi B2,.slice da ds.length dc,data] 73)) da ds):=Qf ((P.o.below ((bf x1).alloc nr (.cells #[Yi A5,Yi id,Yi A6,Yi B2,.slice da ds.length dc,data] 73)) nr).mono Zs);refine(A0.o da dc _ A7.o).mono ?_;rintro e x2 ⟨rfl,A2⟩;have B:=A2.block (x1:Nat) Zs;rw[YL x1 _] at B;have f0:x2.cell? x1=some (Yi A5):=Zc B;have f1:x2.cell? ⟨x1,1,none⟩=some (Yi id):=Zc B;have f2:x2.cell? ⟨x1,2,none⟩=some (Yi A6):=Zc B;have f3:x2.cell? ⟨x1,3,none⟩=some (Yi B2):=Zc B;have f4:x2.cell? ⟨x1,4,none⟩=some (.slice da ds.length dc):=Zc B;have f5:x2.cell? ⟨x1,5,none⟩=some (.string ⟨data.toArray⟩):=Zc B;have J:Qg (PM x1 x2):=Qf ((ba x1 _).trans (A2.mono Zs));have D:=Qf (B0.o.below J.o);have F8:=J.o.size;clear A2 B A7 A0 B0;by_cases hE:E=0
    ·subst hE;by_cases S:R=F
     ·subst S;have A9:Qg (pg (L.drop at_)=some ((⟨A5,id,A6,B2,ds,data⟩:Msg),12+n)):=Qf (by rw[H.o,if_pos ⟨rfl,rfl⟩]);have B1:=Qf (G.out.next A9.o);have D4:=M.o rfl;clear H G A9 M;go_wp2_with (at_builtin; refine wpList_append_lies _ rfl _ _ 67 rfl (w:Nat) 73 i0 (.agg #[Yi 0,Yi 0,Yi 0,Yi 0,(),Ye]) 6 72 underlying67 hi D1.o D2.o D3.o rfl Zd _ _ _ rfl (D.o.own.alloc _) ⟨x2,0,none⟩ 1 1 [Yi A5,Yi id,Yi A6,Yi B2,.slice da ds.length dc,.string ⟨data.toArray⟩] rfl rfl (xE x2 A5 id A6 B2 ds.length dc da ⟨data.toArray⟩) ?_ ?_ ?_ ?_ ?_ _ rfl ?_)
      ·intro u hu; simp at hu; rcases hu with rfl | rfl | rfl | rfl | rfl | rfl <;> rfl
      ·decide
      ·unfold maxLen; omega
      ·omega
      ·have:=D.o.bel.size; simp; omega
      ·intro g C5 w' O N X B7;have D0:Qg (GL w w' (.slice g (B8.length+1) C5) (B8++[(⟨A5,id,A6,B2,ds,data⟩,da,dc)])):=Qf (by
        have A3:PM x2 (x2.alloc (.cells #[Yi A5,Yi id,Yi A6,Yi B2,.slice da ds.length dc,data] 73)):=ba x2 _;have U:=(P.o.below J.o nr).mono J.o.size;exact(D.o.below A3).snoc (m:=⟨A5,id,A6,B2,ds,data⟩) ((U.below A3 nr).mono A3.size) D4 C8.o (fun _ ad ha e=>by
         have h1:=(V.o _ e).2;have h2:=A8.o ad ha
         omega) O N X Zs)
       clear O N X B7 D P A8 V f0 f1 f2 f3 f4 f5;have Y:((R.length:Nat):Int)=12+n:=Zo;have C9:=Qf Y;clear Y;go_wp2;go_roundw
       case rel=>
        refine⟨at_+(12+n),B8++[(⟨A5,id,A6,B2,ds,data⟩,da,dc)],?_,Zo,Zt,D0,?_⟩
        ·first | go_num | (congr 1; have:=C9.o; omega)
        ·rw[dJ]; exact B1
       case measure=>exact Yq
     ·have I:=Qf (G.out.fin (by rw[H.o,if_neg (fun h=>S h.2)]));have F4:(R==F)=false:=Zu S;clear S;clear H G M;obtain⟨av,cv,rfl,C⟩:=aB D.o.own;go_wp2;go_ret2;exact D.o.got I.o C
    ·have I:=Qf (G.out.fin (by rw[H.o,if_neg (fun h=>hE h.1)]));have E6:(E !=0)=true:=Zu hE;clear H G M hE;obtain⟨av,cv,rfl,C⟩:=aB D.o.own;go_wp2;go_ret2;exact D.o.got I.o C
  ·have HF:Qg (pg (L.drop at_)=none):=Qf (by unfold pg; rw[if_pos (Zy ah)]);have I:=Qf (G.out.fin HF.o);obtain⟨av,cv,rfl,C⟩:=aB HM.out.own;go_wp2;go_ret2;exact HM.out.got I.o C
