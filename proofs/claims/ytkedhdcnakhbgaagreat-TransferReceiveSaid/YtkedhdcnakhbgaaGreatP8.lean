/- Lemmas. -/
import Derived.Test.YtkedhdcnakhbgaaGreatP1
import Derived.Test.YtkedhdcnakhbgaaGreatG2
import Derived.Test.YtkedhdcnakhbgaaGreatG4
import Derived.Test.YtkedhdcnakhbgaaGreatG1
import Derived.Test.YtkedhdcnakhbgaaGreatP3
import Derived.RangeFuncNested
import Derived.RangeFuncBound
import Derived.RangeFuncCalls
import Derived.RangeFuncLeaves
import Derived.OwnWalkIn
import Derived.Lib.OthersKept
import Derived.Shelf.RegionOpen
import Derived.Test.YtkedhdcnakhbgaaGreatK1
set_option linter.unusedSimpArgs false
set_option maxRecDepth 100000
set_option maxHeartbeats 16000000
namespace Go.Proofs.YtkedhdcnakhbgaaGreat
open Tryz
open Go.RowKit Go.Shelf
variable {ops:Array Oper}{cs:Array Value}{Q:Exit->Act->World->Prop}{e:Int}{d:Int×Int}{L R:List (Nat×UInt8×Nat)}{pre:List Int}{xs:List Itm}{xs':List Value}{B B' bb bc db f fb g i ib k lb lc m mb n n' u v xb z z':Nat}{K:Nat->Prop}{o:Obj}{ba la:Qa}{T a b s y:Qb}{base l:Qd}{c:UInt8}{v':Value}{W W' u0 w w' w0:World}
section
attribute [local go_sem] Oper.semAt_some
def Fg(n:Int):Int:=if Cw.inR n then((Cw.enc n.toNat).length:Int) else 0
structure J4 (w:World) (pre:List Int) (W:World):Prop where
 below:Below w w W
 cnt:W.heap[(w:Nat)]? = some (.cells #[Yi pre.length] 3 (0,0))
 box:∃v,W.heap[(w:Nat)+1]? = some (.cells #[v] 3 (0,0))
theorem J4.putObj(h:J4 w pre W){l:Nat}(o':Obj)(C:(w:Nat)+2<=l):J4 w pre (W.putObj l o'):=by
 refine⟨h.below.trans ⟨rfl,rfl,rfl,Zs,fun k B=>YM Zo⟩,(YM Zo).trans h.cnt,?_⟩;obtain⟨v,A⟩:=h.box;exact⟨v,(YM Zo).trans A⟩
theorem J4.alloc(h:J4 w pre W)(o:Obj):J4 w pre (W.alloc o):=by
 refine⟨h.below.alloc h.below.size o,(Below.heap_alloc W o _ (XA.1 h.cnt).1).trans h.cnt,?_⟩;obtain⟨v,A⟩:=h.box;exact⟨v,(Below.heap_alloc W o _ (XA.1 A).1).trans A⟩
theorem J4.set(h:J4 w pre W)(v:Value):J4 w pre (W.setCell ⟨(w:Nat)+1,0,none⟩ v):=by
 refine⟨h.below.setCell (p:=⟨(w:Nat)+1,0,none⟩) Zs v,(Below.heap_setCell W _ v _ Zs).trans h.cnt,?_⟩;obtain⟨v0,A⟩:=h.box;exact⟨v,by simp[World.setCell,XQ,A]⟩
theorem KC(n:Int)(w:World):
  Qh 195 #[Yi n] w fun e w'=>e=.returned (Yi (Fg n))/\Below w w w':=by
 by_cases h:Cw.inR n=true
 ·have F:Fg n=((Cw.enc n.toNat).length:Int):=if_pos h;obtain⟨Q,h1⟩:=(Cw.inR_iff n).1 h;have T:Qg (Fg n=((Tn 10 n).length:Int)):=Qf (by rw[F,uO 10 n Q]; rfl);clear F;have G:Qg (∀w:World,Qh 178 #[Yi n] w fun e w'=>e=.returned (.bool true)/\w=w'):=
   Qf (fun w=>by have:=kC n w; rwa[h] at this)
  clear h;refine(XV (n:=5)).1 ?_;refine callsIn_of_wp_marks func195 rfl trivial ?_ rfl;simp only[ntmps195,nU,az,aK,Nat.reduceAdd,Nat.reduceSub,jg,je,nV,jT,aY,bz];gi_wp2_with (first | (refine⟨trivial,?_⟩; gi_at_call 178; refine(XV.2 (G.o _)).mono ?_; rintro e w' ⟨rfl,rfl⟩) | (refine⟨trivial,?_⟩; gi_at_call 216; refine(XV.2 (xy _ _)).mono ?_; rintro e w' ⟨rfl,rfl⟩));have I:J4 w [] ((w.alloc (.cells #[Yi 0] 3)).alloc (.cells #[Yi n] 3)):=by
   refine⟨((bf w).alloc nr _).alloc Zs _,?_,⟨Yi n,?_⟩⟩
   ·exact(Below.heap_alloc _ _ _ Zs).trans (YL w _)
   ·have:=YL (w.alloc (.cells #[Yi 0] 3)) (.cells #[Yi n] 3)
    rwa[XU] at this
  have N:Dx ((w:Nat)+1) n ((w.alloc (.cells #[Yi 0] 3)).alloc (.cells #[Yi n] 3)):=by
   have:=YL (w.alloc (.cells #[Yi 0] 3)) (.cells #[Yi n] 3)
   rwa[XU] at this
  have C:((w.alloc (.cells #[Yi 0] 3)).alloc (.cells #[Yi n] 3)).heap.size=(w:Nat)+2:=Zs;refine jk (α:=Int) (gf:=238) (lb:=#[.pointer (some ⟨(w:Nat)+1,0,none⟩)]) (enc:=fun x=>Yb x) (ok:=okD) (bn:=(w:Nat)+1) (bo:=.cells #[Yi n] 3 (0,0)) (xs:=Tn 10 n)
   rfl Zo rfl trivial (enters_of func238 Zk rfl)
   (fun l J L V W X U=>xz Fence.wide 4 trivial rfl Zo l ((w:Nat)+1) J L V n 9 Zo Q Zo (eU.ten Zo) W X U)
   rfl (Zy C) N (J4 w)
   (fun s W l o o' S ho hc B=>B.putObj o' (by rw[C] at S; omega))
   (fun s W o B=>B.alloc o) (fun s W v B=>B.set v) I
   (fun x=>{ tmps:=#[Yi n,undef,Yi 0,.pointer w,Yi n,.bool true,.bool false,Yi n,.func (.func 238) #[] #[.pointer (some ⟨(w:Nat)+1,0,none⟩)],Yb x,undef,undef,undef],defers:=[] }) ?assign ?body ?done
  case assign=>
   intro l x W K M;gi_wp2;simpa using M
  case body=>
   rintro l A0 x W S O B;have E:W.cell? w=some (Yi A0.length):=Zc B.cnt;have Y:W.frozen? w=false:=YK B.cnt 0;have Z:A0.length<10:=O.2.2;gi_wp2;obtain⟨v,hv⟩:=B.box;refine⟨KeepsOthers.setCell _ _ _,Below.heap_setCell W _ _ _ Zs,?_,?_,v,(Below.heap_setCell W _ _ _ Zs).trans hv⟩
   ·exact B.below.setCell (p:=⟨w,0,none⟩) Zs _
   ·simp[World.setCell,XQ,B.cnt]
  case done=>
   rintro D W R B M;rw[C] at R;have E:W.cell? w=some (Yi (Tn 10 n).length):=Zc B.cnt;have H:=Qf B;clear B;gi_wp2;refine⟨Zs,.inl ⟨_,_,rfl,run_takeDeferred M,?_⟩⟩;refine⟨_,results_tmp rfl _ _ _,?_,(H.o.putObj (.deferred none) R).below⟩;rw[T.o]; rfl
 ·have P:Cw.inR n=false:=Zu h;have F:Fg n=0:=if_neg h;have G:Qg (∀w:World,Qh 178 #[Yi n] w fun e w'=>e=.returned (.bool false)/\w=w'):=
   Qf (fun w=>by have:=kC n w; rwa[P] at this)
  rw[F];clear h P F;go_enter func195,ntmps195;go_wp2_with (go_at_call 178; refine(G.o _).mono ?_; rintro e w' ⟨rfl,rfl⟩);go_ret;exact⟨rfl,bf _⟩
end
set_option linter.unusedVariables false
theorem qN(n:Nat)(I:(n:Int)<=1099511627776)(w:World):Qh 152 #[Yi (n:Int)] w fun e w'=>e=.returned (Yi (((Cw.enc n).length+n:Nat):Int))/\Below w w w':=by
 have B:=Qf (fun W=>KC (n:Int) W);have F:Fg (n:Int)=((Cw.enc n).length:Int):=by unfold Fg; rw[if_pos ((Cw.inR_iff _).2 ⟨Zo,I⟩)]; simp
 have H:=aG n;simp only[F] at B;obtain⟨k,D⟩:=Qe ((Cw.enc n).length);rw[<-D] at B H ⊢;obtain⟨m,E⟩:=Qe (k+n);have J:IntKind.i64.wrap ((k:Int)+(n:Int))=(m:Int):=by rw[ZV]; omega
 rw[<-E];clear F D E;go_enter func152,ntmps152;go_wp2_with fail;refine(B.o _).mono ?_;rintro e u ⟨rfl,C⟩;have G:=Qf C;clear C B;go_wp2;go_ret;exact⟨rfl,G.o⟩
theorem mr{b:Nat}(n:Nat)(M:(n:Int)<=1099511627776)(h:BW w0 u0 b T w)(L:(T.length:Int)<=70368744177664):Qh 145 #[Yi (n:Int),.pointer b] w fun e w'=>e=.returned (.tuple #[])/\Qg (BW w0 u0 b (T++Cw.enc n) w'):=by
 have C:=Qf (oL (n:Int) Zo M w);simp only[aj] at C;have J:=aG n;have H:=Qf h;generalize Cw.enc n=E at C J ⊢;obtain⟨F,D⟩:=Yj L J;clear h;go_enter func145,ntmps145;go_wp2_with fail;refine C.o.mono ?_;rintro e u ⟨rfl,I⟩;have B:=Qf (H.o.below I);have K:=Qf (cz B.o E (by have:=F.o; have:=D.o; omega));clear I C H B;go_wp2_with fail;refine K.o.mono ?_;rintro e u2 ⟨rfl,G⟩;go_wp2;go_end0;exact⟨rfl,G⟩
theorem vE{b:Nat}(S:Qb)(M:(S.length:Int)<=1099511627776)(h:BW w0 u0 b T w)(I:(T.length:Int)<=70368744177664)(K:w.cell? fb=some (.func (.func 145) #[] #[.pointer b])):Qh 146 #[S,.pointer fb,.pointer b] w fun e w'=>e=.returned (.tuple #[])/\Qg (BW w0 u0 b (T++(Cw.enc S.length++S)) w'):=by
 have D:=Qf (mr S.length M h I);have G:=bH S;have L:=aG S.length;have B:Qg (∀W,BW w0 u0 b (T++Cw.enc S.length) W->Qh 73 #[.pointer b,S] W fun e w'=>e=.returned (.tuple #[Yi S.length,.nilIface])/\Qg (BW w0 u0 b (T++Cw.enc S.length++S) w')):=Qf (fun W J=>cz J S (Zy af));rw[<-ay];generalize T++Cw.enc S.length=T2 at D B ⊢;generalize T2++S=T3 at B ⊢;obtain⟨n,C⟩:=Qe S.length;rw[<-C] at D B G;clear h L C;go_enter func146,ntmps146;go_wp2_with fail;refine D.o.mono ?_;rintro e u ⟨rfl,H⟩;have E:=Qf (B.o _ H.out);clear D B K;go_wp2_with fail;refine E.o.mono ?_;rintro e u2 ⟨rfl,F⟩;go_wp2;go_end0;exact⟨rfl,F⟩
open Go.RowKit
theorem EA{o:Dop}(h:mR o)(A:o.data.length<=65536):(mU o).length<=21*bS o:=by
 have B:=aG o.len;have C:=aG o.off;have D:=aG o.data.length;have E:=sF h;unfold mU;rw[af];by_cases e:0<o.len
 ·rw[if_pos ((gI h).2 e)]; omega
 ·rw[if_neg (fun c=>e ((gI h).1 c))];have:(putT o.data).1=Cw.enc o.data.length++o.data:=by unfold putT; rw[if_pos A]
  rw[this,af];have F:bS o=o.data.length:=by unfold bS; rw[if_neg e]
  omega
theorem Ez:∀{l:List Dop},(∀o∈l,mR o/\o.data.length<=65536)->(l.flatMap mU).length<=21*(l.map bS).sum
 | [],_=>Zs
 | o::l,h=>by
  have B:=EA (h o Zs).1 (h o Zs).2;have C:=Ez (l:=l) (fun x A=>h x (Zj A));rw[bR,af,eX,List.sum_cons];omega
theorem G9{o:Dop}:∀{l:List Dop},o∈l->bS o<=(l.map bS).sum
 | [],h=>by simp at h
 | x::l,h=>by
  rw[eX,List.sum_cons];rcases XG.1 h with rfl | h
  ·omega
  ·have:=G9 h; omega
theorem Jt:∀o∈iM a b,bS o<=b.length:=fun o A=>by
 have h:=(uS a b).sum;have B:=G9 A;omega
theorem Et{o:Dop}(h:mR o):o.data.length<=bS o:=by
 unfold bS;rcases h with⟨B,A⟩ | ⟨B,A,C⟩
 ·rw[A]; simp
 ·rw[if_neg Zo]; omega
theorem yJ(G:a.length<=65536)(K:b.length<=3000):(AV (iM a b)).2=0/\(AV (iM a b)).1.length<=65536/\sK (AV (iM a b)).1=(iM a b,0)/\(iM a b).length<=3000:=by
 have A:=uS a b;have H:=xA (a:=a) (b:=b) (n:=65536) G Zo Zo;obtain⟨C,D⟩:=ED H;have E:=Ez (l:=iM a b) (fun o B=>⟨A.fit o B,by have:=Et (A.fit o B); have:=Jt o B; omega⟩);rw[A.sum] at E;have F:(iM a b).length<=((iM a b).map bS).sum:=by
  have:∀l:List Dop,(∀o∈l,mR o)->l.length<=(l.map bS).sum:=by
   intro l;induction l with
   | nil=>intro _; simp
   | cons o l ih=>
    intro h;have g1:=ih (fun x I=>h x (Zj I));have g2:=sF (h o Zs);rw[az,eX,List.sum_cons];omega
  exact this _ A.fit
 rw[A.sum] at F;have J:=aG (iM a b).length;refine⟨Zx C,?_,D,Zo⟩;rw[C];simp only[af];omega
abbrev Dg:=Int×Int
def xS(tx:Dg->Nat):List Dg->Nat->Option Dg->Option Dg
 | [],_,r=>r
 | c::cs,m,r=>if tx c<m then xS tx cs (tx c) (some c) else xS tx cs m r
def iL(tx:Dg->Nat):List Dg->Option (Dg×Nat)->Option (Dg×Nat)
 | [],r=>r
 | c::cs,none=>iL tx cs (some (c,tx c))
 | c::cs,some (b,k)=>if tx c<k then iL tx cs (some (c,tx c)) else iL tx cs (some (b,k))
def FN(n:Nat):Option (Dg×Nat)->Option Dg
 | none=>none
 | some (b,k)=>if n<=k+16 then none else some b
theorem kY{tx:Dg->Nat}{n:Nat}:∀(cs:List Dg) {m:Nat} {r:Option Dg} {p:Option (Dg×Nat)},
  (p=none/\m=n-16/\r=none)\/(∃b k,p=some (b,k)/\((k+16<n/\m=k/\r=some b)\/(n<=k+16/\m=n-16/\r=none)))->xS tx cs m r=FN n (iL tx cs p)
 | [],m,r,p,h=>by
  rcases h with⟨rfl,_,rfl⟩ | ⟨b,k,rfl,⟨A,_,rfl⟩ | ⟨A,_,rfl⟩⟩
  ·rfl
  ·simp only[xS,iL,FN]; rw[if_neg Zo]
  ·simp only[xS,iL,FN]; rw[if_pos A]
 | c::cs,m,r,p,h=>by
  rcases h with⟨rfl,A,rfl⟩ | ⟨b,k,rfl,⟨A,B,rfl⟩ | ⟨A,B,rfl⟩⟩
  ·rw[xS,iL];by_cases e:tx c<m
   ·rw[if_pos e];exact kY cs (.inr ⟨c,_,rfl,.inl ⟨Zo,rfl,rfl⟩⟩)
   ·rw[if_neg e];exact kY cs (.inr ⟨c,_,rfl,.inr ⟨Zo,A,rfl⟩⟩)
  ·rw[xS,iL];subst B;by_cases e:tx c<m
   ·rw[if_pos e,if_pos e];exact kY cs (.inr ⟨c,_,rfl,.inl ⟨Zo,rfl,rfl⟩⟩)
   ·rw[if_neg e,if_neg e];exact kY cs (.inr ⟨b,_,rfl,.inl ⟨A,rfl,rfl⟩⟩)
  ·rw[xS,iL];by_cases e:tx c<m
   ·rw[if_pos e,if_pos Zo];exact kY cs (.inr ⟨c,_,rfl,.inl ⟨Zo,rfl,rfl⟩⟩)
   ·rw[if_neg e];by_cases e2:tx c<k
    ·rw[if_pos e2];exact kY cs (.inr ⟨c,_,rfl,.inr ⟨Zo,B,rfl⟩⟩)
    ·rw[if_neg e2];exact kY cs (.inr ⟨b,_,rfl,.inr ⟨A,B,rfl⟩⟩)
theorem lQ{tx:Dg->Nat}(c:Dg):∀(cs:List Dg) (r:Option (Dg×Nat)),iL tx (cs++[c]) r=match iL tx cs r with
  | none=>some (c,tx c)
  | some (b,k)=>if tx c<k then some (c,tx c) else some (b,k)
 | [],none=>rfl
 | [],some (b,k)=>by simp[iL]
 | d::cs,none=>by rw[bz,iL,iL]; exact lQ c cs _
 | d::cs,some (b,k)=>by
  rw[bz,iL,iL];by_cases e:tx d<k
  ·rw[if_pos e,if_pos e]; exact lQ c cs _
  ·rw[if_neg e,if_neg e]; exact lQ c cs _
theorem lN{tx:Dg->Nat}:∀(cs:List Dg) (r:Option (Dg×Nat)),(∀b k,r=some (b,k)->k=tx b)->∀b k,iL tx cs r=some (b,k)->k=tx b/\(b∈cs\/r=some (b,k))
 | [],r,h,b,k,e=>⟨h b k e,.inr e⟩
 | c::cs,none,h,b,k,e=>by
  rw[iL] at e;obtain⟨B,A⟩:=lN cs _ (fun b k h=>by cases h; rfl) b k e;refine⟨B,.inl ?_⟩;rcases A with A | A
  ·exact pM _ A
  ·cases A; exact P9
 | c::cs,some (b0,k0),h,b,k,e=>by
  rw[iL] at e;by_cases e2:tx c<k0
  ·rw[if_pos e2] at e;obtain⟨B,A⟩:=lN cs _ (fun b k h=>by cases h; rfl) b k e;refine⟨B,.inl ?_⟩;rcases A with A | A
   ·exact pM _ A
   ·cases A; exact P9
  ·rw[if_neg e2] at e;obtain⟨B,A⟩:=lN cs _ h b k e;refine⟨B,?_⟩;rcases A with A | A
   ·exact .inl (pM _ A)
   ·exact .inr A
def gL(xs:List Itm)(d:Dg):Qb:=(De xs d).1
def txS(xs:List Itm)(d c:Dg):Qb:=fF (AV (iM (gL xs c) (gL xs d))).1
def QK(xs:List Itm)(d:Dg)(cs:List Dg):Option Dg:=xS (fun c=>(txS xs d c).length) cs ((fF (gL xs d)).length-16) none
theorem Dk(xs:List Itm)(d:Dg)(cs:List Dg):QK xs d cs=FN (fF (gL xs d)).length (iL (fun c=>(txS xs d c).length) cs none):=kY cs (.inl ⟨rfl,rfl,rfl⟩)
def Ph(xs:List Itm)(d:Dg)(o:Option Dg):Qb:=
 beD d++(match o with
  | none=>Cw.enc 0++fF (gL xs d)
  | some c=>Cw.enc 1++(beD c++txS xs d c))
def VU(xs:List Itm)(l base:List Dg)(i:Nat):Qb:=Ph xs (l.getD i (0,0)) (QK xs (l.getD i (0,0)) (base++l.take i))
def Ih(xs:List Itm)(l base:List Dg):Qb:=Cw.enc l.length++(List.range l.length).flatMap (VU xs l base)
def pkE(xs:List Itm):List Dg->List Dg->Int
 | [],_=>0
 | d::r,seen=>if I7 xs d=false then 8 else if d∈seen then 7 else pkE xs r (seen++[d])
def bsE(xs:List Itm)(l:List Dg):Int:=if l.all (I7 xs)=true then 0 else 8
def Cs(xs:List Itm)(l base:List Dg):Int:=if 1000<l.length then 4 else if pkE xs l []≠0 then pkE xs l [] else bsE xs base
def zP(xs:List Itm)(l base:List Dg):Qb×Int:=if Cs xs l base≠0 then([],Cs xs l base) else(BX (Ih xs l base),0)
structure Chc where
 sm:Bool
 b:Int×Int
 tx:Qb
 sz:Nat
def vJ(c:Chc):List Value:=[.bool c.sm,Yu c.b.1,Yu c.b.2,.string ⟨c.tx.toArray⟩,Yi (c.sz:Int)]
theorem IB:Lay vJ 5:=⟨Zd,fun _=>rfl,fun a v A=>by
 simp[vJ] at A;rcases A with rfl | rfl | rfl | rfl | rfl <;> rfl⟩
theorem LU{a:Qa}{l:List Chc}(h:GIn vJ 5 B W a l)(E:k<l.length):∃b F,a=some ⟨b,F,none⟩/\b<B/\W.cell? ⟨b,F+k*5,none⟩=some (.bool l[k].sm)/\W.cell? ⟨b,F+k*5+1,none⟩=some (Yu l[k].b.1)/\W.cell? ⟨b,F+k*5+2,none⟩=some (Yu l[k].b.2)/\W.cell? ⟨b,F+k*5+3,none⟩=some (.string ⟨l[k].tx.toArray⟩)/\W.cell? ⟨b,F+k*5+4,none⟩=some (Yi (l[k].sz:Int)):=by
 obtain⟨b,F,C,D,A⟩:=h k E;exact⟨b,F,C,D,A 0 _ rfl,A 1 _ rfl,A 2 _ rfl,A 3 _ rfl,A 4 _ rfl⟩
def yG(xs:List Itm)(d:Int×Int)(c:Chc):Qb:=beD d++(if c.sm=true then Cw.enc 1++(beD c.b++fF c.tx) else Cw.enc 0++fF (gL xs d))
def U7(xs:List Itm)(l:Qd)(ch:List Chc):Qb:=Cw.enc l.length++(l.zip ch).flatMap fun p=>yG xs p.1 p.2
structure ChOk (c:Chc):Prop where
 b:OkD c.b
 t:c.tx.length<=1000000
theorem LB{c:Chc}(F:c.tx.length<=1000000)(G:(gL xs d).length<=1000000):(yG xs d c).length<=1000100:=by
 have C:=aG 1;have B:=aG 0;have D:=aG c.tx.length;have E:=aG (gL xs d).length;have A:∀x,(beD x).length=16:=fun x=>by unfold beD; rw[af,bY,bY]
 unfold yG fF;split <;> simp only[af,A] <;> omega
theorem Er{α:Type}{f:α->Qb}{m:Nat}:∀(l:List α),(∀x∈l,(f x).length<=m)->(l.flatMap f).length<=l.length*m
 | [],_=>Zs
 | x::l,h=>by
  have B:=h x Zs;have C:=Er l (fun y A=>h y (Zj A));rw[bR,af,az,rM];omega
theorem xH{α β:Type}{l:List α}{m:List β}(A:k<l.length)(B:k<m.length):(l.zip m).take (k+1)=(l.zip m).take k++[(l[k],m[k])]:=by
 rw[ai (Zy List.length_zip),List.getElem_zip]
open Go Go.RowKit
theorem kS{F:Fence}{n:Nat}{P:Program}(w:World){ops:Array Oper}{rest:List Oper}{o:Oper}{a:Act}{Q:Exit->Act->World->Prop}(D:o.guard=none)(s x:Operand)(t tn:TypeId)
  (A:o.op=Op.call { callee:=Callee.builtin Builtin.append,args:=#[s,x],argTypes:=#[t,tn] }) (vs vx:Value) (hs:a.eval s=vs) (G:a.eval x=vx)
  (v':Value) (w':World) (E:(Builtin.append_ #[t,tn] o.type #[vs,vx]).run P w=.ok v' w') (h:wpListIn F n P ops Q rest (a.put o.dst v') w'):wpListIn F n P ops Q (o::rest) a w:=by
 refine wpListIn_plain D fun K B=>?_
 unfold Oper.wpIn;refine⟨?_,?_⟩
 ·simp[Oper.about,A,resolve,Target.leads,Sem.run_pure]
 ·rw[Oper.semAt_plain F _ _ (by rw[A]; intro c C; cases C)];simp[execOp,A,resolve,invoke,builtin,hs,G,E,Result.andThen];exact B _ _ h
section
variable {F:Fence} {n:Nat} {P:Program}
def uf(ops:Array Oper):Bool:=ops.all fun o=>match o.op with | .defer _=>false | _=>true
theorem FR(h:uf ops=true){o:Oper}(B:ops[i]? = some o):∀c,o.op≠.defer c:=fun c e=>by
 unfold uf at h;rw[Array.all_eq_true] at h;obtain⟨A,rfl⟩:=XA.1 B;have:=h i A;rw[e] at this;cases this
theorem Fu{r:String}{args:Array Value}{R:Value->World->Prop}(l:Nat)(h:Rows P r args w R):RowsIn (Fence.wide.inRound l) n P r args w R:=fun c cs _=>by
 obtain⟨v,w',A,B⟩:=h c cs;exact⟨v,w',A,stepsIn_wide.2 B⟩
theorem iA{Q:Exit->Act->World->Prop}{ops:Array Oper}(lp:Nat)(B:uf ops=true)(A:¬LetsOut Q):∀(l:List Nat) (a:Act) (w:World),wpOps P ops Q l a w->wpOpsIn (Fence.wide.inRound lp) n P ops Q l a w
 | [],a,w,h=>h
 | i::rest,a,w,h=>by
  rw[wpOps_cons] at h;unfold wpOp at h;cases D:ops[i]? with
  | none=>
   rw[D] at h;simp only[wpOpsIn,D];exact iA lp B A rest a w h
  | some o=>
   rw[D] at h;simp only[wpOpsIn,D];simp only at h;by_cases F:Region.wanted o (yielded ops a.tmps)=true
   ·rw[if_pos F] at h ⊢;rcases h with h | ⟨_,h⟩
    ·refine⟨fun _ _=>trivial,?_⟩;rw[Oper.semAt_plain _ _ _ (FR B D)];unfold Oper.wp at h;generalize (execOp a.eval o).run P w=r at h;cases r with
     | ok x w'=>
      cases x with
      | value v=>exact iA lp B A rest _ _ h
      | skip=>exact iA lp B A rest _ _ h
      | defer d=>exact iA lp B A rest _ _ h
      | enter f args=>
       refine⟨fun E=>(by cases E),(CallsIn.inRound lp (XV.2 h)).mono ?_⟩;intro e G C;cases e with
       | returned u=>exact iA lp B A rest _ _ C
       | panicked c=>exact C
       | outgrown=>exact C
      | row r args=>
       refine⟨fun E=>(by cases E),Fu lp (Rows.mono h (fun u G C=>iA lp B A rest _ _ C))⟩
      | _=>exact h.elim
     | halt x w'=>cases x <;> first | exact h | exact h.elim
    ·exact absurd h A
   ·rw[if_neg F] at h ⊢;exact⟨fun _ _=>trivial,iA lp B A rest _ _ h⟩
theorem zy{id:Nat}{a:Act}(lp:Nat)(B:uf ops=true)(A:¬LetsOut Q)(C:P.follows .mixedOrders=true)(h:wpAny P .any ops Q ops.size (Array.replicate ops.size false) a w.drew):
  (Code.region id ops true).wpIn (Fence.wide.inRound lp) n P Q a w:=
 wpIn_region_draw fun t=>iA lp B A _ _ _ (by
  simp only[Region.schedule,C,Bool.true_or,if_true];exact wpAny_sound ops.size t _ a _ h)
theorem eZ{S:World->Prop}{id:Nat}{a:Act}(ts:List Nat)(lp:Nat)(B:uf ops=true)(A:¬LetsOut Q)(E:P.follows .mixedOrders=true)(C:S w.drew)(h:S w.drew->Du P .any ops Q S ts ops.size (Array.replicate ops.size false) a w.drew):
  (Code.region id ops true).wpIn (Fence.wide.inRound lp) n P Q a w:=
 zy lp B A E (yV _ _ _ _ (h C (fun j o F D=>by
  have G:=Au _ _ D;have H:=(XA.1 F).1
  omega)))
def ku(o:Obj):Prop:=∀c f,o≠.cells c 5 f
structure cO (K:Nat->Prop) (w w':World):Prop where
 os:w'.os=w.os
 tape:w'.tape=w.tape
 output:w'.output=w.output
 size:(w:Nat)<=(w':Nat)
 block:∀k,K k->w'.heap[k]? = w.heap[k]?
theorem cO.refl(K:Nat->Prop)(w:World):cO K w w:=⟨rfl,rfl,rfl,nr,fun _ _=>rfl⟩
theorem cO.trans{a b c:World}(h:cO K a b)(g:cO K b c):cO K a c:=⟨g.os.trans h.os,g.tape.trans h.tape,g.output.trans h.output,aC h.size g.size,fun k A=>(g.block k A).trans (h.block k A)⟩
theorem cO.of_below(A:Below m w w')(h:∀k,K k->k<m):cO K w w':=⟨A.os,A.tape,A.output,A.size,fun k B=>A.block k (h k B)⟩
theorem cO.to_below(A:cO K w w')(h:∀k,k<m->K k):Below m w w':=⟨A.os,A.tape,A.output,A.size,fun k B=>A.block k (h k B)⟩
theorem cO.put{l:Nat}(h:cO K W W')(B:¬K l):cO K W (W'.putObj l o):=
 h.trans ⟨rfl,rfl,rfl,Zs,fun k A=>YM (fun e=>B (e▸A))⟩
def wD{α:Type}(K:Nat->Prop)(bid:Nat)(I:List α->World->Prop)(Z:World->Prop)(xs:List α)(W0 Wy W:World):Exit->Act->World->Prop
 | .normal,_,W'=>KeepsOthers W W'/\cO K W W'/\(∀k o,(W0:Nat)<=k->k<(Wy:Nat)->W.heap[k]? = some o->ku o->W'.heap[k]? = some o)/\I xs W'
 | .exit i,_,W'=>i=bid/\KeepsOthers W W'/\cO K W W'/\(∀k o,(W0:Nat)<=k->k<(Wy:Nat)->W.heap[k]? = some o->ku o->W'.heap[k]? = some o)/\Z W'
 | _,_,_=>False
def Pp{α:Type}(F:Fence)(m:Nat)(P:Program)(l:Nat)(K:Nat->Prop)(enc:α->Value)(ok:List α->α->Prop)(J:List α->World->Prop)(Y:World->Prop):Prop:=
 ∀pre x W0 W,ok pre x->J pre W0->Below W0 W0 W->YieldAt F m P l #[enc x] W fun e W'=>cO K W W'/\(∀k o,(W0:Nat)<=k->k<(W:Nat)->W.heap[k]? = some o->ku o->W'.heap[k]? = some o)/\((e=.returned (.bool true)/\J (pre++[x]) W')\/(e=.returned (.bool false)/\Y W'))
def lH(I:World->Prop):Prop:=∀W W',I W->Below W W W'->I W'
def yX{α:Type}(F:Fence)(m:Nat)(P:Program)(gf:FuncId)(lb:Array Value)(K:Nat->Prop)(enc:α->Value)(ok:List α->α->Prop)(xs:List α)(w:World):Prop:=
 ∀(l:Nat) (J:List α->World->Prop) (Y:World->Prop),(∀s,lH (J s))->lH Y->Pp F (m-1) P l K enc ok J Y->
  ∀W,Below w w W->J [] W->CallsIn F m P gf (#[.func (.yield l) #[] #[]]++lb) W fun e W'=>(∃v,e=.returned v)/\(J xs W'\/Y W')
theorem vD{l:Nat}(h:Below B W W')(C:B<=l):Below B W (W'.putObj l o):=
 h.trans ⟨rfl,rfl,rfl,Zs,fun k A=>YM Zo⟩
theorem Gy{l:Nat}(h:Below n W W')(B:l<(W:Nat)):Below n (W.putObj l o) (W'.putObj l o):=by
 have hs:=h.size;refine⟨h.os,h.tape,h.output,Zu hs,fun k A=>?_⟩;by_cases e:k=l
 ·subst e;rw[World.putObj_heap_same Zo,World.putObj_heap_same B]
 ·rw[YM e,YM e];exact h.block k A
theorem mZ{α:Type}{g:Operand}{ps:Array Tmp}{assign body:Code}{Q:Exit->Act->World->Prop}{a:Act}{w:World}
  (D5:F.round=none) (h1:1<=n) {gf:Nat} {lb:Array Value} (hg:a.eval g=.func (.func gf) #[] lb) (B9:F.fn gf) (eg:∀args w,(callFunc gf args).run P w=.ok (.enter gf args) w)
  {enc:α->Value} {ok:List α->α->Prop} {xs:List α} {K:Nat->Prop} (hK:∀k,K k->k<(w:Nat)) (A1:yX F (n-1) P gf lb K enc ok xs w)
  (D4:ps.size=1) (I:List α->World->Prop) (Z:World->Prop) (bid:Nat) (A7:∀s,lH (I s)) (C4:lH Z)
  (U:∀s W l o o',(w:Nat)<=l->W.heap[l]? = some o->o.isCells=false->I s W->I s (W.putObj l o'))
  (A8:∀W l o o',(w:Nat)<=l->W.heap[l]? = some o->o.isCells=false->Z W->Z (W.putObj l o'))
  (h0:I [] w) (Bx:α->World->Act->World->Prop)
  (B7:∀x Wy a W l o o',(w:Nat)<=l->W.heap[l]? = some o->o.isCells=false->Bx x Wy a W->Bx x Wy a (W.putObj l o'))
  (M:∀(l:Nat) (x:α) (W:World),assign.wpIn (F.inRound l) (n-1-1) P (Exit.then (fun a1 W1=>Bx x W a1 W1/\Below W W W1) (fun _ _ _=>False)) { tmps:=(ps.zip #[enc x]).foldl (fun t (p,v)=>t.setIfInBounds p v) a.tmps,defers:=[] } W)
  (X:∀(l:Nat) (B5:List α) (x:α) (W0 Wy W:World) (a1:Act),(w:Nat)<=l->ok B5 x->I B5 W0->Below W0 W0 W->(W0:Nat)<=(Wy:Nat)->(Wy:Nat)<=(W:Nat)->Bx x Wy a1 W->body.wpIn (F.inRound l) (n-1-1) P (wD K bid I Z (B5++[x]) W0 Wy W) a1 W)
  (Y:∀(D:Nat) (W:World),(w:Nat)<=D->I xs W->W.heap[D]? = some (.deferred (some []))->Q .normal { a with defers:={ target:=.collected D,args:=#[] }::a.defers } W)
  (O:∀(D:Nat) (W:World),(w:Nat)<=D->Z W->W.heap[D]? = some (.deferred (some []))->(Code.exit bid).wpIn F n P Q { a with defers:={ target:=.collected D,args:=#[] }::a.defers } W) :
  (Code.rangeFunc g ps assign body).wpIn F n P Q a w:=by
 refine wpIn_rangeFunc ?_;intro fn C8;rw[D5];obtain⟨A6,A⟩:∃A6:LoopState->Option Code->Loop,A6=fun st pe=>{ state:=st,pending:=pe,fn,tmps:=a.tmps,params:=ps,assign,body,defers:=(w:Nat) }:=⟨_,rfl⟩
 obtain⟨W1,N⟩:∃W1,(w.alloc (.deferred (some []))).alloc (.loop (A6 .ready none))=W1:=⟨_,rfl⟩;have C3:W1.heap[(w:Nat)+1]? = some (.loop (A6 .ready none)):=by
  rw[<-N]; have:=YL (w.alloc (.deferred (some []))) (.loop (A6 .ready none)); rwa[XU] at this
 have C2:W1.heap[(w:Nat)]? = some (.deferred (some [])):=by
  rw[<-N]; exact(Below.heap_alloc _ _ _ Zs).trans (YL w _)
 have A9:Below w w W1:=N▸((bf _).alloc nr _).alloc (by simp) _;have C0:I [] W1:=A7 _ _ _ h0 A9;refine⟨(w:Nat)+1,[{ target:=.collected (w:Nat),args:=#[] }],W1,{ target:=.fn (.func gf) lb,args:=#[.func (.yield ((w:Nat)+1)) #[] #[]] },W1,gf,
  #[.func (.yield ((w:Nat)+1)) #[] #[]]++lb,W1,?_,?_,?_,?_,fun _=>h1,?_⟩
 ·rw[<-N,A]; exact run_enterLoop_outer _ _ _ _ _
 ·simp only[resolve,hg];simp[go_sem]
 ·intro f' B0; simp[Target.leads] at B0; subst B0; exact B9
 ·simp[invoke,go_sem,eg]
 ·have C:∀{W W':World} {k:Nat} {o:Obj},Below W W W'->W.heap[k]? = some o->W'.heap[k]? = some o:=fun E H=>(E.block _ (XA.1 H).1).trans H
  refine(A1 ((w:Nat)+1)
   (fun B5 W=>I B5 W/\W.heap[(w:Nat)+1]? = some (.loop (A6 .ready none))/\W.heap[(w:Nat)]? = some (.deferred (some [])))
   (fun W=>Z W/\W.heap[(w:Nat)+1]? = some (.loop (A6 .done (some (.exit bid))))/\W.heap[(w:Nat)]? = some (.deferred (some [])))
   (fun s W W' hs E=>⟨A7 _ _ _ hs.1 E,C E hs.2.1,C E hs.2.2⟩) (fun W W' hs E=>⟨C4 _ _ hs.1 E,C E hs.2.1,C E hs.2.2⟩) ?_ W1 A9 ⟨C0,C3,C2⟩).mono ?_
  ·rintro B5 x W0 W D3 ⟨R,A3,D0⟩ E;have T:=C E A3;have H:=C E D0;have B3:(w:Nat)+1<(W0:Nat):=(XA.1 A3).1;have hy:=run_yield (P:=P) (args:=#[enc x]) T (by rw[A]; simp[D4]);rw[A] at hy;refine⟨fn,_,assign,body,hy,roundIn_of_wpIn C8 (wpIn_mono (M _ x W) ?_)⟩;rintro e a1 Wa hp;cases e with
   | normal=>
    obtain⟨B8,J⟩:=hp;have A4:=C J T;have D1:=C J H;refine⟨_,run_beginRound A4 (Zx A),?_⟩;have B4:(w:Nat)+1<(Wa:Nat):=(XA.1 A4).1;have B2:(Wa.putObj ((w:Nat)+1) (.loop { A6 .ready none with state:=.busy })).heap[(w:Nat)+1]? = some (.loop { A6 .ready none with state:=.busy }):=World.putObj_heap_same B4;have B1:(Wa.putObj ((w:Nat)+1) (.loop { A6 .ready none with state:=.busy })).heap[(w:Nat)]? = some (.deferred (some [])):=(YM Zo).trans D1;have C5:Below W0 W0 Wa:=(XT E J);have C9:=U _ _ _ _ (.loop { A6 .ready none with state:=.busy }) Zo A3 rfl R;have C6:=Gy (o:=.loop { A6 .ready none with state:=.busy }) C5 B3;have A5:(W0.putObj ((w:Nat)+1) (.loop { A6 .ready none with state:=.busy })).heap.size=(W0:Nat):=Zs;have D6:(Wa.putObj ((w:Nat)+1) (.loop { A6 .ready none with state:=.busy })).heap.size=(Wa:Nat):=Zs;refine wpIn_mono (X _ B5 x _ W _ a1 Zo D3 C9 (A5▸C6) (A5▸E.size) (D6▸J.size) (B7 _ _ _ _ _ _ _ Zo A4 rfl B8)) ?_;rintro e a3 W3 L;have S:∀(o:Obj),cO K (Wa.putObj ((w:Nat)+1) (.loop { A6 .ready none with state:=.busy })) W3->(∀k o,(W0.putObj ((w:Nat)+1) (.loop { A6 .ready none with state:=.busy })).heap.size<=k->k<(W:Nat)->(Wa.putObj ((w:Nat)+1) (.loop { A6 .ready none with state:=.busy })).heap[k]? = some o->ku o->W3.heap[k]? = some o)->
      cO K W (W3.putObj ((w:Nat)+1) o)/\∀k x,(W0:Nat)<=k->k<(W:Nat)->W.heap[k]? = some x->ku x->(W3.putObj ((w:Nat)+1) o).heap[k]? = some x:=fun o C7 G=>by
     refine⟨((((cO.of_below J (fun k H=>by have:=E.size; have:=hK k H; omega)).put (fun H=>Zh (hK _ H))).trans C7).put (fun H=>Zh (hK _ H))),fun k x h1 h2 hx D2=>?_⟩;rw[YM Zo];exact G k x (A5▸h1) h2 (by rw[YM Zo,J.block k h2]; exact hx) D2
    cases e with
    | normal=>
     obtain⟨G,V,A2,A0⟩:=L;have B:=G.same _ _ B2 rfl;have hr:=run_endRound (P:=P) none B;rw[A] at hr B ⊢;obtain⟨g1,g2⟩:=S (.loop { state:=.ready,pending:=none,fn,tmps:=a.tmps,params:=ps,assign,body,defers:=(w:Nat) }) V A2;exact⟨_,_,hr,g1,g2,.inl ⟨rfl,U _ _ _ _ _ Zo B rfl A0,World.putObj_heap_same (XA.1 B).1,(YM Zo).trans (G.same _ _ B1 rfl)⟩⟩
    | exit i=>
     obtain⟨rfl,G,V,A2,A0⟩:=L;have B:=G.same _ _ B2 rfl;have hr:=run_endRound (P:=P) (some (.exit i)) B;rw[A] at hr B ⊢;obtain⟨g1,g2⟩:=S (.loop { state:=.done,pending:=some (.exit i),fn,tmps:=a.tmps,params:=ps,assign,body,defers:=(w:Nat) }) V A2;exact⟨_,_,hr,g1,g2,.inr ⟨rfl,A8 _ _ _ _ Zo B rfl A0,World.putObj_heap_same (XA.1 B).1,(YM Zo).trans (G.same _ _ B1 rfl)⟩⟩
    | ret=>exact L.elim
    | goto t=>exact L.elim
    | panic ch=>exact L.elim
    | outgrown=>exact L.elim
   | ret=>exact hp.elim
   | exit i=>exact hp.elim
   | goto t=>exact hp.elim
   | panic ch=>exact hp.elim
   | outgrown=>exact hp.elim
  ·rintro e W2 ⟨⟨v,rfl⟩,R | R⟩
   ·obtain⟨R,T,H⟩:=R;exact⟨none,_,by have:=run_endLoop (P:=P) T (Zn A); rw[A] at this; exact this,Y _ _ nr (U _ _ _ _ _ Zo T rfl R) ((YM Zo).trans H)⟩
   ·obtain⟨R,T,H⟩:=R;exact⟨some (.exit bid),_,by have:=run_endLoop (P:=P) T (Zn A); rw[A] at this; exact this,O _ _ nr (A8 _ _ _ _ Zo T rfl R) ((YM Zo).trans H)⟩
theorem MN(p:Tmp)(v:Value)(t:Array Value):(#[p].zip #[v]).foldl (fun t (p,v)=>t.setIfInBounds p v) t=t.setIfInBounds p v:=Zs
theorem ji{α:Type}{g:Operand}{p bs:Tmp}{assign body:Code}{Q:Exit->Act->World->Prop}{a:Act}{w:World}(T:TypeId)(cs:α->Array Value)
  (V:F.round=none) (M:1<=n) {gf:Nat} {lb:Array Value} (hg:a.eval g=.func (.func gf) #[] lb) (N:F.fn gf) (eg:∀args w,(callFunc gf args).run P w=.ok (.enter gf args) w)
  {enc:α->Value} {ok:List α->α->Prop} {xs:List α} {K:Nat->Prop} (hK:∀k,K k->k<(w:Nat)) (G:yX F (n-1) P gf lb K enc ok xs w)
  (I:List α->World->Prop) (Z:World->Prop) (bid:Nat) (O:∀s,lH (I s)) (S:lH Z)
  (R:∀s W l o o',(w:Nat)<=l->W.heap[l]? = some o->o.isCells=false->I s W->I s (W.putObj l o'))
  (U:∀W l o o',(w:Nat)<=l->W.heap[l]? = some o->o.isCells=false->Z W->Z (W.putObj l o'))
  (Y:I [] w)
  (A:∀(l:Nat) (x:α) (W:World),assign.wpIn (F.inRound l) (n-1-1) P (Exit.then (fun a1 W1=>a1={ tmps:=(a.tmps.setIfInBounds p (enc x)).setIfInBounds bs (.pointer W),defers:=[] }/\W1=W.alloc (.cells (cs x) T)) (fun _ _ _=>False)) { tmps:=a.tmps.setIfInBounds p (enc x),defers:=[] } W)
  (C:∀(l:Nat) (A0:List α) (x:α) (W0 Wy W:World),(w:Nat)<=l->ok A0 x->I A0 W0->Below W0 W0 W->(W0:Nat)<=(Wy:Nat)->(Wy:Nat)<=(W:Nat)->W.heap[(Wy:Nat)]? = some (.cells (cs x) T (0,0))->
   body.wpIn (F.inRound l) (n-1-1) P (wD K bid I Z (A0++[x]) W0 Wy W) { tmps:=(a.tmps.setIfInBounds p (enc x)).setIfInBounds bs (.pointer Wy),defers:=[] } W)
  (E:∀(D:Nat) (W:World),(w:Nat)<=D->I xs W->W.heap[D]? = some (.deferred (some []))->Q .normal { a with defers:={ target:=.collected D,args:=#[] }::a.defers } W)
  (B:∀(D:Nat) (W:World),(w:Nat)<=D->Z W->W.heap[D]? = some (.deferred (some []))->(Code.exit bid).wpIn F n P Q { a with defers:={ target:=.collected D,args:=#[] }::a.defers } W) :
  (Code.rangeFunc g #[p] assign body).wpIn F n P Q a w:=by
 refine mZ V M hg N eg hK G rfl I Z bid O S R U Y
  (fun x Wy a1 W=>a1={ tmps:=(a.tmps.setIfInBounds p (enc x)).setIfInBounds bs (.pointer Wy),defers:=[] }/\W.heap[Wy.heap.size]? = some (.cells (cs x) T (0,0)))
  (fun x Wy a1 W l o o' hl J ho L=>⟨L.1,(YM (fun e=>?_)).trans L.2⟩) (fun l x W=>?_) (fun l A0 x W0 Wy W a1 M h2 h3 h4 h5 h6 L=>?_) E B
 ·rw[<-e,L.2] at J;cases J; cases ho
 ·rw[MN];refine wpIn_mono (A l x W) ?_;rintro e a1 W1 H;cases e with
  | normal=>
   obtain⟨rfl,rfl⟩:=H;exact⟨⟨rfl,YL _ _⟩,(bf _).alloc nr _⟩
  | ret=>exact H.elim
  | exit i=>exact H.elim
  | goto t=>exact H.elim
  | panic ch=>exact H.elim
  | outgrown=>exact H.elim
 ·obtain⟨rfl,X⟩:=L;exact C l A0 x W0 Wy W M h2 h3 h4 h5 h6 X
theorem nX{α:Type}{g:Operand}{p bs:Tmp}{assign body:Code}{Q:Exit->Act->World->Prop}{a:Act}{w:World}(T:TypeId)(cs:α->Array Value)
  (S:F.round=none) (V:1<=n) {gf:Nat} {lb:Array Value} (hg:a.eval g=.func (.func gf) #[] lb) (H:F.fn gf) (eg:∀args w,(callFunc gf args).run P w=.ok (.enter gf args) w)
  {enc:α->Value} {ok:List α->α->Prop} {xs:List α} {K:Nat->Prop} (Y:∀k,K k->k<(w:Nat)) (E:yX F (n-1) P gf lb K enc ok xs w)
  (I:List α->World->Prop) (Z:World->Prop) (bid:Nat) (L:∀s,lH (I s)) (N:lH Z)
  (M:∀s W l o o',(w:Nat)<=l->W.heap[l]? = some o->o.isCells=false->I s W->I s (W.putObj l o'))
  (O:∀W l o o',(w:Nat)<=l->W.heap[l]? = some o->o.isCells=false->Z W->Z (W.putObj l o'))
  (U:I [] w) (J:∀W,I xs W->Z W)
  (A:∀(l:Nat) (x:α) (W:World),assign.wpIn (F.inRound l) (n-1-1) P (Exit.then (fun a1 W1=>a1={ tmps:=(a.tmps.setIfInBounds p (enc x)).setIfInBounds bs (.pointer W),defers:=[] }/\W1=W.alloc (.cells (cs x) T)) (fun _ _ _=>False)) { tmps:=a.tmps.setIfInBounds p (enc x),defers:=[] } W)
  (C:∀(l:Nat) (A0:List α) (x:α) (W0 Wy W:World),(w:Nat)<=l->ok A0 x->I A0 W0->Below W0 W0 W->(W0:Nat)<=(Wy:Nat)->(Wy:Nat)<=(W:Nat)->W.heap[(Wy:Nat)]? = some (.cells (cs x) T (0,0))->
   body.wpIn (F.inRound l) (n-1-1) P (wD K bid I Z (A0++[x]) W0 Wy W) { tmps:=(a.tmps.setIfInBounds p (enc x)).setIfInBounds bs (.pointer Wy),defers:=[] } W)
  (B:∀(D:Nat) (W:World),(w:Nat)<=D->Z W->W.heap[D]? = some (.deferred (some []))->Q .normal { a with defers:={ target:=.collected D,args:=#[] }::a.defers } W) :
  (Code.rangeFunc g #[p] assign body).wpIn F n P (Exit.inBlock bid Q) a w:=
 ji T cs S V hg H eg Y E I Z bid L N M O U A C (fun D W G X R=>B D W G (J W X) R)
  (fun D W G hZ R=>wpIn_exit (by show(if bid=bid then _ else _); rw[if_pos rfl]; exact B D W G hZ R))
end
section
attribute [local go_sem] Oper.semAt_some
theorem fT.below_lt{α:Type}{G:N8 α}{b:Nat}{F:α->Option Value}(h:fT G b n F W)(I:Below B W W')(A:b<B):fT G b n F W':=by
 obtain⟨D,⟨es,J,C,E⟩,H⟩:=h;exact⟨D,⟨es,J,(I.block b A).trans C,E⟩,H⟩
def GN(xs:List Itm)(d:Int×Int):Option Value:=(xs.find? (fun x=>decide (x.d=d))).map fun x=>.string ⟨x.data.toArray⟩
theorem sM(xs:List Itm)(d:Int×Int):(GN xs d).getD (.string ⟨#[]⟩)=.string ⟨(gL xs d).toArray⟩:=by
 unfold GN gL De;cases xs.find? (fun x=>decide (x.d=d)) <;> rfl
theorem xI(W:World):(zeroValue 9).run prog W=.ok (.string ⟨#[]⟩) W:=Zk
abbrev Cd:=(Int×Int)×Nat
def JM(xs:List Itm)(x:Cd):Value:=.agg #[Yu x.1.1,Yu x.1.2,(gL xs x.1),Yi (x.2:Int)]
def cdCs(xs:List Itm)(x:Cd):Array Value:=#[Yu x.1.1,Yu x.1.2,(gL xs x.1),Yi (x.2:Int)]
def dU:Qd->Nat->List Cd
 | [],_=>[]
 | d::l,k=>(d,k+1)::dU l (k+1)
def vB(l base:Qd):List Cd:=base.map (fun d=>(d,0))++dU l 0
theorem qD:∀(l:Qd) (d:Int×Int) (k:Nat),dU (l++[d]) k=dU l k++[(d,k+l.length+1)]
 | [],d,k=>by simp[dU]
 | x::l,d,k=>by
  rw[bz,dU,dU,qD l d (k+1),az,bz];rw[show k+1+l.length+1=k+(l.length+1)+1 by omega]
def okC(xs:List Cd)(pre:List Cd)(x:Cd):Prop:=(pre++[x]) <+: xs
structure Mj (xs:List Itm) (l base:Qd) (K:Nat->Prop) (B bb db lb mb n:Nat) (ba la:Qa) (bc lc:Nat) (W:World):Prop where
 bx:W.cell? bb=some (.slice ba base.length bc)
 dx:W.cell? db=some (.map (some mb))
 lx:W.cell? lb=some (.slice la l.length lc)
 bd:dE B W ba base
 ld:dE B W la l
 mp:fT vH mb n (GN xs) W
 okb:∀d∈base,OkD d
 okl:∀d∈l,OkD d
 kb:K bb/\K db/\K lb/\K mb
 kB:∀k,k<B->K k
theorem Dm(A:cO K W W'){p:Addr}(B:K p.block):W'.cell? p=W.cell? p:=XM (w:=W) (A.block p.block B)
theorem fT.on{α:Type}{G:N8 α}{b:Nat}{F:α->Option Value}(h:fT G b n F W)(E:cO K W W')(H:K b):fT G b n F W':=by
 obtain⟨D,⟨es,I,A,B⟩,C⟩:=h;exact⟨D,⟨es,I,(E.block b H).trans A,B⟩,C⟩
theorem Mj.kept(h:Mj xs l base K B bb db lb mb n ba la bc lc W)(A:cO K W W'):Mj xs l base K B bb db lb mb n ba la bc lc W':=
 ⟨(Dm A h.kb.1).trans h.bx,(Dm A h.kb.2.1).trans h.dx,(Dm A h.kb.2.2.1).trans h.lx,h.bd.below (A.to_below h.kB) nr,h.ld.below (A.to_below h.kB) nr,h.mp.on A h.kb.2.2.2,h.okb,h.okl,h.kb,h.kB⟩
theorem Mj.look(h:Mj xs l base K B bb db lb mb n ba la bc lc W){x y:Int}(C:OkD (x,y)):(Instr.lookup 138 (.map (some mb)) (.agg #[Yu x,Yu y]) false).run prog W=.ok (.string ⟨(gL xs (x,y)).toArray⟩) W:=by
 have:=h.mp.look underlying138 (xI W) (a:=(x,y)) C;rw[sM] at this;exact this
theorem sV{e:Ending}{P Q:Prop}(h:(e=.returned (.bool true)/\P)\/(e=.returned (.bool false)/\Q)):∃b,e=.returned (.bool b)/\((b=true/\P)\/(b=false/\Q)):=by
 rcases h with⟨rfl,h⟩ | ⟨rfl,h⟩
 ·exact⟨true,rfl,.inl ⟨rfl,h⟩⟩
 ·exact⟨false,rfl,.inr ⟨rfl,h⟩⟩
theorem JN(hd:Mj xs l base K B bb db lb mb n ba la bc lc w)(hK:∀k,K k->k<(w:Nat))(D2:(l.length:Int)<=1000000)(C8:(base.length:Int)<=1000000)(m:Nat)(hm:1<=m):
  yX Fence.wide m prog 185 #[.pointer bb,.pointer db,.pointer lb] K (JM xs) (okC (vB l base)) (vB l base) w:=by
 intro lp J Y hJ hY C1 W B1 h0;refine callsIn_of_wp func185 rfl trivial ?_ rfl;simp only[ntmps185,nU,az,aK,Nat.reduceAdd,Nat.reduceSub,jg,je,nV,jT,aY,bz];obtain⟨HJ,B9,HK,A2⟩:=Yl hJ C1 hK (hd.kept (cO.of_below B1 hK));have C:Qg ((w:Nat)<=(W:Nat)):=Qf B1.size;have H0:=Qf h0;obtain⟨nb,Z⟩:=Qe base.length;obtain⟨nl,B5⟩:=Qe l.length;have B7:Qg (nb=base.length):=Qf Z;have A5:Qg (nl=l.length):=Qf B5;rw[<-Z] at C8;rw[<-B5] at D2;have C9:=A2.o.bx;rw[<-Z] at C9;clear hJ C1 hd B1 h0 Z B5;gi_wp2;gi_loopw [11] (fun i wr=>∃(k:Nat),i=Yi (k:Int)/\k<=nb/\Qg (J ((base.take k).map fun d=>(d,0)) wr)/\Qg (Mj xs l base K B bb db lb mb n ba la bc lc wr)/\Qg ((w:Nat)<=wr.heap.size)) (fun i _=>nb-(intOf i).toNat)
 case atStart=>exact⟨0,rfl,Zo,H0,A2,C⟩
 clear H0 A2 C;obtain⟨k,rfl,hk,E,I,C⟩:=hrel;by_cases D3:k<nb
 ·have D1:(k:Int)<(nb:Int):=Zo;have B4:k<base.length:=B7.o▸D3;obtain⟨b0,o0,B0,C7,q0,q1⟩:=I.out.bd k B4;have U:=I.out.okb _ (ak B4);have G:(base.take (k+1)).map (fun d=>((d,0):Cd))=(base.take k).map (fun d=>((d,0):Cd))++[(base[k],0)]:=by rw[ai B4,dJ]; rfl
  have N:((base.take k).map (fun d=>((d,0):Cd))++[(base[k],0)]) <+: vB l base:=by
   rw[<-G];refine⟨(base.drop (k+1)).map (fun d=>((d,0):Cd))++dU l 0,?_⟩;unfold vB;rw[<-ay,<-dJ,aQ]
  generalize base[k]=d at *
  obtain⟨x,y⟩:=d;simp only at q0 q1;obtain⟨v,V⟩:=Qe (wr.alloc (.cells #[Yu x,Yu y] 54));have D:Below wr wr v.drew:=V▸((bf _).alloc nr _).drew;have S:BK wr #[Yu x,Yu y] 54 v.drew:=by
   have:BK wr #[Yu x,Yu y] 54 v:=V▸BK.new _ _ _;exact this
  have M:=I.out.kept (cO.of_below D (fun k hk=>aO (HK.o k hk) C.o));have T:=M.look U;have Q:=M.dx;obtain⟨fn,A7,A0,A1,hy,hR⟩:=B9.o _ ((x,y),0) wr v.drew N E.out D;simp only[JM] at hy;rw[show((0:Nat):Int)=0 from rfl] at hy;obtain⟨c0,c1⟩:=BK.c2 S;obtain⟨HR,H,A6⟩:=Yk hR D G;rw[V] at T Q hy c0 c1 HR;subst B0;have HV:=Qf V;clear V D S M hR G N U;gi_wp2;have D4:prog.follows .mixedOrders=true:=Zk;gi_region_with_o ((refine HR.o.mono ?_); rintro e W3 ⟨F,R,L⟩; obtain⟨bv,rfl,D⟩:=sV L)
  all_goals
   rw[<-HV.o] at F R;have P:=I.out.kept ((cO.of_below H.o (fun k hk=>aO (HK.o k hk) C.o)).trans F);have X:(w:Nat)<=(W3:Nat):=aC C.o (aC H.o.size F.size);clear hy T Q c0 c1 R F H HV HR;obtain⟨A3,A8⟩:=Yj P X;clear P X I C E;rcases D with⟨rfl,O⟩ | ⟨rfl,A9⟩
   ·have A4:=Qf O;clear O;gi_wp2;go_roundw
    case rel=>exact⟨k+1,Zg,Zo,A6.o▸A4,A3,A8⟩
    case measure=>exact Yr
   ·gi_wp2;refine XB (results_none rfl _ _ _) rfl ?_;exact⟨⟨_,rfl⟩,.inr A9⟩
 ·obtain rfl:k=nb:=Zo;have D1:¬(k:Int)<(k:Int):=Zo;have C4:base.take k=base:=ag (Zh B7.o);rw[C4] at E;have C3:=I.out.lx;rw[<-A5.o] at C3;clear C4;gi_wp2;gi_loopw [26] (fun i wr=>∃(k:Nat),i=Yi (k:Int)/\k<=nl/\Qg (J (base.map (fun d=>(d,0))++dU (l.take k) 0) wr)/\Qg (Mj xs l base K B bb db lb mb n ba la bc lc wr)/\Qg ((w:Nat)<=wr.heap.size)) (fun i _=>nl-(intOf i).toNat)
  case atStart=>exact⟨0,rfl,Zo,Qf (by simpa[dU] using E.out),I,C⟩
  clear E I C C3;obtain⟨j,rfl,hj,E,I,C⟩:=hrel;by_cases C2:j<nl
  ·have D0:(j:Int)<(nl:Int):=Zo;have B3:j<l.length:=A5.o▸C2;obtain⟨b0,o0,B0,C7,q0,q1⟩:=I.out.ld j B3;have U:=I.out.okl _ (ak B3);have G:base.map (fun d=>((d,0):Cd))++dU (l.take (j+1)) 0=(base.map (fun d=>((d,0):Cd))++dU (l.take j) 0)++[(l[j],j+1)]:=by
    rw[ai B3,qD,ay,aA,mM Zo,aZ]
   have N:((base.map (fun d=>((d,0):Cd))++dU (l.take j) 0)++[(l[j],j+1)]) <+: vB l base:=by
    rw[<-G];unfold vB;refine(List.prefix_append_right_inj _).2 ?_;have B8:∀(r s:Qd) (q:Nat),dU r q <+: dU (r++s) q:=by
     intro r;induction r with
     | nil=>intro s q; exact List.nil_prefix
     | cons d r ih=>
      intro s q;rw[bz,dU,dU];exact List.cons_prefix_cons.2 ⟨rfl,ih s _⟩
    have:=B8 (l.take (j+1)) (l.drop (j+1)) 0
    rwa[aQ] at this
   generalize l[j]=d at *
   obtain⟨x,y⟩:=d;simp only at q0 q1;obtain⟨v,V⟩:=Qe (wr.alloc (.cells #[Yu x,Yu y] 54));have D:Below wr wr v.drew:=V▸((bf _).alloc nr _).drew;have S:BK wr #[Yu x,Yu y] 54 v.drew:=by
    have:BK wr #[Yu x,Yu y] 54 v:=V▸BK.new _ _ _;exact this
   have M:=I.out.kept (cO.of_below D (fun k hk=>aO (HK.o k hk) C.o));have T:=M.look U;have Q:=M.dx;have D5:IntKind.i64.wrap ((j:Int)+1)=((j+1:Nat):Int):=by rw[ZV]; omega
   obtain⟨j1,B2⟩:=Qe (j+1);rw[<-B2] at N G D5;obtain⟨fn,A7,A0,A1,hy,hR⟩:=B9.o _ ((x,y),j1) wr v.drew N E.out D;simp only[JM] at hy;obtain⟨c0,c1⟩:=BK.c2 S;obtain⟨HR,H,A6⟩:=Yk hR D G;have B6:Qg (j1=j+1):=Qf B2;rw[V] at T Q hy c0 c1 HR;subst B0;have HV:=Qf V;clear V D S M hR G N U B2;gi_wp2;have D4:prog.follows .mixedOrders=true:=Zk;gi_region_with_o ((refine HR.o.mono ?_); rintro e W3 ⟨F,R,L⟩; obtain⟨bv,rfl,D⟩:=sV L)
   all_goals
    rw[<-HV.o] at F R;have P:=I.out.kept ((cO.of_below H.o (fun k hk=>aO (HK.o k hk) C.o)).trans F);have X:(w:Nat)<=(W3:Nat):=aC C.o (aC H.o.size F.size);clear hy T Q c0 c1 R F H HV HR;obtain⟨A3,A8⟩:=Yj P X;clear P X I C E;rcases D with⟨rfl,O⟩ | ⟨rfl,A9⟩
    ·have A4:=Qf O;clear O;gi_wp2;go_roundw
     case rel=>exact⟨j1,rfl,Zh B6.o,A6.o▸A4,A3,A8⟩
     case measure=>
      have:=B6.o;simp only[intOf];omega
    ·gi_wp2;refine XB (results_none rfl _ _ _) rfl ?_;exact⟨⟨_,rfl⟩,.inr A9⟩
  ·obtain rfl:j=nl:=Zo;have D0:¬(j:Int)<(j:Int):=Zo;have C5:l.take j=l:=ag (Zh A5.o);rw[C5] at E;clear C5 I;gi_wp2;go_end0;exact⟨⟨_,rfl⟩,.inl E.out⟩
end
def txD(xs:List Itm)(d c:Int×Int):Qb:=(AV (iM (gL xs c) (gL xs d))).1
theorem GZ(xs:List Itm)(d c:Int×Int):txS xs d c=fF (txD xs d c):=rfl
def pkO(xs:List Itm)(d:Int×Int)(cs:Qd):Option ((Int×Int)×Nat):=iL (fun c=>(txS xs d c).length) cs none
def visC(pre:List Cd)(i:Nat):Qd:=(pre.filter (fun c=>decide (c.2<=i))).map (·.1)
theorem zf(pre:List Cd)(c:Int×Int)(f i:Nat):visC (pre++[(c,f)]) i=if f<=i then visC pre i++[c] else visC pre i:=by
 unfold visC;rw[vX,dJ];by_cases h:f<=i
 ·rw[if_pos h,kK,if_pos (Zu h)]; rfl
 ·rw[if_neg h,kK,if_neg (Zu h)]; simp
theorem Bi:∀(l:Qd) (k i:Nat),((dU l k).filter (fun c=>decide (c.2<=k+i))).map (·.1)=l.take i
 | [],k,i=>by simp[dU]
 | d::l,k,0=>by
  rw[dU,kK,if_neg Zs,List.take_zero];have B:∀(l:Qd) (q:Nat),k<=q->(dU l q).filter (fun c=>decide (c.2<=k+0))=[]:=by
   intro l;induction l with
   | nil=>intro q _; rfl
   | cons d l ih=>
    intro q A;rw[dU,kK,if_neg Zt,ih (q+1) Zo]
  rw[B l (k+1) Zo]; rfl
 | d::l,k,i+1=>by
  rw[dU,kK,if_pos Zs,eX,jS];have:=Bi l (k+1) i;rw[show k+1+i=k+(i+1) by omega] at this;rw[this]
theorem zg(base l:Qd)(i:Nat):visC (base.map (fun d=>((d,0):Cd))++dU l 0) i=base++l.take i:=by
 unfold visC;rw[vX,dJ];have B:(base.map (fun d=>((d,0):Cd))).filter (fun c=>decide (c.2<=i))=base.map (fun d=>((d,0):Cd)):=by
  rw[List.filter_eq_self];intro c C;obtain⟨d,_,rfl⟩:=bV.1 C;simp
 have A:=Bi l 0 i;rw[aZ] at A;rw[B,A,List.map_map];have:((fun x:Cd=>x.1) ∘ fun d:Int×Int=>((d,0):Cd))=id:=rfl;rw[this,List.map_id]
theorem pI:∀(l:Qd) (k:Nat),(dU l k).length=l.length
 | [],_=>rfl
 | d::l,k=>by rw[dU,az,az,pI]
theorem EJ:∀(l:Qd) (k j:Nat) (h:j<(dU l k).length),((dU l k)[j]).2=k+j+1
 | [],k,j,h=>by simp[dU] at h
 | d::l,k,0,h=>by simp[dU]
 | d::l,k,j+1,h=>by
  simp only[dU,bK];rw[EJ l (k+1) j]; omega
theorem E5{pre:List Cd}{c:Int×Int}(h:okC (vB l base) pre (c,l.length)):∀i,i<l.length->visC pre i=base++l.take i:=by
 intro i I;obtain⟨r,C⟩:=h;have B:=congrArg List.length C;unfold vB at C B;simp only[af,fC,az,aK,pI] at B;have A:(base.map (fun d=>((d,0):Cd))++dU l 0)[pre.length]'(by simp[pI]; omega)=(c,l.length):=by
  have:(pre++[(c,l.length)]++r)[pre.length]'Zs=(c,l.length):=Zs;simp only[C] at this;exact this
 by_cases G:pre.length<base.length
 ·rw[sU (Zu G)] at A;simp only[List.getElem_map,XC] at A;omega
 ·rw[qK (Zu G)] at A;have F:=EJ l 0 (pre.length-(base.map (fun d=>((d,0):Cd))).length) (by simp[pI]; omega);rw[A] at F;simp only[fC] at F;have E:r=[]:=Qr.1 Zo;subst E;rw[bG] at C;have D:l≠[]:=fun e=>by subst e; simp at I
  have J:=(List.dropLast_concat_getLast D);have H:dU l 0=dU l.dropLast 0++[(l.getLast D,l.length)]:=by
   conv=>lhs; rw[<-J,qD]
   rw[List.length_dropLast];congr 3;have:0<l.length:=Zo;omega
  rw[H,<-ay] at C;have K:=(List.append_inj' C rfl).1;rw[K,zg,List.dropLast_eq_take,List.take_take,mM Zo]
def vT(xs:List Itm)(d:Int×Int):Option ((Int×Int)×Nat)->Chc
 | none=>⟨false,(0,0),[],0⟩
 | some (b,k)=>⟨true,b,txD xs d b,k⟩
def BN(xs:List Itm)(l:Qd)(pre:List Cd)(i:Nat):Chc:=vT xs (l.getD i (0,0)) (pkO xs (l.getD i (0,0)) (visC pre i))
def EK(xs:List Itm)(l:Qd)(pre:List Cd):List Chc:=(List.range l.length).map (BN xs l pre)
def rD(xs:List Itm)(l:Qd)(pre:List Cd)(x:Cd)(i:Nat):List Chc:=(List.range l.length).map fun j=>if j<i then BN xs l (pre++[x]) j else BN xs l pre j
theorem KU{pre:List Cd}{x:Cd}:(rD xs l pre x i).length=l.length:=by simp[rD]
theorem FV(xs:List Itm)(l:Qd)(pre:List Cd)(x:Cd):rD xs l pre x x.2=EK xs l pre:=by
 unfold rD EK;refine rO (fun j _=>?_);by_cases h:j<x.2
 ·rw[if_pos h];unfold BN;rw[zf,if_neg Zo]
 ·rw[if_neg h]
theorem KV(xs:List Itm)(l:Qd)(pre:List Cd)(x:Cd)(h:l.length<=i):rD xs l pre x i=EK xs l (pre++[x]):=by
 unfold rD EK;refine rO (fun j A=>?_);rw[if_pos (Zh (List.mem_range.1 A))]
theorem yg(xs:List Itm)(l:Qd)(pre:List Cd)(x:Cd)(i:Nat){j:Nat}(h:j<(rD xs l pre x i).length):(rD xs l pre x i)[j]=if j<i then BN xs l (pre++[x]) j else BN xs l pre j:=by simp[rD]
theorem Np(xs:List Itm)(l:Qd)(pre:List Cd)(x:Cd)(h:i<(rD xs l pre x i).length):(rD xs l pre x i)[i]=BN xs l pre i:=by rw[yg,if_neg Zo]
theorem Iq(xs:List Itm)(l:Qd)(pre:List Cd)(x:Cd):rD xs l pre x (i+1)=(rD xs l pre x i).set i (BN xs l (pre++[x]) i):=by
 refine List.ext_getElem (by simp[rD]) (fun j C A=>?_);have B:j<(rD xs l pre x i).length:=Zu A;rw[List.getElem_set,yg,yg _ _ _ _ _ B];by_cases e:i=j
 ·subst e; rw[if_pos Zo,if_pos rfl]
 ·rw[if_neg e];by_cases e2:j<i
  ·rw[if_pos Zo,if_pos e2]
  ·rw[if_neg Zo,if_neg e2]
theorem JQ{pre:List Cd}{c:Int×Int}(A:f<=i):BN xs l (pre++[(c,f)]) i =
  (if(BN xs l pre i).sm=false\/(txS xs (l.getD i (0,0)) c).length<(BN xs l pre i).sz then⟨true,c,txD xs (l.getD i (0,0)) c,(txS xs (l.getD i (0,0)) c).length⟩ else BN xs l pre i):=by
 unfold BN;rw[zf,if_pos A];unfold pkO;rw[lQ];cases iL (fun c=>(txS xs (l.getD i (0,0)) c).length) (visC pre i) none with
 | none=>exact(if_pos (.inl rfl)).symm
 | some p=>
  obtain⟨b,k⟩:=p;by_cases h:(txS xs (l.getD i (0,0)) c).length<k
  ·refine Eq.trans ?_ (if_pos (.inr h)).symm
   show vT xs _ (if _<k then _ else _)=_;rw[if_pos h]; rfl
  ·refine Eq.trans ?_ (if_neg (fun e=>e.elim (fun e=>by cases e) h)).symm
   show vT xs _ (if _<k then _ else _)=_;rw[if_neg h]
theorem LV(xs:List Itm)(l:Qd):EK xs l []=List.replicate l.length ⟨false,(0,0),[],0⟩:=by
 unfold EK;refine List.ext_getElem Zs (fun j A B=>?_);simp[BN,visC,pkO,iL,vT]
def Km(xs:List Itm)(d:Int×Int)(c:Chc):Chc:=if(fF (gL xs d)).length<=c.sz+16 then { c with sm:=false } else c
def Gg(xs:List Itm)(l base:Qd):List Chc:=(List.range l.length).map fun i=>Km xs (l.getD i (0,0)) (vT xs (l.getD i (0,0)) (pkO xs (l.getD i (0,0)) (base++l.take i)))
theorem Lu(xs:List Itm)(d:Int×Int)(cs:Qd):yG xs d (Km xs d (vT xs d (pkO xs d cs)))=Ph xs d (QK xs d cs):=by
 rw[Dk];unfold pkO;cases iL (fun c=>(txS xs d c).length) cs none with
 | none=>
  simp only[FN,vT];unfold yG Ph Km;split <;> simp
 | some p=>
  obtain⟨b,k⟩:=p;simp only[FN,vT];unfold Km;simp only;by_cases h:(fF (gL xs d)).length<=k+16
  ·rw[if_pos h,if_pos h]; unfold yG Ph; simp
  ·rw[if_neg h,if_neg h]; unfold yG Ph; simp[GZ]
theorem LX(xs:List Itm)(l base:Qd):U7 xs l (Gg xs l base)=Ih xs l base:=by
 unfold U7 Ih;congr 1;have h:(l.zip (Gg xs l base)).map (fun p=>yG xs p.1 p.2)=(List.range l.length).map (VU xs l base):=by
  refine List.ext_getElem (by simp[Gg]) (fun j C A=>?_);have B:j<l.length:=Zu A;simp only[List.getElem_map,List.getElem_zip,List.getElem_range,Gg,VU];rw[<-Lu];simp[List.getD,B]
 rw[List.flatMap_def,List.flatMap_def,h]
theorem Ie{cs:Qd}{b:Int×Int}(h:pkO xs d cs=some (b,k)):b∈cs/\k=(txS xs d b).length:=by
 obtain⟨B,A⟩:=lN cs none (fun b k h=>by cases h) b k h;rcases A with A | A
 ·exact⟨A,B⟩
 ·cases A
theorem Pm{T:TypeId}{L:List Chc}(h:BK g (gcs vJ L).toArray T W)(A:i<L.length)(c:Chc):
  BK g (gcs vJ (L.set i c)).toArray T (((((W.setCell ⟨g,i*5,none⟩ (.bool c.sm)).setCell ⟨g,i*5+1,none⟩ (Yu c.b.1)).setCell ⟨g,i*5+2,none⟩ (Yu c.b.2)).setCell ⟨g,i*5+3,none⟩ (.string ⟨c.tx.toArray⟩)).setCell ⟨g,i*5+4,none⟩ (Yi (c.sz:Int))):=by
 have step:∀{W:World} {L:List Chc} (h:BK g (gcs vJ L).toArray T W) (A:i<L.length) (j:Nat) (v:Value) (b:Chc),j<5->vJ b=(vJ L[i]).set j v->BK g (gcs vJ (L.set i b)).toArray T (W.setCell ⟨g,i*5+j,none⟩ v):=by
  intro W L h A j v b D C;have B:=h.set (i*5+j) v;rw[dR,yA IB L i A j v b D C] at B;exact B
 obtain⟨o,E⟩:=Qe (L[i]);have e0:=step h A 0 (.bool c.sm) ⟨c.sm,o.b,o.tx,o.sz⟩ Zd (by rw[<-E]; rfl);have e1:=step e0 (Zu A) 1 (Yu c.b.1) ⟨c.sm,(c.b.1,o.b.2),o.tx,o.sz⟩ Zd (Zw List.getElem_set_self);rw[List.set_set] at e1;have e2:=step e1 (Zu A) 2 (Yu c.b.2) ⟨c.sm,(c.b.1,c.b.2),o.tx,o.sz⟩ Zd (Zw List.getElem_set_self);rw[List.set_set] at e2;have e3:=step e2 (Zu A) 3 (.string ⟨c.tx.toArray⟩) ⟨c.sm,(c.b.1,c.b.2),c.tx,o.sz⟩ Zd (Zw List.getElem_set_self);rw[List.set_set] at e3;have e4:=step e3 (Zu A) 4 (Yi (c.sz:Int)) ⟨c.sm,(c.b.1,c.b.2),c.tx,c.sz⟩ Zd (Zw List.getElem_set_self);rw[List.set_set] at e4;exact e4
structure Nd where
 len:Nat
 link:Int
 fin:Nat
 edge:Int
structure Eg where
 c:UInt8
 tg:Nat
 nx:Int
def nd(N:List Nd)(v:Nat):Nd:=(N[v]?).getD ⟨0,0,0,-1⟩
theorem Nn{N:List Nd}(h:v<N.length):nd N v=N[v]:=by unfold nd; rw[XH h]; rfl
def jG(E:List Eg):Int->List (Nat×UInt8×Nat)->Prop
 | e,[]=>e=-1
 | e,x::L=>e=((x.1:Nat):Int)/\∃nx,E[x.1]? = some ⟨x.2.1,x.2.2,nx⟩/\jG E nx L
theorem jG.idx{E:List Eg}:∀{L:List (Nat×UInt8×Nat)} {e:Int},jG E e L->∀x∈L,∃nx,E[x.1]? = some ⟨x.2.1,x.2.2,nx⟩
 | [],e,h,x,A=>by simp at A
 | y::L,e,⟨_,nx,B,C⟩,x,A=>by
  rcases XG.1 A with rfl | A
  ·exact⟨nx,B⟩
  ·exact C.idx x A
abbrev jc:=Nat->List (Nat×UInt8×Nat)
structure Ixr (N:List Nd) (E:List Eg) (T:jc):Prop where
 ch:∀v,v<N.length->jG E (nd N v).edge (T v)
 elen:E.length<=256*N.length
def trU(T:Nat->List (Nat×UInt8×Nat))(v:Nat)(d:UInt8):Option Nat:=((T v).find? (fun x=>x.2.1==d)).map (·.2.2)
inductive Lw (c:UInt8) (nn:Nat) (NF:List Nd) (EF:List Eg):Int->List Nd->List Eg->Prop
 | stop:Lw c nn NF EF (-1) NF EF
 | step {k:Nat} {N:List Nd} {E:List Eg} {T:jc}:Ixr N E T->k<N.length/\N.length=nn+1/\E.length<=1000/\-1<=(nd N k).link/\(nd N k).link<(k:Int)->trU T k c=none->Lw c nn NF EF (nd N k).link (N.set k { nd N k with edge:=((E.length:Nat):Int) }) (E++[⟨c,nn,(nd N k).edge⟩])->Lw c nn NF EF ((k:Nat):Int) N E
def nsX:Nat->List Nd
 | 0=>[⟨0,-1,0,-1⟩]
 | 1=>[⟨0,-1,0,0⟩,⟨1,0,1,-1⟩]
 | _=>[⟨0,-1,0,2⟩,⟨1,0,1,1⟩,⟨2,0,2,-1⟩]
def esX:Nat->List Eg
 | 0=>[]
 | 1=>[⟨2,1,-1⟩]
 | _=>[⟨2,1,-1⟩,⟨0,2,-1⟩,⟨0,2,0⟩]
def lwX:Nat->UInt8
 | 0=>2
 | _=>0
theorem ixr_zero:Ixr [⟨0,-1,0,-1⟩,⟨1,0,1,-1⟩] [] (fun _=>[]):=⟨fun v A=>by
 rcases v with _ | _ | v
 ·rfl
 ·rfl
 ·simp at A
  omega,Zd⟩
theorem lw_zero:Lw 2 1 (nsX 1) (esX 1) ((0:Nat):Int) [⟨0,-1,0,-1⟩,⟨1,0,1,-1⟩] []:=.step (T:=fun _=>[]) ixr_zero Zd rfl .stop
def tsX:jc:=fun v=>if v=0 then[(0,2,1)] else[]
def tsY:jc:=fun v=>if v=0 then[(0,2,1)] else if v=1 then[(1,0,2)] else[]
def tsZ:jc:=fun v=>if v=0 then[(2,0,2),(0,2,1)] else if v=1 then[(1,0,2)] else[]
theorem ixr_one:Ixr [⟨0,-1,0,0⟩,⟨1,0,1,-1⟩,⟨2,0,2,-1⟩] [⟨2,1,-1⟩] tsX:=⟨fun v A=>by
 rcases v with _ | _ | _ | v
 ·exact⟨rfl,_,rfl,rfl⟩
 ·rfl
 ·rfl
 ·simp at A
  omega,Zd⟩
theorem ixr_two:Ixr [⟨0,-1,0,0⟩,⟨1,0,1,1⟩,⟨2,0,2,-1⟩] [⟨2,1,-1⟩,⟨0,2,-1⟩] tsY:=⟨fun v A=>by
 rcases v with _ | _ | _ | v
 ·exact⟨rfl,_,rfl,rfl⟩
 ·exact⟨rfl,_,rfl,rfl⟩
 ·rfl
 ·simp at A
  omega,Zd⟩
theorem ixr_end:Ixr (nsX 2) (esX 2) tsZ:=⟨fun v A=>by
 rcases v with _ | _ | _ | v
 ·exact⟨rfl,_,rfl,rfl,_,rfl,rfl⟩
 ·exact⟨rfl,_,rfl,rfl⟩
 ·rfl
 ·simp[nsX] at A
  omega,Zd⟩
theorem lw_one:Lw 0 2 (nsX 2) (esX 2) ((1:Nat):Int) [⟨0,-1,0,0⟩,⟨1,0,1,-1⟩,⟨2,0,2,-1⟩] [⟨2,1,-1⟩]:=.step (T:=tsX) ixr_one Zd rfl (.step (k:=0) (T:=tsY) ixr_two Zd rfl .stop)
def wT(x:Nd):List Value:=[Yi (x.len:Int),Yi x.link,Yi (x.fin:Int),Yi x.edge]
def BL(x:Eg):List Value:=[Yb (x.c.toNat:Int),Yi (x.tg:Int),Yi x.nx]
theorem F4:Lay wT 4:=⟨Zd,fun _=>rfl,fun a v A=>by
 simp[wT] at A;rcases A with rfl | rfl | rfl | rfl <;> rfl⟩
theorem F6:Lay BL 3:=⟨Zd,fun _=>rfl,fun a v A=>by
 simp[BL] at A;rcases A with rfl | rfl | rfl <;> rfl⟩
structure J6 (B ib:Nat) (N:List Nd) (E:List Eg) (W:World):Prop where
 ex:∃na nc ea ec,BK ib #[.slice na N.length nc,.slice ea E.length ec] 254 W/\GIn wT 4 B W na N/\GIn BL 3 B W ea E
 lt:ib<B
theorem J6.below{N:List Nd}{E:List Eg}(h:J6 B ib N E W)(A:Below B' W W')(C:B<=B'):J6 B ib N E W':=by
 obtain⟨⟨na,nc,ea,ec,D,F,G⟩,H⟩:=h;exact⟨⟨na,nc,ea,ec,(A.block ib Zo).trans D,F.below A C,G.below A C⟩,H⟩
theorem J6.mono{N:List Nd}{E:List Eg}(h:J6 B ib N E W)(A:B<=B'):J6 B' ib N E W:=by
 obtain⟨⟨na,nc,ea,ec,C,D,F⟩,G⟩:=h;exact⟨⟨na,nc,ea,ec,C,D.mono A,F.mono A⟩,Zo⟩
theorem fu{a:Qa}{l:List Nd}(h:GIn wT 4 B W a l)(C:k<l.length):∃b F,a=some ⟨b,F,none⟩/\b<B/\W.cell? ⟨b,F+k*4,none⟩=some (Yi ((nd l k).len:Int))/\W.cell? ⟨b,F+k*4+1,none⟩=some (Yi (nd l k).link)/\W.cell? ⟨b,F+k*4+2,none⟩=some (Yi ((nd l k).fin:Int))/\W.cell? ⟨b,F+k*4+3,none⟩=some (Yi (nd l k).edge):=by
 obtain⟨b,F,D,E,A⟩:=h k C;rw[Nn C];exact⟨b,F,D,E,A 0 _ rfl,A 1 _ rfl,A 2 _ rfl,A 3 _ rfl⟩
theorem sI{a:Qa}{l:List Eg}(h:GIn BL 3 B W a l){x:Eg}(G:l[k]? = some x):∃b H,a=some ⟨b,H,none⟩/\b<B/\W.cell? ⟨b,H+k*3,none⟩=some (Yb (x.c.toNat:Int))/\W.cell? ⟨b,H+k*3+1,none⟩=some (Yi (x.tg:Int))/\W.cell? ⟨b,H+k*3+2,none⟩=some (Yi x.nx):=by
 obtain⟨C,D⟩:=XO.1 G;obtain⟨b,H,E,F,A⟩:=h k C;rw[D] at A;exact⟨b,H,E,F,A 0 _ rfl,A 1 _ rfl,A 2 _ rfl⟩
def Kl(L:List (Nat×UInt8×Nat))(c:UInt8):Int:=match L.find? (fun x=>x.2.1==c) with
 | some x=>(x.1:Int)
 | none=>-1
structure Od (E:List Eg) (L:List (Nat×UInt8×Nat)) (c:UInt8) (R:List (Nat×UInt8×Nat)) (e:Int):Prop where
 ch:jG E e R
 fd:L.find? (fun x=>x.2.1==c)=R.find? (fun x=>x.2.1==c)
 le:R.length<=L.length
theorem Od.done{E:List Eg}(h:Od E L c [] e):e=-1/\Kl L c=-1:=⟨h.ch,by unfold Kl; rw[h.fd]; rfl⟩
theorem Od.at{E:List Eg}{x:Nat×UInt8×Nat}(h:Od E L c (x::R) e):e=(x.1:Int)/\(x.2.1=c->Kl L c=(x.1:Int))/\∃nx,E[x.1]? = some ⟨x.2.1,x.2.2,nx⟩/\(x.2.1≠c->Od E L c R nx):=by
 obtain⟨A,nx,B,C⟩:=h.ch;refine⟨A,fun e=>?_,nx,B,fun e=>⟨C,?_,?_⟩⟩
 ·unfold Kl;rw[h.fd,List.find?_cons,e];simp
 ·rw[h.fd,List.find?_cons];have:(x.2.1==c)=false:=Zu e;rw[this]
 ·have:=h.le; simp at this; omega
theorem jG.det{E:List Eg}:∀{R R':List (Nat×UInt8×Nat)} {e:Int},jG E e R->jG E e R'->R=R'
 | [],[],e,h,A=>rfl
 | [],y::R',e,h,A=>by have C:e=-1:=h; have B:=A.1; omega
 | x::R,[],e,h,A=>by have C:e=-1:=A; have B:=h.1; omega
 | x::R,y::R',e,h,A=>by
  obtain⟨C,nx,B,D⟩:=h;obtain⟨g1,ny,g2,g3⟩:=A;obtain⟨x1,x2,x3⟩:=x;obtain⟨y1,y2,y3⟩:=y;obtain rfl:x1=y1:=by simp only at C g1; omega
  simp only at B g2;rw[B] at g2;injection g2 with g2
  injection g2 with e1 e2 e3
  subst e1 e2 e3;rw[D.det g3]
noncomputable def Bf(E:List Eg)(e:Int):Nat:=by
 classical
 exact if h:∃R,jG E e R then h.choose.length else 0
theorem sO{E:List Eg}(h:jG E e R):Bf E e=R.length:=by
 unfold Bf;rw[dif_pos ⟨R,h⟩,(Exists.choose_spec ⟨R,h⟩:jG E e _).det h]
theorem um{N:List Nd}{E:List Eg}{T:jc}(h:J6 B ib N E w)(hx:Ixr N E T)(hN:(N.length:Int)<=1000000)(v:Nat)(hv:v<N.length)(c:UInt8):
  Qh 223 #[.pointer ib,Yi (v:Int),Yb (c.toNat:Int)] w fun e w'=>e=.returned (Yi (Kl (T v) c))/\w'=w:=by
 obtain⟨⟨na,nc,ea,ec,hb,hn,he⟩,_⟩:=h;obtain⟨nb,no,rfl,_,n0,n1,n2,n3⟩:=fu hn hv;have HE:=Qf he;have A0:=hx.elen;have X:(E.length:Int)<=256000000:=Zo;have C:Qg (Od E (T v) c (T v) (nd N v).edge):=Qf ⟨hx.ch v hv,rfl,nr⟩;generalize T v=L at C ⊢;generalize (nd N v).edge=e0 at n3 C;obtain⟨x0,x1⟩:=BK.c2 hb;obtain⟨F,Y⟩:=Qe (Kl L c);have S:=Qf Y;rw[<-Y];obtain⟨m,hm⟩:=Qe E.length;have HM:=Qf hm;rw[<-hm] at x1 X;obtain⟨nn,Q⟩:=Qe N.length;rw[<-Q] at x0 hN hv;have B3:(v:Int)<(nn:Int):=Zo;obtain⟨lc,H⟩:∃lc:Int,lc=(c.toNat:Int):=⟨_,rfl⟩;have K:=Qf H;rw[<-H];clear Y hm Q hb hn he hx A0 n0 n1 n2 H;go_enter func223,ntmps223;go_wp2_with fail;clear n3;go_loopw [7] (fun i wr=>∃(R:List (Nat×UInt8×Nat)) (ei:Int),i=Yi ei/\Qg (Od E L c R ei)/\wr=w) (fun i _=>Bf E (intOf i))
 case atStart=>exact⟨L,e0,rfl,C,rfl⟩
 case round=>
  clear C;obtain⟨R,ei,rfl,I,rfl⟩:=hrel;cases R with
  | nil=>
   obtain⟨rfl,G⟩:=I.out.done;have W:=Qf (S.o.trans G);clear G I S;go_wp2;go_ret;rw[W.o];exact⟨rfl,rfl⟩
  | cons x R=>
   obtain⟨rfl,G,nx,O,U⟩:=I.out.at;obtain⟨eb,eo,Z,_,q0,q1,q2⟩:=sI HE.o O;have P:=(XO.1 O).1;have D:Qg (Bf E ((x.1:Nat):Int)=R.length+1):=Qf (by rw[sO I.out.ch]; rfl);obtain⟨j,d,tg⟩:=x;simp only at G O U q0 q1 q2 P D ⊢;rw[<-HM.o] at P;have B2:(j:Int)<(m:Int):=Zo;have B1:(0:Int)<=(j:Int):=Zo;subst Z;by_cases J:d=c
   ·have hq:((d.toNat:Int) !=lc)=false:=by rw[K.o,J]; simp
    have W:=Qf (S.o.trans (G J));generalize (d.toNat:Int)=ld at q0 hq;clear G O U I S D J;go_wp2;go_ret;rw[W.o];exact⟨rfl,rfl⟩
   ·have hq:((d.toNat:Int) !=lc)=true:=by
     rw[K.o];simp only[bne_iff_ne,ne_eq];intro e;exact J (UInt8.toNat_inj.1 (by exact_mod_cast e))
    have M:=Qf (U J);have V:Qg (Bf E nx=R.length):=Qf (sO M.o.ch);generalize (d.toNat:Int)=ld at q0 hq;clear G O U I J;go_wp2;go_roundw
    case rel=>exact⟨R,nx,rfl,M,trivial⟩
    case measure=>
     simp only[intOf];rw[D.o,V.o];omega
def Ky(T:jc)(v:Nat)(c:UInt8):Int:=match trU T v c with
 | some u=>(u:Int)
 | none=>-1
theorem uJ{T:jc}(h:trU T v c=none):Kl (T v) c=-1:=by
 unfold trU at h;unfold Kl;rw[Option.map_eq_none_iff] at h;rw[h]
theorem uI{T:jc}(h:trU T v c=some u):∃i:Nat,Kl (T v) c=(i:Int)/\(T v).find? (fun x=>x.2.1==c)=some (i,c,u):=by
 unfold trU at h;unfold Kl;rw[Option.map_eq_some_iff] at h;obtain⟨x,A,B⟩:=h;have C:x.2.1=c:=by simpa using List.find?_some A
 refine⟨x.1,Zx A,by rw[A]; obtain⟨x1,x2,x3⟩:=x; simp only at B C; rw[B,C]⟩
theorem Ep{N:List Nd}{E:List Eg}{T:jc}(B:Ixr N E T)(A:v<N.length)(h:(T v).find? (fun x=>x.2.1==c)=some (i,c,u)):∃nx,E[i]? = some ⟨c,u,nx⟩:=(B.ch v A).idx _ (List.mem_of_find?_eq_some h)
theorem Ad{N:List Nd}{E:List Eg}{T:jc}(h:J6 B ib N E w)(F:Ixr N E T)(O:(N.length:Int)<=1000000)(v:Nat)(M:v<N.length)(c:UInt8):
  Qh 191 #[.pointer ib,Yi (v:Int),Yb (c.toNat:Int)] w fun e w'=>e=.returned (Yi (Ky T v c))/\w'=w:=by
 have C:=Qf (um h F O v M c);obtain⟨⟨na,nc,ea,ec,H,L,I⟩,_⟩:=h;obtain⟨x0,x1⟩:=BK.c2 H;unfold Ky;cases D:trU T v c with
 | none=>
  rw[uJ D] at C;simp only;generalize (c.toNat:Int)=lc at C ⊢;clear H L I D F;go_enter func191,ntmps191;go_wp2_with fail;refine C.o.mono ?_;rintro e w' ⟨rfl,rfl⟩;go_wp2;go_ret;exact⟨rfl,rfl⟩
 | some u=>
  obtain⟨i,J,K⟩:=uI D;obtain⟨nx,G⟩:=Ep F M K;obtain⟨eb,eo,rfl,_,q0,q1,q2⟩:=sI I G;have R:=(XO.1 G).1;rw[J] at C;simp only;generalize (c.toNat:Int)=lc at C ⊢;generalize E.length=m at *
  have Q:(i:Int)<(m:Int):=Zo;have P:¬(i:Int)<0:=Zo;clear H L I D F q0 q2 J K G;go_enter func191,ntmps191;go_wp2_with fail;refine C.o.mono ?_;rintro e w' ⟨rfl,rfl⟩;go_wp2;go_ret;exact⟨rfl,rfl⟩
theorem kg{e:TypeId}{v:Value}{xs:List Value}(h:W.ownsRow B e z v n xs)(g:Nat)(A:v.ownBlock=some g):∃c,W.heap[g]? = some (.cells c e (0,0)):=by
 rcases h.2 with⟨rfl,_⟩ | ⟨k,c,D,rfl,_,C,_⟩
 ·cases A
 ·have:k=g:=by simpa[Value.ownBlock] using A
  subst this;exact⟨D,C⟩
theorem gV{b:Nat}{e t:TypeId}{v:Value}{xs:List Value}(h:W.ownsRow B e z v n xs)(D:BK b cs t W)(E:t≠e):v.ownBlock≠some b:=fun C=>by
 obtain⟨c,A⟩:=kg h b C;rw[show W.heap[b]? = _ from D] at A;injection A with A
 injection A with _ h2 _
 exact E h2
theorem M9{e e':TypeId}{v:Value}{xs:List Value}(h:W.ownsRow B e z v n xs)(C:W.ownsRow B' e' z' v' n' xs')(G:e≠e')(F:v.ownBlock=some k):v'.ownBlock≠some k:=fun D=>by
 obtain⟨c,E⟩:=kg h k F;obtain⟨c',A⟩:=kg C k D;rw[E] at A;injection A with A
 injection A with _ h2 _
 exact G h2
theorem oz{e e':TypeId}{v:Value}{xs:List Value}(h:W.ownsRow B e z v n xs)(A:W.ownsRow B' e' z' v' n' xs')(C:e≠e'):v.ownBlock=none\/v.ownBlock≠v'.ownBlock:=by
 cases D:v.ownBlock with
 | none=>exact .inl rfl
 | some k=>exact .inr (M9 h A C D).symm
structure IxB (B ib:Nat) (N:List Nd) (E:List Eg) (na:Qa) (nc:Nat) (ea:Qa) (ec:Nat) (W:World):Prop where
 box:BK ib #[.slice na N.length nc,.slice ea E.length ec] 254 W
 lo:B<=ib
 ns:W.ownsRow B 250 4 (.slice na N.length nc) N.length (gcs wT N)
 es:W.ownsRow B 293 3 (.slice ea E.length ec) E.length (gcs BL E)
def IxG(B ib:Nat)(N:List Nd)(E:List Eg)(W:World):Prop:=∃na nc ea ec,IxB B ib N E na nc ea ec W
section
variable {B ib:Nat} {N:List Nd} {E:List Eg} {na ea:Qa} {nc ec:Nat} {W:World}
theorem IxB.lt(h:IxB B ib N E na nc ea ec W):ib<(W:Nat):=h.box.lt
theorem IxB.in_(h:IxB B ib N E na nc ea ec W):J6 (W:Nat) ib N E W:=⟨⟨na,nc,ea,ec,h.box,jw F4 rfl h.ns,jw F6 rfl h.es⟩,h.lt⟩
theorem IxG.in_(h:IxG B ib N E W):J6 (W:Nat) ib N E W:=by obtain⟨_,_,_,_,h⟩:=h; exact h.in_
theorem IxB.below(h:IxB B ib N E na nc ea ec W)(A:Below W W W'):IxB B ib N E na nc ea ec W':=⟨h.box.below A,h.lo,PO h.ns A,PO h.es A⟩
theorem IxB.gns(h:IxB B ib N E na nc ea ec W):GIn wT 4 (W:Nat) W na N:=jw F4 rfl h.ns
theorem O1:(prog.info? 250).map (fun i=>(i.zero,i.size,i.bytes))=some (some (.agg #[Yi 0,Yi 0,Yi 0,Yi 0]),4,32):=Zk
theorem O3:(prog.info? 293).map (fun i=>(i.zero,i.size,i.bytes))=some (some (.agg #[Yb 0,Yi 0,Yi 0]),3,24):=Zk
theorem IxB.pushN(h:IxB B ib N E na nc ea ec W)(x:Nd)(P:(N.length:Int)<=1000000):∃U V W',Qg ((Builtin.append_ #[251,251] 251 #[.slice na N.length nc,.slice W 1 1]).run prog (W.alloc (.cells (wT x).toArray 250))=.ok (.slice U (N.length+1) V) W')/\
  BK ib #[.slice na N.length nc,.slice ea E.length ec] 254 W'/\GIn BL 3 (W':Nat) W' ea E/\IxB B ib (N++[x]) E U V ea ec (W'.setCell ib (.slice U (N.length+1) V))/\Below B W (W'.setCell ib (.slice U (N.length+1) V)):=by
 obtain⟨i0,R,K,L,M⟩:=XR O1;have T:=h.lt;have H:=h.lo;obtain⟨v',W',I,C,J,_⟩:=jb F4 underlying251 R K L M rfl rfl h.ns x P Zd Zo;obtain⟨U,V,rfl,_⟩:=aB C;have D:=(h.box.alloc (.cells (wT x).toArray 250)).grow J (fun k e S=>gV h.ns h.box Zd (by rw[e,S]));have F:=(h.es.alloc (.cells (wT x).toArray 250)).kept J (oz h.es h.ns Zd);have G:=dN W' ib 0 (.slice U (N.length+1) V);have O:(N++[x]).length=N.length+1:=Zs;refine⟨U,V,W',I,D,jw F6 rfl F,⟨?_,H,?_,F.kept G (.inr (gV F D Zd))⟩,?_⟩
 ·rw[O]; exact D.set 0 _
 ·rw[O]; exact C.kept G (.inr (gV C D Zd))
 ·have Q:Below B W W':=((Below.refl B W).alloc Zo _).grown J Zt (fun k e=>(h.ns.lt k e).1);exact Q.setCell H _
theorem IxB.pushE(h:IxB B ib N E na nc ea ec W)(x:Eg)(P:(E.length:Int)<=1000000):∃U V W',Qg ((Builtin.append_ #[252,252] 252 #[.slice ea E.length ec,.slice W 1 1]).run prog (W.alloc (.cells (BL x).toArray 293))=.ok (.slice U (E.length+1) V) W')/\
  BK ib #[.slice na N.length nc,.slice ea E.length ec] 254 W'/\W'.ownsRow B 250 4 (.slice na N.length nc) N.length (gcs wT N)/\IxB B ib N (E++[x]) na nc U V (W'.setCell ⟨ib,1,none⟩ (.slice U (E.length+1) V))/\Below B W (W'.setCell ⟨ib,1,none⟩ (.slice U (E.length+1) V)):=by
 obtain⟨i0,R,K,L,M⟩:=XR O3;have T:=h.lt;have H:=h.lo;obtain⟨v',W',I,C,J,_⟩:=jb F6 underlying252 R K L M rfl rfl h.es x P Zd Zo;obtain⟨U,V,rfl,_⟩:=aB C;have D:=(h.box.alloc (.cells (BL x).toArray 293)).grow J (fun k e S=>gV h.es h.box Zd (by rw[e,S]));have F:=(h.ns.alloc (.cells (BL x).toArray 293)).kept J (oz h.ns h.es Zd);have G:=dN W' ib 1 (.slice U (E.length+1) V);have O:(E++[x]).length=E.length+1:=Zs;refine⟨U,V,W',I,D,F,⟨?_,H,F.kept G (.inr (gV F D Zd)),?_⟩,?_⟩
 ·rw[O]; exact D.set 1 _
 ·rw[O]; exact C.kept G (.inr (gV C D Zd))
 ·have Q:Below B W W':=((Below.refl B W).alloc Zo _).grown J Zt (fun k e=>(h.es.lt k e).1);exact Q.setCell H _
theorem Il{e:TypeId}{v:Value}{xs:List Value}(h:W.ownsRow B e z v n xs)(E:0<n):∃g c F,v=.slice (some ⟨g,0,none⟩) n c/\n<=c/\B<=g/\g<(W:Nat)/\BK g F e W:=by
 rcases h.2 with⟨rfl,rfl⟩ | ⟨g,c,F,rfl,C,A,D,_⟩
 ·omega
 ·exact⟨g,c,F,rfl,D,C,(XA.1 A).1,A⟩
theorem IxB.setN(h:IxB B ib N E na nc ea ec W)(A:v<N.length):∃g,na=some ⟨g,0,none⟩/\(∀j,W.frozen? ⟨g,j,none⟩=false)/\(∀j,j<4->W.cell? ⟨g,v*4+j,none⟩=(wT (nd N v))[j]?)/\
  ∀(x:Nd) (j:Nat) (u:Value),j<4->wT x=(wT (nd N v)).set j u->IxB B ib (N.set v x) E na nc ea ec (W.setCell ⟨g,v*4+j,none⟩ u)/\Below B W (W.setCell ⟨g,v*4+j,none⟩ u):=by
 obtain⟨g,c,M,hs,L,J,K,C⟩:=Il h.ns Zo;cases hs;refine⟨g,rfl,fun j=>C.frozen j,fun j F=>?_,fun x j u F I=>?_⟩
 ·have G:v*4+j<N.length*4:=Zo;rw[h.ns.cellAt _ G,uF F4 N v A j F,Nn A]
 ·have D:=dN W g (v*4+j) u;have H:g≠ib:=fun e=>gV h.ns h.box Zd (by rw[<-e]; rfl)
  rw[Nn A] at I;refine⟨⟨?_,h.lo,?_,h.es.kept D (oz h.es h.ns Zd)⟩,(Below.refl B W).setCell J _⟩
  ·rw[aL]; exact h.box.other H _ _
  ·rw[aL]; exact xW F4 h.ns rfl A F u x I
end
theorem Ej{N:List Nd}{E:List Eg}(h:IxG B ib N E w)(hN:(N.length:Int)<=1000000)(hE:(E.length:Int)<=1000000)(v:Nat)(hv:v<N.length)(c:UInt8)(tg:Nat):
  Qh 241 #[.pointer ib,Yi (v:Int),Yb (c.toNat:Int),Yi (tg:Int)] w fun e w'=>e=.returned (.tuple #[])/\Qg (IxG B ib (N.set v { nd N v with edge:=((E.length:Nat):Int) }) (E++[⟨c,tg,(nd N v).edge⟩]) w')/\Below B w w':=by
 obtain⟨na,nc,ea,ec,h⟩:=h;have hd:IxB B ib N E na nc ea ec w.drew:=⟨h.box,h.lo,h.ns,h.es⟩;obtain⟨B0,B1,W1,C,I,A7,D,M⟩:=hd.pushE ⟨c,tg,(nd N v).edge⟩ hE;obtain⟨W2,J⟩:=Qe (W1.setCell ⟨ib,1,none⟩ (.slice B0 (E.length+1) B1));rw[<-J] at D M;have P:IxB B ib N (E++[⟨c,tg,(nd N v).edge⟩]) na nc B0 B1 W2.drew:=⟨D.box,D.lo,D.ns,D.es⟩;obtain⟨g,B4,A3,A2,A9⟩:=P.setN (v:=v) (by exact hv);obtain⟨Y,Z⟩:=A9 { nd N v with edge:=((E.length:Nat):Int) } 3 (Yi ((E.length:Nat):Int)) Zd rfl;have A0:Below B W2 W2.drew:=(bf _).drew;have F:Qg (IxG B ib (N.set v { nd N v with edge:=((E.length:Nat):Int) }) (E++[⟨c,tg,(nd N v).edge⟩]) (W2.drew.setCell ⟨g,v*4+3,none⟩ (Yi ((E.length:Nat):Int)))/\Below B w (W2.drew.setCell ⟨g,v*4+3,none⟩ (Yi ((E.length:Nat):Int)))):=Qf ⟨⟨_,_,_,_,Y⟩,(((Below.refl B w).drew.trans M).trans A0).trans Z⟩;subst B4
 -- what the loads read,in each of the worlds
 obtain⟨nn,L⟩:=Qe N.length;obtain⟨m,hm⟩:=Qe E.length;rw[<-hm] at C F J hE ⊢;have Q:=hd.box;have H:=P.box;have A6:(E++[(⟨c,tg,(nd N v).edge⟩:Eg)]).length=m+1:=Zn hm;rw[A6,<-L] at H;rw[<-hm,<-L] at Q I;rw[<-L] at hv hN;have C2:(v:Int)<(nn:Int):=Zo;obtain⟨nb,no,O,_,n0,n1,n2,n3⟩:=fu hd.gns (k:=v) Zo;cases O;obtain⟨nb,no,O,_,p0,p1,p2,p3⟩:=fu (jw F4 rfl A7) (k:=v) Zo;cases O;have A1:=A2 3 Zd;rw[show(wT (nd N v))[3]? = some (Yi (nd N v).edge) from rfl] at A1;have B3:=A3 (v*4+3);generalize (nd N v).edge=e0 at *
 rw[aZ] at n3 p3;have HA:Qg (∀W,Below w.drew.heap.size w.drew W->W.cell? ib=some (.slice g nn nc)/\W.cell? ⟨ib,1,none⟩=some (.slice ea m ec)/\W.cell? ⟨g,v*4+3,none⟩=some (Yi e0)):=Qf (fun W hb=>by
  have h1:=Q.below hb;have B5:=World.block_lt_of_cell? _ _ n3;exact⟨h1.c2.1,h1.c2.2,(hb.cell B5).trans n3⟩)
 have U:Qg (W1.cell? ib=some (.slice g nn nc)/\W1.cell? ⟨ib,1,none⟩=some (.slice ea m ec)/\W1.cell? ⟨g,v*4+3,none⟩=some (Yi e0)):=Qf ⟨I.c2.1,I.c2.2,p3⟩;have A8:=HA.o w.drew (bf _);have R:=HA.o (w.drew.alloc (.cells (BL ⟨c,tg,e0⟩).toArray 293)) ((bf _).alloc nr _);have A5:=I.frozen 1;have X:W2.drew.cell? ib=some (.slice g nn nc)/\W2.drew.cell? ⟨ib,1,none⟩=some (.slice B0 (m+1) B1):=H.c2;have C3:IntKind.i64.wrap (((m:Int)+1)-1)=(m:Int):=by rw[ZV]; omega
 have C0:IntKind.i64.wrap (m:Int)=(m:Int):=ZV;have V:=Qf J;simp only[BL] at C R;generalize (c.toNat:Int)=lc at *
 clear h hd I A7 D M P A9 Y Z A0 Q H A6 n0 n1 n2 p0 p1 p2 p3 A2 A3 hm L HA J;go_enter func241,ntmps241;go_wp2_with fail;refine iQ (S:=(fun W=>W.cell? ib=some (.slice g nn nc)/\W.cell? ⟨ib,1,none⟩=some (.slice ea m ec)/\W.cell? ⟨g,v*4+3,none⟩=some (Yi e0))) [20] Zk A8 (fun hHeld=>?_);refine Xv 0 ?_;refine Xv 1 ?_;refine Xv 2 ?_;refine Xv 3 ?_;refine Xv 4 ?_;refine Xv 5 ?_;refine Xv 6 ?_;refine Xv 7 ?_;refine Xv 8 ?_;refine Xv 9 ?_;refine Xv 10 ?_;refine Xv 11 ?_;refine Xv 12 ?_;refine Xv 13 ?_;refine Xv 14 ?_;refine Xv 15 ?_;refine cu (i:=16) Zk rfl (fun K G=>?_);go_simp;refine G.out _ _ ((fun _=>R)) (fun hHeld=>?_);clear G K;refine cu (i:=17) Zk rfl (fun K G=>?_);refine bN Zr (.tmp 12) (.tmp 24) _ _ Zr _ _ Zr Zr _ _ C.out ?_;clear hHeld R;have T:=U.o;refine G.out _ _ ((fun _=>T)) (fun hHeld=>?_);clear G K;refine Xv 18 ?_;refine Xv 19 ?_;refine cu (i:=20) Zk rfl (fun K G=>?_);have A4:=T.2.1;go_simp;refine G.out _ _ ((fun h=>absurd h Zd)) (fun hHeld=>?_);clear G K;refine eQ Zk ?_ _;rw[<-V.o];clear A8 T A4 U C V A5;go_wp2_with fail;refine iQ (S:=(fun W=>W.cell? ib=some (.slice g nn nc)/\W.cell? ⟨ib,1,none⟩=some (.slice B0 (m+1) B1))) [13] Zk X (fun hHeld=>?_);refine Xv 0 ?_;refine Xv 1 ?_;refine Xv 2 ?_;refine Xv 3 ?_;refine Xv 4 ?_;refine Xv 5 ?_;refine Xv 6 ?_;refine Xv 7 ?_;refine Xv 8 ?_;refine Xv 9 ?_;refine Xv 10 ?_;refine Xv 11 ?_;refine Xv 12 ?_;refine cu (i:=13) Zk rfl (fun K G=>?_);go_simp;refine G.out _ _ ((fun h=>absurd h Zd)) (fun hHeld=>?_);clear G K;refine eQ Zk ?_ _;clear X A1 B3;go_wp2;go_end0;exact⟨rfl,Qf F.o.1,F.o.2⟩
theorem Lw.at{nn:Nat}{NF:List Nd}{EF:List Eg}{p:Int}{N:List Nd}{E:List Eg}(h:Lw c nn NF EF p N E):(p=-1/\N=NF/\E=EF)\/∃(k:Nat) (T:jc),p=(k:Int)/\Ixr N E T/\(k<N.length/\N.length=nn+1/\E.length<=1000/\-1<=(nd N k).link/\(nd N k).link<(k:Int))/\trU T k c=none/\Lw c nn NF EF (nd N k).link (N.set k { nd N k with edge:=((E.length:Nat):Int) }) (E++[⟨c,nn,(nd N k).edge⟩]):=by
 cases h with
 | stop=>exact .inl ⟨rfl,rfl,rfl⟩
 | step A B C D=>exact .inr ⟨_,_,rfl,A,B,C,D⟩
theorem iextend_w{sl:Nat}{N0 NF:List Nd}{E0 EF:List Eg}(hg:IxG B ib N0 E0 w)(hv:v<N0.length)(A6:(nd N0 v).len=sl)(C8:sl<=1000)(W:N0.length<=1000)(h:Lw c N0.length NF EF ((v:Nat):Int) (N0++[⟨sl+1,0,sl+1,-1⟩]) E0):
  Qh 221 #[.pointer ib,Yi (v:Int),Yb (c.toNat:Int)] w fun e w'=>e=.returned (Yi (N0.length:Int))/\Qg (IxG B ib NF EF w')/\Below B w w':=by
 obtain⟨na,nc,ea,ec,hb⟩:=hg;obtain⟨B1,B2,W1,C,J,B7,I,A0⟩:=hb.pushN ⟨sl+1,0,sl+1,-1⟩ Zo;obtain⟨pb,po,rfl,_,p0,p1,p2,p3⟩:=fu hb.gns (k:=v) hv;rw[A6] at p0;obtain⟨B0,O⟩:∃B0:Nat,B0=sl+1:=⟨_,rfl⟩;obtain⟨nn,F⟩:=Qe N0.length;have H:=Qf h;rw[<-O] at C I H;rw[<-F] at C J H;have R:Qg (IxG B ib (N0++[⟨B0,0,B0,-1⟩]) E0 (W1.setCell ib (.slice B1 (N0.length+1) B2))):=Qf ⟨_,_,_,_,I⟩;have P:Qg (Below B w (W1.setCell ib (.slice B1 (N0.length+1) B2))):=Qf A0;rw[<-F] at R P hv W ⊢;have A2:(W1.setCell ib (.slice B1 (nn+1) B2)).cell? ib=some (.slice B1 (nn+1) B2):=by
  have h2:=I.box.c2.1;rw[show(N0++[(⟨B0,0,B0,-1⟩:Nd)]).length=nn+1 by rw[F]; simp,<-F] at h2;exact h2
 have D:=hb.box.c2;rw[<-F] at D;have D0:(v:Int)<(nn:Int):=Zo;have D1:IntKind.i64.wrap ((sl:Int)+1)=(B0:Int):=by rw[ZV]; omega
 have C9:(nn:Int)<=3000:=Zo;have D2:IntKind.i64.wrap ((nn:Int)+1-1)=(nn:Int):=by rw[ZV]; omega
 have C4:IntKind.i64.wrap (nn:Int)=(nn:Int):=ZV;obtain⟨lc,V⟩:∃lc:Int,lc=(c.toNat:Int):=⟨_,rfl⟩;have Y:=Qf V;rw[<-V];have A4:=J.c2.1;have A5:=J.frozen 0;have B5:=D.1;simp only[wT] at C;have hz:((0:Nat):Int)=0:=rfl;clear hb B7 I A0 J p1 p2 p3 A6 F O V D h;go_enter func221,ntmps221;go_wp2_with (at_builtin; refine Lib.wpList_append_run _ rfl _ _ _ _ rfl _ _ rfl rfl _ _ C.out ?_);clear C B5 A4 A5 p0;go_loopw [9] (fun i wr=>∃(p:Int) (N:List Nd) (E:List Eg),i=Yi p/\Qg (Lw c nn NF EF p N E)/\Qg (IxG B ib N E wr)/\Qg (Below B w wr)) (fun i _=>(intOf i+1).toNat)
 case atStart=>exact⟨_,_,E0,rfl,H,R,P⟩
 clear A2 H R P;obtain⟨p,N,E,rfl,HP,HG,HB⟩:=hrel;rcases HP.out.at with⟨rfl,rfl,rfl⟩ | ⟨k,T,rfl,A3,⟨K,L,B8,B9,C0⟩,A9,A8⟩
 ·clear HP;go_wp2;go_ret;exact⟨rfl,HG,HB.out⟩
 have C7:(k:Int)<(nn:Int)+1:=Zo;have C6:(0:Int)<=(k:Int):=Zo;have C2:¬(k:Int)<0:=Zo;have Q:=Qf (um (HG.out.in_) A3 (Zy L) k K c);rw[<-Y.o,uJ A9] at Q;have G:=Qf (Ej HG.out (Zy L) Zo k K c nn);rw[<-Y.o] at G;have U:=Qf A8;have A7:nd (N.set k { nd N k with edge:=((E.length:Nat):Int) }) k={ nd N k with edge:=((E.length:Nat):Int) }:=by rw[Nn (by rw[aL]; exact K),List.getElem_set_self]
 have S:Qg ((nd (N.set k { nd N k with edge:=((E.length:Nat):Int) }) k).link=(nd N k).link):=Qf (Zx A7);have Z:Qg (k<(N.set k { nd N k with edge:=((E.length:Nat):Int) }).length):=Qf (by rw[aL]; exact K);have M:Qg ((N.set k { nd N k with edge:=((E.length:Nat):Int) }).length=nn+1):=Qf (by rw[aL,L]);generalize N.set k { nd N k with edge:=((E.length:Nat):Int) }=N' at U G S Z M;generalize (nd N k).link=lk at U S B9 C0;clear HP HG A7 A9 A8 A3 L B8;go_wp2_with fail;refine Q.o.mono ?_;rintro e u ⟨rfl,rfl⟩;go_wp2_with fail;refine G.o.mono ?_;rintro e u ⟨rfl,X,A1⟩;have B3:=Qf (HB.out.trans A1);obtain⟨ma,mc,fa,fc,D⟩:=X.out;obtain⟨xb,xo,rfl,_,x0,x1,x2,x3⟩:=fu D.gns (k:=k) Z.o;have B6:=D.box.c2.1;rw[S.o] at x1;rw[M.o] at B6;clear A1 HB D x0 x2 x3 Q G;go_wp2;go_roundw
 case rel=>exact⟨lk,_,_,rfl,U,X,B3⟩
 case measure=>
  simp only[intOf];omega
theorem Ng{e:TypeId}(h:BK g cs e W)(C:B<=g)(A:cs.size=n*z)(D:n<=1000):W.ownsRow B e z (.slice g n n) n cs.toList:=
 ⟨by rw[Array.length_toList]; exact A,.inr ⟨g,n,cs,rfl,C,h,nr,Zm,A,by rw[<-A,<-Array.length_toList,rC]⟩⟩
def J5(s:Qb)(B ib:Nat)(W:World):Prop:=s=[2,0]/\J6 B ib (nsX 2) (esX 2) W
theorem J5.below(h:J5 s B ib W)(C:Below B' W W')(A:B<=B'):J5 s B ib W':=⟨h.1,h.2.below C A⟩
theorem J5.mono(h:J5 s B ib W)(A:B<=B'):J5 s B' ib W:=⟨h.1,h.2.mono A⟩
def pJ(s:Qb)(B ib:Nat)(W:World):Prop:=s=[2,0]/\IxG B ib (nsX 2) (esX 2) W
theorem pJ.of(h:pJ s B ib W):J5 s (W:Nat) ib W:=⟨h.1,h.2.in_⟩
theorem pJ.grown{b:Nat}(h:pJ s B ib W)(C:W.grownBy W' (some b))(D:b<B):pJ s B ib W':=by
 obtain⟨E,na,nc,ea,ec,A⟩:=h;exact⟨E,na,nc,ea,ec,A.box.grow1 C (Zh A.lo),A.lo,bD A.ns C D,bD A.es C D⟩
theorem pJ.below(h:pJ s B ib W)(D:Below W W W'):pJ s B ib W':=by
 obtain⟨A,na,nc,ea,ec,C⟩:=h;exact⟨A,na,nc,ea,ec,C.below D⟩
theorem iext_x(k:Nat)(C:k<2)(h:IxG B ib (nsX k) (esX k) w):Qh 221 #[.pointer ib,Yi (k:Int),Yb ((lwX k).toNat:Int)] w fun e w'=>e=.returned (Yi ((k+1:Nat):Int))/\Qg (IxG B ib (nsX (k+1)) (esX (k+1)) w')/\Below B w w':=by
 rcases k with _ | _ | k
 ·exact iextend_w (sl:=0) (v:=0) (c:=2) h Zd rfl Zd Zd lw_zero
 ·exact iextend_w (sl:=1) (v:=1) (c:=0) h Zd rfl Zd Zd lw_one
 ·omega
theorem zW(s:Qb)(w:World)(hs:s=[2,0]):Qh 186 #[s] w fun e w'=>∃ib,e=.returned (.pointer (some ⟨ib,0,none⟩))/\Qg (pJ s (w:Nat) ib w')/\Below w w w'/\(w:Nat)<=ib:=by
 obtain⟨w1,B⟩:=Qe ((w.alloc (.cells #[Yi 0,Yi (-1),Yi 0,Yi (-1)] 250)).alloc (.cells #[.slice w 1 1,()] 254));have R:BK w #[Yi 0,Yi (-1),Yi 0,Yi (-1)] 250 w1:=B▸(BK.new _ _ _).alloc _;have S:BK ((w:Nat)+1) #[.slice w 1 1,()] 254 w1:=B▸BK.new2 _ _ _ _;have E:Qg (Below w w w1):=Qf (B▸((bf _).alloc nr _).alloc (by simp) _);have C:Qg (IxG (w:Nat) ((w:Nat)+1) (nsX 0) (esX 0) w1):=Qf ⟨some ⟨w,0,none⟩,1,none,0,⟨S,Zo,Ng (n:=1) R nr rfl Zo,XE _ _ _ _⟩⟩;obtain⟨ib,D⟩:=Qe ((w:Nat)+1);rw[<-D] at C;have F:Qg (ib=(w:Nat)+1):=Qf D;obtain⟨n,I⟩:=Qe s.length;have J:n=2:=by rw[I,hs]; rfl
 have HN:Qg (n=s.length):=Qf I;have A1:(s:ByteArray).size=n:=by rw[bH,I]
 have A0:(n:Int)<=1000:=Zo;have Q:=Qf B;have G:Qg (∀k:Nat,k<2->∀w,(Instr.index 9 (.string ⟨s.toArray⟩) (Yi (k:Int))).run prog w=.ok (Yb ((lwX k).toNat:Int)) w):=Qf (fun k U w=>by
  obtain⟨d,_,_,X,Y⟩:=idx ⟨s.toArray⟩ k (by rw[bH,<-I,J]; exact U);rw[Y,X,hs];rcases k with _ | _ | k
  ·rfl
  ·rfl
  ·omega)
 have W:=Qf hs;subst J;clear B R S D I hs;go_enter func186,ntmps186;go_wp2_with fail;rw[<-F.o,<-Q.o];clear Q;go_loopw [4,12] (fun l i wr=>∃(k:Nat),k<=2/\l=Yi (k:Int)/\i=Yi (k:Int)/\Qg (IxG (w:Nat) ib (nsX k) (esX k) wr)/\Qg (Below w w wr)) (fun _ i _=>2-(intOf i).toNat)
 case atStart=>exact⟨0,Zo,rfl,rfl,C,E⟩
 clear C E;obtain⟨k,U,rfl,rfl,K,L⟩:=hrel;by_cases H:k<2
 ·have Z:(k:Int)<2:=Zo;have P:=G.o k H;have N:=Qf (iext_x k H K.out);generalize ((lwX k).toNat:Int)=d at P N;go_wp2_with fail;refine N.o.mono ?_;rintro e u ⟨rfl,O,T⟩;have M:=Qf (L.out.trans T);clear T N K L;go_wp2;go_roundw
  case rel=>exact⟨k+1,Zo,rfl,Zg,O,M⟩
  case measure=>exact Yr
 ·obtain rfl:k=2:=Zo;have V:Qg (pJ s (w:Nat) ib wr):=Qf ⟨W.o,K.out⟩;clear K G;go_wp2;go_ret;exact⟨ib,rfl,V,L.out,Zh F.o⟩
structure LoSt (y:Qb) (k v:Nat):Prop where
 le:k<=y.length
 wd:(k=0/\v=0)\/(k=1/\v=1/\y.take 1=[2])\/(k=1/\v=2/\y.take 1=[0])\/(k=2/\v=2/\y.take 2=[2,0])
theorem LoSt.lt(h:LoSt y k v):v<(nsX 2).length:=by
 show v<3;have:=h.wd;omega
theorem trZ(c:UInt8):trU tsZ 0 c=(if c=0 then some 2 else if c=2 then some 1 else none)/\trU tsZ 1 c=(if c=0 then some 2 else none)/\trU tsZ 2 c=none:=by
 unfold trU tsZ;refine⟨?_,?_,rfl⟩
 ·by_cases A:c=0
  ·subst A; rfl
  ·by_cases B:c=2
   ·subst B; rfl
   ·have e0:((0:UInt8)==c)=false:=by simpa using fun e:(0:UInt8)=c=>A e.symm
    have e2:((2:UInt8)==c)=false:=by simpa using fun e:(2:UInt8)=c=>B e.symm
    simp[List.find?,e0,e2,A,B]
 ·by_cases A:c=0
  ·subst A; rfl
  ·have e0:((0:UInt8)==c)=false:=by simpa using fun e:(0:UInt8)=c=>A e.symm
   simp[List.find?,e0,A]
theorem LoSt.some(h:LoSt y k v)(C:y.take (k+1)=y.take k++[c])(A:trU tsZ v c=some u)(D:k+1<=y.length):LoSt y (k+1) u:=by
 obtain⟨z0,z1,z2⟩:=trZ c;refine⟨D,?_⟩;rcases h.wd with⟨rfl,rfl⟩ | ⟨rfl,rfl,B⟩ | ⟨rfl,rfl,B⟩ | ⟨rfl,rfl,B⟩
 ·rw[z0] at A;split at A
  ·rename_i e; cases A; subst e; exact .inr (.inr (.inl ⟨rfl,rfl,C⟩))
  ·split at A
   ·rename_i e; cases A; subst e; exact .inr (.inl ⟨rfl,rfl,C⟩)
   ·cases A
 ·rw[z1] at A;split at A
  ·rename_i e; cases A; subst e;exact .inr (.inr (.inr ⟨rfl,rfl,by rw[C,B]; rfl⟩))
  ·cases A
 ·rw[z2] at A; cases A
 ·rw[z2] at A; cases A
theorem LoSt.best(h:LoSt y k v)(C:k=y.length\/∃c,y.take (k+1)=y.take k++[c]/\trU tsZ v c=none):iD [2,0] y=((nd (nsX 2) v).fin-k,k)/\k<=(nd (nsX 2) v).fin:=by
 have E:∀(c:UInt8) (r s:Qb),(c::r).take 1=s->s=[c]:=fun c r s e=>by rw[<-e]; rfl
 rcases h.wd with⟨rfl,rfl⟩ | ⟨rfl,rfl,A⟩ | ⟨rfl,rfl,A⟩ | ⟨rfl,rfl,A⟩
 ·refine⟨?_,Q6 _⟩;rcases y with _ | ⟨x,r⟩
  ·rfl
  ·rcases C with C | ⟨c,D,B⟩
   ·cases C
   ·cases D
    rw[(trZ x).1] at B;have e0:¬x=0:=fun e=>by rw[if_pos e] at B; cases B
    have e2:¬x=2:=fun e=>by rw[if_neg e0,if_pos e] at B; cases B
    have f0:¬(0:UInt8)=x:=fun e=>e0 e.symm
    have f2:¬(2:UInt8)=x:=fun e=>e2 e.symm
    simp[iD,ja,lcp,f0,f2,nsX,nd]
 ·refine⟨?_,nr⟩;rcases y with _ | ⟨x,r⟩
  ·cases A
  ·cases E _ _ _ A
   rcases r with _ | ⟨z,r⟩
   ·simp[iD,ja,lcp,nsX,nd]
   ·rcases C with C | ⟨c,D,B⟩
    ·simp at C
    ·have:c=z:=by
      simp at D;exact D.symm
     subst this;rw[(trZ c).2.1] at B;have e0:¬c=0:=fun e=>by rw[if_pos e] at B; cases B
     have f0:¬(0:UInt8)=c:=fun e=>e0 e.symm
     simp[iD,ja,lcp,f0,nsX,nd]
 ·refine⟨?_,Zd⟩;rcases y with _ | ⟨x,r⟩
  ·cases A
  ·cases E _ _ _ A
   simp[iD,ja,lcp,nsX,nd]
 ·refine⟨?_,Zd⟩;rcases y with _ | ⟨x,_ | ⟨z,r⟩⟩
  ·cases A
  ·cases A
  ·have e:[x,z]=[2,0]:=A;cases e;simp[iD,ja,lcp,nsX,nd]
theorem Cy(hx:J5 a (w:Nat) ib w)(Q:w.cell? bb=some (.string ⟨b.toArray⟩))(V:w.cell? xb=some (.pointer ib))(ha:a.length<=1000)(B0:(b.length:Int)<=1000000)(at_:Nat)(A9:at_<=b.length):
  Qh 190 #[Yi (at_:Int),.pointer bb,.pointer xb] w fun e w'=>e=.returned (.tuple #[Yi ((iD a (b.drop at_)).1:Int),Yi ((iD a (b.drop at_)).2:Int)])/\Below w w w':=by
 obtain⟨rfl,A1⟩:=hx;have B6:=ixr_end;have C3:(nsX 2).length=3:=rfl;obtain⟨n,T⟩:=Qe b.length;have HN:Qg (n=b.length):=Qf T;have D0:(b:ByteArray).size=n:=by rw[bH,T]
 rw[<-T] at A9 B0;have G:Qg (∀k,at_+k<n->∃(d:Int) (c:UInt8),d=(c.toNat:Int)/\(b.drop at_).take (k+1)=(b.drop at_).take k++[c]/\∀w,(Instr.index 9 (.string ⟨b.toArray⟩) (Yi ((at_+k:Nat):Int))).run prog w=.ok (Yb d) w):=Qf (fun k hk=>by
  obtain⟨d,_,_,h3,h4⟩:=idx ⟨b.toArray⟩ (at_+k) (by rw[bH,<-T]; exact hk);have B3:k<(b.drop at_).length:=by rw[ah,<-T]; omega
  refine⟨d,(b.drop at_)[k],?_,ai B3,h4⟩;rw[h3,eF];have:at_+k<b.length:=Zo;simp[List.getD,this])
 obtain⟨y,hy⟩:=Qe (b.drop at_);have A4:y.length=n-at_:=by rw[hy,ah,T]
 rw[<-hy] at G ⊢;have P:=Qf A4;have Z:Qg (LoSt y 0 0):=Qf ⟨Q6 _,.inl ⟨rfl,rfl⟩⟩;have O:=Qf A1;have HC:Qg (∀W,Below w w W->W.cell? bb=some (.string ⟨b.toArray⟩)/\W.cell? xb=some (.pointer ib)):=Qf (fun W hb=>⟨(hb.cell (World.block_lt_of_cell? _ _ Q)).trans Q,(hb.cell (World.block_lt_of_cell? _ _ V)).trans V⟩);have Y:=Qf (Below.refl (w:Nat) w);have C4:(0:Int)<=(at_:Int):=Zo;clear T hy A4 A1 Q V;go_enter func190,ntmps190;go_wp2;go_loopw [6,7] (fun vv l wr=>∃(k v:Nat),vv=Yi (v:Int)/\l=Yi (k:Int)/\Qg (LoSt y k v)/\Qg (Below w w wr)) (fun _ l _=>n-(intOf l).toNat)
 case atStart=>exact⟨0,0,rfl,rfl,Z,Y⟩
 clear Z Y;obtain⟨k,v,rfl,rfl,E,X⟩:=hrel;have C8:at_+k<=n:=by have:=E.out.le; have:=P.o; omega
 obtain⟨p,hp⟩:=Qe (at_+k);have D3:IntKind.i64.wrap ((at_:Int)+(k:Int))=(p:Int):=by rw[ZV]; omega
 obtain⟨C5,C6⟩:=HC.o wr X.out;have B:Qg ((k=y.length\/∃c,y.take (k+1)=y.take k++[c]/\trU tsZ v c=none)->iD [2,0] y=((nd (nsX 2) v).fin-k,k)/\k<=(nd (nsX 2) v).fin/\(nd (nsX 2) v).fin<=1000):=Qf (fun h3=>by
  obtain⟨g3,g4⟩:=E.out.best h3;refine⟨g3,g4,?_⟩;rcases E.out.wd with⟨_,rfl⟩ | ⟨_,rfl,_⟩ | ⟨_,rfl,_⟩ | ⟨_,rfl,_⟩ <;> decide)
 have C1:Qg (v<(nsX 2).length):=Qf E.out.lt;have D2:IntKind.i64.wrap ((k:Int)+1)=(k:Int)+1:=ZV;by_cases C9:p<n
 ·have B4:(p:Int)<(n:Int):=Zo;have C0:(k:Int)<(n:Int):=Zo;obtain⟨d,c,hd,M,B2⟩:=G.o k Zo;rw[<-hp] at B2;have D:Below w w wr.drew:=X.out.drew;have C:=Qf (Ad (O.o.below D nr) B6 Zo v E.out.lt c);unfold Ky at C;rw[<-hd] at C;have L:=HC.o _ D;cases F:trU tsZ v c with
  | none=>
   rw[F] at C;simp only at C;obtain⟨e1,e2,e3⟩:=B.o (.inr ⟨c,M,F⟩);obtain⟨⟨na,nc,ea,ec,H,I,_⟩,_⟩:=O.o.below D nr;obtain⟨A0,xo,rfl,_,_,_,x2,_⟩:=fu I (k:=v) E.out.lt;have R:=H.c2.1;obtain⟨j,hj⟩:=Qe ((nd (nsX 2) v).fin);rw[<-hj] at x2 e1 e2 e3;obtain⟨nn,J⟩:=Qe ((nsX 2).length);rw[<-J] at R;have B5:(v:Int)<(nn:Int):=Zh E.out.lt;have U:IntKind.i64.wrap ((j:Int)-(k:Int))=((j-k:Nat):Int):=by rw[ZV]; omega
   obtain⟨q,hq⟩:=Qe (j-k);rw[<-hq] at U e1;obtain⟨HE,N⟩:=Yj e1 D;clear H I hd M F B E X hj J hq hp e1 e2 e3 D G;go_wp2_with fail;refine wp_region_held_drew (S:=(fun W=>W.cell? bb=some (.string ⟨b.toArray⟩)/\W.cell? xb=some (.pointer ib))) Zk L (fun hHeld=>?_);refine Xx 0 ?_;refine Xx 1 ?_;refine Xx 2 ?_;refine Xx 3 ?_;refine Xx 4 ?_;refine Xx 5 ?_;refine Xx 6 ?_;refine wpAnyH_ready (rs:=[7]) Zk Zs ?_;refine AllReadyH.cons rfl (fun K hK=>?_) AllReadyH.nil;go_simp;refine C.o.mono ?_;rintro e uz ⟨rfl,rfl⟩;refine hK.out _ _ (L) (fun hHeld=>?_);clear hK K;refine Xx 8 ?_;refine wpAnyH_done Zk ?_ _;go_wp2_with fail;go_ret2;exact⟨by rw[HE.o]; first | done | rfl,N.o⟩
  | some u=>
   rw[F] at C;simp only at C;have A7:Qg (LoSt y (k+1) u):=Qf (E.out.some M F (Zy P.o));have D1:¬(u:Int)<0:=Zo;have N:=Qf D;clear hd M F B E X hp D G;go_wp2_with fail;refine wp_region_held_drew (S:=(fun W=>W.cell? bb=some (.string ⟨b.toArray⟩)/\W.cell? xb=some (.pointer ib))) Zk L (fun hHeld=>?_);refine Xx 0 ?_;refine Xx 1 ?_;refine Xx 2 ?_;refine Xx 3 ?_;refine Xx 4 ?_;refine Xx 5 ?_;refine Xx 6 ?_;refine wpAnyH_ready (rs:=[7]) Zk Zs ?_;refine AllReadyH.cons rfl (fun K hK=>?_) AllReadyH.nil;go_simp;refine C.o.mono ?_;rintro e uz ⟨rfl,rfl⟩;refine hK.out _ _ (L) (fun hHeld=>?_);clear hK K;refine Xx 8 ?_;refine wpAnyH_done Zk ?_ _;go_wp2;go_roundw
   case rel=>exact⟨k+1,u,rfl,Zg,A7,N⟩
   case measure=>simp only[intOf]; omega
 ·obtain rfl:p=n:=Zo;have B4:¬(p:Int)<(p:Int):=Zo;obtain⟨e1,e2,e3⟩:=B.o (.inl (Zy P.o));obtain⟨⟨na,nc,ea,ec,H,I,_⟩,_⟩:=O.o.below X.out nr;obtain⟨A0,xo,rfl,_,_,_,x2,_⟩:=fu I (k:=v) E.out.lt;have R:=H.c2.1;obtain⟨j,hj⟩:=Qe ((nd (nsX 2) v).fin);rw[<-hj] at x2 e1 e2 e3;obtain⟨nn,J⟩:=Qe ((nsX 2).length);rw[<-J] at R;have B5:(v:Int)<(nn:Int):=Zh E.out.lt;have U:IntKind.i64.wrap ((j:Int)-(k:Int))=((j-k:Nat):Int):=by rw[ZV]; omega
  obtain⟨q,hq⟩:=Qe (j-k);rw[<-hq] at U e1;have HE:=Qf e1;clear H I B E hj J hq e1 e2 e3 G hp;go_wp2_with fail;go_ret2;exact⟨by rw[HE.o]; first | done | rfl,X.out⟩
section
attribute [local go_sem] Oper.semAt_some
def dF(a b:Qb):Nat->Nat->List Dop
 | 0,_=>[]
 | f+1,k=>if k<b.length then eH a b k::dF a b f (k+bS (eH a b k)) else[]
theorem iT(h:b.length<=k):dF a b f k=[]:=by
 cases f with
 | zero=>rfl
 | succ f=>rw[dF,if_neg Zo]
theorem qP{a b:Qb}:∀(f g k:Nat),b.length<=k+f->b.length<=k+g->dF a b f k=dF a b g k
 | 0,g,k,A,B=>by rw[iT Zo,iT Zo]
 | f+1,0,k,A,B=>by rw[iT Zo,iT Zo]
 | f+1,g+1,k,A,B=>by
  rw[dF,dF];by_cases e:k<b.length
  ·rw[if_pos e,if_pos e];have:=(lV (a:=a) e).1;rw[qP f g _ Zo Zo]
  ·rw[if_neg e,if_neg e]
def jH(a b:Qb):List Dop:=dF a b b.length 0
theorem ry{a b:Qb}:∀(f k:Nat) (l:List Dop),uU a b f k l=(dF a b f k).foldl Ko l
 | 0,k,l=>rfl
 | f+1,k,l=>by
  rw[uU,dF];by_cases e:k<b.length
  ·rw[if_pos e,if_pos e,fE,ry f]
  ·rw[if_neg e,if_neg e]; rfl
theorem CZ(a b:Qb):iM a b=(jH a b).foldl Ko []:=ry _ _ _
structure Mh (a b:Qb) (pre:List Dop) (k:Nat):Prop where
 le:k<=b.length
 eq:pre++dF a b (b.length-k) k=jH a b
theorem Mh.start(a b:Qb):Mh a b [] 0:=⟨Q6 _,rfl⟩
theorem Mh.next{pre:List Dop}(h:Mh a b pre k)(B:k<b.length):Mh a b (pre++[eH a b k]) (k+bS (eH a b k))/\(pre++[eH a b k]) <+: jH a b:=by
 have hs:=lV (a:=a) B;have C:dF a b (b.length-k) k=eH a b k::dF a b (b.length-(k+bS (eH a b k))) (k+bS (eH a b k)):=by
  obtain⟨f,D⟩:∃f,b.length-k=f+1:=⟨b.length-k-1,Zo⟩;rw[D,dF,if_pos B,qP f (b.length-(k+bS (eH a b k))) _ Zo Zo]
 have A:pre++[eH a b k]++dF a b (b.length-(k+bS (eH a b k))) (k+bS (eH a b k))=jH a b:=by
  rw[<-h.eq,C]; simp
 exact⟨⟨hs.2,A⟩,⟨_,A⟩⟩
theorem Mh.done{pre:List Dop}(h:Mh a b pre k)(A:¬k<b.length):pre=jH a b:=by
 have:=h.eq
 rwa[iT Zo,bG] at this
def okS(a b:Qb)(pre:List Dop)(x:Dop):Prop:=(pre++[x]) <+: jH a b
structure Oe (a b:Qb) (B ib bb xb fb:Nat) (W:World):Prop where
 ix:J5 a B ib W
 bc:W.cell? bb=some (.string ⟨b.toArray⟩)
 xc:W.cell? xb=some (.pointer ib)
 fc:W.cell? fb=some (.func (.func 190) #[] #[.pointer bb,.pointer xb])
 lt:bb<B/\xb<B/\fb<B
theorem Oe.below(h:Oe a b B ib bb xb fb W)(A:Below B W W'):Oe a b B ib bb xb fb W':=
 ⟨h.ix.below A nr,(A.cell h.lt.1).trans h.bc,(A.cell h.lt.2.1).trans h.xc,(A.cell h.lt.2.2).trans h.fc,h.lt⟩
theorem Ff(hd:Oe a b B ib bb xb fb w)(hB:B<=(w:Nat))(ha:a.length<=1000)(D2:(b.length:Int)<=1000000)(m:Nat)(hm:1<=m):
  yX Fence.wide m prog 193 #[.pointer bb,.pointer fb] (fun k=>k<B) Dop.val (okS a b) (jH a b) w:=by
 intro l J Y hJ hY D0 W B8 h0;refine callsIn_of_wp func193 rfl trivial ?_ rfl;simp only[ntmps193,nU,az,aK,Nat.reduceAdd,Nat.reduceSub,jg,je,nV,jT,aY,bz];obtain⟨HJ,HY,C9⟩:=Yk hJ hY D0;have C7:Qg (Oe a b B ib bb xb fb W):=Qf (hd.below (B8.mono hB));have C:Qg (B<=(W:Nat)):=Qf (aC hB B8.size);have H0:=Qf h0;obtain⟨n,hn⟩:=Qe b.length;have HN:Qg (n=b.length):=Qf hn;have F4:(b:ByteArray).size=n:=by rw[bH,hn]
 rw[<-hn] at D2;clear hJ hY D0 hd B8 h0 hn;gi_wp2;gi_loopw [4] (fun i wr=>∃(k:Nat) (A5:List Dop),i=Yi (k:Int)/\k<=n/\Qg (J A5 wr)/\Qg (Mh a b A5 k)/\Qg (Oe a b B ib bb xb fb wr)/\Qg (B<=wr.heap.size)) (fun i _=>n-(intOf i).toNat)
 case atStart=>exact⟨0,[],rfl,Zo,H0,Qf (Mh.start a b),C7,C⟩
 clear H0 C7 C;obtain⟨k,A5,rfl,hk,N,HS,HD,C⟩:=hrel;have D1:=HD.out.bc;by_cases D4:k<n
 ·have D9:(k:Int)<(n:Int):=Zo;obtain⟨C2,C1⟩:=HS.out.next (HN.o▸D4);have C3:=lV (a:=a) (b:=b) (k:=k) (HN.o▸D4);have D3:(bS (eH a b k):Int)+k<=n:=Zh HN.o;obtain⟨q1,q2,hq⟩:∃q1 q2,iD a (b.drop k)=(q1,q2):=⟨_,_,rfl⟩;obtain⟨u1,A0⟩:=Qe (wr.alloc (.cells #[Yi 0,Yi 0,((b.drop k).take 1)] 246));have P:Below wr wr u1:=A0▸(bf _).alloc nr _;have A4:BK wr #[Yi 0,Yi 0,((b.drop k).take 1)] 246 u1:=A0▸BK.new _ _ _;have X:=HD.out.below (P.mono C.o);have O:=Qf (Cy (X.ix.mono (aC C.o P.size)) X.bc X.xc ha (HN.o▸D2) k (HN.o▸hk));rw[hq] at O;simp only at O;have B9:=X.fc;have D8:=dw b k (k+1);rw[show k+1-k=1 by omega] at D8;have F5:IntKind.i64.wrap ((k:Int)+1)=((k+1:Nat):Int):=by rw[ZV]; omega
  have Z:eH a b k=if 4<=q2 then⟨q1,q2,[]⟩ else⟨0,0,(b.drop k).take 1⟩:=by unfold eH; rw[hq]
  generalize (b.drop k).take 1=bs at *
  have A6:=Qf A0;rw[A0] at O B9;obtain⟨V,U⟩:=Yj C2 C1;have A7:=C3.1;have A8:=P.size;have F3:(wr:Nat)<(u1:Nat):=A4.lt;by_cases h4:4<=q2
  ·rw[if_pos h4] at Z;have D7:(4:Int)<=(q2:Int):=Zo;rw[Z] at V U D3 A7;clear Z C3 C2 C1 X hq A0 HS;gi_wp2;refine⟨trivial,?_⟩;refine(XV.2 O.o).mono ?_;rintro e u2 ⟨rfl,H⟩;rw[<-A6.o] at H;have L:=A4.below H;have E:=P.trans (H.mono A8);clear O B9 A6 D1;obtain⟨c0,c1,c2⟩:=BK.c3 L;obtain⟨C8,D5,D6⟩:=BK.f3 (L);obtain⟨u3,A1⟩:=Qe (((u2.setCell wr (Yi (q1:Int))).setCell ⟨wr,1,none⟩ (Yi (q2:Int))).setCell ⟨wr,2,none⟩ (.string ⟨#[]⟩));have C0:BK wr #[Yi (q1:Int),Yi (q2:Int),Ye] 246 u3:=by
    rw[A1];have e0:BK _ #[Yi (q1:Int),Yi 0,bs] _ _:=L.set 0 (Yi (q1:Int));have e1:BK _ #[Yi (q1:Int),Yi (q2:Int),bs] _ _:=e0.set 1 (Yi (q2:Int));exact e1.set 2 (.string ⟨#[]⟩)
   have B6:Below wr wr u3:=A1▸((E.setCell nr _).setCell nr _).setCell nr _;obtain⟨fn,C6,C4,C5,hy,hR⟩:=C9.o A5 ⟨q1,q2,[]⟩ wr u3 U.o N.out B6;simp only[Dop.val] at hy;obtain⟨G,F⟩:=Yj C0 B6;obtain⟨d0,d1,d2⟩:=BK.c3 C0;rw[A1] at hy d0 d1 d2;rw[A1] at hR;have B3:=Qf A1;clear L E H C0 B6 A1 A4 P;gi_wp2;refine hR.mono ?_;rintro e W3 ⟨B7,M,Q⟩;have D:=B7.to_below (m:=B) (fun _ h=>h);rw[<-B3.o] at D M;have S:BK wr #[Yi (q1:Int),Yi (q2:Int),Ye] 246 W3:=M _ _ nr G.o.lt G.o (fun c f e=>by injection e with _ h2 _; exact absurd h2 Zd);have R:=HD.out.below ((F.o.mono C.o).trans D);have T:B<=(W3:Nat):=aC C.o (aC F.o.size D.size);clear hy hR d0 d1 d2 c0 c1 c2 C8 D5 D6;rcases Q with⟨rfl,A3⟩ | ⟨rfl,B5⟩
   ·have K:=Qf (uQ ⟨q1,q2,[]⟩ W3);simp only[Dop.val] at K;obtain⟨d0,d1,d2⟩:=BK.c3 S;obtain⟨B1,A9,A2⟩:=Yk A3 R T;generalize E1:bS ⟨q1,q2,[]⟩=z at *
    have E0:IntKind.i64.wrap ((k:Int)+(z:Int))=((k+z:Nat):Int):=by rw[ZV]; omega
    clear M D S A3 R T B3 G F HD C N;gi_wp2;refine⟨trivial,?_⟩;refine(XV.2 K.o).mono ?_;rintro e u5 ⟨rfl,I⟩;obtain⟨B2,B0,B4⟩:=Yk (HJ.o _ _ _ B1.o I) (A9.o.below (I.mono A2.o)) (aC A2.o I.size);clear I K d0 d1 d2;gi_wp2;go_roundw
    case rel=>exact⟨k+z,_,Zg,Zo,B2,V,B0,B4⟩
    case measure=>simp only[intOf]; omega
   ·clear M D S R T B3 G F HD C N V U;gi_wp2;refine XB (results_none rfl _ _ _) rfl ?_;exact⟨⟨_,rfl⟩,.inr B5⟩
  ·rw[if_neg h4] at Z;have D7:¬(4:Int)<=(q2:Int):=Zo;rw[Z] at V U D3 A7;clear Z C3 C2 C1 X hq A0 HS;gi_wp2;refine⟨trivial,?_⟩;refine(XV.2 O.o).mono ?_;rintro e u2 ⟨rfl,H⟩;rw[<-A6.o] at H;have L:=A4.below H;have E:=P.trans (H.mono A8);clear O B9 A6 D1;obtain⟨fn,C6,C4,C5,hy,hR⟩:=C9.o A5 ⟨0,0,bs⟩ wr u2 U.o N.out E;simp only[Dop.val] at hy;obtain⟨G,F⟩:=Yj L E;rw[show((0:Nat):Int)=0 from rfl] at hy;obtain⟨d0,d1,d2⟩:=BK.c3 L;clear L E H A4 P;gi_wp2;refine hR.mono ?_;rintro e W3 ⟨B7,M,Q⟩;have D:=B7.to_below (m:=B) (fun _ h=>h);have S:BK wr #[Yi 0,Yi 0,bs] 246 W3:=M _ _ nr G.o.lt G.o (fun c f e=>by injection e with _ h2 _; exact absurd h2 Zd);have R:=HD.out.below ((F.o.mono C.o).trans D);have T:B<=(W3:Nat):=aC C.o (aC F.o.size D.size);clear hy hR d0 d1 d2;rcases Q with⟨rfl,A3⟩ | ⟨rfl,B5⟩
   ·have K:=Qf (uQ ⟨0,0,bs⟩ W3);simp only[Dop.val] at K;rw[show((0:Nat):Int)=0 from rfl] at K;obtain⟨d0,d1,d2⟩:=BK.c3 S;obtain⟨B1,A9,A2⟩:=Yk A3 R T;generalize E1:bS ⟨0,0,bs⟩=z at *
    have E0:IntKind.i64.wrap ((k:Int)+(z:Int))=((k+z:Nat):Int):=by rw[ZV]; omega
    clear M D S A3 R T G F HD C N;gi_wp2;refine⟨trivial,?_⟩;refine(XV.2 K.o).mono ?_;rintro e u5 ⟨rfl,I⟩;obtain⟨B2,B0,B4⟩:=Yk (HJ.o _ _ _ B1.o I) (A9.o.below (I.mono A2.o)) (aC A2.o I.size);clear I K d0 d1 d2;gi_wp2;go_roundw
    case rel=>exact⟨k+z,_,Zg,Zo,B2,V,B0,B4⟩
    case measure=>simp only[intOf]; omega
   ·clear M D S R T G F HD C N V U;gi_wp2;refine XB (results_none rfl _ _ _) rfl ?_;exact⟨⟨_,rfl⟩,.inr B5⟩
 ·obtain rfl:k=n:=Zo;have D9:¬(k:Int)<(k:Int):=Zo;have HR:=Qf (HS.out.done (by rw[<-HN.o]; omega));clear HS HD;gi_wp2;go_end0;exact⟨⟨_,rfl⟩,.inl (HR.o▸N.out)⟩
end
