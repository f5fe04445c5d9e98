/- Lemmas. -/
import Derived.Test.YtkedhdcnakhbgaaGreatP1
import Derived.Test.YtkedhdcnakhbgaaGreatG2
import Derived.Test.YtkedhdcnakhbgaaGreatG4
import Derived.Test.YtkedhdcnakhbgaaGreatG1
import Derived.Test.YtkedhdcnakhbgaaGreatP3
import Derived.RangeFuncNested
import Derived.RangeFuncBound
import Derived.RangeFuncCalls
import Derived.RangeFuncLeaves
import Derived.OwnWalkIn
import Derived.Lib.OthersKept
import Derived.Shelf.RegionOpen
import Derived.Test.YtkedhdcnakhbgaaGreatK1
set_option linter.unusedSimpArgs false
set_option maxRecDepth 100000
set_option maxHeartbeats 16000000
namespace Go.Proofs.YtkedhdcnakhbgaaGreat
open Tryz
open Go.RowKit Go.Shelf
variable {ops:Array Oper}{cs:Array Value}{Q:Exit->Act->World->Prop}{e:Int}{d:Int×Int}{L R:List (Nat×UInt8×Nat)}{E:List Eg}{pre:List Int}{xs:List Itm}{N:List Nd}{xs':List Value}{B B' bb bc db f fb g i ib j k lb lc m mb n n' u v xb z z':Nat}{K:Nat->Prop}{o:Obj}{ba la:Qa}{a b s:Qb}{base l:Qd}{c:UInt8}{v':Value}{W W' u0 w w' w0:World}{T:jc}
section
attribute [local go_sem] Oper.semAt_some
def Fg(n:Int):Int:=if Cw.inR n then((Cw.enc n.toNat).length:Int) else 0
structure J4 (w:World) (pre:List Int) (W:World):Prop where
 below:Below w.heap.size w W
 cnt:W.heap[w.heap.size]? = some (.cells #[Yi pre.length] 3 (0,0))
 box:∃v,W.heap[w.heap.size+1]? = some (.cells #[v] 3 (0,0))
theorem J4.putObj(h:J4 w pre W){l:Nat}(o':Obj)(C:w.heap.size+2<=l):J4 w pre (W.putObj l o'):=by
 refine⟨h.below.trans ⟨rfl,rfl,rfl,Zs,fun k B=>World.putObj_heap_other Zo⟩,(World.putObj_heap_other Zo).trans h.cnt,?_⟩;obtain⟨v,A⟩:=h.box;exact⟨v,(World.putObj_heap_other Zo).trans A⟩
theorem J4.alloc(h:J4 w pre W)(o:Obj):J4 w pre (W.alloc o):=by
 refine⟨h.below.alloc h.below.size o,(Below.heap_alloc W o _ (Array.getElem?_eq_some_iff.1 h.cnt).1).trans h.cnt,?_⟩;obtain⟨v,A⟩:=h.box;exact⟨v,(Below.heap_alloc W o _ (Array.getElem?_eq_some_iff.1 A).1).trans A⟩
theorem J4.set(h:J4 w pre W)(v:Value):J4 w pre (W.setCell ⟨w.heap.size+1,0,none⟩ v):=by
 refine⟨h.below.setCell (p:=⟨w.heap.size+1,0,none⟩) Zs v,(Below.heap_setCell W _ v _ Zs).trans h.cnt,?_⟩;obtain⟨v0,A⟩:=h.box;exact⟨v,by simp[World.setCell,Array.getElem?_modify,A]⟩
theorem KC(n:Int)(w:World):
  Qh 195 #[Yi n] w fun e w'=>e=.returned (Yi (Fg n))/\Below w.heap.size w w':=by
 by_cases h:Cw.inR n=true
 ·have F:Fg n=((Cw.enc n.toNat).length:Int):=if_pos h;obtain⟨Q,h1⟩:=(Cw.inR_iff n).1 h;have T:Qg (Fg n=((Tn 10 n).length:Int)):=Qf (by rw[F,uO 10 n Q]; rfl);clear F;have G:Qg (∀w:World,Qh 178 #[Yi n] w fun e w'=>e=.returned (.bool true)/\w=w'):=
   Qf (fun w=>by have:=kC n w; rwa[h] at this)
  clear h;refine(callsIn_wide (n:=5)).1 ?_;refine callsIn_of_wp_marks func195 rfl trivial ?_ rfl;simp only[ntmps195,nU,az,aK,Nat.reduceAdd,Nat.reduceSub,jg,je,nV,jT,aY,bz];gi_wp2_with (first | (refine⟨trivial,?_⟩; gi_at_call 178; refine(callsIn_wide.2 (G.o _)).mono ?_; rintro e w' ⟨rfl,rfl⟩) | (refine⟨trivial,?_⟩; gi_at_call 216; refine(callsIn_wide.2 (xy _ _)).mono ?_; rintro e w' ⟨rfl,rfl⟩));have I:J4 w [] ((w.alloc (.cells #[Yi 0] 3)).alloc (.cells #[Yi n] 3)):=by
   refine⟨((bf w).alloc nr _).alloc Zs _,?_,⟨Yi n,?_⟩⟩
   ·exact(Below.heap_alloc _ _ _ Zs).trans (World.alloc_heap_new w _)
   ·have:=World.alloc_heap_new (w.alloc (.cells #[Yi 0] 3)) (.cells #[Yi n] 3)
    rwa[World.size_alloc] at this
  have N:Dx (w.heap.size+1) n ((w.alloc (.cells #[Yi 0] 3)).alloc (.cells #[Yi n] 3)):=by
   have:=World.alloc_heap_new (w.alloc (.cells #[Yi 0] 3)) (.cells #[Yi n] 3)
   rwa[World.size_alloc] at this
  have C:((w.alloc (.cells #[Yi 0] 3)).alloc (.cells #[Yi n] 3)).heap.size=w.heap.size+2:=Zs;refine jk (α:=Int) (gf:=238) (lb:=#[.pointer (some ⟨w.heap.size+1,0,none⟩)]) (enc:=fun x=>Yb x) (ok:=okD) (bn:=w.heap.size+1) (bo:=.cells #[Yi n] 3 (0,0)) (xs:=Tn 10 n)
   rfl Zo rfl trivial (enters_of func238 Zk rfl)
   (fun l J L V W X U=>xz Fence.wide 4 trivial rfl Zo l (w.heap.size+1) J L V n 9 Zo Q Zo (eU.ten Zo) W X U)
   rfl (Zy C) N (J4 w)
   (fun s W l o o' S ho hc B=>B.putObj o' (by rw[C] at S; omega))
   (fun s W o B=>B.alloc o) (fun s W v B=>B.set v) I
   (fun x=>{ tmps:=#[Yi n,undef,Yi 0,.pointer w,Yi n,.bool true,.bool false,Yi n,.func (.func 238) #[] #[.pointer (some ⟨w.heap.size+1,0,none⟩)],Yb x,undef,undef,undef],defers:=[] }) ?assign ?body ?done
  case assign=>
   intro l x W K M;gi_wp2;simpa using M
  case body=>
   rintro l A0 x W S O B;have E:W.cell? w=some (Yi A0.length):=Zc B.cnt;have Y:W.frozen? w=false:=Lib.frozen_of_heap B.cnt 0;have Z:A0.length<10:=O.2.2;gi_wp2;obtain⟨v,hv⟩:=B.box;refine⟨KeepsOthers.setCell _ _ _,Below.heap_setCell W _ _ _ Zs,?_,?_,v,(Below.heap_setCell W _ _ _ Zs).trans hv⟩
   ·exact B.below.setCell (p:=⟨w.heap.size,0,none⟩) Zs _
   ·simp[World.setCell,Array.getElem?_modify,B.cnt]
  case done=>
   rintro D W R B M;rw[C] at R;have E:W.cell? w=some (Yi (Tn 10 n).length):=Zc B.cnt;have H:=Qf B;clear B;gi_wp2;refine⟨Zs,.inl ⟨_,_,rfl,run_takeDeferred M,?_⟩⟩;refine⟨_,results_tmp rfl _ _ _,?_,(H.o.putObj (.deferred none) R).below⟩;rw[T.o]; rfl
 ·have P:Cw.inR n=false:=Zu h;have F:Fg n=0:=if_neg h;have G:Qg (∀w:World,Qh 178 #[Yi n] w fun e w'=>e=.returned (.bool false)/\w=w'):=
   Qf (fun w=>by have:=kC n w; rwa[P] at this)
  rw[F];clear h P F;go_enter func195,ntmps195;go_wp2_with (go_at_call 178; refine(G.o _).mono ?_; rintro e w' ⟨rfl,rfl⟩);go_ret;exact⟨rfl,bf _⟩
end
set_option linter.unusedVariables false
theorem qN(n:Nat)(I:(n:Int)<=1099511627776)(w:World):Qh 152 #[Yi (n:Int)] w fun e w'=>e=.returned (Yi (((Cw.enc n).length+n:Nat):Int))/\Below w.heap.size w w':=by
 have B:=Qf (fun W=>KC (n:Int) W);have F:Fg (n:Int)=((Cw.enc n).length:Int):=by unfold Fg; rw[if_pos ((Cw.inR_iff _).2 ⟨Zo,I⟩)]; simp
 have H:=aG n;simp only[F] at B;obtain⟨k,D⟩:=Qe ((Cw.enc n).length);rw[<-D] at B H ⊢;obtain⟨m,E⟩:=Qe (k+n);have J:IntKind.i64.wrap ((k:Int)+(n:Int))=(m:Int):=by rw[ZV]; omega
 rw[<-E];clear F D E;go_enter func152,ntmps152;go_wp2_with fail;refine(B.o _).mono ?_;rintro e u ⟨rfl,C⟩;have G:=Qf C;clear C B;go_wp2;go_ret;exact⟨rfl,G.o⟩
theorem mr{b:Nat}{T:Qb}(n:Nat)(M:(n:Int)<=1099511627776)(h:BW w0 u0 b T w)(L:(T.length:Int)<=70368744177664):Qh 145 #[Yi (n:Int),.pointer b] w fun e w'=>e=.returned (.tuple #[])/\Qg (BW w0 u0 b (T++Cw.enc n) w'):=by
 have C:=Qf (oL (n:Int) Zo M w);simp only[aj] at C;have J:=aG n;have H:=Qf h;generalize Cw.enc n=E at C J ⊢;obtain⟨F,D⟩:=Yj L J;clear h;go_enter func145,ntmps145;go_wp2_with fail;refine C.o.mono ?_;rintro e u ⟨rfl,I⟩;have B:=Qf (H.o.below I);have K:=Qf (cz B.o E (by have:=F.o; have:=D.o; omega));clear I C H B;go_wp2_with fail;refine K.o.mono ?_;rintro e u2 ⟨rfl,G⟩;go_wp2;go_end0;exact⟨rfl,G⟩
theorem vE{b:Nat}{T:Qb}(S:Qb)(M:(S.length:Int)<=1099511627776)(h:BW w0 u0 b T w)(I:(T.length:Int)<=70368744177664)(K:w.cell? fb=some (.func (.func 145) #[] #[.pointer b])):Qh 146 #[S,.pointer fb,.pointer b] w fun e w'=>e=.returned (.tuple #[])/\Qg (BW w0 u0 b (T++(Cw.enc S.length++S)) w'):=by
 have D:=Qf (mr S.length M h I);have G:=bH S;have L:=aG S.length;have B:Qg (∀W,BW w0 u0 b (T++Cw.enc S.length) W->Qh 73 #[.pointer b,S] W fun e w'=>e=.returned (.tuple #[Yi S.length,.nilIface])/\Qg (BW w0 u0 b (T++Cw.enc S.length++S) w')):=Qf (fun W J=>cz J S (Zy af));rw[<-ay];generalize T++Cw.enc S.length=T2 at D B ⊢;generalize T2++S=T3 at B ⊢;obtain⟨n,C⟩:=Qe S.length;rw[<-C] at D B G;clear h L C;go_enter func146,ntmps146;go_wp2_with fail;refine D.o.mono ?_;rintro e u ⟨rfl,H⟩;have E:=Qf (B.o _ H.out);clear D B K;go_wp2_with fail;refine E.o.mono ?_;rintro e u2 ⟨rfl,F⟩;go_wp2;go_end0;exact⟨rfl,F⟩
open Go.RowKit
theorem EA{o:Dop}(h:mR o)(A:o.data.length<=65536):(mU o).length<=21*bS o:=by
 have B:=aG o.len;have C:=aG o.off;have D:=aG o.data.length;have E:=sF h;unfold mU;rw[af];by_cases e:0<o.len
 ·rw[if_pos ((gI h).2 e)]; omega
 ·rw[if_neg (fun c=>e ((gI h).1 c))];have:(putT o.data).1=Cw.enc o.data.length++o.data:=by unfold putT; rw[if_pos A]
  rw[this,af];have F:bS o=o.data.length:=by unfold bS; rw[if_neg e]
  omega
theorem Ez:∀{l:List Dop},(∀o∈l,mR o/\o.data.length<=65536)->(l.flatMap mU).length<=21*(l.map bS).sum
 | [],_=>Zs
 | o::l,h=>by
  have B:=EA (h o Zs).1 (h o Zs).2;have C:=Ez (l:=l) (fun x A=>h x (Zj A));rw[bR,af,eX,List.sum_cons];omega
theorem G9{o:Dop}:∀{l:List Dop},o∈l->bS o<=(l.map bS).sum
 | [],h=>by simp at h
 | x::l,h=>by
  rw[eX,List.sum_cons];rcases List.mem_cons.1 h with rfl | h
  ·omega
  ·have:=G9 h; omega
theorem Jt:∀o∈iM a b,bS o<=b.length:=fun o A=>by
 have h:=(uS a b).sum;have B:=G9 A;omega
theorem Et{o:Dop}(h:mR o):o.data.length<=bS o:=by
 unfold bS;rcases h with⟨B,A⟩ | ⟨B,A,C⟩
 ·rw[A]; simp
 ·rw[if_neg Zo]; omega
theorem yJ(G:a.length<=65536)(K:b.length<=3000):(AV (iM a b)).2=0/\(AV (iM a b)).1.length<=65536/\sK (AV (iM a b)).1=(iM a b,0)/\(iM a b).length<=3000:=by
 have A:=uS a b;have H:=xA (a:=a) (b:=b) (n:=65536) G Zo Zo;obtain⟨C,D⟩:=ED H;have E:=Ez (l:=iM a b) (fun o B=>⟨A.fit o B,by have:=Et (A.fit o B); have:=Jt o B; omega⟩);rw[A.sum] at E;have F:(iM a b).length<=((iM a b).map bS).sum:=by
  have:∀l:List Dop,(∀o∈l,mR o)->l.length<=(l.map bS).sum:=by
   intro l;induction l with
   | nil=>intro _; simp
   | cons o l ih=>
    intro h;have g1:=ih (fun x I=>h x (Zj I));have g2:=sF (h o Zs);rw[az,eX,List.sum_cons];omega
  exact this _ A.fit
 rw[A.sum] at F;have J:=aG (iM a b).length;refine⟨Zx C,?_,D,Zo⟩;rw[C];simp only[af];omega
abbrev Dg:=Int×Int
def xS(tx:Dg->Nat):List Dg->Nat->Option Dg->Option Dg
 | [],_,r=>r
 | c::cs,m,r=>if tx c<m then xS tx cs (tx c) (some c) else xS tx cs m r
def iL(tx:Dg->Nat):List Dg->Option (Dg×Nat)->Option (Dg×Nat)
 | [],r=>r
 | c::cs,none=>iL tx cs (some (c,tx c))
 | c::cs,some (b,k)=>if tx c<k then iL tx cs (some (c,tx c)) else iL tx cs (some (b,k))
def FN(n:Nat):Option (Dg×Nat)->Option Dg
 | none=>none
 | some (b,k)=>if n<=k+16 then none else some b
theorem kY{tx:Dg->Nat}{n:Nat}:∀(cs:List Dg) {m:Nat} {r:Option Dg} {p:Option (Dg×Nat)},
  (p=none/\m=n-16/\r=none)\/(∃b k,p=some (b,k)/\((k+16<n/\m=k/\r=some b)\/(n<=k+16/\m=n-16/\r=none)))->xS tx cs m r=FN n (iL tx cs p)
 | [],m,r,p,h=>by
  rcases h with⟨rfl,_,rfl⟩ | ⟨b,k,rfl,⟨A,_,rfl⟩ | ⟨A,_,rfl⟩⟩
  ·rfl
  ·simp only[xS,iL,FN]; rw[if_neg Zo]
  ·simp only[xS,iL,FN]; rw[if_pos A]
 | c::cs,m,r,p,h=>by
  rcases h with⟨rfl,A,rfl⟩ | ⟨b,k,rfl,⟨A,B,rfl⟩ | ⟨A,B,rfl⟩⟩
  ·rw[xS,iL];by_cases e:tx c<m
   ·rw[if_pos e];exact kY cs (.inr ⟨c,_,rfl,.inl ⟨Zo,rfl,rfl⟩⟩)
   ·rw[if_neg e];exact kY cs (.inr ⟨c,_,rfl,.inr ⟨Zo,A,rfl⟩⟩)
  ·rw[xS,iL];subst B;by_cases e:tx c<m
   ·rw[if_pos e,if_pos e];exact kY cs (.inr ⟨c,_,rfl,.inl ⟨Zo,rfl,rfl⟩⟩)
   ·rw[if_neg e,if_neg e];exact kY cs (.inr ⟨b,_,rfl,.inl ⟨A,rfl,rfl⟩⟩)
  ·rw[xS,iL];by_cases e:tx c<m
   ·rw[if_pos e,if_pos Zo];exact kY cs (.inr ⟨c,_,rfl,.inl ⟨Zo,rfl,rfl⟩⟩)
   ·rw[if_neg e];by_cases e2:tx c<k
    ·rw[if_pos e2];exact kY cs (.inr ⟨c,_,rfl,.inr ⟨Zo,B,rfl⟩⟩)
    ·rw[if_neg e2];exact kY cs (.inr ⟨b,_,rfl,.inr ⟨A,B,rfl⟩⟩)
theorem lQ{tx:Dg->Nat}(c:Dg):∀(cs:List Dg) (r:Option (Dg×Nat)),iL tx (cs++[c]) r=match iL tx cs r with
  | none=>some (c,tx c)
  | some (b,k)=>if tx c<k then some (c,tx c) else some (b,k)
 | [],none=>rfl
 | [],some (b,k)=>by simp[iL]
 | d::cs,none=>by rw[bz,iL,iL]; exact lQ c cs _
 | d::cs,some (b,k)=>by
  rw[bz,iL,iL];by_cases e:tx d<k
  ·rw[if_pos e,if_pos e]; exact lQ c cs _
  ·rw[if_neg e,if_neg e]; exact lQ c cs _
theorem lN{tx:Dg->Nat}:∀(cs:List Dg) (r:Option (Dg×Nat)),(∀b k,r=some (b,k)->k=tx b)->∀b k,iL tx cs r=some (b,k)->k=tx b/\(b∈cs\/r=some (b,k))
 | [],r,h,b,k,e=>⟨h b k e,.inr e⟩
 | c::cs,none,h,b,k,e=>by
  rw[iL] at e;obtain⟨B,A⟩:=lN cs _ (fun b k h=>by cases h; rfl) b k e;refine⟨B,.inl ?_⟩;rcases A with A | A
  ·exact pM _ A
  ·cases A; exact P9
 | c::cs,some (b0,k0),h,b,k,e=>by
  rw[iL] at e;by_cases e2:tx c<k0
  ·rw[if_pos e2] at e;obtain⟨B,A⟩:=lN cs _ (fun b k h=>by cases h; rfl) b k e;refine⟨B,.inl ?_⟩;rcases A with A | A
   ·exact pM _ A
   ·cases A; exact P9
  ·rw[if_neg e2] at e;obtain⟨B,A⟩:=lN cs _ h b k e;refine⟨B,?_⟩;rcases A with A | A
   ·exact .inl (pM _ A)
   ·exact .inr A
def gL(xs:List Itm)(d:Dg):Qb:=(De xs d).1
def txS(xs:List Itm)(d c:Dg):Qb:=fF (AV (iM (gL xs c) (gL xs d))).1
def QK(xs:List Itm)(d:Dg)(cs:List Dg):Option Dg:=xS (fun c=>(txS xs d c).length) cs ((fF (gL xs d)).length-16) none
theorem Dk(xs:List Itm)(d:Dg)(cs:List Dg):QK xs d cs=FN (fF (gL xs d)).length (iL (fun c=>(txS xs d c).length) cs none):=kY cs (.inl ⟨rfl,rfl,rfl⟩)
def Ph(xs:List Itm)(d:Dg)(o:Option Dg):Qb:=
 beD d++(match o with
  | none=>Cw.enc 0++fF (gL xs d)
  | some c=>Cw.enc 1++(beD c++txS xs d c))
def VU(xs:List Itm)(l base:List Dg)(i:Nat):Qb:=Ph xs (l.getD i (0,0)) (QK xs (l.getD i (0,0)) (base++l.take i))
def Ih(xs:List Itm)(l base:List Dg):Qb:=Cw.enc l.length++(List.range l.length).flatMap (VU xs l base)
def pkE(xs:List Itm):List Dg->List Dg->Int
 | [],_=>0
 | d::r,seen=>if I7 xs d=false then 8 else if d∈seen then 7 else pkE xs r (seen++[d])
def bsE(xs:List Itm)(l:List Dg):Int:=if l.all (I7 xs)=true then 0 else 8
def Cs(xs:List Itm)(l base:List Dg):Int:=if 1000<l.length then 4 else if pkE xs l []≠0 then pkE xs l [] else bsE xs base
def zP(xs:List Itm)(l base:List Dg):Qb×Int:=if Cs xs l base≠0 then([],Cs xs l base) else(BX (Ih xs l base),0)
structure Chc where
 sm:Bool
 b:Int×Int
 tx:Qb
 sz:Nat
def vJ(c:Chc):List Value:=[.bool c.sm,Yu c.b.1,Yu c.b.2,.string ⟨c.tx.toArray⟩,Yi (c.sz:Int)]
theorem IB:Lay vJ 5:=⟨Zd,fun _=>rfl,fun a v A=>by
 simp[vJ] at A;rcases A with rfl | rfl | rfl | rfl | rfl <;> rfl⟩
theorem LU{a:Qa}{l:List Chc}(h:GIn vJ 5 B W a l)(E:k<l.length):∃b F,a=some ⟨b,F,none⟩/\b<B/\W.cell? ⟨b,F+k*5,none⟩=some (.bool l[k].sm)/\W.cell? ⟨b,F+k*5+1,none⟩=some (Yu l[k].b.1)/\W.cell? ⟨b,F+k*5+2,none⟩=some (Yu l[k].b.2)/\W.cell? ⟨b,F+k*5+3,none⟩=some (.string ⟨l[k].tx.toArray⟩)/\W.cell? ⟨b,F+k*5+4,none⟩=some (Yi (l[k].sz:Int)):=by
 obtain⟨b,F,C,D,A⟩:=h k E;exact⟨b,F,C,D,A 0 _ rfl,A 1 _ rfl,A 2 _ rfl,A 3 _ rfl,A 4 _ rfl⟩
def yG(xs:List Itm)(d:Int×Int)(c:Chc):Qb:=beD d++(if c.sm=true then Cw.enc 1++(beD c.b++fF c.tx) else Cw.enc 0++fF (gL xs d))
def U7(xs:List Itm)(l:Qd)(ch:List Chc):Qb:=Cw.enc l.length++(l.zip ch).flatMap fun p=>yG xs p.1 p.2
structure ChOk (c:Chc):Prop where
 b:OkD c.b
 t:c.tx.length<=1000000
theorem LB{c:Chc}(F:c.tx.length<=1000000)(G:(gL xs d).length<=1000000):(yG xs d c).length<=1000100:=by
 have C:=aG 1;have B:=aG 0;have D:=aG c.tx.length;have E:=aG (gL xs d).length;have A:∀x,(beD x).length=16:=fun x=>by unfold beD; rw[af,bY,bY]
 unfold yG fF;split <;> simp only[af,A] <;> omega
theorem Er{α:Type}{f:α->Qb}{m:Nat}:∀(l:List α),(∀x∈l,(f x).length<=m)->(l.flatMap f).length<=l.length*m
 | [],_=>Zs
 | x::l,h=>by
  have B:=h x Zs;have C:=Er l (fun y A=>h y (Zj A));rw[bR,af,az,rM];omega
theorem xH{α β:Type}{l:List α}{m:List β}(A:k<l.length)(B:k<m.length):(l.zip m).take (k+1)=(l.zip m).take k++[(l[k],m[k])]:=by
 rw[ai (Zy List.length_zip),List.getElem_zip]
open Go Go.RowKit
theorem kS{F:Fence}{n:Nat}{P:Program}(w:World){ops:Array Oper}{rest:List Oper}{o:Oper}{a:Act}{Q:Exit->Act->World->Prop}(D:o.guard=none)(s x:Operand)(t tn:TypeId)
  (A:o.op=Op.call { callee:=Callee.builtin Builtin.append,args:=#[s,x],argTypes:=#[t,tn] }) (vs vx:Value) (hs:a.eval s=vs) (G:a.eval x=vx)
  (v':Value) (w':World) (E:(Builtin.append_ #[t,tn] o.type #[vs,vx]).run P w=.ok v' w') (h:wpListIn F n P ops Q rest (a.put o.dst v') w'):wpListIn F n P ops Q (o::rest) a w:=by
 refine wpListIn_plain D fun K B=>?_
 unfold Oper.wpIn;refine⟨?_,?_⟩
 ·simp[Oper.about,A,resolve,Target.leads,Sem.run_pure]
 ·rw[Oper.semAt_plain F _ _ (by rw[A]; intro c C; cases C)];simp[execOp,A,resolve,invoke,builtin,hs,G,E,Result.andThen];exact B _ _ h
section
variable {F:Fence} {n:Nat} {P:Program}
def uf(ops:Array Oper):Bool:=ops.all fun o=>match o.op with | .defer _=>false | _=>true
theorem FR(h:uf ops=true){o:Oper}(B:ops[i]? = some o):∀c,o.op≠.defer c:=fun c e=>by
 unfold uf at h;rw[Array.all_eq_true] at h;obtain⟨A,rfl⟩:=Array.getElem?_eq_some_iff.1 B;have:=h i A;rw[e] at this;cases this
theorem Fu{r:String}{args:Array Value}{R:Value->World->Prop}(l:Nat)(h:Rows P r args w R):RowsIn (Fence.wide.inRound l) n P r args w R:=fun c cs _=>by
 obtain⟨v,w',A,B⟩:=h c cs;exact⟨v,w',A,stepsIn_wide.2 B⟩
theorem iA{Q:Exit->Act->World->Prop}{ops:Array Oper}(lp:Nat)(B:uf ops=true)(A:¬LetsOut Q):∀(l:List Nat) (a:Act) (w:World),wpOps P ops Q l a w->wpOpsIn (Fence.wide.inRound lp) n P ops Q l a w
 | [],a,w,h=>h
 | i::rest,a,w,h=>by
  rw[wpOps_cons] at h;unfold wpOp at h;cases D:ops[i]? with
  | none=>
   rw[D] at h;simp only[wpOpsIn,D];exact iA lp B A rest a w h
  | some o=>
   rw[D] at h;simp only[wpOpsIn,D];simp only at h;by_cases F:Region.wanted o (yielded ops a.tmps)=true
   ·rw[if_pos F] at h ⊢;rcases h with h | ⟨_,h⟩
    ·refine⟨fun _ _=>trivial,?_⟩;rw[Oper.semAt_plain _ _ _ (FR B D)];unfold Oper.wp at h;generalize (execOp a.eval o).run P w=r at h;cases r with
     | ok x w'=>
      cases x with
      | value v=>exact iA lp B A rest _ _ h
      | skip=>exact iA lp B A rest _ _ h
      | defer d=>exact iA lp B A rest _ _ h
      | enter f args=>
       refine⟨fun E=>(by cases E),(CallsIn.inRound lp (callsIn_wide.2 h)).mono ?_⟩;intro e G C;cases e with
       | returned u=>exact iA lp B A rest _ _ C
       | panicked c=>exact C
       | outgrown=>exact C
      | row r args=>
       refine⟨fun E=>(by cases E),Fu lp (Rows.mono h (fun u G C=>iA lp B A rest _ _ C))⟩
      | _=>exact h.elim
     | halt x w'=>cases x <;> first | exact h | exact h.elim
    ·exact absurd h A
   ·rw[if_neg F] at h ⊢;exact⟨fun _ _=>trivial,iA lp B A rest _ _ h⟩
theorem zy{id:Nat}{a:Act}(lp:Nat)(B:uf ops=true)(A:¬LetsOut Q)(C:P.follows .mixedOrders=true)(h:wpAny P .any ops Q ops.size (Array.replicate ops.size false) a w.drew):
  (Code.region id ops true).wpIn (Fence.wide.inRound lp) n P Q a w:=
 wpIn_region_draw fun t=>iA lp B A _ _ _ (by
  simp only[Region.schedule,C,Bool.true_or,if_true];exact wpAny_sound ops.size t _ a _ h)
theorem eZ{S:World->Prop}{id:Nat}{a:Act}(ts:List Nat)(lp:Nat)(B:uf ops=true)(A:¬LetsOut Q)(E:P.follows .mixedOrders=true)(C:S w.drew)(h:S w.drew->Du P .any ops Q S ts ops.size (Array.replicate ops.size false) a w.drew):
  (Code.region id ops true).wpIn (Fence.wide.inRound lp) n P Q a w:=
 zy lp B A E (yV _ _ _ _ (h C (fun j o F D=>by
  have G:=Au _ _ D;have H:=(Array.getElem?_eq_some_iff.1 F).1
  omega)))
def ku(o:Obj):Prop:=∀c f,o≠.cells c 5 f
structure cO (K:Nat->Prop) (w w':World):Prop where
 os:w'.os=w.os
 tape:w'.tape=w.tape
 output:w'.output=w.output
 size:w.heap.size<=w'.heap.size
 block:∀k,K k->w'.heap[k]? = w.heap[k]?
theorem cO.refl(K:Nat->Prop)(w:World):cO K w w:=⟨rfl,rfl,rfl,nr,fun _ _=>rfl⟩
theorem cO.trans{a b c:World}(h:cO K a b)(g:cO K b c):cO K a c:=⟨g.os.trans h.os,g.tape.trans h.tape,g.output.trans h.output,aC h.size g.size,fun k A=>(g.block k A).trans (h.block k A)⟩
theorem cO.of_below(A:Below m w w')(h:∀k,K k->k<m):cO K w w':=⟨A.os,A.tape,A.output,A.size,fun k B=>A.block k (h k B)⟩
theorem cO.to_below(A:cO K w w')(h:∀k,k<m->K k):Below m w w':=⟨A.os,A.tape,A.output,A.size,fun k B=>A.block k (h k B)⟩
theorem cO.put{l:Nat}(h:cO K W W')(B:¬K l):cO K W (W'.putObj l o):=
 h.trans ⟨rfl,rfl,rfl,Zs,fun k A=>World.putObj_heap_other (fun e=>B (e▸A))⟩
def wD{α:Type}(K:Nat->Prop)(bid:Nat)(I:List α->World->Prop)(Z:World->Prop)(xs:List α)(W0 Wy W:World):Exit->Act->World->Prop
 | .normal,_,W'=>KeepsOthers W W'/\cO K W W'/\(∀k o,W0.heap.size<=k->k<Wy.heap.size->W.heap[k]? = some o->ku o->W'.heap[k]? = some o)/\I xs W'
 | .exit i,_,W'=>i=bid/\KeepsOthers W W'/\cO K W W'/\(∀k o,W0.heap.size<=k->k<Wy.heap.size->W.heap[k]? = some o->ku o->W'.heap[k]? = some o)/\Z W'
 | _,_,_=>False
def Pp{α:Type}(F:Fence)(m:Nat)(P:Program)(l:Nat)(K:Nat->Prop)(enc:α->Value)(ok:List α->α->Prop)(J:List α->World->Prop)(Y:World->Prop):Prop:=
 ∀pre x W0 W,ok pre x->J pre W0->Below W0.heap.size W0 W->YieldAt F m P l #[enc x] W fun e W'=>cO K W W'/\(∀k o,W0.heap.size<=k->k<W.heap.size->W.heap[k]? = some o->ku o->W'.heap[k]? = some o)/\((e=.returned (.bool true)/\J (pre++[x]) W')\/(e=.returned (.bool false)/\Y W'))
def lH(I:World->Prop):Prop:=∀W W',I W->Below W.heap.size W W'->I W'
def yX{α:Type}(F:Fence)(m:Nat)(P:Program)(gf:FuncId)(lb:Array Value)(K:Nat->Prop)(enc:α->Value)(ok:List α->α->Prop)(xs:List α)(w:World):Prop:=
 ∀(l:Nat) (J:List α->World->Prop) (Y:World->Prop),(∀s,lH (J s))->lH Y->Pp F (m-1) P l K enc ok J Y->
  ∀W,Below w.heap.size w W->J [] W->CallsIn F m P gf (#[.func (.yield l) #[] #[]]++lb) W fun e W'=>(∃v,e=.returned v)/\(J xs W'\/Y W')
theorem vD{l:Nat}(h:Below B W W')(C:B<=l):Below B W (W'.putObj l o):=
 h.trans ⟨rfl,rfl,rfl,Zs,fun k A=>World.putObj_heap_other Zo⟩
theorem Gy{l:Nat}(h:Below n W W')(B:l<W.heap.size):Below n (W.putObj l o) (W'.putObj l o):=by
 have hs:=h.size;refine⟨h.os,h.tape,h.output,Zu hs,fun k A=>?_⟩;by_cases e:k=l
 ·subst e;rw[World.putObj_heap_same Zo,World.putObj_heap_same B]
 ·rw[World.putObj_heap_other e,World.putObj_heap_other e];exact h.block k A
theorem mZ{α:Type}{g:Operand}{ps:Array Tmp}{assign body:Code}{Q:Exit->Act->World->Prop}{a:Act}{w:World}
  (D5:F.round=none) (h1:1<=n) {gf:Nat} {lb:Array Value} (hg:a.eval g=.func (.func gf) #[] lb) (B9:F.fn gf) (eg:∀args w,(callFunc gf args).run P w=.ok (.enter gf args) w)
  {enc:α->Value} {ok:List α->α->Prop} {xs:List α} {K:Nat->Prop} (hK:∀k,K k->k<w.heap.size) (A1:yX F (n-1) P gf lb K enc ok xs w)
  (D4:ps.size=1) (I:List α->World->Prop) (Z:World->Prop) (bid:Nat) (A7:∀s,lH (I s)) (C4:lH Z)
  (U:∀s W l o o',w.heap.size<=l->W.heap[l]? = some o->o.isCells=false->I s W->I s (W.putObj l o'))
  (A8:∀W l o o',w.heap.size<=l->W.heap[l]? = some o->o.isCells=false->Z W->Z (W.putObj l o'))
  (h0:I [] w) (Bx:α->World->Act->World->Prop)
  (B7:∀x Wy a W l o o',w.heap.size<=l->W.heap[l]? = some o->o.isCells=false->Bx x Wy a W->Bx x Wy a (W.putObj l o'))
  (M:∀(l:Nat) (x:α) (W:World),assign.wpIn (F.inRound l) (n-1-1) P (Exit.then (fun a1 W1=>Bx x W a1 W1/\Below W.heap.size W W1) (fun _ _ _=>False)) { tmps:=(ps.zip #[enc x]).foldl (fun t (p,v)=>t.setIfInBounds p v) a.tmps,defers:=[] } W)
  (X:∀(l:Nat) (B5:List α) (x:α) (W0 Wy W:World) (a1:Act),w.heap.size<=l->ok B5 x->I B5 W0->Below W0.heap.size W0 W->W0.heap.size<=Wy.heap.size->Wy.heap.size<=W.heap.size->Bx x Wy a1 W->body.wpIn (F.inRound l) (n-1-1) P (wD K bid I Z (B5++[x]) W0 Wy W) a1 W)
  (Y:∀(D:Nat) (W:World),w.heap.size<=D->I xs W->W.heap[D]? = some (.deferred (some []))->Q .normal { a with defers:={ target:=.collected D,args:=#[] }::a.defers } W)
  (O:∀(D:Nat) (W:World),w.heap.size<=D->Z W->W.heap[D]? = some (.deferred (some []))->(Code.exit bid).wpIn F n P Q { a with defers:={ target:=.collected D,args:=#[] }::a.defers } W) :
  (Code.rangeFunc g ps assign body).wpIn F n P Q a w:=by
 refine wpIn_rangeFunc ?_;intro fn C8;rw[D5];obtain⟨A6,A⟩:∃A6:LoopState->Option Code->Loop,A6=fun st pe=>{ state:=st,pending:=pe,fn,tmps:=a.tmps,params:=ps,assign,body,defers:=w.heap.size }:=⟨_,rfl⟩
 obtain⟨W1,N⟩:∃W1,(w.alloc (.deferred (some []))).alloc (.loop (A6 .ready none))=W1:=⟨_,rfl⟩;have C3:W1.heap[w.heap.size+1]? = some (.loop (A6 .ready none)):=by
  rw[<-N]; have:=World.alloc_heap_new (w.alloc (.deferred (some []))) (.loop (A6 .ready none)); rwa[World.size_alloc] at this
 have C2:W1.heap[w.heap.size]? = some (.deferred (some [])):=by
  rw[<-N]; exact(Below.heap_alloc _ _ _ Zs).trans (World.alloc_heap_new w _)
 have A9:Below w.heap.size w W1:=N▸((bf _).alloc nr _).alloc (by simp) _;have C0:I [] W1:=A7 _ _ _ h0 A9;refine⟨w.heap.size+1,[{ target:=.collected w.heap.size,args:=#[] }],W1,{ target:=.fn (.func gf) lb,args:=#[.func (.yield (w.heap.size+1)) #[] #[]] },W1,gf,
  #[.func (.yield (w.heap.size+1)) #[] #[]]++lb,W1,?_,?_,?_,?_,fun _=>h1,?_⟩
 ·rw[<-N,A]; exact run_enterLoop_outer _ _ _ _ _
 ·simp only[resolve,hg];simp[go_sem]
 ·intro f' B0; simp[Target.leads] at B0; subst B0; exact B9
 ·simp[invoke,go_sem,eg]
 ·have C:∀{W W':World} {k:Nat} {o:Obj},Below W.heap.size W W'->W.heap[k]? = some o->W'.heap[k]? = some o:=fun E H=>(E.block _ (Array.getElem?_eq_some_iff.1 H).1).trans H
  refine(A1 (w.heap.size+1)
   (fun B5 W=>I B5 W/\W.heap[w.heap.size+1]? = some (.loop (A6 .ready none))/\W.heap[w.heap.size]? = some (.deferred (some [])))
   (fun W=>Z W/\W.heap[w.heap.size+1]? = some (.loop (A6 .done (some (.exit bid))))/\W.heap[w.heap.size]? = some (.deferred (some [])))
   (fun s W W' hs E=>⟨A7 _ _ _ hs.1 E,C E hs.2.1,C E hs.2.2⟩) (fun W W' hs E=>⟨C4 _ _ hs.1 E,C E hs.2.1,C E hs.2.2⟩) ?_ W1 A9 ⟨C0,C3,C2⟩).mono ?_
  ·rintro B5 x W0 W D3 ⟨R,A3,D0⟩ E;have T:=C E A3;have H:=C E D0;have B3:w.heap.size+1<W0.heap.size:=(Array.getElem?_eq_some_iff.1 A3).1;have hy:=run_yield (P:=P) (args:=#[enc x]) T (by rw[A]; simp[D4]);rw[A] at hy;refine⟨fn,_,assign,body,hy,roundIn_of_wpIn C8 (wpIn_mono (M _ x W) ?_)⟩;rintro e a1 Wa hp;cases e with
   | normal=>
    obtain⟨B8,J⟩:=hp;have A4:=C J T;have D1:=C J H;refine⟨_,run_beginRound A4 (Zx A),?_⟩;have B4:w.heap.size+1<Wa.heap.size:=(Array.getElem?_eq_some_iff.1 A4).1;have B2:(Wa.putObj (w.heap.size+1) (.loop { A6 .ready none with state:=.busy })).heap[w.heap.size+1]? = some (.loop { A6 .ready none with state:=.busy }):=World.putObj_heap_same B4;have B1:(Wa.putObj (w.heap.size+1) (.loop { A6 .ready none with state:=.busy })).heap[w.heap.size]? = some (.deferred (some [])):=(World.putObj_heap_other Zo).trans D1;have C5:Below W0.heap.size W0 Wa:=E.trans (J.mono E.size);have C9:=U _ _ _ _ (.loop { A6 .ready none with state:=.busy }) Zo A3 rfl R;have C6:=Gy (o:=.loop { A6 .ready none with state:=.busy }) C5 B3;have A5:(W0.putObj (w.heap.size+1) (.loop { A6 .ready none with state:=.busy })).heap.size=W0.heap.size:=Zs;have D6:(Wa.putObj (w.heap.size+1) (.loop { A6 .ready none with state:=.busy })).heap.size=Wa.heap.size:=Zs;refine wpIn_mono (X _ B5 x _ W _ a1 Zo D3 C9 (A5▸C6) (A5▸E.size) (D6▸J.size) (B7 _ _ _ _ _ _ _ Zo A4 rfl B8)) ?_;rintro e a3 W3 L;have S:∀(o:Obj),cO K (Wa.putObj (w.heap.size+1) (.loop { A6 .ready none with state:=.busy })) W3->(∀k o,(W0.putObj (w.heap.size+1) (.loop { A6 .ready none with state:=.busy })).heap.size<=k->k<W.heap.size->(Wa.putObj (w.heap.size+1) (.loop { A6 .ready none with state:=.busy })).heap[k]? = some o->ku o->W3.heap[k]? = some o)->
      cO K W (W3.putObj (w.heap.size+1) o)/\∀k x,W0.heap.size<=k->k<W.heap.size->W.heap[k]? = some x->ku x->(W3.putObj (w.heap.size+1) o).heap[k]? = some x:=fun o C7 G=>by
     refine⟨((((cO.of_below J (fun k H=>by have:=E.size; have:=hK k H; omega)).put (fun H=>Zh (hK _ H))).trans C7).put (fun H=>Zh (hK _ H))),fun k x h1 h2 hx D2=>?_⟩;rw[World.putObj_heap_other Zo];exact G k x (A5▸h1) h2 (by rw[World.putObj_heap_other Zo,J.block k h2]; exact hx) D2
    cases e with
    | normal=>
     obtain⟨G,V,A2,A0⟩:=L;have B:=G.same _ _ B2 rfl;have hr:=run_endRound (P:=P) none B;rw[A] at hr B ⊢;obtain⟨g1,g2⟩:=S (.loop { state:=.ready,pending:=none,fn,tmps:=a.tmps,params:=ps,assign,body,defers:=w.heap.size }) V A2;exact⟨_,_,hr,g1,g2,.inl ⟨rfl,U _ _ _ _ _ Zo B rfl A0,World.putObj_heap_same (Array.getElem?_eq_some_iff.1 B).1,(World.putObj_heap_other Zo).trans (G.same _ _ B1 rfl)⟩⟩
    | exit i=>
     obtain⟨rfl,G,V,A2,A0⟩:=L;have B:=G.same _ _ B2 rfl;have hr:=run_endRound (P:=P) (some (.exit i)) B;rw[A] at hr B ⊢;obtain⟨g1,g2⟩:=S (.loop { state:=.done,pending:=some (.exit i),fn,tmps:=a.tmps,params:=ps,assign,body,defers:=w.heap.size }) V A2;exact⟨_,_,hr,g1,g2,.inr ⟨rfl,A8 _ _ _ _ Zo B rfl A0,World.putObj_heap_same (Array.getElem?_eq_some_iff.1 B).1,(World.putObj_heap_other Zo).trans (G.same _ _ B1 rfl)⟩⟩
    | ret=>exact L.elim
    | goto t=>exact L.elim
    | panic ch=>exact L.elim
    | outgrown=>exact L.elim
   | ret=>exact hp.elim
   | exit i=>exact hp.elim
   | goto t=>exact hp.elim
   | panic ch=>exact hp.elim
   | outgrown=>exact hp.elim
  ·rintro e W2 ⟨⟨v,rfl⟩,R | R⟩
   ·obtain⟨R,T,H⟩:=R;exact⟨none,_,by have:=run_endLoop (P:=P) T (Zn A); rw[A] at this; exact this,Y _ _ nr (U _ _ _ _ _ Zo T rfl R) ((World.putObj_heap_other Zo).trans H)⟩
   ·obtain⟨R,T,H⟩:=R;exact⟨some (.exit bid),_,by have:=run_endLoop (P:=P) T (Zn A); rw[A] at this; exact this,O _ _ nr (A8 _ _ _ _ Zo T rfl R) ((World.putObj_heap_other Zo).trans H)⟩
theorem MN(p:Tmp)(v:Value)(t:Array Value):(#[p].zip #[v]).foldl (fun t (p,v)=>t.setIfInBounds p v) t=t.setIfInBounds p v:=Zs
theorem ji{α:Type}{g:Operand}{p bs:Tmp}{assign body:Code}{Q:Exit->Act->World->Prop}{a:Act}{w:World}(T:TypeId)(cs:α->Array Value)
  (V:F.round=none) (M:1<=n) {gf:Nat} {lb:Array Value} (hg:a.eval g=.func (.func gf) #[] lb) (N:F.fn gf) (eg:∀args w,(callFunc gf args).run P w=.ok (.enter gf args) w)
  {enc:α->Value} {ok:List α->α->Prop} {xs:List α} {K:Nat->Prop} (hK:∀k,K k->k<w.heap.size) (G:yX F (n-1) P gf lb K enc ok xs w)
  (I:List α->World->Prop) (Z:World->Prop) (bid:Nat) (O:∀s,lH (I s)) (S:lH Z)
  (R:∀s W l o o',w.heap.size<=l->W.heap[l]? = some o->o.isCells=false->I s W->I s (W.putObj l o'))
  (U:∀W l o o',w.heap.size<=l->W.heap[l]? = some o->o.isCells=false->Z W->Z (W.putObj l o'))
  (Y:I [] w)
  (A:∀(l:Nat) (x:α) (W:World),assign.wpIn (F.inRound l) (n-1-1) P (Exit.then (fun a1 W1=>a1={ tmps:=(a.tmps.setIfInBounds p (enc x)).setIfInBounds bs (.pointer W),defers:=[] }/\W1=W.alloc (.cells (cs x) T)) (fun _ _ _=>False)) { tmps:=a.tmps.setIfInBounds p (enc x),defers:=[] } W)
  (C:∀(l:Nat) (A0:List α) (x:α) (W0 Wy W:World),w.heap.size<=l->ok A0 x->I A0 W0->Below W0.heap.size W0 W->W0.heap.size<=Wy.heap.size->Wy.heap.size<=W.heap.size->W.heap[Wy.heap.size]? = some (.cells (cs x) T (0,0))->
   body.wpIn (F.inRound l) (n-1-1) P (wD K bid I Z (A0++[x]) W0 Wy W) { tmps:=(a.tmps.setIfInBounds p (enc x)).setIfInBounds bs (.pointer Wy),defers:=[] } W)
  (E:∀(D:Nat) (W:World),w.heap.size<=D->I xs W->W.heap[D]? = some (.deferred (some []))->Q .normal { a with defers:={ target:=.collected D,args:=#[] }::a.defers } W)
  (B:∀(D:Nat) (W:World),w.heap.size<=D->Z W->W.heap[D]? = some (.deferred (some []))->(Code.exit bid).wpIn F n P Q { a with defers:={ target:=.collected D,args:=#[] }::a.defers } W) :
  (Code.rangeFunc g #[p] assign body).wpIn F n P Q a w:=by
 refine mZ V M hg N eg hK G rfl I Z bid O S R U Y
  (fun x Wy a1 W=>a1={ tmps:=(a.tmps.setIfInBounds p (enc x)).setIfInBounds bs (.pointer Wy),defers:=[] }/\W.heap[Wy.heap.size]? = some (.cells (cs x) T (0,0)))
  (fun x Wy a1 W l o o' hl J ho L=>⟨L.1,(World.putObj_heap_other (fun e=>?_)).trans L.2⟩) (fun l x W=>?_) (fun l A0 x W0 Wy W a1 M h2 h3 h4 h5 h6 L=>?_) E B
 ·rw[<-e,L.2] at J;cases J; cases ho
 ·rw[MN];refine wpIn_mono (A l x W) ?_;rintro e a1 W1 H;cases e with
  | normal=>
   obtain⟨rfl,rfl⟩:=H;exact⟨⟨rfl,World.alloc_heap_new _ _⟩,(bf _).alloc nr _⟩
  | ret=>exact H.elim
  | exit i=>exact H.elim
  | goto t=>exact H.elim
  | panic ch=>exact H.elim
  | outgrown=>exact H.elim
 ·obtain⟨rfl,X⟩:=L;exact C l A0 x W0 Wy W M h2 h3 h4 h5 h6 X
theorem nX{α:Type}{g:Operand}{p bs:Tmp}{assign body:Code}{Q:Exit->Act->World->Prop}{a:Act}{w:World}(T:TypeId)(cs:α->Array Value)
  (S:F.round=none) (V:1<=n) {gf:Nat} {lb:Array Value} (hg:a.eval g=.func (.func gf) #[] lb) (H:F.fn gf) (eg:∀args w,(callFunc gf args).run P w=.ok (.enter gf args) w)
  {enc:α->Value} {ok:List α->α->Prop} {xs:List α} {K:Nat->Prop} (Y:∀k,K k->k<w.heap.size) (E:yX F (n-1) P gf lb K enc ok xs w)
  (I:List α->World->Prop) (Z:World->Prop) (bid:Nat) (L:∀s,lH (I s)) (N:lH Z)
  (M:∀s W l o o',w.heap.size<=l->W.heap[l]? = some o->o.isCells=false->I s W->I s (W.putObj l o'))
  (O:∀W l o o',w.heap.size<=l->W.heap[l]? = some o->o.isCells=false->Z W->Z (W.putObj l o'))
  (U:I [] w) (J:∀W,I xs W->Z W)
  (A:∀(l:Nat) (x:α) (W:World),assign.wpIn (F.inRound l) (n-1-1) P (Exit.then (fun a1 W1=>a1={ tmps:=(a.tmps.setIfInBounds p (enc x)).setIfInBounds bs (.pointer W),defers:=[] }/\W1=W.alloc (.cells (cs x) T)) (fun _ _ _=>False)) { tmps:=a.tmps.setIfInBounds p (enc x),defers:=[] } W)
  (C:∀(l:Nat) (A0:List α) (x:α) (W0 Wy W:World),w.heap.size<=l->ok A0 x->I A0 W0->Below W0.heap.size W0 W->W0.heap.size<=Wy.heap.size->Wy.heap.size<=W.heap.size->W.heap[Wy.heap.size]? = some (.cells (cs x) T (0,0))->
   body.wpIn (F.inRound l) (n-1-1) P (wD K bid I Z (A0++[x]) W0 Wy W) { tmps:=(a.tmps.setIfInBounds p (enc x)).setIfInBounds bs (.pointer Wy),defers:=[] } W)
  (B:∀(D:Nat) (W:World),w.heap.size<=D->Z W->W.heap[D]? = some (.deferred (some []))->Q .normal { a with defers:={ target:=.collected D,args:=#[] }::a.defers } W) :
  (Code.rangeFunc g #[p] assign body).wpIn F n P (Exit.inBlock bid Q) a w:=
 ji T cs S V hg H eg Y E I Z bid L N M O U A C (fun D W G X R=>B D W G (J W X) R)
  (fun D W G hZ R=>wpIn_exit (by show(if bid=bid then _ else _); rw[if_pos rfl]; exact B D W G hZ R))
end
section
attribute [local go_sem] Oper.semAt_some
theorem fT.below_lt{α:Type}{G:N8 α}{b:Nat}{F:α->Option Value}(h:fT G b n F W)(I:Below B W W')(A:b<B):fT G b n F W':=by
 obtain⟨D,⟨es,J,C,E⟩,H⟩:=h;exact⟨D,⟨es,J,(I.block b A).trans C,E⟩,H⟩
def GN(xs:List Itm)(d:Int×Int):Option Value:=(xs.find? (fun x=>decide (x.d=d))).map fun x=>.string ⟨x.data.toArray⟩
theorem sM(xs:List Itm)(d:Int×Int):(GN xs d).getD (.string ⟨#[]⟩)=.string ⟨(gL xs d).toArray⟩:=by
 unfold GN gL De;cases xs.find? (fun x=>decide (x.d=d)) <;> rfl
theorem xI(W:World):(zeroValue 9).run prog W=.ok (.string ⟨#[]⟩) W:=Zk
abbrev Cd:=(Int×Int)×Nat
def JM(xs:List Itm)(x:Cd):Value:=.agg #[Yu x.1.1,Yu x.1.2,(gL xs x.1),Yi (x.2:Int)]
def cdCs(xs:List Itm)(x:Cd):Array Value:=#[Yu x.1.1,Yu x.1.2,(gL xs x.1),Yi (x.2:Int)]
def dU:Qd->Nat->List Cd
 | [],_=>[]
 | d::l,k=>(d,k+1)::dU l (k+1)
def vB(l base:Qd):List Cd:=base.map (fun d=>(d,0))++dU l 0
theorem qD:∀(l:Qd) (d:Int×Int) (k:Nat),dU (l++[d]) k=dU l k++[(d,k+l.length+1)]
 | [],d,k=>by simp[dU]
 | x::l,d,k=>by
  rw[bz,dU,dU,qD l d (k+1),az,bz];rw[show k+1+l.length+1=k+(l.length+1)+1 by omega]
def okC(xs:List Cd)(pre:List Cd)(x:Cd):Prop:=(pre++[x]) <+: xs
structure Mj (xs:List Itm) (l base:Qd) (K:Nat->Prop) (B bb db lb mb n:Nat) (ba la:Qa) (bc lc:Nat) (W:World):Prop where
 bx:W.cell? bb=some (.slice ba base.length bc)
 dx:W.cell? db=some (.map (some mb))
 lx:W.cell? lb=some (.slice la l.length lc)
 bd:dE B W ba base
 ld:dE B W la l
 mp:fT vH mb n (GN xs) W
 okb:∀d∈base,OkD d
 okl:∀d∈l,OkD d
 kb:K bb/\K db/\K lb/\K mb
 kB:∀k,k<B->K k
theorem Dm(A:cO K W W'){p:Addr}(B:K p.block):W'.cell? p=W.cell? p:=World.cell?_of_block (w:=W) (A.block p.block B)
theorem fT.on{α:Type}{G:N8 α}{b:Nat}{F:α->Option Value}(h:fT G b n F W)(E:cO K W W')(H:K b):fT G b n F W':=by
 obtain⟨D,⟨es,I,A,B⟩,C⟩:=h;exact⟨D,⟨es,I,(E.block b H).trans A,B⟩,C⟩
theorem Mj.kept(h:Mj xs l base K B bb db lb mb n ba la bc lc W)(A:cO K W W'):Mj xs l base K B bb db lb mb n ba la bc lc W':=
 ⟨(Dm A h.kb.1).trans h.bx,(Dm A h.kb.2.1).trans h.dx,(Dm A h.kb.2.2.1).trans h.lx,h.bd.below (A.to_below h.kB) nr,h.ld.below (A.to_below h.kB) nr,h.mp.on A h.kb.2.2.2,h.okb,h.okl,h.kb,h.kB⟩
theorem Mj.look(h:Mj xs l base K B bb db lb mb n ba la bc lc W){x y:Int}(C:OkD (x,y)):(Instr.lookup 138 (.map (some mb)) (.agg #[Yu x,Yu y]) false).run prog W=.ok (.string ⟨(gL xs (x,y)).toArray⟩) W:=by
 have:=h.mp.look underlying138 (xI W) (a:=(x,y)) C;rw[sM] at this;exact this
theorem sV{e:Ending}{P Q:Prop}(h:(e=.returned (.bool true)/\P)\/(e=.returned (.bool false)/\Q)):∃b,e=.returned (.bool b)/\((b=true/\P)\/(b=false/\Q)):=by
 rcases h with⟨rfl,h⟩ | ⟨rfl,h⟩
 ·exact⟨true,rfl,.inl ⟨rfl,h⟩⟩
 ·exact⟨false,rfl,.inr ⟨rfl,h⟩⟩
theorem JN(hd:Mj xs l base K B bb db lb mb n ba la bc lc w)(hK:∀k,K k->k<w.heap.size)(D2:(l.length:Int)<=1000000)(C8:(base.length:Int)<=1000000)(m:Nat)(hm:1<=m):
  yX Fence.wide m prog 185 #[.pointer bb,.pointer db,.pointer lb] K (JM xs) (okC (vB l base)) (vB l base) w:=by
 intro lp J Y hJ hY C1 W B1 h0;refine callsIn_of_wp func185 rfl trivial ?_ rfl;simp only[ntmps185,nU,az,aK,Nat.reduceAdd,Nat.reduceSub,jg,je,nV,jT,aY,bz];obtain⟨HJ,B9,HK,A2⟩:=Yl hJ C1 hK (hd.kept (cO.of_below B1 hK));have C:Qg (w.heap.size<=W.heap.size):=Qf B1.size;have H0:=Qf h0;obtain⟨nb,Z⟩:=Qe base.length;obtain⟨nl,B5⟩:=Qe l.length;have B7:Qg (nb=base.length):=Qf Z;have A5:Qg (nl=l.length):=Qf B5;rw[<-Z] at C8;rw[<-B5] at D2;have C9:=A2.o.bx;rw[<-Z] at C9;clear hJ C1 hd B1 h0 Z B5;gi_wp2;gi_loopw [11] (fun i wr=>∃(k:Nat),i=Yi (k:Int)/\k<=nb/\Qg (J ((base.take k).map fun d=>(d,0)) wr)/\Qg (Mj xs l base K B bb db lb mb n ba la bc lc wr)/\Qg (w.heap.size<=wr.heap.size)) (fun i _=>nb-(intOf i).toNat)
 case atStart=>exact⟨0,rfl,Zo,H0,A2,C⟩
 clear H0 A2 C;obtain⟨k,rfl,hk,E,I,C⟩:=hrel;by_cases D3:k<nb
 ·have D1:(k:Int)<(nb:Int):=Zo;have B4:k<base.length:=B7.o▸D3;obtain⟨b0,o0,B0,C7,q0,q1⟩:=I.out.bd k B4;have U:=I.out.okb _ (ak B4);have G:(base.take (k+1)).map (fun d=>((d,0):Cd))=(base.take k).map (fun d=>((d,0):Cd))++[(base[k],0)]:=by rw[ai B4,dJ]; rfl
  have N:((base.take k).map (fun d=>((d,0):Cd))++[(base[k],0)]) <+: vB l base:=by
   rw[<-G];refine⟨(base.drop (k+1)).map (fun d=>((d,0):Cd))++dU l 0,?_⟩;unfold vB;rw[<-ay,<-dJ,aQ]
  generalize base[k]=d at *
  obtain⟨x,y⟩:=d;simp only at q0 q1;obtain⟨v,V⟩:=Qe (wr.alloc (.cells #[Yu x,Yu y] 54));have D:Below wr.heap.size wr v.drew:=V▸((bf _).alloc nr _).drew;have S:BK wr.heap.size #[Yu x,Yu y] 54 v.drew:=by
   have:BK wr.heap.size #[Yu x,Yu y] 54 v:=V▸BK.new _ _ _;exact this
  have M:=I.out.kept (cO.of_below D (fun k hk=>aO (HK.o k hk) C.o));have T:=M.look U;have Q:=M.dx;obtain⟨fn,A7,A0,A1,hy,hR⟩:=B9.o _ ((x,y),0) wr v.drew N E.out D;simp only[JM] at hy;rw[show((0:Nat):Int)=0 from rfl] at hy;obtain⟨c0,c1⟩:=BK.c2 S;obtain⟨HR,H,A6⟩:=Yk hR D G;rw[V] at T Q hy c0 c1 HR;subst B0;have HV:=Qf V;clear V D S M hR G N U;gi_wp2;have D4:prog.follows .mixedOrders=true:=Zk;gi_region_with_o ((refine HR.o.mono ?_); rintro e W3 ⟨F,R,L⟩; obtain⟨bv,rfl,D⟩:=sV L)
  all_goals
   rw[<-HV.o] at F R;have P:=I.out.kept ((cO.of_below H.o (fun k hk=>aO (HK.o k hk) C.o)).trans F);have X:w.heap.size<=W3.heap.size:=aC C.o (aC H.o.size F.size);clear hy T Q c0 c1 R F H HV HR;obtain⟨A3,A8⟩:=Yj P X;clear P X I C E;rcases D with⟨rfl,O⟩ | ⟨rfl,A9⟩
   ·have A4:=Qf O;clear O;gi_wp2;go_roundw
    case rel=>exact⟨k+1,Zg,Zo,A6.o▸A4,A3,A8⟩
    case measure=>exact Yr
   ·gi_wp2;refine bodyPost_ret (results_none rfl _ _ _) rfl ?_;exact⟨⟨_,rfl⟩,.inr A9⟩
 ·obtain rfl:k=nb:=Zo;have D1:¬(k:Int)<(k:Int):=Zo;have C4:base.take k=base:=ag (Zh B7.o);rw[C4] at E;have C3:=I.out.lx;rw[<-A5.o] at C3;clear C4;gi_wp2;gi_loopw [26] (fun i wr=>∃(k:Nat),i=Yi (k:Int)/\k<=nl/\Qg (J (base.map (fun d=>(d,0))++dU (l.take k) 0) wr)/\Qg (Mj xs l base K B bb db lb mb n ba la bc lc wr)/\Qg (w.heap.size<=wr.heap.size)) (fun i _=>nl-(intOf i).toNat)
  case atStart=>exact⟨0,rfl,Zo,Qf (by simpa[dU] using E.out),I,C⟩
  clear E I C C3;obtain⟨j,rfl,hj,E,I,C⟩:=hrel;by_cases C2:j<nl
  ·have D0:(j:Int)<(nl:Int):=Zo;have B3:j<l.length:=A5.o▸C2;obtain⟨b0,o0,B0,C7,q0,q1⟩:=I.out.ld j B3;have U:=I.out.okl _ (ak B3);have G:base.map (fun d=>((d,0):Cd))++dU (l.take (j+1)) 0=(base.map (fun d=>((d,0):Cd))++dU (l.take j) 0)++[(l[j],j+1)]:=by
    rw[ai B3,qD,ay,aA,mM Zo,aZ]
   have N:((base.map (fun d=>((d,0):Cd))++dU (l.take j) 0)++[(l[j],j+1)]) <+: vB l base:=by
    rw[<-G];unfold vB;refine(List.prefix_append_right_inj _).2 ?_;have B8:∀(r s:Qd) (q:Nat),dU r q <+: dU (r++s) q:=by
     intro r;induction r with
     | nil=>intro s q; exact List.nil_prefix
     | cons d r ih=>
      intro s q;rw[bz,dU,dU];exact List.cons_prefix_cons.2 ⟨rfl,ih s _⟩
    have:=B8 (l.take (j+1)) (l.drop (j+1)) 0
    rwa[aQ] at this
   generalize l[j]=d at *
   obtain⟨x,y⟩:=d;simp only at q0 q1;obtain⟨v,V⟩:=Qe (wr.alloc (.cells #[Yu x,Yu y] 54));have D:Below wr.heap.size wr v.drew:=V▸((bf _).alloc nr _).drew;have S:BK wr.heap.size #[Yu x,Yu y] 54 v.drew:=by
    have:BK wr.heap.size #[Yu x,Yu y] 54 v:=V▸BK.new _ _ _;exact this
   have M:=I.out.kept (cO.of_below D (fun k hk=>aO (HK.o k hk) C.o));have T:=M.look U;have Q:=M.dx;have D5:IntKind.i64.wrap ((j:Int)+1)=((j+1:Nat):Int):=by rw[ZV]; omega
   obtain⟨j1,B2⟩:=Qe (j+1);rw[<-B2] at N G D5;obtain⟨fn,A7,A0,A1,hy,hR⟩:=B9.o _ ((x,y),j1) wr v.drew N E.out D;simp only[JM] at hy;obtain⟨c0,c1⟩:=BK.c2 S;obtain⟨HR,H,A6⟩:=Yk hR D G;have B6:Qg (j1=j+1):=Qf B2;rw[V] at T Q hy c0 c1 HR;subst B0;have HV:=Qf V;clear V D S M hR G N U B2;gi_wp2;have D4:prog.follows .mixedOrders=true:=Zk;gi_region_with_o ((refine HR.o.mono ?_); rintro e W3 ⟨F,R,L⟩; obtain⟨bv,rfl,D⟩:=sV L)
   all_goals
    rw[<-HV.o] at F R;have P:=I.out.kept ((cO.of_below H.o (fun k hk=>aO (HK.o k hk) C.o)).trans F);have X:w.heap.size<=W3.heap.size:=aC C.o (aC H.o.size F.size);clear hy T Q c0 c1 R F H HV HR;obtain⟨A3,A8⟩:=Yj P X;clear P X I C E;rcases D with⟨rfl,O⟩ | ⟨rfl,A9⟩
    ·have A4:=Qf O;clear O;gi_wp2;go_roundw
     case rel=>exact⟨j1,rfl,Zh B6.o,A6.o▸A4,A3,A8⟩
     case measure=>
      have:=B6.o;simp only[intOf];omega
    ·gi_wp2;refine bodyPost_ret (results_none rfl _ _ _) rfl ?_;exact⟨⟨_,rfl⟩,.inr A9⟩
  ·obtain rfl:j=nl:=Zo;have D0:¬(j:Int)<(j:Int):=Zo;have C5:l.take j=l:=ag (Zh A5.o);rw[C5] at E;clear C5 I;gi_wp2;go_end0;exact⟨⟨_,rfl⟩,.inl E.out⟩
end
def txD(xs:List Itm)(d c:Int×Int):Qb:=(AV (iM (gL xs c) (gL xs d))).1
theorem GZ(xs:List Itm)(d c:Int×Int):txS xs d c=fF (txD xs d c):=rfl
def pkO(xs:List Itm)(d:Int×Int)(cs:Qd):Option ((Int×Int)×Nat):=iL (fun c=>(txS xs d c).length) cs none
def visC(pre:List Cd)(i:Nat):Qd:=(pre.filter (fun c=>decide (c.2<=i))).map (·.1)
theorem zf(pre:List Cd)(c:Int×Int)(f i:Nat):visC (pre++[(c,f)]) i=if f<=i then visC pre i++[c] else visC pre i:=by
 unfold visC;rw[vX,dJ];by_cases h:f<=i
 ·rw[if_pos h,kK,if_pos (Zu h)]; rfl
 ·rw[if_neg h,kK,if_neg (Zu h)]; simp
theorem Bi:∀(l:Qd) (k i:Nat),((dU l k).filter (fun c=>decide (c.2<=k+i))).map (·.1)=l.take i
 | [],k,i=>by simp[dU]
 | d::l,k,0=>by
  rw[dU,kK,if_neg Zs,List.take_zero];have B:∀(l:Qd) (q:Nat),k<=q->(dU l q).filter (fun c=>decide (c.2<=k+0))=[]:=by
   intro l;induction l with
   | nil=>intro q _; rfl
   | cons d l ih=>
    intro q A;rw[dU,kK,if_neg Zt,ih (q+1) Zo]
  rw[B l (k+1) Zo]; rfl
 | d::l,k,i+1=>by
  rw[dU,kK,if_pos Zs,eX,jS];have:=Bi l (k+1) i;rw[show k+1+i=k+(i+1) by omega] at this;rw[this]
theorem zg(base l:Qd)(i:Nat):visC (base.map (fun d=>((d,0):Cd))++dU l 0) i=base++l.take i:=by
 unfold visC;rw[vX,dJ];have B:(base.map (fun d=>((d,0):Cd))).filter (fun c=>decide (c.2<=i))=base.map (fun d=>((d,0):Cd)):=by
  rw[List.filter_eq_self];intro c C;obtain⟨d,_,rfl⟩:=bV.1 C;simp
 have A:=Bi l 0 i;rw[aZ] at A;rw[B,A,List.map_map];have:((fun x:Cd=>x.1) ∘ fun d:Int×Int=>((d,0):Cd))=id:=rfl;rw[this,List.map_id]
theorem pI:∀(l:Qd) (k:Nat),(dU l k).length=l.length
 | [],_=>rfl
 | d::l,k=>by rw[dU,az,az,pI]
theorem EJ:∀(l:Qd) (k j:Nat) (h:j<(dU l k).length),((dU l k)[j]).2=k+j+1
 | [],k,j,h=>by simp[dU] at h
 | d::l,k,0,h=>by simp[dU]
 | d::l,k,j+1,h=>by
  simp only[dU,bK];rw[EJ l (k+1) j]; omega
theorem E5{pre:List Cd}{c:Int×Int}(h:okC (vB l base) pre (c,l.length)):∀i,i<l.length->visC pre i=base++l.take i:=by
 intro i I;obtain⟨r,C⟩:=h;have B:=congrArg List.length C;unfold vB at C B;simp only[af,fC,az,aK,pI] at B;have A:(base.map (fun d=>((d,0):Cd))++dU l 0)[pre.length]'(by simp[pI]; omega)=(c,l.length):=by
  have:(pre++[(c,l.length)]++r)[pre.length]'Zs=(c,l.length):=Zs;simp only[C] at this;exact this
 by_cases G:pre.length<base.length
 ·rw[sU (Zu G)] at A;simp only[List.getElem_map,Prod.mk.injEq] at A;omega
 ·rw[qK (Zu G)] at A;have F:=EJ l 0 (pre.length-(base.map (fun d=>((d,0):Cd))).length) (by simp[pI]; omega);rw[A] at F;simp only[fC] at F;have E:r=[]:=Qr.1 Zo;subst E;rw[bG] at C;have D:l≠[]:=fun e=>by subst e; simp at I
  have J:=(List.dropLast_concat_getLast D);have H:dU l 0=dU l.dropLast 0++[(l.getLast D,l.length)]:=by
   conv=>lhs; rw[<-J,qD]
   rw[List.length_dropLast];congr 3;have:0<l.length:=Zo;omega
  rw[H,<-ay] at C;have K:=(List.append_inj' C rfl).1;rw[K,zg,List.dropLast_eq_take,List.take_take,mM Zo]
def vT(xs:List Itm)(d:Int×Int):Option ((Int×Int)×Nat)->Chc
 | none=>⟨false,(0,0),[],0⟩
 | some (b,k)=>⟨true,b,txD xs d b,k⟩
def BN(xs:List Itm)(l:Qd)(pre:List Cd)(i:Nat):Chc:=vT xs (l.getD i (0,0)) (pkO xs (l.getD i (0,0)) (visC pre i))
def EK(xs:List Itm)(l:Qd)(pre:List Cd):List Chc:=(List.range l.length).map (BN xs l pre)
def rD(xs:List Itm)(l:Qd)(pre:List Cd)(x:Cd)(i:Nat):List Chc:=(List.range l.length).map fun j=>if j<i then BN xs l (pre++[x]) j else BN xs l pre j
theorem KU{pre:List Cd}{x:Cd}:(rD xs l pre x i).length=l.length:=by simp[rD]
theorem FV(xs:List Itm)(l:Qd)(pre:List Cd)(x:Cd):rD xs l pre x x.2=EK xs l pre:=by
 unfold rD EK;refine rO (fun j _=>?_);by_cases h:j<x.2
 ·rw[if_pos h];unfold BN;rw[zf,if_neg Zo]
 ·rw[if_neg h]
theorem KV(xs:List Itm)(l:Qd)(pre:List Cd)(x:Cd)(h:l.length<=i):rD xs l pre x i=EK xs l (pre++[x]):=by
 unfold rD EK;refine rO (fun j A=>?_);rw[if_pos (Zh (List.mem_range.1 A))]
theorem yg(xs:List Itm)(l:Qd)(pre:List Cd)(x:Cd)(i:Nat)(h:j<(rD xs l pre x i).length):(rD xs l pre x i)[j]=if j<i then BN xs l (pre++[x]) j else BN xs l pre j:=by simp[rD]
theorem Np(xs:List Itm)(l:Qd)(pre:List Cd)(x:Cd)(h:i<(rD xs l pre x i).length):(rD xs l pre x i)[i]=BN xs l pre i:=by rw[yg,if_neg Zo]
theorem Iq(xs:List Itm)(l:Qd)(pre:List Cd)(x:Cd):rD xs l pre x (i+1)=(rD xs l pre x i).set i (BN xs l (pre++[x]) i):=by
 refine List.ext_getElem (by simp[rD]) (fun j C A=>?_);have B:j<(rD xs l pre x i).length:=Zu A;rw[List.getElem_set,yg,yg _ _ _ _ _ B];by_cases e:i=j
 ·subst e; rw[if_pos Zo,if_pos rfl]
 ·rw[if_neg e];by_cases e2:j<i
  ·rw[if_pos Zo,if_pos e2]
  ·rw[if_neg Zo,if_neg e2]
theorem JQ{pre:List Cd}{c:Int×Int}(A:f<=i):BN xs l (pre++[(c,f)]) i =
  (if(BN xs l pre i).sm=false\/(txS xs (l.getD i (0,0)) c).length<(BN xs l pre i).sz then⟨true,c,txD xs (l.getD i (0,0)) c,(txS xs (l.getD i (0,0)) c).length⟩ else BN xs l pre i):=by
 unfold BN;rw[zf,if_pos A];unfold pkO;rw[lQ];cases iL (fun c=>(txS xs (l.getD i (0,0)) c).length) (visC pre i) none with
 | none=>exact(if_pos (.inl rfl)).symm
 | some p=>
  obtain⟨b,k⟩:=p;by_cases h:(txS xs (l.getD i (0,0)) c).length<k
  ·refine Eq.trans ?_ (if_pos (.inr h)).symm
   show vT xs _ (if _<k then _ else _)=_;rw[if_pos h]; rfl
  ·refine Eq.trans ?_ (if_neg (fun e=>e.elim (fun e=>by cases e) h)).symm
   show vT xs _ (if _<k then _ else _)=_;rw[if_neg h]
theorem LV(xs:List Itm)(l:Qd):EK xs l []=List.replicate l.length ⟨false,(0,0),[],0⟩:=by
 unfold EK;refine List.ext_getElem Zs (fun j A B=>?_);simp[BN,visC,pkO,iL,vT]
def Km(xs:List Itm)(d:Int×Int)(c:Chc):Chc:=if(fF (gL xs d)).length<=c.sz+16 then { c with sm:=false } else c
def Gg(xs:List Itm)(l base:Qd):List Chc:=(List.range l.length).map fun i=>Km xs (l.getD i (0,0)) (vT xs (l.getD i (0,0)) (pkO xs (l.getD i (0,0)) (base++l.take i)))
theorem Lu(xs:List Itm)(d:Int×Int)(cs:Qd):yG xs d (Km xs d (vT xs d (pkO xs d cs)))=Ph xs d (QK xs d cs):=by
 rw[Dk];unfold pkO;cases iL (fun c=>(txS xs d c).length) cs none with
 | none=>
  simp only[FN,vT];unfold yG Ph Km;split <;> simp
 | some p=>
  obtain⟨b,k⟩:=p;simp only[FN,vT];unfold Km;simp only;by_cases h:(fF (gL xs d)).length<=k+16
  ·rw[if_pos h,if_pos h]; unfold yG Ph; simp
  ·rw[if_neg h,if_neg h]; unfold yG Ph; simp[GZ]
theorem LX(xs:List Itm)(l base:Qd):U7 xs l (Gg xs l base)=Ih xs l base:=by
 unfold U7 Ih;congr 1;have h:(l.zip (Gg xs l base)).map (fun p=>yG xs p.1 p.2)=(List.range l.length).map (VU xs l base):=by
  refine List.ext_getElem (by simp[Gg]) (fun j C A=>?_);have B:j<l.length:=Zu A;simp only[List.getElem_map,List.getElem_zip,List.getElem_range,Gg,VU];rw[<-Lu];simp[List.getD,B]
 rw[List.flatMap_def,List.flatMap_def,h]
theorem Ie{cs:Qd}{b:Int×Int}(h:pkO xs d cs=some (b,k)):b∈cs/\k=(txS xs d b).length:=by
 obtain⟨B,A⟩:=lN cs none (fun b k h=>by cases h) b k h;rcases A with A | A
 ·exact⟨A,B⟩
 ·cases A
theorem Pm{T:TypeId}{L:List Chc}(h:BK g (gcs vJ L).toArray T W)(A:i<L.length)(c:Chc):
  BK g (gcs vJ (L.set i c)).toArray T (((((W.setCell ⟨g,i*5,none⟩ (.bool c.sm)).setCell ⟨g,i*5+1,none⟩ (Yu c.b.1)).setCell ⟨g,i*5+2,none⟩ (Yu c.b.2)).setCell ⟨g,i*5+3,none⟩ (.string ⟨c.tx.toArray⟩)).setCell ⟨g,i*5+4,none⟩ (Yi (c.sz:Int))):=by
 have step:∀{W:World} {L:List Chc} (h:BK g (gcs vJ L).toArray T W) (A:i<L.length) (j:Nat) (v:Value) (b:Chc),j<5->vJ b=(vJ L[i]).set j v->BK g (gcs vJ (L.set i b)).toArray T (W.setCell ⟨g,i*5+j,none⟩ v):=by
  intro W L h A j v b D C;have B:=h.set (i*5+j) v;rw[dR,yA IB L i A j v b D C] at B;exact B
 obtain⟨o,E⟩:=Qe (L[i]);have e0:=step h A 0 (.bool c.sm) ⟨c.sm,o.b,o.tx,o.sz⟩ Zd (by rw[<-E]; rfl);have e1:=step e0 (Zu A) 1 (Yu c.b.1) ⟨c.sm,(c.b.1,o.b.2),o.tx,o.sz⟩ Zd (Zw List.getElem_set_self);rw[List.set_set] at e1;have e2:=step e1 (Zu A) 2 (Yu c.b.2) ⟨c.sm,(c.b.1,c.b.2),o.tx,o.sz⟩ Zd (Zw List.getElem_set_self);rw[List.set_set] at e2;have e3:=step e2 (Zu A) 3 (.string ⟨c.tx.toArray⟩) ⟨c.sm,(c.b.1,c.b.2),c.tx,o.sz⟩ Zd (Zw List.getElem_set_self);rw[List.set_set] at e3;have e4:=step e3 (Zu A) 4 (Yi (c.sz:Int)) ⟨c.sm,(c.b.1,c.b.2),c.tx,c.sz⟩ Zd (Zw List.getElem_set_self);rw[List.set_set] at e4;exact e4
def wT(x:Nd):List Value:=[Yi (x.len:Int),Yi x.link,Yi (x.fin:Int),Yi x.edge]
def BL(x:Eg):List Value:=[Yb (x.c.toNat:Int),Yi (x.tg:Int),Yi x.nx]
theorem F4:Lay wT 4:=⟨Zd,fun _=>rfl,fun a v A=>by
 simp[wT] at A;rcases A with rfl | rfl | rfl | rfl <;> rfl⟩
theorem F6:Lay BL 3:=⟨Zd,fun _=>rfl,fun a v A=>by
 simp[BL] at A;rcases A with rfl | rfl | rfl <;> rfl⟩
structure J6 (B ib:Nat) (N:List Nd) (E:List Eg) (W:World):Prop where
 ex:∃na nc ea ec,BK ib #[.slice na N.length nc,.slice ea E.length ec] 254 W/\GIn wT 4 B W na N/\GIn BL 3 B W ea E
 lt:ib<B
theorem J6.below(h:J6 B ib N E W)(A:Below B' W W')(C:B<=B'):J6 B ib N E W':=by
 obtain⟨⟨na,nc,ea,ec,D,F,G⟩,H⟩:=h;exact⟨⟨na,nc,ea,ec,(A.block ib Zo).trans D,F.below A C,G.below A C⟩,H⟩
theorem J6.mono(h:J6 B ib N E W)(A:B<=B'):J6 B' ib N E W:=by
 obtain⟨⟨na,nc,ea,ec,C,D,F⟩,G⟩:=h;exact⟨⟨na,nc,ea,ec,C,D.mono A,F.mono A⟩,Zo⟩
theorem fu{a:Qa}{l:List Nd}(h:GIn wT 4 B W a l)(C:k<l.length):∃b F,a=some ⟨b,F,none⟩/\b<B/\W.cell? ⟨b,F+k*4,none⟩=some (Yi ((nd l k).len:Int))/\W.cell? ⟨b,F+k*4+1,none⟩=some (Yi (nd l k).link)/\W.cell? ⟨b,F+k*4+2,none⟩=some (Yi ((nd l k).fin:Int))/\W.cell? ⟨b,F+k*4+3,none⟩=some (Yi (nd l k).edge):=by
 obtain⟨b,F,D,E,A⟩:=h k C;rw[Nn C];exact⟨b,F,D,E,A 0 _ rfl,A 1 _ rfl,A 2 _ rfl,A 3 _ rfl⟩
theorem sI{a:Qa}{l:List Eg}(h:GIn BL 3 B W a l){x:Eg}(G:l[k]? = some x):∃b H,a=some ⟨b,H,none⟩/\b<B/\W.cell? ⟨b,H+k*3,none⟩=some (Yb (x.c.toNat:Int))/\W.cell? ⟨b,H+k*3+1,none⟩=some (Yi (x.tg:Int))/\W.cell? ⟨b,H+k*3+2,none⟩=some (Yi x.nx):=by
 obtain⟨C,D⟩:=List.getElem?_eq_some_iff.1 G;obtain⟨b,H,E,F,A⟩:=h k C;rw[D] at A;exact⟨b,H,E,F,A 0 _ rfl,A 1 _ rfl,A 2 _ rfl⟩
def Kl(L:List (Nat×UInt8×Nat))(c:UInt8):Int:=match L.find? (fun x=>x.2.1==c) with
 | some x=>(x.1:Int)
 | none=>-1
structure Od (E:List Eg) (L:List (Nat×UInt8×Nat)) (c:UInt8) (R:List (Nat×UInt8×Nat)) (e:Int):Prop where
 ch:jG E e R
 fd:L.find? (fun x=>x.2.1==c)=R.find? (fun x=>x.2.1==c)
 le:R.length<=L.length
theorem Od.done(h:Od E L c [] e):e=-1/\Kl L c=-1:=⟨h.ch,by unfold Kl; rw[h.fd]; rfl⟩
theorem Od.at{x:Nat×UInt8×Nat}(h:Od E L c (x::R) e):e=(x.1:Int)/\(x.2.1=c->Kl L c=(x.1:Int))/\∃nx,E[x.1]? = some ⟨x.2.1,x.2.2,nx⟩/\(x.2.1≠c->Od E L c R nx):=by
 obtain⟨A,nx,B,C⟩:=h.ch;refine⟨A,fun e=>?_,nx,B,fun e=>⟨C,?_,?_⟩⟩
 ·unfold Kl;rw[h.fd,List.find?_cons,e];simp
 ·rw[h.fd,List.find?_cons];have:(x.2.1==c)=false:=Zu e;rw[this]
 ·have:=h.le; simp at this; omega
theorem jG.det:∀{R R':List (Nat×UInt8×Nat)} {e:Int},jG E e R->jG E e R'->R=R'
 | [],[],e,h,A=>rfl
 | [],y::R',e,h,A=>by have C:e=-1:=h; have B:=A.1; omega
 | x::R,[],e,h,A=>by have C:e=-1:=A; have B:=h.1; omega
 | x::R,y::R',e,h,A=>by
  obtain⟨C,nx,B,D⟩:=h;obtain⟨g1,ny,g2,g3⟩:=A;obtain⟨x1,x2,x3⟩:=x;obtain⟨y1,y2,y3⟩:=y;obtain rfl:x1=y1:=by simp only at C g1; omega
  simp only at B g2;rw[B] at g2;injection g2 with g2
  injection g2 with e1 e2 e3
  subst e1 e2 e3;rw[D.det g3]
noncomputable def Bf(E:List Eg)(e:Int):Nat:=by
 classical
 exact if h:∃R,jG E e R then h.choose.length else 0
theorem sO(h:jG E e R):Bf E e=R.length:=by
 unfold Bf;rw[dif_pos ⟨R,h⟩,(Exists.choose_spec ⟨R,h⟩:jG E e _).det h]
theorem um(h:J6 B ib N E w)(hx:Ixr N E T)(hN:(N.length:Int)<=1000000)(v:Nat)(hv:v<N.length)(c:UInt8):
  Qh 223 #[.pointer ib,Yi (v:Int),Yb (c.toNat:Int)] w fun e w'=>e=.returned (Yi (Kl (T v) c))/\w'=w:=by
 obtain⟨⟨na,nc,ea,ec,hb,hn,he⟩,_⟩:=h;obtain⟨nb,no,rfl,_,n0,n1,n2,n3⟩:=fu hn hv;have HE:=Qf he;have A0:=hx.elen;have X:(E.length:Int)<=256000000:=Zo;have C:Qg (Od E (T v) c (T v) (nd N v).edge):=Qf ⟨hx.ch v hv,rfl,nr⟩;generalize T v=L at C ⊢;generalize (nd N v).edge=e0 at n3 C;obtain⟨x0,x1⟩:=BK.c2 hb;obtain⟨F,Y⟩:=Qe (Kl L c);have S:=Qf Y;rw[<-Y];obtain⟨m,hm⟩:=Qe E.length;have HM:=Qf hm;rw[<-hm] at x1 X;obtain⟨nn,Q⟩:=Qe N.length;rw[<-Q] at x0 hN hv;have B3:(v:Int)<(nn:Int):=Zo;obtain⟨lc,H⟩:∃lc:Int,lc=(c.toNat:Int):=⟨_,rfl⟩;have K:=Qf H;rw[<-H];clear Y hm Q hb hn he hx A0 n0 n1 n2 H;go_enter func223,ntmps223;go_wp2_with fail;clear n3;go_loopw [7] (fun i wr=>∃(R:List (Nat×UInt8×Nat)) (ei:Int),i=Yi ei/\Qg (Od E L c R ei)/\wr=w) (fun i _=>Bf E (intOf i))
 case atStart=>exact⟨L,e0,rfl,C,rfl⟩
 case round=>
  clear C;obtain⟨R,ei,rfl,I,rfl⟩:=hrel;cases R with
  | nil=>
   obtain⟨rfl,G⟩:=I.out.done;have W:=Qf (S.o.trans G);clear G I S;go_wp2;go_ret;rw[W.o];exact⟨rfl,rfl⟩
  | cons x R=>
   obtain⟨rfl,G,nx,O,U⟩:=I.out.at;obtain⟨eb,eo,Z,_,q0,q1,q2⟩:=sI HE.o O;have P:=(List.getElem?_eq_some_iff.1 O).1;have D:Qg (Bf E ((x.1:Nat):Int)=R.length+1):=Qf (by rw[sO I.out.ch]; rfl);obtain⟨j,d,tg⟩:=x;simp only at G O U q0 q1 q2 P D ⊢;rw[<-HM.o] at P;have B2:(j:Int)<(m:Int):=Zo;have B1:(0:Int)<=(j:Int):=Zo;subst Z;by_cases J:d=c
   ·have hq:((d.toNat:Int) !=lc)=false:=by rw[K.o,J]; simp
    have W:=Qf (S.o.trans (G J));generalize (d.toNat:Int)=ld at q0 hq;clear G O U I S D J;go_wp2;go_ret;rw[W.o];exact⟨rfl,rfl⟩
   ·have hq:((d.toNat:Int) !=lc)=true:=by
     rw[K.o];simp only[bne_iff_ne,ne_eq];intro e;exact J (UInt8.toNat_inj.1 (by exact_mod_cast e))
    have M:=Qf (U J);have V:Qg (Bf E nx=R.length):=Qf (sO M.o.ch);generalize (d.toNat:Int)=ld at q0 hq;clear G O U I J;go_wp2;go_roundw
    case rel=>exact⟨R,nx,rfl,M,trivial⟩
    case measure=>
     simp only[intOf];rw[D.o,V.o];omega
def Ky(T:jc)(v:Nat)(c:UInt8):Int:=match trU T v c with
 | some u=>(u:Int)
 | none=>-1
theorem uJ(h:trU T v c=none):Kl (T v) c=-1:=by
 unfold trU at h;unfold Kl;rw[Option.map_eq_none_iff] at h;rw[h]
theorem uI(h:trU T v c=some u):∃i:Nat,Kl (T v) c=(i:Int)/\(T v).find? (fun x=>x.2.1==c)=some (i,c,u):=by
 unfold trU at h;unfold Kl;rw[Option.map_eq_some_iff] at h;obtain⟨x,A,B⟩:=h;have C:x.2.1=c:=by simpa using List.find?_some A
 refine⟨x.1,Zx A,by rw[A]; obtain⟨x1,x2,x3⟩:=x; simp only at B C; rw[B,C]⟩
theorem Ep(B:Ixr N E T)(A:v<N.length)(h:(T v).find? (fun x=>x.2.1==c)=some (i,c,u)):∃nx,E[i]? = some ⟨c,u,nx⟩:=(B.ch v A).idx _ (List.mem_of_find?_eq_some h)
theorem Ad(h:J6 B ib N E w)(F:Ixr N E T)(O:(N.length:Int)<=1000000)(v:Nat)(M:v<N.length)(c:UInt8):
  Qh 191 #[.pointer ib,Yi (v:Int),Yb (c.toNat:Int)] w fun e w'=>e=.returned (Yi (Ky T v c))/\w'=w:=by
 have C:=Qf (um h F O v M c);obtain⟨⟨na,nc,ea,ec,H,L,I⟩,_⟩:=h;obtain⟨x0,x1⟩:=BK.c2 H;unfold Ky;cases D:trU T v c with
 | none=>
  rw[uJ D] at C;simp only;generalize (c.toNat:Int)=lc at C ⊢;clear H L I D F;go_enter func191,ntmps191;go_wp2_with fail;refine C.o.mono ?_;rintro e w' ⟨rfl,rfl⟩;go_wp2;go_ret;exact⟨rfl,rfl⟩
 | some u=>
  obtain⟨i,J,K⟩:=uI D;obtain⟨nx,G⟩:=Ep F M K;obtain⟨eb,eo,rfl,_,q0,q1,q2⟩:=sI I G;have R:=(List.getElem?_eq_some_iff.1 G).1;rw[J] at C;simp only;generalize (c.toNat:Int)=lc at C ⊢;generalize E.length=m at *
  have Q:(i:Int)<(m:Int):=Zo;have P:¬(i:Int)<0:=Zo;clear H L I D F q0 q2 J K G;go_enter func191,ntmps191;go_wp2_with fail;refine C.o.mono ?_;rintro e w' ⟨rfl,rfl⟩;go_wp2;go_ret;exact⟨rfl,rfl⟩
theorem kg{e:TypeId}{v:Value}{xs:List Value}(h:W.ownsRow B e z v n xs)(g:Nat)(A:v.ownBlock=some g):∃c,W.heap[g]? = some (.cells c e (0,0)):=by
 rcases h.2 with⟨rfl,_⟩ | ⟨k,c,D,rfl,_,C,_⟩
 ·cases A
 ·have:k=g:=by simpa[Value.ownBlock] using A
  subst this;exact⟨D,C⟩
theorem gV{b:Nat}{e t:TypeId}{v:Value}{xs:List Value}(h:W.ownsRow B e z v n xs)(D:BK b cs t W)(E:t≠e):v.ownBlock≠some b:=fun C=>by
 obtain⟨c,A⟩:=kg h b C;rw[show W.heap[b]? = _ from D] at A;injection A with A
 injection A with _ h2 _
 exact E h2
theorem M9{e e':TypeId}{v:Value}{xs:List Value}(h:W.ownsRow B e z v n xs)(C:W.ownsRow B' e' z' v' n' xs')(G:e≠e')(F:v.ownBlock=some k):v'.ownBlock≠some k:=fun D=>by
 obtain⟨c,E⟩:=kg h k F;obtain⟨c',A⟩:=kg C k D;rw[E] at A;injection A with A
 injection A with _ h2 _
 exact G h2
theorem oz{e e':TypeId}{v:Value}{xs:List Value}(h:W.ownsRow B e z v n xs)(A:W.ownsRow B' e' z' v' n' xs')(C:e≠e'):v.ownBlock=none\/v.ownBlock≠v'.ownBlock:=by
 cases D:v.ownBlock with
 | none=>exact .inl rfl
 | some k=>exact .inr (M9 h A C D).symm
structure IxB (B ib:Nat) (N:List Nd) (E:List Eg) (na:Qa) (nc:Nat) (ea:Qa) (ec:Nat) (W:World):Prop where
 box:BK ib #[.slice na N.length nc,.slice ea E.length ec] 254 W
 lo:B<=ib
 ns:W.ownsRow B 250 4 (.slice na N.length nc) N.length (gcs wT N)
 es:W.ownsRow B 293 3 (.slice ea E.length ec) E.length (gcs BL E)
def IxG(B ib:Nat)(N:List Nd)(E:List Eg)(W:World):Prop:=∃na nc ea ec,IxB B ib N E na nc ea ec W
section
variable {B ib:Nat} {N:List Nd} {E:List Eg} {na ea:Qa} {nc ec:Nat} {W:World}
theorem IxB.lt(h:IxB B ib N E na nc ea ec W):ib<W.heap.size:=h.box.lt
theorem IxB.in_(h:IxB B ib N E na nc ea ec W):J6 W.heap.size ib N E W:=⟨⟨na,nc,ea,ec,h.box,jw F4 rfl h.ns,jw F6 rfl h.es⟩,h.lt⟩
theorem IxG.in_(h:IxG B ib N E W):J6 W.heap.size ib N E W:=by obtain⟨_,_,_,_,h⟩:=h; exact h.in_
theorem IxB.below(h:IxB B ib N E na nc ea ec W)(A:Below W.heap.size W W'):IxB B ib N E na nc ea ec W':=⟨h.box.below A,h.lo,PO h.ns A,PO h.es A⟩
theorem IxB.gns(h:IxB B ib N E na nc ea ec W):GIn wT 4 W.heap.size W na N:=jw F4 rfl h.ns
theorem IxB.ges(h:IxB B ib N E na nc ea ec W):GIn BL 3 W.heap.size W ea E:=jw F6 rfl h.es
theorem O1:(prog.info? 250).map (fun i=>(i.zero,i.size,i.bytes))=some (some (.agg #[Yi 0,Yi 0,Yi 0,Yi 0]),4,32):=Zk
theorem O3:(prog.info? 293).map (fun i=>(i.zero,i.size,i.bytes))=some (some (.agg #[Yb 0,Yi 0,Yi 0]),3,24):=Zk
theorem IxB.pushN(h:IxB B ib N E na nc ea ec W)(x:Nd)(P:(N.length:Int)<=1000000):∃U V W',Qg ((Builtin.append_ #[251,251] 251 #[.slice na N.length nc,.slice W 1 1]).run prog (W.alloc (.cells (wT x).toArray 250))=.ok (.slice U (N.length+1) V) W')/\
  BK ib #[.slice na N.length nc,.slice ea E.length ec] 254 W'/\GIn BL 3 W'.heap.size W' ea E/\IxB B ib (N++[x]) E U V ea ec (W'.setCell ib (.slice U (N.length+1) V))/\Below B W (W'.setCell ib (.slice U (N.length+1) V)):=by
 obtain⟨i0,R,K,L,M⟩:=info_parts O1;have T:=h.lt;have H:=h.lo;obtain⟨v',W',I,C,J,_⟩:=jb F4 underlying251 R K L M rfl rfl h.ns x P Zd Zo;obtain⟨U,V,rfl,_⟩:=aB C;have D:=(h.box.alloc (.cells (wT x).toArray 250)).grow J (fun k e S=>gV h.ns h.box Zd (by rw[e,S]));have F:=(h.es.alloc (.cells (wT x).toArray 250)).kept J (oz h.es h.ns Zd);have G:=dN W' ib 0 (.slice U (N.length+1) V);have O:(N++[x]).length=N.length+1:=Zs;refine⟨U,V,W',I,D,jw F6 rfl F,⟨?_,H,?_,F.kept G (.inr (gV F D Zd))⟩,?_⟩
 ·rw[O]; exact D.set 0 _
 ·rw[O]; exact C.kept G (.inr (gV C D Zd))
 ·have Q:Below B W W':=((Below.refl B W).alloc Zo _).grown J Zt (fun k e=>(h.ns.lt k e).1);exact Q.setCell H _
theorem IxB.pushE(h:IxB B ib N E na nc ea ec W)(x:Eg)(P:(E.length:Int)<=1000000):∃U V W',Qg ((Builtin.append_ #[252,252] 252 #[.slice ea E.length ec,.slice W 1 1]).run prog (W.alloc (.cells (BL x).toArray 293))=.ok (.slice U (E.length+1) V) W')/\
  BK ib #[.slice na N.length nc,.slice ea E.length ec] 254 W'/\W'.ownsRow B 250 4 (.slice na N.length nc) N.length (gcs wT N)/\IxB B ib N (E++[x]) na nc U V (W'.setCell ⟨ib,1,none⟩ (.slice U (E.length+1) V))/\Below B W (W'.setCell ⟨ib,1,none⟩ (.slice U (E.length+1) V)):=by
 obtain⟨i0,R,K,L,M⟩:=info_parts O3;have T:=h.lt;have H:=h.lo;obtain⟨v',W',I,C,J,_⟩:=jb F6 underlying252 R K L M rfl rfl h.es x P Zd Zo;obtain⟨U,V,rfl,_⟩:=aB C;have D:=(h.box.alloc (.cells (BL x).toArray 293)).grow J (fun k e S=>gV h.es h.box Zd (by rw[e,S]));have F:=(h.ns.alloc (.cells (BL x).toArray 293)).kept J (oz h.ns h.es Zd);have G:=dN W' ib 1 (.slice U (E.length+1) V);have O:(E++[x]).length=E.length+1:=Zs;refine⟨U,V,W',I,D,F,⟨?_,H,F.kept G (.inr (gV F D Zd)),?_⟩,?_⟩
 ·rw[O]; exact D.set 1 _
 ·rw[O]; exact C.kept G (.inr (gV C D Zd))
 ·have Q:Below B W W':=((Below.refl B W).alloc Zo _).grown J Zt (fun k e=>(h.es.lt k e).1);exact Q.setCell H _
theorem Il{e:TypeId}{v:Value}{xs:List Value}(h:W.ownsRow B e z v n xs)(E:0<n):∃g c F,v=.slice (some ⟨g,0,none⟩) n c/\n<=c/\B<=g/\g<W.heap.size/\BK g F e W:=by
 rcases h.2 with⟨rfl,rfl⟩ | ⟨g,c,F,rfl,C,A,D,_⟩
 ·omega
 ·exact⟨g,c,F,rfl,D,C,(Array.getElem?_eq_some_iff.1 A).1,A⟩
theorem IxB.setN(h:IxB B ib N E na nc ea ec W)(A:v<N.length):∃g,na=some ⟨g,0,none⟩/\(∀j,W.frozen? ⟨g,j,none⟩=false)/\(∀j,j<4->W.cell? ⟨g,v*4+j,none⟩=(wT (nd N v))[j]?)/\
  ∀(x:Nd) (j:Nat) (u:Value),j<4->wT x=(wT (nd N v)).set j u->IxB B ib (N.set v x) E na nc ea ec (W.setCell ⟨g,v*4+j,none⟩ u)/\Below B W (W.setCell ⟨g,v*4+j,none⟩ u):=by
 obtain⟨g,c,M,hs,L,J,K,C⟩:=Il h.ns Zo;cases hs;refine⟨g,rfl,fun j=>C.frozen j,fun j F=>?_,fun x j u F I=>?_⟩
 ·have G:v*4+j<N.length*4:=Zo;rw[h.ns.cellAt _ G,uF F4 N v A j F,Nn A]
 ·have D:=dN W g (v*4+j) u;have H:g≠ib:=fun e=>gV h.ns h.box Zd (by rw[<-e]; rfl)
  rw[Nn A] at I;refine⟨⟨?_,h.lo,?_,h.es.kept D (oz h.es h.ns Zd)⟩,(Below.refl B W).setCell J _⟩
  ·rw[aL]; exact h.box.other H _ _
  ·rw[aL]; exact xW F4 h.ns rfl A F u x I
theorem IxB.setE(h:IxB B ib N E na nc ea ec W){y:Eg}(L:E[i]? = some y):∃g,ea=some ⟨g,0,none⟩/\(∀j,W.frozen? ⟨g,j,none⟩=false)/\(∀j,j<3->W.cell? ⟨g,i*3+j,none⟩=(BL y)[j]?)/\
  ∀(x:Eg) (j:Nat) (u:Value),j<3->BL x=(BL y).set j u->IxB B ib N (E.set i x) na nc ea ec (W.setCell ⟨g,i*3+j,none⟩ u)/\Below B W (W.setCell ⟨g,i*3+j,none⟩ u):=by
 obtain⟨A,C⟩:=List.getElem?_eq_some_iff.1 L;obtain⟨g,c,P,hs,O,J,K,D⟩:=Il h.es Zo;cases hs;refine⟨g,rfl,fun j=>D.frozen j,fun j G=>?_,fun x j u G M=>?_⟩
 ·have H:i*3+j<E.length*3:=Zo;rw[h.es.cellAt _ H,uF F6 E i A j G,C]
 ·have F:=dN W g (i*3+j) u;have I:g≠ib:=fun e=>gV h.es h.box Zd (by rw[<-e]; rfl)
  refine⟨⟨?_,h.lo,h.ns.kept F (oz h.ns h.es Zd),?_⟩,(Below.refl B W).setCell J _⟩
  ·rw[aL]; exact h.box.other I _ _
  ·rw[aL]; exact xW F6 h.es rfl A G u x (C▸M)
end
theorem Ej(h:IxG B ib N E w)(hN:(N.length:Int)<=1000000)(hE:(E.length:Int)<=1000000)(v:Nat)(hv:v<N.length)(c:UInt8)(tg:Nat):
  Qh 241 #[.pointer ib,Yi (v:Int),Yb (c.toNat:Int),Yi (tg:Int)] w fun e w'=>e=.returned (.tuple #[])/\Qg (IxG B ib (N.set v { nd N v with edge:=((E.length:Nat):Int) }) (E++[⟨c,tg,(nd N v).edge⟩]) w')/\Below B w w':=by
 obtain⟨na,nc,ea,ec,h⟩:=h;have hd:IxB B ib N E na nc ea ec w.drew:=⟨h.box,h.lo,h.ns,h.es⟩;obtain⟨B0,B1,W1,C,I,A7,D,M⟩:=hd.pushE ⟨c,tg,(nd N v).edge⟩ hE;obtain⟨W2,J⟩:=Qe (W1.setCell ⟨ib,1,none⟩ (.slice B0 (E.length+1) B1));rw[<-J] at D M;have P:IxB B ib N (E++[⟨c,tg,(nd N v).edge⟩]) na nc B0 B1 W2.drew:=⟨D.box,D.lo,D.ns,D.es⟩;obtain⟨g,B4,A3,A2,A9⟩:=P.setN (v:=v) (by exact hv);obtain⟨Y,Z⟩:=A9 { nd N v with edge:=((E.length:Nat):Int) } 3 (Yi ((E.length:Nat):Int)) Zd rfl;have A0:Below B W2 W2.drew:=(bf _).drew;have F:Qg (IxG B ib (N.set v { nd N v with edge:=((E.length:Nat):Int) }) (E++[⟨c,tg,(nd N v).edge⟩]) (W2.drew.setCell ⟨g,v*4+3,none⟩ (Yi ((E.length:Nat):Int)))/\Below B w (W2.drew.setCell ⟨g,v*4+3,none⟩ (Yi ((E.length:Nat):Int)))):=Qf ⟨⟨_,_,_,_,Y⟩,(((Below.refl B w).drew.trans M).trans A0).trans Z⟩;subst B4
 -- what the loads read,in each of the worlds
 obtain⟨nn,L⟩:=Qe N.length;obtain⟨m,hm⟩:=Qe E.length;rw[<-hm] at C F J hE ⊢;have Q:=hd.box;have H:=P.box;have A6:(E++[(⟨c,tg,(nd N v).edge⟩:Eg)]).length=m+1:=Zn hm;rw[A6,<-L] at H;rw[<-hm,<-L] at Q I;rw[<-L] at hv hN;have C2:(v:Int)<(nn:Int):=Zo;obtain⟨nb,no,O,_,n0,n1,n2,n3⟩:=fu hd.gns (k:=v) Zo;cases O;obtain⟨nb,no,O,_,p0,p1,p2,p3⟩:=fu (jw F4 rfl A7) (k:=v) Zo;cases O;have A1:=A2 3 Zd;rw[show(wT (nd N v))[3]? = some (Yi (nd N v).edge) from rfl] at A1;have B3:=A3 (v*4+3);generalize (nd N v).edge=e0 at *
 rw[aZ] at n3 p3;have HA:Qg (∀W,Below w.drew.heap.size w.drew W->W.cell? ib=some (.slice g nn nc)/\W.cell? ⟨ib,1,none⟩=some (.slice ea m ec)/\W.cell? ⟨g,v*4+3,none⟩=some (Yi e0)):=Qf (fun W hb=>by
  have h1:=Q.below hb;have B5:=World.block_lt_of_cell? _ _ n3;exact⟨h1.c2.1,h1.c2.2,(hb.cell B5).trans n3⟩)
 have U:Qg (W1.cell? ib=some (.slice g nn nc)/\W1.cell? ⟨ib,1,none⟩=some (.slice ea m ec)/\W1.cell? ⟨g,v*4+3,none⟩=some (Yi e0)):=Qf ⟨I.c2.1,I.c2.2,p3⟩;have A8:=HA.o w.drew (bf _);have R:=HA.o (w.drew.alloc (.cells (BL ⟨c,tg,e0⟩).toArray 293)) ((bf _).alloc nr _);have A5:=I.frozen 1;have X:W2.drew.cell? ib=some (.slice g nn nc)/\W2.drew.cell? ⟨ib,1,none⟩=some (.slice B0 (m+1) B1):=H.c2;have C3:IntKind.i64.wrap (((m:Int)+1)-1)=(m:Int):=by rw[ZV]; omega
 have C0:IntKind.i64.wrap (m:Int)=(m:Int):=ZV;have V:=Qf J;simp only[BL] at C R;generalize (c.toNat:Int)=lc at *
 clear h hd I A7 D M P A9 Y Z A0 Q H A6 n0 n1 n2 p0 p1 p2 p3 A2 A3 hm L HA J;go_enter func241,ntmps241;go_wp2_with fail;refine iQ (S:=(fun W=>W.cell? ib=some (.slice g nn nc)/\W.cell? ⟨ib,1,none⟩=some (.slice ea m ec)/\W.cell? ⟨g,v*4+3,none⟩=some (Yi e0))) [20] Zk A8 (fun hHeld=>?_);refine Xv 0 ?_;refine Xv 1 ?_;refine Xv 2 ?_;refine Xv 3 ?_;refine Xv 4 ?_;refine Xv 5 ?_;refine Xv 6 ?_;refine Xv 7 ?_;refine Xv 8 ?_;refine Xv 9 ?_;refine Xv 10 ?_;refine Xv 11 ?_;refine Xv 12 ?_;refine Xv 13 ?_;refine Xv 14 ?_;refine Xv 15 ?_;refine cu (i:=16) Zk rfl (fun K G=>?_);go_simp;refine G.out _ _ ((fun _=>R)) (fun hHeld=>?_);clear G K;refine cu (i:=17) Zk rfl (fun K G=>?_);refine bN Zr (.tmp 12) (.tmp 24) _ _ Zr _ _ Zr Zr _ _ C.out ?_;clear hHeld R;have T:=U.o;refine G.out _ _ ((fun _=>T)) (fun hHeld=>?_);clear G K;refine Xv 18 ?_;refine Xv 19 ?_;refine cu (i:=20) Zk rfl (fun K G=>?_);have A4:=T.2.1;go_simp;refine G.out _ _ ((fun h=>absurd h Zd)) (fun hHeld=>?_);clear G K;refine eQ Zk ?_ _;rw[<-V.o];clear A8 T A4 U C V A5;go_wp2_with fail;refine iQ (S:=(fun W=>W.cell? ib=some (.slice g nn nc)/\W.cell? ⟨ib,1,none⟩=some (.slice B0 (m+1) B1))) [13] Zk X (fun hHeld=>?_);refine Xv 0 ?_;refine Xv 1 ?_;refine Xv 2 ?_;refine Xv 3 ?_;refine Xv 4 ?_;refine Xv 5 ?_;refine Xv 6 ?_;refine Xv 7 ?_;refine Xv 8 ?_;refine Xv 9 ?_;refine Xv 10 ?_;refine Xv 11 ?_;refine Xv 12 ?_;refine cu (i:=13) Zk rfl (fun K G=>?_);go_simp;refine G.out _ _ ((fun h=>absurd h Zd)) (fun hHeld=>?_);clear G K;refine eQ Zk ?_ _;clear X A1 B3;go_wp2;go_end0;exact⟨rfl,Qf F.o.1,F.o.2⟩
def lkM(N0:List Nd)(p:Int):Nat:=if p<0 then 0 else(nd N0 p.toNat).len+1
theorem Nt(N0:List Nd):lkM N0 (-1)=0:=by unfold lkM; rw[if_pos Zo]
theorem Iy(N0:List Nd)(k:Nat):lkM N0 (k:Int)=(nd N0 k).len+1:=by unfold lkM; rw[if_neg Zo]; rfl
section
variable {s:Qb} {c:UInt8} {N0:List Nd} {E0:List Eg} {T0:jc} {W:Nat->Qb}
theorem Ea(B:mX s N0 E0 T0 W)(C:k<N0.length)(hs:W k <:+ s):lkM N0 (nd N0 k).link<lkM N0 (k:Int):=by
 rw[Iy];rcases Cz B.au C hs with A | ⟨u,A,D,E,F⟩
 ·have:(nd N0 k).link=-1:=A;rw[this,Nt]; omega
 ·have:(nd N0 k).link=(u:Int):=A;have e1:(nd N0 u).len=(W u).length:=B.au.len u D;have e2:(nd N0 k).len=(W k).length:=B.au.len k C;rw[this,Iy]; omega
def MH(s:Qb)(c:UInt8)(N0:List Nd)(W:Nat->Qb)(p0:Nat)(B ib:Nat)(w':World):Prop:=∃N E T,IxG B ib N E w'/\N.length=N0.length+2/\E.length<=1000000/\
 mX (s++[c]) (N.set N0.length { nd N N0.length with link:=((N0.length+1:Nat):Int) }) E T (fun k=>if k=N0.length then s++[c] else if k=N0.length+1 then W p0++[c] else W k)
end
theorem F7{N0:List Nd}{E0:List Eg}{T0:jc}{W:Nat->Qb}{N1:List Nd}{E1:List Eg}{T1:jc}{q:Nat}(ha:mX s N0 E0 T0 W)(h1:Lp1 s c N0 T0 W N1 E1 T1 ((k:Nat):Int))(hk:k<N0.length)(hs:W k <:+ s)(hq:trU T1 k c=some q)(hl:¬(nd N1 q).len<=(nd N1 k).len+1)(M5:s.length<=1000)(h:IxG B ib N1 E1 w):
  Qh 242 #[.pointer ib,Yi (k:Int),Yi (q:Int),Yb (c.toNat:Int)] w fun e w'=>e=.returned (Yi ((N0.length+1:Nat):Int))/\Qg (MH s c N0 W k B ib w')/\Below B w w':=by
 obtain⟨I0,N2,L8,L2,B4,D5⟩:=h1.top ha hk hs hq;have K6:=ha.ln;have G9:=h1.ln;have N7:=h1.ix.elen;obtain⟨na,nc,ea,ec,h⟩:=h;have hd:IxB B ib N1 E1 na nc ea ec w.drew:=⟨h.box,h.lo,h.ns,h.es⟩;obtain⟨G2,H1,W1,F,B1,K2,A6,D6⟩:=hd.pushN ⟨(nd N1 k).len+1,(nd N1 q).link,(nd N1 q).fin,-1⟩ Zo;obtain⟨W2,A5⟩:=Qe (W1.setCell ib (.slice G2 (N1.length+1) H1));rw[<-A5] at A6 D6;obtain⟨F6,F2⟩:=Yj (Lp2.start h1.ix (q:=q) Zo ((nd N1 k).len+1) (nd N1 q).link (nd N1 q).fin) (h1.ix.ch q Zo);have A0:Qg (IxG B ib (N1++[⟨(nd N1 k).len+1,(nd N1 q).link,(nd N1 q).fin,-1⟩]) E1 W2):=Qf ⟨_,_,_,_,A6⟩;have E9:Qg (Below B w W2):=Qf ((Below.refl B w).drew.trans D6);obtain⟨pb,po,Q,_,p0,p1,p2,p3⟩:=fu hd.gns (k:=k) Zo;obtain⟨nb,no,C5,_,n0,n1,n2,n3⟩:=fu hd.gns (k:=q) Zo;rw[Q] at C5;cases C5;have A7:=A6.box;obtain⟨F0,F8,C6,_,y0,y1,y2,y3⟩:=fu A6.gns (k:=q) Zt;have I1:nd (N1++[(⟨(nd N1 k).len+1,(nd N1 q).link,(nd N1 q).fin,-1⟩:Nd)]) q=nd N1 q:=by rw[qj _ Zo,if_neg Zo]
 rw[I1] at y3;obtain⟨nn,B3⟩:=Qe N1.length;obtain⟨m,X⟩:=Qe E1.length;have H6:(N1++[(⟨(nd N1 k).len+1,(nd N1 q).link,(nd N1 q).fin,-1⟩:Nd)]).length=nn+1:=Zn B3;have C:=hd.box;rw[H6,<-X] at A7;rw[<-X,<-B3] at C B1;rw[<-B3] at F A5;have M3:(k:Int)<(nn:Int):=Zo;have M9:(q:Int)<(nn:Int):=Zo;have L7:(q:Int)<(nn:Int)+1:=Zo;have M7:(nn:Int)<=3000:=Zo;have I6:IntKind.i64.wrap (((nd N1 k).len:Int)+1)=(((nd N1 k).len+1:Nat):Int):=by
  have:(W k).length<=s.length:=hs.length_le;rw[ZV]; omega
 have HT:=Qf hl;have C4:Qg ((nd N1 q).len=(W q).length/\(nd N1 k).len=(W k).length):=Qf ⟨B4,D5⟩;have A1:Qg (nn=N1.length):=Qf B3;have hS:∀Wx,Below w.drew.heap.size w.drew Wx->Wx.cell? ib=some (.slice na nn nc)/\Wx.cell? ⟨pb,po+k*4,none⟩=some (Yi ((nd N1 k).len:Int))/\Wx.cell? ⟨pb,po+q*4+1,none⟩=some (Yi (nd N1 q).link)/\Wx.cell? ⟨pb,po+q*4+2,none⟩=some (Yi ((nd N1 q).fin:Int)):=fun Wx hb=>by
  have E6:=World.block_lt_of_cell? _ _ p0;exact⟨(C.below hb).c2.1,(hb.cell E6).trans p0,(hb.cell (p:=⟨pb,po+q*4+1,none⟩) E6).trans n1,(hb.cell (p:=⟨pb,po+q*4+2,none⟩) E6).trans n2⟩
 rw[Q] at hS F C B1;have I4:=hS _ (bf _);have C2:=hS (w.drew.alloc (.cells (wT ⟨(nd N1 k).len+1,(nd N1 q).link,(nd N1 q).fin,-1⟩).toArray 250)) ((bf _).alloc nr _);have D3:=Qf A5;have H5:=B1.frozen 0;have H4:=B1.c2.1;have G4:=A7.c2;have K9:W2.cell? ⟨F0,F8+q*4+3,none⟩=some (Yi (nd N1 q).edge):=y3;rw[C6] at G4 F A5 D3;simp only[wT] at F C2;have HX:Qg (∃x:Nd,x=⟨(nd N1 k).len+1,(nd N1 q).link,(nd N1 q).fin,-1⟩/\Lp2 N1 T1 q x (N1++[x]) E1 (nY T1 N1.length []) (nd N1 q).edge [] (T1 q)/\IxG B ib (N1++[x]) E1 W2):=Qf ⟨_,rfl,F6.o,A0.o⟩;clear F6 A0;have M4:(nd N1 k).len+1<=100000:=by have:(W k).length<=s.length:=hs.length_le; omega
 clear h hd A6 D6 C A7 B1 K2 p0 p1 p2 p3 n0 n1 n2 n3 y0 y1 y2 y3 H6 I1 hS Q C6 A5 B3 X B4 D5;generalize H8:(nd N1 k).len=lk at *
 generalize I3:(nd N1 q).link=ql at *
 generalize I2:(nd N1 q).fin=qf at *
 generalize K7:(nd N1 q).edge=e0 at *
 obtain⟨E7,B2⟩:∃E7:Nat,E7=lk+1:=⟨_,rfl⟩;rw[<-B2] at I6 F C2;obtain⟨D0,L0,K0,J8⟩:=Yl H8 B2 I3 I2;obtain⟨lc,D9⟩:∃lc:Int,lc=(c.toNat:Int):=⟨_,rfl⟩;have J6:=Qf D9;rw[<-D9];clear H8 I3 I2 K7 B2 D9;go_enter func242,ntmps242;go_wp2_with fail;refine iQ (S:=(fun Wx=>Wx.cell? ib=some (.slice (some ⟨pb,po,none⟩) nn nc)/\Wx.cell? ⟨pb,po+k*4,none⟩=some (Yi (lk:Int))/\Wx.cell? ⟨pb,po+q*4+1,none⟩=some (Yi ql)/\Wx.cell? ⟨pb,po+q*4+2,none⟩=some (Yi (qf:Int)))) [32,33,34,35] Zk I4 (fun hHeld=>?_);refine Xu 0 ?_;refine Xv 1 ?_;refine Xv 2 ?_;refine Xv 3 ?_;refine Xv 4 ?_;refine Xv 5 ?_;refine Xv 6 ?_;refine Xv 7 ?_;refine Xv 8 ?_;refine Xv 9 ?_;refine Xv 10 ?_;refine Xv 11 ?_;refine Xv 12 ?_;refine Xv 13 ?_;refine Xv 14 ?_;refine Xv 15 ?_;refine Xv 16 ?_;refine Xv 17 ?_;refine Xv 18 ?_;refine Xv 19 ?_;refine Xv 20 ?_;refine Xv 21 ?_;refine Xv 22 ?_;refine Xv 23 ?_;refine Xv 24 ?_;refine Xv 25 ?_;refine Xv 26 ?_;refine Xv 27 ?_;refine Xv 28 ?_;refine Xv 29 ?_;refine Xv 30 ?_;refine cu (i:=31) Zk rfl (fun K J=>?_);go_simp;refine J.out _ _ ((fun _=>C2)) (fun hHeld=>?_);clear J K;refine cu (i:=32) Zk rfl (fun K J=>?_);refine bN Zr (.tmp 16) (.tmp 43) _ _ Zr _ _ Zr Zr _ _ F.out ?_;clear hHeld C2;refine J.out _ _ ((fun h=>absurd h Zd)) (fun hHeld=>?_);clear J K;refine cu (i:=33) Zk rfl (fun K J=>?_);go_simp;refine J.out _ _ ((fun h=>absurd h Zd)) (fun hHeld=>?_);clear J K;refine cu (i:=34) Zk rfl (fun K J=>?_);go_simp;refine J.out _ _ ((fun h=>absurd h Zd)) (fun hHeld=>?_);clear J K;refine cu (i:=35) Zk rfl (fun K J=>?_);go_simp;refine J.out _ _ ((fun h=>absurd h Zd)) (fun hHeld=>?_);clear J K;refine eQ Zk ?_ _;rw[<-D3.o];have N5:IntKind.i64.wrap ((nn:Int)+1-1)=(nn:Int):=by rw[ZV]; omega
 have L9:IntKind.i64.wrap (nn:Int)=(nn:Int):=ZV;clear I4 F D3 H5 H4 I6;go_wp2;go_loopw [10] (fun i wr=>∃(e:Int) (D R:List (Nat×UInt8×Nat)) (x:Nd) (N:List Nd) (E:List Eg) (T:jc),i=Yi e/\Qg (x=⟨lk+1,ql,qf,-1⟩)/\Qg (Lp2 N1 T1 q x N E T e D R)/\Qg (jG E1 e R)/\Qg (∃Y,E=E1++Y)/\Qg (IxG B ib N E wr)/\Qg (Below B w wr)) (fun i _=>Bf E1 (intOf i))
 case atStart=>
  obtain⟨x,hx,hp,hg⟩:=HX.o;exact⟨e0,[],T1 q,x,_,_,_,rfl,Qf hx,Qf hp,F2,Qf ⟨[],Zs⟩,Qf hg,E9⟩
 clear F2 HX E9 G4 K9;obtain⟨e,D,R,x,N,E,T,rfl,D4,I,HC,HY,O,HB⟩:=hrel;have B8:N.length=nn+1:=A1.o▸I.out.ln;have G8:=I.out.ix.elen;cases R with
 | cons y R=>
  obtain⟨rfl,nx,B7,E5⟩:=HC.out;have F1:Qg (Bf E1 ((y.1:Nat):Int)=R.length+1):=Qf (by rw[sO HC.out]; rfl);have J2:Qg (Bf E1 nx=R.length):=Qf (sO E5);have J7:=Qf E5;obtain⟨y1,d,tg⟩:=y;simp only at B7 F1 ⊢;have A2:E[y1]? = some ⟨d,tg,nx⟩:=by
   obtain⟨Y,rfl⟩:=HY.out;rw[List.getElem?_append_left (List.getElem?_eq_some_iff.1 B7).1]; exact B7
  have E4:=(List.getElem?_eq_some_iff.1 A2).1;obtain⟨ma,mc,fa,fc,C⟩:=O.out;have B9:IxB B ib N E ma mc fa fc wr.drew:=⟨C.box,C.lo,C.ns,C.es⟩;have C9:=Qf (Ej ⟨_,_,_,_,B9⟩ Zo Zo nn Zo d tg);obtain⟨eb,eo,rfl,_,q0,q1,q2⟩:=sI B9.ges A2;have G:=B9.box.c2;have G1:=Qf (I.out.next (h1.ix.ltr q Zo) A2);simp only[<-A1.o] at G1;have K1:Qg (∃Y,E++[(⟨d,tg,(nd N nn).edge⟩:Eg)]=E1++Y):=Qf (by
   obtain⟨Y,rfl⟩:=HY.out;exact⟨Y++[⟨d,tg,(nd N nn).edge⟩],ay _ _ _⟩)
  have G6:(E++[(⟨d,tg,(nd N nn).edge⟩:Eg)])[y1]? = some ⟨d,tg,nx⟩:=by rw[List.getElem?_append_left E4]; exact A2
  have J3:=Qf G6;have G7:(E++[(⟨d,tg,(nd N nn).edge⟩:Eg)]).length=E.length+1:=Zs;obtain⟨m,X⟩:=Qe E.length;have HM:=Qf X;rw[<-X] at E4 G;have M6:(y1:Int)<(m:Int):=Zo;have L5:(y1:Int)<(m:Int)+1:=Zo;have N8:(0:Int)<=(y1:Int):=Zo;obtain⟨ld,H7⟩:∃ld:Int,ld=(d.toNat:Int):=⟨_,rfl⟩;rw[<-H7] at q0 C9;have J4:=Qf G7;have H0:wr.drew.cell? ⟨ib,1,none⟩=some (.slice (some ⟨eb,eo,none⟩) m fc)/\wr.drew.cell? ⟨eb,eo+y1*3,none⟩=some (Yb ld)/\wr.drew.cell? ⟨eb,eo+y1*3+1,none⟩=some (Yi (tg:Int)):=⟨G.2,q0,q1⟩;clear C B9 q0 q1 q2 G B7 A2 G6 G7 X H7 I HC HY O E5 B8 G8 E4;go_wp2_with fail;refine iQ (S:=(fun Wx=>Wx.cell? ⟨ib,1,none⟩=some (.slice (some ⟨eb,eo,none⟩) m fc)/\Wx.cell? ⟨eb,eo+y1*3,none⟩=some (Yb ld)/\Wx.cell? ⟨eb,eo+y1*3+1,none⟩=some (Yi (tg:Int)))) [18] Zk H0 (fun hHeld=>?_);refine Xv 0 ?_;refine Xv 1 ?_;refine Xv 2 ?_;refine Xv 3 ?_;refine Xv 4 ?_;refine Xv 5 ?_;refine Xv 6 ?_;refine Xv 7 ?_;refine Xv 8 ?_;refine Xv 9 ?_;refine Xv 10 ?_;refine Xv 11 ?_;refine Xv 12 ?_;refine Xv 13 ?_;refine Xv 14 ?_;refine Xv 15 ?_;refine Xv 16 ?_;refine Xv 17 ?_;refine cu (i:=18) Zk rfl (fun K J=>?_);go_simp;refine C9.o.mono ?_;rintro e u ⟨rfl,A0,G5⟩;have J0:Qg (Below B w u):=Qf (HB.out.drew.trans G5);clear G5 H0 hHeld C9 HB;refine J.out _ _ ((fun h=>absurd h Zd)) (fun hHeld=>?_);clear J K;refine eQ Zk ?_ _;obtain⟨ma,mc,fa,fc,C⟩:=A0.o;obtain⟨eb,eo,rfl,_,q0,q1,q2⟩:=sI C.ges J3.o;have G:=C.box.c2.2;rw[J4.o,<-HM.o] at G;clear C q0 q1;go_wp2;go_roundw
  case rel=>exact⟨nx,_,R,x,_,_,_,rfl,D4,G1,J7,K1,A0,J0⟩
  case measure=>
   simp only[intOf];rw[F1.o,J2.o];omega
 | nil=>
  obtain rfl:e=-1:=HC.out;obtain⟨ma,mc,fa,fc,C⟩:=O.out;obtain⟨g,rfl,V,U,Z⟩:=C.setN (v:=q) Zo;obtain⟨L,A4⟩:=Z { nd N q with link:=((nn:Nat):Int) } 1 (Yi ((nn:Nat):Int)) Zd rfl;obtain⟨N3,A3⟩:=Qe (N.set q { nd N q with link:=((nn:Nat):Int) });rw[<-A3] at L;have HM:Qg (Mid s c N0 T0 W k q N3 T):=Qf (by
   refine Mid.make (E1:=E1) (E2:=E) (E3:=E) (e:=-1) (D:=D) ha h1 hk hs hq (D0.o▸hl) ?_ (A1.o▸A3)
   ·have:=I.out;rw[D4.out,<-D0.o,<-K0.o,<-J8.o] at this;exact this)
  have G3:Qg (Ixr N3 E T):=Qf (A3▸I.out.ix.link (by omega) _);have F5:Qg (IxG B ib N3 E (wr.setCell ⟨g,q*4+1,none⟩ (Yi ((nn:Nat):Int)))):=Qf ⟨_,_,_,_,L⟩;have E8:Qg (Below B w (wr.setCell ⟨g,q*4+1,none⟩ (Yi ((nn:Nat):Int)))):=Qf (HB.out.trans A4);have A8:=U 1 Zd;rw[show(wT (nd N q))[1]? = some (Yi (nd N q).link) from rfl] at A8;have A9:=V (q*4+1);have G:=C.box.c2.1;rw[B8] at G;generalize (nd N q).link=l0 at A8;have B6:Qg (N3.length=nn+1):=Qf (by rw[A3,aL,B8]);have C3:Qg (E.length<=1000000):=Qf Zo;clear C V U Z L A4 A3 B8 G8 I HC HY O HB D4;have J9:Qg ((W k).length<(W q).length):=Qf (by have:=C4.o.1; have:=C4.o.2; have:=D0.o; omega);have G0:=Qf (Lp3.start (c:=c) (T0:=T0) (n:=N0.length) (q:=q) G3.o hk hs);go_wp2;go_loopw [1] (fun i wr=>∃(p:Int) (E':List Eg) (T':jc),i=Yi p/\Qg (Lp3 s c N0.length T0 W k q N3 T N3 E' T' p)/\Qg (E'.length<=1000000)/\Qg (IxG B ib N3 E' wr)/\Qg (Below B w wr)) (fun i _=>lkM N0 (intOf i))
  case atStart=>exact⟨_,E,T,rfl,G0,C3,F5,E8⟩
  clear A8 A9 G F5 E8 G0 G3 C3;obtain⟨p,E',T',rfl,I,F3,O,HB⟩:=hrel;have H:Qg ((p=-1\/∃j:Nat,p=((j:Nat):Int)/\j<N0.length/\W j <:+ s/\(W j).length<=(W k).length/\trU T' j c≠some q)->∀W',IxG B ib N3 E' W'->MH s c N0 W k B ib W'):=Qf (fun he W' hg=>⟨N3,E',T',hg,by rw[B6.o,A1.o,G9],F3.out,I.out.endC ha HM.o hk hs I0 he⟩);have B5:Qg (nn=N0.length+1):=Qf (by rw[A1.o,G9]);have D2:Qg (((N0.length+1:Nat):Int)=(nn:Int)):=Qf (Zx B5.o);rcases I.out.pt with rfl | ⟨j,rfl,hj,C1,D8⟩
  ·have HR:=Qf (H.o (.inl rfl) wr O.out);clear H O I;go_wp2;go_ret;rw[D2.o];exact⟨rfl,HR,HB.out⟩
  have D7:j<N3.length:=by rw[B6.o]; have:=B5.o; omega
  have M2:(j:Int)<(nn:Int)+1:=Zh B5.o;have M1:(0:Int)<=(j:Int):=Zo;have P:=Qf (um (O.out.in_) I.out.ix (Zy B6.o) j D7 c);rw[<-J6.o] at P;cases M:trU T' j c with
  | none=>
   rw[uJ M] at P;have HR:=Qf (H.o (.inr ⟨j,rfl,hj,C1,D8,Zn M⟩) wr O.out);clear H O I M;go_wp2_with fail;refine P.o.mono ?_;rintro e u ⟨rfl,rfl⟩;go_wp2;go_ret;rw[D2.o];exact⟨rfl,HR,HB.out⟩
  | some u=>
   obtain⟨i,A9,C0⟩:=uI M;obtain⟨nx,B0⟩:=Ep I.out.ix D7 C0;rw[A9] at P;obtain⟨ma,mc,fa,fc,C⟩:=O.out;obtain⟨eg,rfl,V,U,Z⟩:=C.setE B0;have C7:=(List.getElem?_eq_some_iff.1 B0).1;have G:=C.box.c2.2;have A8:=U 1 Zd;rw[show(BL ⟨c,u,nx⟩)[1]? = some (Yi (u:Int)) from rfl] at A8;have L3:=V (i*3+1);by_cases I5:u=q
   ·subst I5;obtain⟨L,A4⟩:=Z ⟨c,nn,nx⟩ 1 (Yi (nn:Int)) Zd rfl;have D1:=Qf (I.out.next ha HM.o hk I0 hj C1 D8 C0 B0);rw[<-B5.o] at D1;have F9:=Qf (Ea ha hj C1);have H9:j≠u:=fun e=>by subst e; have:=J9.o; omega
    have C8:(nd N3 j).link=(nd N0 j).link:=HM.o.link j hj H9;obtain⟨xb,xo,Q,_,x0,x1,x2,x3⟩:=fu L.gns (k:=j) D7;rw[C8] at x1;generalize (nd N0 j).link=lj at D1 F9 x1;have K8:=L.box.c2.1;rw[Q,B6.o] at K8;have J5:Qg (IxG B ib N3 (E'.set i ⟨c,nn,nx⟩) (wr.setCell ⟨eg,i*3+1,none⟩ (Yi (nn:Int)))):=Qf ⟨_,_,_,_,L⟩;have J1:=Qf (HB.out.trans A4);have F4:Qg ((E'.set i ⟨c,nn,nx⟩).length<=1000000):=Qf (by rw[aL]; exact F3.out);have N4:((u:Int) !=(u:Int))=false:=Zs;obtain⟨m,X⟩:=Qe E'.length;rw[<-X] at C7 G;have K5:(i:Int)<(m:Int):=Zo;have K4:¬(i:Int)<0:=Zo;clear C V U Z L A4 x0 x2 x3 A9 C0 B0 M I O HB X Q C8;go_wp2_with fail;refine P.o.mono ?_;rintro e z ⟨rfl,rfl⟩;go_wp2;go_roundw
    case rel=>exact⟨lj,_,_,rfl,D1,F4,J5,J1⟩
    case measure=>simpa[intOf] using F9.o
   ·have H9:((u:Int) !=(q:Int))=true:=Zt;have HR:=Qf (H.o (.inr ⟨j,rfl,hj,C1,D8,by rw[M]; simp[I5]⟩) wr O.out);obtain⟨m,X⟩:=Qe E'.length;rw[<-X] at C7 G;have K5:(i:Int)<(m:Int):=Zo;have K4:¬(i:Int)<0:=Zo;clear C V U Z A9 C0 B0 M I O X H;go_wp2_with fail;refine P.o.mono ?_;rintro e z ⟨rfl,rfl⟩;go_wp2;go_ret;rw[D2.o];exact⟨rfl,HR,HB.out⟩
def Kc(s:Qb)(B ib v:Nat)(w':World):Prop:=∃N E T W,mX s N E T W/\IxG B ib N E w'/\v<N.length/\W v=s
theorem CK(h:Kc s B ib v w)(c:UInt8)(F9:s.length<=1000):
  Qh 221 #[.pointer ib,Yi (v:Int),Yb (c.toNat:Int)] w fun e w'=>(∃v':Nat,e=.returned (Yi (v':Int))/\Qg (Kc (s++[c]) B ib v' w'))/\Below B w w':=by
 obtain⟨N0,E0,T0,W,S,hg,hv,hW⟩:=h;obtain⟨na,nc,ea,ec,hb⟩:=hg;have F8:=S.ln;have E2:(nd N0 v).len=s.length:=hW▸S.au.len v hv;obtain⟨D0,E5,W1,I,B0,F5,A8,D2⟩:=hb.pushN ⟨s.length+1,0,s.length+1,-1⟩ Zo;obtain⟨pb,po,rfl,_,p0,p1,p2,p3⟩:=fu hb.gns (k:=v) hv;rw[E2] at p0;obtain⟨sl,E4⟩:=Qe s.length;obtain⟨A5,A2⟩:∃A5:Nat,A5=s.length+1:=⟨_,rfl⟩;obtain⟨nn,L⟩:=Qe N0.length;have B9:=Qf (Lp1.start (c:=c) S hv hW);rw[<-E4] at p0;rw[<-A2] at I A8 B9;rw[<-L] at I B0;have B7:Qg (IxG B ib (N0++[⟨A5,0,A5,-1⟩]) E0 (W1.setCell ib (.slice D0 (N0.length+1) E5))):=Qf ⟨_,_,_,_,A8⟩;have B5:Qg (Below B w (W1.setCell ib (.slice D0 (N0.length+1) E5))):=Qf D2;rw[<-L] at B7 B5 hv;have D3:(W1.setCell ib (.slice D0 (nn+1) E5)).cell? ib=some (.slice D0 (nn+1) E5):=by
  have h2:=A8.box.c2.1;rw[show(N0++[(⟨A5,0,A5,-1⟩:Nd)]).length=nn+1 by rw[L]; simp,<-L] at h2;exact h2
 have C:=hb.box.c2;rw[<-L] at C;have H8:(v:Int)<(nn:Int):=Zo;have I0:IntKind.i64.wrap ((sl:Int)+1)=(A5:Int):=by rw[ZV]; omega
 have H5:(nn:Int)<=3000:=Zo;have I1:IntKind.i64.wrap ((nn:Int)+1-1)=(nn:Int):=by rw[ZV]; omega
 have G7:IntKind.i64.wrap (nn:Int)=(nn:Int):=ZV;have D:Qg (nn=N0.length):=Qf L;have G8:Qg (A5=s.length+1):=Qf A2;obtain⟨lc,C5⟩:∃lc:Int,lc=(c.toNat:Int):=⟨_,rfl⟩;have A6:=Qf C5;rw[<-C5];have D7:=B0.c2.1;have D8:=B0.frozen 0;have F4:=C.1;simp only[wT] at I;have hz:((0:Nat):Int)=0:=rfl;clear hb F5 A8 D2 B0 p1 p2 p3 E2 L E4 A2 C5 C;go_enter func221,ntmps221;go_wp2_with (at_builtin; refine Lib.wpList_append_run _ rfl _ _ _ _ rfl _ _ rfl rfl _ _ I.out ?_);clear I F4 D7 D8 p0;go_loopw [9] (fun i wr=>∃(p:Int) (N:List Nd) (E:List Eg) (T:jc),i=Yi p/\Qg (Lp1 s c N0 T0 W N E T p)/\Qg (IxG B ib N E wr)/\Qg (Below B w wr)) (fun i _=>lkM N0 (intOf i))
 case atStart=>exact⟨_,_,E0,_,rfl,B9,B7,B5⟩
 clear D3 B9 B7 B5;obtain⟨p,N,E,T,rfl,H,HG,HB⟩:=hrel;have F:Qg (N.length=nn+1):=Qf (D.o▸H.out.ln);have F1:Qg (E.length<=1000000):=Qf (by have:=H.out.ix.elen; have:=F.o; omega);rcases H.out.pt with rfl | ⟨k,rfl,hk,Q⟩
 ·have HR:Qg (Kc (s++[c]) B ib nn wr):=Qf ⟨N,E,T,_,H.out.endA S,HG.out,Zh F.o,by rw[if_pos D.o]⟩;clear H HG;go_wp2;go_ret;exact⟨⟨nn,rfl,HR⟩,HB.out⟩
 have P:k<N.length:=by rw[F.o]; have:=D.o; omega
 have H4:(k:Int)<(nn:Int)+1:=Zh D.o;have H3:(0:Int)<=(k:Int):=Zo;have G4:¬(k:Int)<0:=Zo;have J:=Qf (um (HG.out.in_) H.out.ix (Zy F.o) k P c);rw[<-A6.o] at J;cases G:trU T k c with
 | none=>
  rw[uJ G] at J;have A3:=Qf (Ej HG.out (Zy F.o) (Zh F1.o) k P c nn);rw[<-A6.o] at A3;have A7:=Qf (H.out.next S hk Q G);rw[<-D.o] at A7;have B4:=(H.out.old k hk).2.1;have C8:Qg (lkM N0 (nd N k).link<lkM N0 (k:Int)):=Qf (B4▸Ea S hk Q);have E3:nd (N.set k { nd N k with edge:=((E.length:Nat):Int) }) k={ nd N k with edge:=((E.length:Nat):Int) }:=by rw[iW _ P,if_pos rfl]
  have B8:Qg ((nd (N.set k { nd N k with edge:=((E.length:Nat):Int) }) k).link=(nd N k).link):=Qf (Zx E3);have C9:Qg (k<(N.set k { nd N k with edge:=((E.length:Nat):Int) }).length):=Qf (by rw[aL]; exact P);have B1:Qg ((N.set k { nd N k with edge:=((E.length:Nat):Int) }).length=nn+1):=Qf (by rw[aL,F.o]);generalize N.set k { nd N k with edge:=((E.length:Nat):Int) }=N' at A7 A3 B8 C9 B1;generalize (nd N k).link=lk at A7 C8 B8;clear H HG B4 E3 G;go_wp2_with fail;refine J.o.mono ?_;rintro e u ⟨rfl,rfl⟩;go_wp2_with fail;refine A3.o.mono ?_;rintro e u ⟨rfl,C7,V⟩;have F0:=Qf (HB.out.trans V);obtain⟨ma,mc,fa,fc,C⟩:=C7.out;obtain⟨xb,xo,rfl,_,x0,x1,x2,x3⟩:=fu C.gns (k:=k) C9.o;have A9:=C.box.c2.1;rw[B8.o] at x1;rw[B1.o] at A9;clear V HB C x0 x2 x3 J A3;go_wp2;go_roundw
  case rel=>exact⟨lk,_,_,_,rfl,A7,C7,F0⟩
  case measure=>simpa[intOf] using C8.o
 | some q=>
  obtain⟨i,C4,D6⟩:=uI G;have H2:¬(i:Int)<0:=Zo;rw[C4] at J;have U:=Qf (Ad (HG.out.in_) H.out.ix (Zy F.o) k P c);unfold Ky at U;rw[G,<-A6.o] at U;simp only at U;obtain⟨H6,C6,_,_,_,_⟩:=H.out.top S hk Q G;obtain⟨ma,mc,fa,fc,C⟩:=HG.out;have K:IxB B ib N E ma mc fa fc wr.drew:=⟨C.box,C.lo,C.ns,C.es⟩;have G1:q<N.length:=by rw[F.o]; have:=D.o; omega
  have G0:N0.length<N.length:=by rw[F.o,D.o]; omega
  obtain⟨g,rfl,O,M,R⟩:=K.setN (v:=nn) (D.o▸G0);obtain⟨xb,xo,C3,_,x0,_,_,_⟩:=fu K.gns (k:=k) P;cases C3;obtain⟨yb,yo,C3,_,y0,_,_,_⟩:=fu K.gns (k:=q) G1;cases C3;rw[aZ] at x0 y0;have A9:=K.box.c2.1;rw[F.o] at A9;have H7:(q:Int)<(nn:Int)+1:=Zh D.o;have D9:(nd N k).len<=3000:=by
   have h1:=(H.out.old k hk).1;have h2:(nd N0 k).len=(W k).length:=S.au.len k hk;have h3:=Q.length_le;omega
  have E1:(nd N q).len<=3000:=by
   have h1:=(H.out.old q C6).1;have h2:(nd N0 q).len=(W q).length:=S.au.len q C6;have h3:=(S.au.lm q C6).fac.len;omega
  obtain⟨lk,A0⟩:=Qe ((nd N k).len);obtain⟨B2,B3⟩:∃B2:Nat,B2=(nd N k).len+1:=⟨_,rfl⟩;obtain⟨lq,A1⟩:=Qe ((nd N q).len);rw[<-A0] at x0;rw[<-A1] at y0;have H9:IntKind.i64.wrap ((lk:Int)+1)=(B2:Int):=by rw[ZV]; omega
  have G6:(nn:Int)<(nn:Int)+1:=Zo;have A4:Qg (Below B w wr.drew):=Qf HB.out.drew;by_cases hl:(nd N q).len<=(nd N k).len+1
  ·have F6:¬(B2:Int)<(lq:Int):=Zo;have C1:=H.out.endB S hk Q G hl;rw[<-D.o] at C1;obtain⟨X,Y⟩:=R { nd N nn with link:=((q:Nat):Int) } 1 (Yi ((q:Nat):Int)) Zd rfl;have HR:Qg (Kc (s++[c]) B ib nn (wr.drew.setCell ⟨g,nn*4+1,none⟩ (Yi ((q:Nat):Int)))):=Qf ⟨_,_,_,_,C1,⟨_,_,_,_,X⟩,by rw[aL,F.o]; omega,by rw[if_pos rfl]⟩;have B6:=Qf (A4.o.trans Y);have Z:=M 1 Zd;rw[show(wT (nd N nn))[1]? = some (Yi (nd N nn).link) from rfl] at Z;have D5:=O (nn*4+1);generalize (nd N nn).link=l0 at Z;clear C K O M R X Y C1 G C4 D6 A0 B3 A1 H HG A4 hl D9 E1;go_wp2_with fail;refine J.o.mono ?_;rintro e u ⟨rfl,rfl⟩;go_wp2_with fail;refine U.o.mono ?_;rintro e u ⟨rfl,rfl⟩;go_wp2;go_region
   all_goals
    go_wp2;go_ret;exact⟨⟨nn,rfl,HR⟩,B6.o⟩
  ·have F6:(B2:Int)<(lq:Int):=Zo;have F3:=H.out;have D1:=Qf (F7 S H.out hk Q G hl F9 (⟨_,_,_,_,K⟩:IxG B ib N E wr.drew));rw[<-A6.o] at D1;clear C K O M R G C4 D6 A0 B3 A1 H HG hl D9 E1 F3;go_wp2_with fail;refine J.o.mono ?_;rintro e u ⟨rfl,rfl⟩;go_wp2_with fail;refine U.o.mono ?_;rintro e u ⟨rfl,rfl⟩;go_wp2;go_region
   all_goals
    go_wp2_with fail;refine D1.o.mono ?_;rintro e u ⟨rfl,HS,V⟩;obtain⟨N',E',T',F2,C2,_,C0⟩:=HS.out;rw[<-D.o] at C0 C2;obtain⟨ma,mc,fa,fc,C⟩:=F2;obtain⟨g,rfl,O,M,R⟩:=C.setN (v:=nn) Zo;obtain⟨X,Y⟩:=R { nd N' nn with link:=((nn+1:Nat):Int) } 1 (Yi ((nn+1:Nat):Int)) Zd rfl;have HR:Qg (Kc (s++[c]) B ib nn (u.setCell ⟨g,nn*4+1,none⟩ (Yi ((nn+1:Nat):Int)))):=Qf ⟨_,_,_,_,C0,⟨_,_,_,_,X⟩,Zy aL,by rw[if_pos rfl]⟩;have B6:=Qf ((A4.o.trans V).trans Y);have Z:=M 1 Zd;rw[show(wT (nd N' nn))[1]? = some (Yi (nd N' nn).link) from rfl] at Z;have D5:=O (nn*4+1);generalize (nd N' nn).link=l0 at Z;have D4:=C.box.c2.1;rw[C2] at D4;have G5:(nn:Int)<(nn:Int)+2:=Zo;rw[<-D.o];clear C O M R X Y C0 A4 V HS C2 A9 x0 y0;go_wp2;go_ret;exact⟨⟨nn,rfl,HR⟩,B6.o⟩
theorem Ng{e:TypeId}(h:BK g cs e W)(C:B<=g)(A:cs.size=n*z)(D:n<=1000):W.ownsRow B e z (.slice g n n) n cs.toList:=
 ⟨by rw[Array.length_toList]; exact A,.inr ⟨g,n,cs,rfl,C,h,nr,Zm,A,by rw[<-A,<-Array.length_toList,rC]⟩⟩
def J5(s:Qb)(B ib:Nat)(W:World):Prop:=∃N E T V,mX s N E T V/\J6 B ib N E W
theorem J5.below(h:J5 s B ib W)(F:Below B' W W')(D:B<=B'):J5 s B ib W':=by
 obtain⟨N,E,T,V,A,C⟩:=h;exact⟨N,E,T,V,A,C.below F D⟩
theorem J5.mono(h:J5 s B ib W)(D:B<=B'):J5 s B' ib W:=by
 obtain⟨N,E,T,V,A,C⟩:=h;exact⟨N,E,T,V,A,C.mono D⟩
def pJ(s:Qb)(B ib:Nat)(W:World):Prop:=∃N E T V,mX s N E T V/\IxG B ib N E W
theorem pJ.of(h:pJ s B ib W):J5 s W.heap.size ib W:=by
 obtain⟨N,E,T,V,A,C⟩:=h;exact⟨N,E,T,V,A,C.in_⟩
theorem pJ.grown{b:Nat}(h:pJ s B ib W)(C:W.grownBy W' (some b))(D:b<B):pJ s B ib W':=by
 obtain⟨N,E,T,V,F,na,nc,ea,ec,A⟩:=h;exact⟨N,E,T,V,F,na,nc,ea,ec,A.box.grow1 C (Zh A.lo),A.lo,bD A.ns C D,bD A.es C D⟩
theorem pJ.below(h:pJ s B ib W)(D:Below W.heap.size W W'):pJ s B ib W':=by
 obtain⟨N,E,T,V,A,na,nc,ea,ec,C⟩:=h;exact⟨N,E,T,V,A,na,nc,ea,ec,C.below D⟩
theorem Kc.own(h:Kc s B ib v W):pJ s B ib W:=by
 obtain⟨N,E,T,V,A,C,_⟩:=h;exact⟨N,E,T,V,A,C⟩
theorem zW(s:Qb)(w:World)(hl:s.length<=1000):Qh 186 #[s] w fun e w'=>∃ib,e=.returned (.pointer (some ⟨ib,0,none⟩))/\Qg (pJ s w.heap.size ib w')/\Below w.heap.size w w'/\w.heap.size<=ib:=by
 obtain⟨w1,B⟩:=Qe ((w.alloc (.cells #[Yi 0,Yi (-1),Yi 0,Yi (-1)] 250)).alloc (.cells #[.slice w 1 1,()] 254));have T:BK w.heap.size #[Yi 0,Yi (-1),Yi 0,Yi (-1)] 250 w1:=B▸(BK.new _ _ _).alloc _;have U:BK (w.heap.size+1) #[.slice w 1 1,()] 254 w1:=B▸BK.new2 _ _ _ _;have E:Qg (Below w.heap.size w w1):=Qf (B▸((bf _).alloc nr _).alloc (by simp) _);have C:Qg (Kc ([]:Qb) w.heap.size (w.heap.size+1) 0 w1):=Qf ⟨_,_,_,_,mX.start,⟨some ⟨w.heap.size,0,none⟩,1,none,0,⟨U,Zo,Ng (n:=1) T nr rfl Zo,World.ownsRow_nil _ _ _ _⟩⟩,Zs,rfl⟩;obtain⟨ib,D⟩:=Qe (w.heap.size+1);rw[<-D] at C;have F:Qg (ib=w.heap.size+1):=Qf D;obtain⟨n,K⟩:=Qe s.length;have R:Qg (n=s.length):=Qf K;have A3:(⟨s.toArray⟩:ByteArray).size=n:=by rw[bH,K]
 have A2:(n:Int)<=1000:=Zo;have S:=Qf B;have G:Qg (∀k,k<n->∃(d:Int) (c:UInt8),d=(c.toNat:Int)/\s.take (k+1)=s.take k++[c]/\∀w,(Instr.index 9 (.string ⟨s.toArray⟩) (Yi k)).run prog w=.ok (Yb d) w):=Qf (fun k X=>by
  obtain⟨d,_,_,Z,h4⟩:=idx ⟨s.toArray⟩ k (by rw[bH,<-K]; exact X);have H:k<s.length:=Zo;refine⟨d,s[k],?_,ai H,h4⟩;rw[Z];simp[List.getD,H])
 clear B T U D K;go_enter func186,ntmps186;go_wp2_with fail;rw[<-F.o,<-S.o];clear S;go_loopw [4,12] (fun l i wr=>∃(k v:Nat),k<=n/\l=Yi (v:Int)/\i=Yi (k:Int)/\Qg (Kc (s.take k) w.heap.size ib v wr)/\Qg (Below w.heap.size w wr)) (fun _ i _=>n-(intOf i).toNat)
 case atStart=>exact⟨0,0,Zo,rfl,rfl,C,E⟩
 clear C E;obtain⟨k,v,X,rfl,rfl,J,L⟩:=hrel;by_cases Q:k<n
 ·have P:(k:Int)<(n:Int):=Zo;obtain⟨d,c,W,I,A1⟩:=G.o k Q;have N:=Qf (CK J.out c (by rw[aA]; have:=R.o; omega));rw[<-W,<-I] at N;clear W I;go_wp2_with fail;refine N.o.mono ?_;rintro e u ⟨⟨v',rfl,O⟩,V⟩;have M:=Qf (L.out.trans V);clear V N J L;go_wp2;go_roundw
  case rel=>exact⟨k+1,v',Zo,rfl,Zg,O,M⟩
  case measure=>exact Yr
 ·obtain rfl:k=n:=Zo;have P:¬(k:Int)<(k:Int):=Zo;have Y:Qg (pJ s w.heap.size ib wr):=Qf (by
   have:=J.out.own;rw[R.o,rC] at this;exact this)
  clear J G;go_wp2;go_ret;exact⟨ib,rfl,Y,L.out,Zh F.o⟩
theorem NV{y:Qb}(E:n<=y.length)(C:Oc a (y.take n) j)(A:∀i,Oc a (y.take n) i->j<=i)(D:n=y.length\/¬Fac a (y.take (n+1))):iD a y=(j-n,n)/\n<=j:=by
 obtain⟨g1,g2⟩:=Ma E C A D;by_cases h:0<n
 ·obtain⟨g3,g4⟩:=g2 h;exact⟨Prod.ext g3 g1,g4⟩
 ·obtain rfl:n=0:=by omega
  have B:j=0:=by have:=A 0 ⟨Q6 _,by simp⟩; omega
  obtain⟨k1,k2,k3⟩:=lG a y a.length;exact⟨Prod.ext (by rw[B]; exact k2 g1) g1,Q6 _⟩
structure LoSt (a y:Qb) (N:List Nd) (V:Nat->Qb) (k v:Nat):Prop where
 le:k<=y.length
 lt:v<N.length
 at_:AtW a V (y.take k) v
theorem Cy(hx:J5 a w.heap.size ib w)(X:w.cell? bb=some (.string ⟨b.toArray⟩))(A1:w.cell? xb=some (.pointer ib))(ha:a.length<=1000)(B5:(b.length:Int)<=1000000)(at_:Nat)(B4:at_<=b.length):
  Qh 190 #[Yi (at_:Int),.pointer bb,.pointer xb] w fun e w'=>e=.returned (.tuple #[Yi ((iD a (b.drop at_)).1:Int),Yi ((iD a (b.drop at_)).2:Int)])/\Below w.heap.size w w':=by
 obtain⟨N,E,T,V,F,A6⟩:=hx;have C7:=F.ln;obtain⟨n,Z⟩:=Qe b.length;have HN:Qg (n=b.length):=Qf Z;have D4:(⟨b.toArray⟩:ByteArray).size=n:=by rw[bH,Z]
 rw[<-Z] at B4 B5;have I:Qg (∀k,at_+k<n->∃(d:Int) (c:UInt8),d=(c.toNat:Int)/\(b.drop at_).take (k+1)=(b.drop at_).take k++[c]/\∀w,(Instr.index 9 (.string ⟨b.toArray⟩) (Yi ((at_+k:Nat):Int))).run prog w=.ok (Yb d) w):=Qf (fun k hk=>by
  obtain⟨d,_,_,h3,h4⟩:=idx ⟨b.toArray⟩ (at_+k) (by rw[bH,<-Z]; exact hk);have B8:k<(b.drop at_).length:=by rw[ah,<-Z]; omega
  refine⟨d,(b.drop at_)[k],?_,ai B8,h4⟩;rw[h3,eF];have:at_+k<b.length:=Zo;simp[List.getD,this])
 obtain⟨y,hy⟩:=Qe (b.drop at_);have A9:y.length=n-at_:=by rw[hy,ah,Z]
 rw[<-hy] at I ⊢;have U:=Qf A9;have A4:Qg (LoSt a y N V 0 0):=Qf ⟨Q6 _,F.au.pos,F.at0⟩;have R:=Qf A6;have HC:Qg (∀W,Below w.heap.size w W->W.cell? bb=some (.string ⟨b.toArray⟩)/\W.cell? xb=some (.pointer ib)):=Qf (fun W hb=>⟨(hb.cell (World.block_lt_of_cell? _ _ X)).trans X,(hb.cell (World.block_lt_of_cell? _ _ A1)).trans A1⟩);have A3:=Qf (Below.refl w.heap.size w);have C8:(0:Int)<=(at_:Int):=Zo;clear Z hy A9 A6 X A1;go_enter func190,ntmps190;go_wp2;go_loopw [6,7] (fun vv l wr=>∃(k v:Nat),vv=Yi (v:Int)/\l=Yi (k:Int)/\Qg (LoSt a y N V k v)/\Qg (Below w.heap.size w wr)) (fun _ l _=>n-(intOf l).toNat)
 case atStart=>exact⟨0,0,rfl,rfl,A4,A3⟩
 clear A4 A3;obtain⟨k,v,rfl,rfl,C,HB⟩:=hrel;have D2:at_+k<=n:=by have:=C.out.le; have:=U.o; omega
 obtain⟨p,hp⟩:=Qe (at_+k);have D7:IntKind.i64.wrap ((at_:Int)+(k:Int))=(p:Int):=by rw[ZV]; omega
 obtain⟨C9,D0⟩:=HC.o wr HB.out;have B:Qg ((k=y.length\/¬Fac a (y.take (k+1)))->iD a y=((nd N v).fin-k,k)/\k<=(nd N v).fin/\(nd N v).fin<=1000):=Qf (fun h3=>by
  obtain⟨g1,g2⟩:=F.fin C.out.lt C.out.at_;obtain⟨g3,g4⟩:=NV C.out.le g1 g2 h3;exact⟨g3,g4,Zh g1.1⟩)
 have C5:Qg (v<N.length):=Qf C.out.lt;have D6:IntKind.i64.wrap ((k:Int)+1)=(k:Int)+1:=ZV;by_cases D3:p<n
 ·have B9:(p:Int)<(n:Int):=Zo;have C4:(k:Int)<(n:Int):=Zo;obtain⟨d,c,hd,P,B7⟩:=I.o k Zo;rw[<-hp] at B7;have G:Below w.heap.size w wr.drew:=HB.out.drew;have D:=Qf (Ad (R.o.below G nr) F.ix Zo v C.out.lt c);unfold Ky at D;rw[<-hd] at D;have O:=HC.o _ G;cases H:trU T v c with
  | none=>
   rw[H] at D;simp only at D;obtain⟨e1,e2,e3⟩:=B.o (.inr (P▸F.atN C.out.lt C.out.at_ H));obtain⟨⟨na,nc,ea,ec,J,L,_⟩,_⟩:=R.o.below G nr;obtain⟨A2,xo,rfl,_,_,_,x2,_⟩:=fu L (k:=v) C.out.lt;have Y:=J.c2.1;obtain⟨j,hj⟩:=Qe ((nd N v).fin);rw[<-hj] at x2 e1 e2 e3;obtain⟨nn,M⟩:=Qe N.length;rw[<-M] at Y;have C0:(v:Int)<(nn:Int):=Zh C.out.lt;have A0:IntKind.i64.wrap ((j:Int)-(k:Int))=((j-k:Nat):Int):=by rw[ZV]; omega
   obtain⟨q,hq⟩:=Qe (j-k);rw[<-hq] at A0 e1;obtain⟨HE,Q⟩:=Yj e1 G;clear J L hd P H B C HB hj M hq hp e1 e2 e3 G I;go_wp2_with fail;refine wp_region_held_drew (S:=(fun W=>W.cell? bb=some (.string ⟨b.toArray⟩)/\W.cell? xb=some (.pointer ib))) Zk O (fun hHeld=>?_);refine Xx 0 ?_;refine Xx 1 ?_;refine Xx 2 ?_;refine Xx 3 ?_;refine Xx 4 ?_;refine Xx 5 ?_;refine Xx 6 ?_;refine wpAnyH_ready (rs:=[7]) Zk Zs ?_;refine AllReadyH.cons rfl (fun K hK=>?_) AllReadyH.nil;go_simp;refine D.o.mono ?_;rintro e uz ⟨rfl,rfl⟩;refine hK.out _ _ (O) (fun hHeld=>?_);clear hK K;refine Xx 8 ?_;refine wpAnyH_done Zk ?_ _;go_wp2_with fail;go_ret2;exact⟨by rw[HE.o]; first | done | rfl,Q.o⟩
  | some u=>
   rw[H] at D;simp only at D;obtain⟨g1,g2⟩:=F.atS C.out.lt C.out.at_ H;have B2:Qg (LoSt a y N V (k+1) u):=Qf ⟨Zy U.o,g1,P▸g2⟩;have D5:¬(u:Int)<0:=Zo;have Q:=Qf G;clear hd P H B C HB hp G I g1 g2;go_wp2_with fail;refine wp_region_held_drew (S:=(fun W=>W.cell? bb=some (.string ⟨b.toArray⟩)/\W.cell? xb=some (.pointer ib))) Zk O (fun hHeld=>?_);refine Xx 0 ?_;refine Xx 1 ?_;refine Xx 2 ?_;refine Xx 3 ?_;refine Xx 4 ?_;refine Xx 5 ?_;refine Xx 6 ?_;refine wpAnyH_ready (rs:=[7]) Zk Zs ?_;refine AllReadyH.cons rfl (fun K hK=>?_) AllReadyH.nil;go_simp;refine D.o.mono ?_;rintro e uz ⟨rfl,rfl⟩;refine hK.out _ _ (O) (fun hHeld=>?_);clear hK K;refine Xx 8 ?_;refine wpAnyH_done Zk ?_ _;go_wp2;go_roundw
   case rel=>exact⟨k+1,u,rfl,Zg,B2,Q⟩
   case measure=>simp only[intOf]; omega
 ·obtain rfl:p=n:=Zo;have B9:¬(p:Int)<(p:Int):=Zo;obtain⟨e1,e2,e3⟩:=B.o (.inl (Zy U.o));obtain⟨⟨na,nc,ea,ec,J,L,_⟩,_⟩:=R.o.below HB.out nr;obtain⟨A2,xo,rfl,_,_,_,x2,_⟩:=fu L (k:=v) C.out.lt;have Y:=J.c2.1;obtain⟨j,hj⟩:=Qe ((nd N v).fin);rw[<-hj] at x2 e1 e2 e3;obtain⟨nn,M⟩:=Qe N.length;rw[<-M] at Y;have C0:(v:Int)<(nn:Int):=Zh C.out.lt;have A0:IntKind.i64.wrap ((j:Int)-(k:Int))=((j-k:Nat):Int):=by rw[ZV]; omega
  obtain⟨q,hq⟩:=Qe (j-k);rw[<-hq] at A0 e1;have HE:=Qf e1;clear J L B C hj M hq e1 e2 e3 I hp;go_wp2_with fail;go_ret2;exact⟨by rw[HE.o]; first | done | rfl,HB.out⟩
section
attribute [local go_sem] Oper.semAt_some
def dF(a b:Qb):Nat->Nat->List Dop
 | 0,_=>[]
 | f+1,k=>if k<b.length then eH a b k::dF a b f (k+bS (eH a b k)) else[]
theorem iT(h:b.length<=k):dF a b f k=[]:=by
 cases f with
 | zero=>rfl
 | succ f=>rw[dF,if_neg Zo]
theorem qP{a b:Qb}:∀(f g k:Nat),b.length<=k+f->b.length<=k+g->dF a b f k=dF a b g k
 | 0,g,k,A,B=>by rw[iT Zo,iT Zo]
 | f+1,0,k,A,B=>by rw[iT Zo,iT Zo]
 | f+1,g+1,k,A,B=>by
  rw[dF,dF];by_cases e:k<b.length
  ·rw[if_pos e,if_pos e];have:=(lV (a:=a) e).1;rw[qP f g _ Zo Zo]
  ·rw[if_neg e,if_neg e]
def jH(a b:Qb):List Dop:=dF a b b.length 0
theorem ry{a b:Qb}:∀(f k:Nat) (l:List Dop),uU a b f k l=(dF a b f k).foldl Ko l
 | 0,k,l=>rfl
 | f+1,k,l=>by
  rw[uU,dF];by_cases e:k<b.length
  ·rw[if_pos e,if_pos e,fE,ry f]
  ·rw[if_neg e,if_neg e]; rfl
theorem CZ(a b:Qb):iM a b=(jH a b).foldl Ko []:=ry _ _ _
structure Mh (a b:Qb) (pre:List Dop) (k:Nat):Prop where
 le:k<=b.length
 eq:pre++dF a b (b.length-k) k=jH a b
theorem Mh.start(a b:Qb):Mh a b [] 0:=⟨Q6 _,rfl⟩
theorem Mh.next{pre:List Dop}(h:Mh a b pre k)(B:k<b.length):Mh a b (pre++[eH a b k]) (k+bS (eH a b k))/\(pre++[eH a b k]) <+: jH a b:=by
 have hs:=lV (a:=a) B;have C:dF a b (b.length-k) k=eH a b k::dF a b (b.length-(k+bS (eH a b k))) (k+bS (eH a b k)):=by
  obtain⟨f,D⟩:∃f,b.length-k=f+1:=⟨b.length-k-1,Zo⟩;rw[D,dF,if_pos B,qP f (b.length-(k+bS (eH a b k))) _ Zo Zo]
 have A:pre++[eH a b k]++dF a b (b.length-(k+bS (eH a b k))) (k+bS (eH a b k))=jH a b:=by
  rw[<-h.eq,C]; simp
 exact⟨⟨hs.2,A⟩,⟨_,A⟩⟩
theorem Mh.done{pre:List Dop}(h:Mh a b pre k)(A:¬k<b.length):pre=jH a b:=by
 have:=h.eq
 rwa[iT Zo,bG] at this
def okS(a b:Qb)(pre:List Dop)(x:Dop):Prop:=(pre++[x]) <+: jH a b
structure Oe (a b:Qb) (B ib bb xb fb:Nat) (W:World):Prop where
 ix:J5 a B ib W
 bc:W.cell? bb=some (.string ⟨b.toArray⟩)
 xc:W.cell? xb=some (.pointer ib)
 fc:W.cell? fb=some (.func (.func 190) #[] #[.pointer bb,.pointer xb])
 lt:bb<B/\xb<B/\fb<B
theorem Oe.below(h:Oe a b B ib bb xb fb W)(A:Below B W W'):Oe a b B ib bb xb fb W':=
 ⟨h.ix.below A nr,(A.cell h.lt.1).trans h.bc,(A.cell h.lt.2.1).trans h.xc,(A.cell h.lt.2.2).trans h.fc,h.lt⟩
theorem Ff(hd:Oe a b B ib bb xb fb w)(hB:B<=w.heap.size)(ha:a.length<=1000)(D2:(b.length:Int)<=1000000)(m:Nat)(hm:1<=m):
  yX Fence.wide m prog 193 #[.pointer bb,.pointer fb] (fun k=>k<B) Dop.val (okS a b) (jH a b) w:=by
 intro l J Y hJ hY D0 W B8 h0;refine callsIn_of_wp func193 rfl trivial ?_ rfl;simp only[ntmps193,nU,az,aK,Nat.reduceAdd,Nat.reduceSub,jg,je,nV,jT,aY,bz];obtain⟨HJ,HY,C9⟩:=Yk hJ hY D0;have C7:Qg (Oe a b B ib bb xb fb W):=Qf (hd.below (B8.mono hB));have C:Qg (B<=W.heap.size):=Qf (aC hB B8.size);have H0:=Qf h0;obtain⟨n,hn⟩:=Qe b.length;have HN:Qg (n=b.length):=Qf hn;have F4:(⟨b.toArray⟩:ByteArray).size=n:=by rw[bH,hn]
 rw[<-hn] at D2;clear hJ hY D0 hd B8 h0 hn;gi_wp2;gi_loopw [4] (fun i wr=>∃(k:Nat) (A5:List Dop),i=Yi (k:Int)/\k<=n/\Qg (J A5 wr)/\Qg (Mh a b A5 k)/\Qg (Oe a b B ib bb xb fb wr)/\Qg (B<=wr.heap.size)) (fun i _=>n-(intOf i).toNat)
 case atStart=>exact⟨0,[],rfl,Zo,H0,Qf (Mh.start a b),C7,C⟩
 clear H0 C7 C;obtain⟨k,A5,rfl,hk,N,HS,HD,C⟩:=hrel;have D1:=HD.out.bc;by_cases D4:k<n
 ·have D9:(k:Int)<(n:Int):=Zo;obtain⟨C2,C1⟩:=HS.out.next (HN.o▸D4);have C3:=lV (a:=a) (b:=b) (k:=k) (HN.o▸D4);have D3:(bS (eH a b k):Int)+k<=n:=Zh HN.o;obtain⟨q1,q2,hq⟩:∃q1 q2,iD a (b.drop k)=(q1,q2):=⟨_,_,rfl⟩;obtain⟨u1,A0⟩:=Qe (wr.alloc (.cells #[Yi 0,Yi 0,((b.drop k).take 1)] 246));have P:Below wr.heap.size wr u1:=A0▸(bf _).alloc nr _;have A4:BK wr.heap.size #[Yi 0,Yi 0,((b.drop k).take 1)] 246 u1:=A0▸BK.new _ _ _;have X:=HD.out.below (P.mono C.o);have O:=Qf (Cy (X.ix.mono (aC C.o P.size)) X.bc X.xc ha (HN.o▸D2) k (HN.o▸hk));rw[hq] at O;simp only at O;have B9:=X.fc;have D8:=dw b k (k+1);rw[show k+1-k=1 by omega] at D8;have F5:IntKind.i64.wrap ((k:Int)+1)=((k+1:Nat):Int):=by rw[ZV]; omega
  have Z:eH a b k=if 4<=q2 then⟨q1,q2,[]⟩ else⟨0,0,(b.drop k).take 1⟩:=by unfold eH; rw[hq]
  generalize (b.drop k).take 1=bs at *
  have A6:=Qf A0;rw[A0] at O B9;obtain⟨V,U⟩:=Yj C2 C1;have A7:=C3.1;have A8:=P.size;have F3:wr.heap.size<u1.heap.size:=A4.lt;by_cases h4:4<=q2
  ·rw[if_pos h4] at Z;have D7:(4:Int)<=(q2:Int):=Zo;rw[Z] at V U D3 A7;clear Z C3 C2 C1 X hq A0 HS;gi_wp2;refine⟨trivial,?_⟩;refine(callsIn_wide.2 O.o).mono ?_;rintro e u2 ⟨rfl,H⟩;rw[<-A6.o] at H;have L:=A4.below H;have E:=P.trans (H.mono A8);clear O B9 A6 D1;obtain⟨c0,c1,c2⟩:=BK.c3 L;obtain⟨C8,D5,D6⟩:=BK.f3 (L);obtain⟨u3,A1⟩:=Qe (((u2.setCell wr (Yi (q1:Int))).setCell ⟨wr.heap.size,1,none⟩ (Yi (q2:Int))).setCell ⟨wr.heap.size,2,none⟩ (.string ⟨#[]⟩));have C0:BK wr.heap.size #[Yi (q1:Int),Yi (q2:Int),Ye] 246 u3:=by
    rw[A1];have e0:BK _ #[Yi (q1:Int),Yi 0,bs] _ _:=L.set 0 (Yi (q1:Int));have e1:BK _ #[Yi (q1:Int),Yi (q2:Int),bs] _ _:=e0.set 1 (Yi (q2:Int));exact e1.set 2 (.string ⟨#[]⟩)
   have B6:Below wr.heap.size wr u3:=A1▸((E.setCell nr _).setCell nr _).setCell nr _;obtain⟨fn,C6,C4,C5,hy,hR⟩:=C9.o A5 ⟨q1,q2,[]⟩ wr u3 U.o N.out B6;simp only[Dop.val] at hy;obtain⟨G,F⟩:=Yj C0 B6;obtain⟨d0,d1,d2⟩:=BK.c3 C0;rw[A1] at hy d0 d1 d2;rw[A1] at hR;have B3:=Qf A1;clear L E H C0 B6 A1 A4 P;gi_wp2;refine hR.mono ?_;rintro e W3 ⟨B7,M,Q⟩;have D:=B7.to_below (m:=B) (fun _ h=>h);rw[<-B3.o] at D M;have S:BK wr.heap.size #[Yi (q1:Int),Yi (q2:Int),Ye] 246 W3:=M _ _ nr G.o.lt G.o (fun c f e=>by injection e with _ h2 _; exact absurd h2 Zd);have R:=HD.out.below ((F.o.mono C.o).trans D);have T:B<=W3.heap.size:=aC C.o (aC F.o.size D.size);clear hy hR d0 d1 d2 c0 c1 c2 C8 D5 D6;rcases Q with⟨rfl,A3⟩ | ⟨rfl,B5⟩
   ·have K:=Qf (uQ ⟨q1,q2,[]⟩ W3);simp only[Dop.val] at K;obtain⟨d0,d1,d2⟩:=BK.c3 S;obtain⟨B1,A9,A2⟩:=Yk A3 R T;generalize E1:bS ⟨q1,q2,[]⟩=z at *
    have E0:IntKind.i64.wrap ((k:Int)+(z:Int))=((k+z:Nat):Int):=by rw[ZV]; omega
    clear M D S A3 R T B3 G F HD C N;gi_wp2;refine⟨trivial,?_⟩;refine(callsIn_wide.2 K.o).mono ?_;rintro e u5 ⟨rfl,I⟩;obtain⟨B2,B0,B4⟩:=Yk (HJ.o _ _ _ B1.o I) (A9.o.below (I.mono A2.o)) (aC A2.o I.size);clear I K d0 d1 d2;gi_wp2;go_roundw
    case rel=>exact⟨k+z,_,Zg,Zo,B2,V,B0,B4⟩
    case measure=>simp only[intOf]; omega
   ·clear M D S R T B3 G F HD C N V U;gi_wp2;refine bodyPost_ret (results_none rfl _ _ _) rfl ?_;exact⟨⟨_,rfl⟩,.inr B5⟩
  ·rw[if_neg h4] at Z;have D7:¬(4:Int)<=(q2:Int):=Zo;rw[Z] at V U D3 A7;clear Z C3 C2 C1 X hq A0 HS;gi_wp2;refine⟨trivial,?_⟩;refine(callsIn_wide.2 O.o).mono ?_;rintro e u2 ⟨rfl,H⟩;rw[<-A6.o] at H;have L:=A4.below H;have E:=P.trans (H.mono A8);clear O B9 A6 D1;obtain⟨fn,C6,C4,C5,hy,hR⟩:=C9.o A5 ⟨0,0,bs⟩ wr u2 U.o N.out E;simp only[Dop.val] at hy;obtain⟨G,F⟩:=Yj L E;rw[show((0:Nat):Int)=0 from rfl] at hy;obtain⟨d0,d1,d2⟩:=BK.c3 L;clear L E H A4 P;gi_wp2;refine hR.mono ?_;rintro e W3 ⟨B7,M,Q⟩;have D:=B7.to_below (m:=B) (fun _ h=>h);have S:BK wr.heap.size #[Yi 0,Yi 0,bs] 246 W3:=M _ _ nr G.o.lt G.o (fun c f e=>by injection e with _ h2 _; exact absurd h2 Zd);have R:=HD.out.below ((F.o.mono C.o).trans D);have T:B<=W3.heap.size:=aC C.o (aC F.o.size D.size);clear hy hR d0 d1 d2;rcases Q with⟨rfl,A3⟩ | ⟨rfl,B5⟩
   ·have K:=Qf (uQ ⟨0,0,bs⟩ W3);simp only[Dop.val] at K;rw[show((0:Nat):Int)=0 from rfl] at K;obtain⟨d0,d1,d2⟩:=BK.c3 S;obtain⟨B1,A9,A2⟩:=Yk A3 R T;generalize E1:bS ⟨0,0,bs⟩=z at *
    have E0:IntKind.i64.wrap ((k:Int)+(z:Int))=((k+z:Nat):Int):=by rw[ZV]; omega
    clear M D S A3 R T G F HD C N;gi_wp2;refine⟨trivial,?_⟩;refine(callsIn_wide.2 K.o).mono ?_;rintro e u5 ⟨rfl,I⟩;obtain⟨B2,B0,B4⟩:=Yk (HJ.o _ _ _ B1.o I) (A9.o.below (I.mono A2.o)) (aC A2.o I.size);clear I K d0 d1 d2;gi_wp2;go_roundw
    case rel=>exact⟨k+z,_,Zg,Zo,B2,V,B0,B4⟩
    case measure=>simp only[intOf]; omega
   ·clear M D S R T G F HD C N V U;gi_wp2;refine bodyPost_ret (results_none rfl _ _ _) rfl ?_;exact⟨⟨_,rfl⟩,.inr B5⟩
 ·obtain rfl:k=n:=Zo;have D9:¬(k:Int)<(k:Int):=Zo;have HR:=Qf (HS.out.done (by rw[<-HN.o]; omega));clear HS HD;gi_wp2;go_end0;exact⟨⟨_,rfl⟩,.inl (HR.o▸N.out)⟩
end
