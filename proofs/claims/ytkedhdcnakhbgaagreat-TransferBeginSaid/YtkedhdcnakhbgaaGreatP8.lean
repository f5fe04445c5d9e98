/- Joined texts: PkSz, PkTs, PkAs, PkM, PkJg, PkRg, PkJf, PkJi. -/
import Derived.Test.YtkedhdcnakhbgaaGreatP2
import Derived.Test.YtkedhdcnakhbgaaGreatK5
import Derived.Test.YtkedhdcnakhbgaaGreatK6
import Derived.Test.YtkedhdcnakhbgaaGreatP1
import Derived.Test.YtkedhdcnakhbgaaGreatK2
import Derived.Test.YtkedhdcnakhbgaaGreatP3
import Derived.Test.YtkedhdcnakhbgaaGreatP0
import Derived.RangeFuncNested
import Derived.RangeFuncBound
import Derived.RangeFuncCalls
import Derived.RangeFuncLeaves
import Derived.OwnWalkIn
import Derived.Lib.OthersKept
import Derived.Shelf.RegionOpen
/- codec.Size (the lines of WriteInt that WWriteInt leaves out). -/
set_option linter.unusedSimpArgs false
set_option maxRecDepth 100000
set_option maxHeartbeats 16000000
namespace Go.Proofs.YtkedhdcnakhbgaaGreat
open Go.RowKit Go.Shelf
variable {ops:Array Oper}{Q:Exit->Act->World->Prop}{c d:Int×Int}{pre:List Int}{xs:List Itm}{B b bb bc db i k lb lc m mb n:Nat}{K:Nat->Prop}{o:Obj}{ba la:Qa}{T a:Qb}{base l:Qd}{W W' u0 w w' w0:World}
section
attribute [local go_sem] Oper.semAt_some
def Fg(n:Int):Int:=if Cw.inR n then((Cw.enc n.toNat).length:Int) else 0
structure J4 (w:World) (pre:List Int) (W:World):Prop where
 below:Below w.heap.size w W
 cnt:W.heap[w.heap.size]? = some (.cells #[.int .i64 pre.length] 3 (0,0))
 box:∃v,W.heap[w.heap.size+1]? = some (.cells #[v] 3 (0,0))
theorem J4.putObj(h:J4 w pre W){l:Nat}(o':Obj)(C:w.heap.size+2<=l):J4 w pre (W.putObj l o'):=by
 refine⟨h.below.trans ⟨rfl,rfl,rfl,by simp,fun k B=>World.putObj_heap_other (by omega)⟩,(World.putObj_heap_other (by omega)).trans h.cnt,?_⟩;obtain⟨v,A⟩:=h.box;exact⟨v,(World.putObj_heap_other (by omega)).trans A⟩
theorem J4.alloc(h:J4 w pre W)(o:Obj):J4 w pre (W.alloc o):=by
 refine⟨h.below.alloc h.below.size o,(Below.heap_alloc W o _ (Array.getElem?_eq_some_iff.1 h.cnt).1).trans h.cnt,?_⟩;obtain⟨v,A⟩:=h.box;exact⟨v,(Below.heap_alloc W o _ (Array.getElem?_eq_some_iff.1 A).1).trans A⟩
theorem J4.set(h:J4 w pre W)(v:Value):J4 w pre (W.setCell ⟨w.heap.size+1,0,none⟩ v):=by
 refine⟨h.below.setCell (p:=⟨w.heap.size+1,0,none⟩) (by simp) v,(Below.heap_setCell W _ v _ (by simp)).trans h.cnt,?_⟩;obtain⟨v0,A⟩:=h.box;exact⟨v,by simp[World.setCell,Array.getElem?_modify,A]⟩
theorem KC(n:Int)(w:World):
  Qh 195 #[.int .i64 n] w fun e w'=>e=.returned (.int .i64 (Fg n))/\Below w.heap.size w w':=by
 by_cases h:Cw.inR n=true
 ·have F:Fg n=((Cw.enc n.toNat).length:Int):=if_pos h
  obtain⟨Q,h1⟩:=(Cw.inR_iff n).1 h;have T:Qg (Fg n=((encZ 10 n).length:Int)):=Qf (by rw[F,uO 10 n Q]; rfl);clear F;have G:Qg (∀w:World,Qh 178 #[.int .i64 n] w fun e w'=>e=.returned (.bool true)/\w=w'):=
   Qf (fun w=>by have:=kC n w; rwa[h] at this)
  clear h;refine(callsIn_wide (n:=5)).1 ?_;refine callsIn_of_wp_marks Tryz.func195 rfl trivial ?_ rfl;simp only[Tryz.ntmps195,nU,az,aK,Nat.reduceAdd,Nat.reduceSub,jg,je,nV,jT,aY,bz];gi_wp2_with (first | (refine⟨trivial,?_⟩; gi_at_call 178; refine(callsIn_wide.2 (G.o _)).mono ?_; rintro e w' ⟨rfl,rfl⟩) | (refine⟨trivial,?_⟩; gi_at_call 216; refine(callsIn_wide.2 (xy _ _)).mono ?_; rintro e w' ⟨rfl,rfl⟩));have I:J4 w [] ((w.alloc (.cells #[.int .i64 0] 3)).alloc (.cells #[.int .i64 n] 3)):=by
   refine⟨((bf w).alloc nr _).alloc (by simp) _,?_,⟨.int .i64 n,?_⟩⟩
   ·exact(Below.heap_alloc _ _ _ (by simp)).trans (World.alloc_heap_new w _)
   ·have:=World.alloc_heap_new (w.alloc (.cells #[.int .i64 0] 3)) (.cells #[.int .i64 n] 3)
    rwa[World.size_alloc] at this
  have N:Dx (w.heap.size+1) n ((w.alloc (.cells #[.int .i64 0] 3)).alloc (.cells #[.int .i64 n] 3)):=by
   have:=World.alloc_heap_new (w.alloc (.cells #[.int .i64 0] 3)) (.cells #[.int .i64 n] 3)
   rwa[World.size_alloc] at this
  have C:((w.alloc (.cells #[.int .i64 0] 3)).alloc (.cells #[.int .i64 n] 3)).heap.size=w.heap.size+2:=by simp
  refine jk (α:=Int) (gf:=238) (lb:=#[.pointer (some ⟨w.heap.size+1,0,none⟩)]) (enc:=fun x=>.int .u8 x) (ok:=okD) (bn:=w.heap.size+1) (bo:=.cells #[.int .i64 n] 3 (0,0)) (xs:=encZ 10 n)
   rfl (by omega) rfl trivial (enters_of Tryz.func238 (by kernel_rfl) rfl)
   (fun l J L V W X U=>xz Fence.wide 4 trivial rfl (by omega) l (w.heap.size+1) J L V n 9 (by omega) Q (by omega) (eU.ten (by omega)) W X U)
   rfl (by rw[C]; omega) N (J4 w)
   (fun s W l o o' S ho hc B=>B.putObj o' (by rw[C] at S; omega))
   (fun s W o B=>B.alloc o) (fun s W v B=>B.set v) I
   (fun x=>{ tmps:=#[.int .i64 n,undef,.int .i64 0,.pointer (some ⟨w.heap.size,0,none⟩),.int .i64 n,.bool true,.bool false,.int .i64 n,.func (.func 238) #[] #[.pointer (some ⟨w.heap.size+1,0,none⟩)],.int .u8 x,undef,undef,undef],defers:=[] }) ?assign ?body ?done
  case assign=>
   intro l x W K M;gi_wp2;simpa using M
  case body=>
   rintro l pre x W S O B;have E:W.cell? ⟨w.heap.size,0,none⟩=some (.int .i64 pre.length):=by rw[Lib.cell_of_heap B.cnt]; rfl
   have Y:W.frozen? ⟨w.heap.size,0,none⟩=false:=Lib.frozen_of_heap B.cnt 0;have Z:pre.length<10:=O.2.2;gi_wp2;obtain⟨v,hv⟩:=B.box;refine⟨KeepsOthers.setCell _ _ _,Below.heap_setCell W _ _ _ (by simp),?_,?_,v,(Below.heap_setCell W _ _ _ (by simp)).trans hv⟩
   ·exact B.below.setCell (p:=⟨w.heap.size,0,none⟩) (by simp) _
   ·simp[World.setCell,Array.getElem?_modify,B.cnt]
  case done=>
   rintro D W R B M;rw[C] at R;have E:W.cell? ⟨w.heap.size,0,none⟩=some (.int .i64 (encZ 10 n).length):=by rw[Lib.cell_of_heap B.cnt]; rfl
   have H:=Qf B;clear B;gi_wp2;refine⟨by simp,.inl ⟨_,_,rfl,run_takeDeferred M,?_⟩⟩;refine⟨_,results_tmp rfl _ _ _,?_,(H.o.putObj (.deferred none) R).below⟩;rw[T.o]; rfl
 ·have P:Cw.inR n=false:=by simpa using h
  have F:Fg n=0:=if_neg h;have G:Qg (∀w:World,Qh 178 #[.int .i64 n] w fun e w'=>e=.returned (.bool false)/\w=w'):=
   Qf (fun w=>by have:=kC n w; rwa[P] at this)
  rw[F];clear h P F;go_enter Tryz.func195,Tryz.ntmps195;go_wp2_with (go_at_call 178; refine(G.o _).mono ?_; rintro e w' ⟨rfl,rfl⟩);go_ret;exact⟨rfl,bf _⟩
end
set_option linter.unusedVariables false
theorem qN(n:Nat)(I:(n:Int)<=1099511627776)(w:World):Qh 152 #[.int .i64 (n:Int)] w fun e w'=>e=.returned (.int .i64 (((Cw.enc n).length+n:Nat):Int))/\Below w.heap.size w w':=by
 have B:=Qf (fun W=>KC (n:Int) W);have F:Fg (n:Int)=((Cw.enc n).length:Int):=by unfold Fg; rw[if_pos ((Cw.inR_iff _).2 ⟨by omega,I⟩)]; simp
 have H:=aG n;simp only[F] at B;obtain⟨k,D⟩:=Qe ((Cw.enc n).length);rw[<-D] at B H ⊢;obtain⟨m,E⟩:=Qe (k+n);have J:IntKind.i64.wrap ((k:Int)+(n:Int))=(m:Int):=by rw[wrap_i64 (by omega) (by omega)]; omega
 rw[<-E];clear F D E;go_enter Tryz.func152,Tryz.ntmps152;go_wp2_with fail
 refine(B.o _).mono ?_;rintro e u ⟨rfl,C⟩
 have G:=Qf C;clear C B;go_wp2_with fail;go_ret;exact⟨rfl,G.o⟩
theorem mr(n:Nat)(M:(n:Int)<=1099511627776)(h:BW w0 u0 b T w)(L:(T.length:Int)<=70368744177664):Qh 145 #[.int .i64 (n:Int),.pointer (some ⟨b,0,none⟩)] w fun e w'=>e=.returned (.tuple #[])/\Qg (BW w0 u0 b (T++Cw.enc n) w'):=by
 have C:=Qf (oL (n:Int) (by omega) M w);simp only[aj] at C;have J:=aG n;have H:=Qf h;generalize Cw.enc n=E at C J ⊢;have F:=Qf L;have D:=Qf J;clear h;go_enter Tryz.func145,Tryz.ntmps145;go_wp2_with fail
 refine C.o.mono ?_;rintro e u ⟨rfl,I⟩
 have B:=Qf (H.o.below I);have K:=Qf (cz B.o E (by have:=F.o; have:=D.o; omega));clear I C H B;go_wp2_with fail
 refine K.o.mono ?_;rintro e u2 ⟨rfl,G⟩
 go_wp2_with fail;go_end0;exact⟨rfl,G⟩
theorem vE{fb:Nat}(S:Qb)(M:(S.length:Int)<=1099511627776)(h:BW w0 u0 b T w)(I:(T.length:Int)<=70368744177664)(K:w.cell? ⟨fb,0,none⟩=some (.func (.func 145) #[] #[.pointer (some ⟨b,0,none⟩)])):Qh 146 #[.string ⟨S.toArray⟩,.pointer (some ⟨fb,0,none⟩),.pointer (some ⟨b,0,none⟩)] w fun e w'=>e=.returned (.tuple #[])/\Qg (BW w0 u0 b (T++(Cw.enc S.length++S)) w'):=by
 have D:=Qf (mr S.length M h I);have G:=bH S;have L:=aG S.length;have B:Qg (∀W,BW w0 u0 b (T++Cw.enc S.length) W->Qh 73 #[.pointer (some ⟨b,0,none⟩),.string ⟨S.toArray⟩] W fun e w'=>e=.returned (.tuple #[.int .i64 S.length,.nilIface])/\Qg (BW w0 u0 b (T++Cw.enc S.length++S) w')):=Qf (fun W J=>cz J S (by rw[af]; omega));rw[<-ay];generalize T++Cw.enc S.length=T2 at D B ⊢;generalize T2++S=T3 at B ⊢;obtain⟨n,C⟩:=Qe S.length;rw[<-C] at D B G;clear h L C;go_enter Tryz.func146,Tryz.ntmps146;go_wp2_with fail
 refine D.o.mono ?_;rintro e u ⟨rfl,H⟩
 have E:=Qf (B.o _ H.out);clear D B K;go_wp2_with fail
 refine E.o.mono ?_;rintro e u2 ⟨rfl,F⟩
 go_wp2_with fail;go_end0;exact⟨rfl,F⟩
open Go.RowKit
theorem EA{o:Dop}(h:mR o)(A:o.data.length<=65536):(mU o).length<=21*bS o:=by
 have B:=aG o.len;have C:=aG o.off;have D:=aG o.data.length;have E:=sF h;unfold mU;rw[af];by_cases e:0<o.len
 ·rw[if_pos ((gI h).2 e)]; omega
 ·rw[if_neg (fun c=>e ((gI h).1 c))]
  have:(putT o.data).1=Cw.enc o.data.length++o.data:=by unfold putT; rw[if_pos A]
  rw[this,af];have F:bS o=o.data.length:=by unfold bS; rw[if_neg e]
  omega
theorem Ez:∀{l:List Dop},(∀o∈l,mR o/\o.data.length<=65536)->(l.flatMap mU).length<=21*(l.map bS).sum
 | [],_=>by simp
 | o::l,h=>by
  have B:=EA (h o (by simp)).1 (h o (by simp)).2;have C:=Ez (l:=l) (fun x A=>h x (by simp[A]));rw[bR,af,eX,List.sum_cons];omega
theorem G9{o:Dop}:∀{l:List Dop},o∈l->bS o<=(l.map bS).sum
 | [],h=>by simp at h
 | x::l,h=>by
  rw[eX,List.sum_cons];rcases List.mem_cons.1 h with rfl | h
  ·omega
  ·have:=G9 h; omega
theorem Jt{b:Qb}:∀o∈iM a b,bS o<=b.length:=fun o A=>by
 have h:=(uS a b).sum;have B:=G9 A;omega
theorem Et{o:Dop}(h:mR o):o.data.length<=bS o:=by
 unfold bS;rcases h with⟨B,A⟩ | ⟨B,A,C⟩
 ·rw[A]; simp
 ·rw[if_neg (by omega)]; omega
theorem yJ{b:Qb}(G:a.length<=65536)(K:b.length<=3000):(AV (iM a b)).2=0/\(AV (iM a b)).1.length<=65536/\sK (AV (iM a b)).1=(iM a b,0)/\(iM a b).length<=3000:=by
 have A:=uS a b;have H:=xA (a:=a) (b:=b) (n:=65536) G (by omega) (by omega);obtain⟨C,D⟩:=ED H;have E:=Ez (l:=iM a b) (fun o B=>⟨A.fit o B,by have:=Et (A.fit o B); have:=Jt o B; omega⟩);rw[A.sum] at E;have F:(iM a b).length<=((iM a b).map bS).sum:=by
  have:∀l:List Dop,(∀o∈l,mR o)->l.length<=(l.map bS).sum:=by
   intro l;induction l with
   | nil=>intro _; simp
   | cons o l ih=>
    intro h;have g1:=ih (fun x I=>h x (by simp[I]));have g2:=sF (h o (by simp));rw[az,eX,List.sum_cons];omega
  exact this _ A.fit
 rw[A.sum] at F;have J:=aG (iM a b).length;refine⟨by rw[C],?_,D,by omega⟩;rw[C];simp only[af];omega
abbrev Dg:=Int×Int
def xS(tx:Dg->Nat):List Dg->Nat->Option Dg->Option Dg
 | [],_,r=>r
 | c::cs,m,r=>if tx c<m then xS tx cs (tx c) (some c) else xS tx cs m r
def iL(tx:Dg->Nat):List Dg->Option (Dg×Nat)->Option (Dg×Nat)
 | [],r=>r
 | c::cs,none=>iL tx cs (some (c,tx c))
 | c::cs,some (b,k)=>if tx c<k then iL tx cs (some (c,tx c)) else iL tx cs (some (b,k))
def FN(n:Nat):Option (Dg×Nat)->Option Dg
 | none=>none
 | some (b,k)=>if n<=k+16 then none else some b
theorem kY{tx:Dg->Nat}{n:Nat}:∀(cs:List Dg) {m:Nat} {r:Option Dg} {p:Option (Dg×Nat)},
  (p=none/\m=n-16/\r=none)\/(∃b k,p=some (b,k)/\((k+16<n/\m=k/\r=some b)\/(n<=k+16/\m=n-16/\r=none)))->xS tx cs m r=FN n (iL tx cs p)
 | [],m,r,p,h=>by
  rcases h with⟨rfl,_,rfl⟩ | ⟨b,k,rfl,⟨A,_,rfl⟩ | ⟨A,_,rfl⟩⟩
  ·rfl
  ·simp only[xS,iL,FN]; rw[if_neg (by omega)]
  ·simp only[xS,iL,FN]; rw[if_pos A]
 | c::cs,m,r,p,h=>by
  rcases h with⟨rfl,A,rfl⟩ | ⟨b,k,rfl,⟨A,B,rfl⟩ | ⟨A,B,rfl⟩⟩
  ·rw[xS,iL]
   by_cases e:tx c<m
   ·rw[if_pos e]
    exact kY cs (.inr ⟨c,_,rfl,.inl ⟨by omega,rfl,rfl⟩⟩)
   ·rw[if_neg e]
    exact kY cs (.inr ⟨c,_,rfl,.inr ⟨by omega,A,rfl⟩⟩)
  ·rw[xS,iL]
   subst B;by_cases e:tx c<m
   ·rw[if_pos e,if_pos e]
    exact kY cs (.inr ⟨c,_,rfl,.inl ⟨by omega,rfl,rfl⟩⟩)
   ·rw[if_neg e,if_neg e]
    exact kY cs (.inr ⟨b,_,rfl,.inl ⟨A,rfl,rfl⟩⟩)
  ·rw[xS,iL]
   by_cases e:tx c<m
   ·rw[if_pos e,if_pos (by omega)]
    exact kY cs (.inr ⟨c,_,rfl,.inl ⟨by omega,rfl,rfl⟩⟩)
   ·rw[if_neg e]
    by_cases e2:tx c<k
    ·rw[if_pos e2]
     exact kY cs (.inr ⟨c,_,rfl,.inr ⟨by omega,B,rfl⟩⟩)
    ·rw[if_neg e2]
     exact kY cs (.inr ⟨b,_,rfl,.inr ⟨A,B,rfl⟩⟩)
theorem lQ{tx:Dg->Nat}(c:Dg):∀(cs:List Dg) (r:Option (Dg×Nat)),iL tx (cs++[c]) r=match iL tx cs r with
  | none=>some (c,tx c)
  | some (b,k)=>if tx c<k then some (c,tx c) else some (b,k)
 | [],none=>rfl
 | [],some (b,k)=>by simp[iL]
 | d::cs,none=>by rw[bz,iL,iL]; exact lQ c cs _
 | d::cs,some (b,k)=>by
  rw[bz,iL,iL];by_cases e:tx d<k
  ·rw[if_pos e,if_pos e]; exact lQ c cs _
  ·rw[if_neg e,if_neg e]; exact lQ c cs _
theorem lN{tx:Dg->Nat}:∀(cs:List Dg) (r:Option (Dg×Nat)),(∀b k,r=some (b,k)->k=tx b)->∀b k,iL tx cs r=some (b,k)->k=tx b/\(b∈cs\/r=some (b,k))
 | [],r,h,b,k,e=>⟨h b k e,.inr e⟩
 | c::cs,none,h,b,k,e=>by
  rw[iL] at e;obtain⟨B,A⟩:=lN cs _ (fun b k h=>by cases h; rfl) b k e;refine⟨B,.inl ?_⟩;rcases A with A | A
  ·exact pM _ A
  ·cases A; exact List.mem_cons_self
 | c::cs,some (b0,k0),h,b,k,e=>by
  rw[iL] at e;by_cases e2:tx c<k0
  ·rw[if_pos e2] at e
   obtain⟨B,A⟩:=lN cs _ (fun b k h=>by cases h; rfl) b k e;refine⟨B,.inl ?_⟩;rcases A with A | A
   ·exact pM _ A
   ·cases A; exact List.mem_cons_self
  ·rw[if_neg e2] at e
   obtain⟨B,A⟩:=lN cs _ h b k e;refine⟨B,?_⟩;rcases A with A | A
   ·exact .inl (pM _ A)
   ·exact .inr A
def gL(xs:List Itm)(d:Dg):Qb:=(De xs d).1
def txS(xs:List Itm)(d c:Dg):Qb:=fF (AV (iM (gL xs c) (gL xs d))).1
def chosen(xs:List Itm)(d:Dg)(cs:List Dg):Option Dg:=xS (fun c=>(txS xs d c).length) cs ((fF (gL xs d)).length-16) none
theorem Dk(xs:List Itm)(d:Dg)(cs:List Dg):chosen xs d cs=FN (fF (gL xs d)).length (iL (fun c=>(txS xs d c).length) cs none):=kY cs (.inl ⟨rfl,rfl,rfl⟩)
def Ph(xs:List Itm)(d:Dg)(o:Option Dg):Qb:=
 beD d++(match o with
  | none=>Cw.enc 0++fF (gL xs d)
  | some c=>Cw.enc 1++(beD c++txS xs d c))
def entI(xs:List Itm)(l base:List Dg)(i:Nat):Qb:=Ph xs (l.getD i (0,0)) (chosen xs (l.getD i (0,0)) (base++l.take i))
def Ih(xs:List Itm)(l base:List Dg):Qb:=Cw.enc l.length++(List.range l.length).flatMap (entI xs l base)
def pkE(xs:List Itm):List Dg->List Dg->Int
 | [],_=>0
 | d::r,seen=>if I7 xs d=false then 8 else if d∈seen then 7 else pkE xs r (seen++[d])
def bsE(xs:List Itm)(l:List Dg):Int:=if l.all (I7 xs)=true then 0 else 8
def Cs(xs:List Itm)(l base:List Dg):Int:=if 1000<l.length then 4 else if pkE xs l []≠0 then pkE xs l [] else bsE xs base
def zP(xs:List Itm)(l base:List Dg):Qb×Int:=if Cs xs l base≠0 then([],Cs xs l base) else(BX (Ih xs l base),0)
structure Chc where
 sm:Bool
 b:Int×Int
 tx:Qb
 sz:Nat
def vJ(c:Chc):List Value:=[.bool c.sm,.int .u64 c.b.1,.int .u64 c.b.2,.string ⟨c.tx.toArray⟩,.int .i64 (c.sz:Int)]
theorem IB:Lay vJ 5:=⟨by decide,fun _=>rfl,fun a v A=>by
 simp[vJ] at A;rcases A with rfl | rfl | rfl | rfl | rfl <;> rfl⟩
theorem LU{a:Qa}{l:List Chc}(h:GIn vJ 5 B W a l)(E:k<l.length):∃b off,a=some ⟨b,off,none⟩/\b<B/\W.cell? ⟨b,off+k*5,none⟩=some (.bool l[k].sm)/\W.cell? ⟨b,off+k*5+1,none⟩=some (.int .u64 l[k].b.1)/\W.cell? ⟨b,off+k*5+2,none⟩=some (.int .u64 l[k].b.2)/\W.cell? ⟨b,off+k*5+3,none⟩=some (.string ⟨l[k].tx.toArray⟩)/\W.cell? ⟨b,off+k*5+4,none⟩=some (.int .i64 (l[k].sz:Int)):=by
 obtain⟨b,off,C,D,A⟩:=h k E;exact⟨b,off,C,D,A 0 _ rfl,A 1 _ rfl,A 2 _ rfl,A 3 _ rfl,A 4 _ rfl⟩
def yG(xs:List Itm)(d:Int×Int)(c:Chc):Qb:=beD d++(if c.sm=true then Cw.enc 1++(beD c.b++fF c.tx) else Cw.enc 0++fF (gL xs d))
def bodyC(xs:List Itm)(l:Qd)(ch:List Chc):Qb:=Cw.enc l.length++(l.zip ch).flatMap fun p=>yG xs p.1 p.2
structure ChOk (c:Chc):Prop where
 b:OkD c.b
 t:c.tx.length<=1000000
theorem LB{c:Chc}(F:c.tx.length<=1000000)(G:(gL xs d).length<=1000000):(yG xs d c).length<=1000100:=by
 have C:=aG 1;have B:=aG 0;have D:=aG c.tx.length;have E:=aG (gL xs d).length;have A:∀x,(beD x).length=16:=fun x=>by unfold beD; rw[af,bY,bY]
 unfold yG fF;split <;> simp only[af,A] <;> omega
theorem Er{α:Type}{f:α->Qb}{m:Nat}:∀(l:List α),(∀x∈l,(f x).length<=m)->(l.flatMap f).length<=l.length*m
 | [],_=>by simp
 | x::l,h=>by
  have B:=h x (by simp);have C:=Er l (fun y A=>h y (by simp[A]));rw[bR,af,az,rM];omega
theorem xH{α β:Type}{l:List α}{m:List β}(A:k<l.length)(B:k<m.length):(l.zip m).take (k+1)=(l.zip m).take k++[(l[k],m[k])]:=by
 rw[ai (by rw[List.length_zip]; omega),List.getElem_zip]
open Go Go.RowKit
theorem kS{F:Fence}{n:Nat}{P:Program}(w:World){ops:Array Oper}{rest:List Oper}{o:Oper}{a:Act}{Q:Exit->Act->World->Prop}(D:o.guard=none)(s x:Operand)(t tn:TypeId)
  (A:o.op=Op.call { callee:=Callee.builtin Builtin.append,args:=#[s,x],argTypes:=#[t,tn] }) (vs vx:Value) (hs:a.eval s=vs) (G:a.eval x=vx)
  (v':Value) (w':World) (E:(Builtin.append_ #[t,tn] o.type #[vs,vx]).run P w=.ok v' w') (h:wpListIn F n P ops Q rest (a.put o.dst v') w'):wpListIn F n P ops Q (o::rest) a w:=by
 refine wpListIn_plain D fun K B=>?_
 unfold Oper.wpIn;refine⟨?_,?_⟩
 ·simp[Oper.about,A,resolve,Target.leads,Sem.run_pure]
 ·rw[Oper.semAt_plain F _ _ (by rw[A]; intro c C; cases C)]
  simp[execOp,A,resolve,invoke,builtin,hs,G,E,Result.andThen];exact B _ _ h
section
variable {F:Fence} {n:Nat} {P:Program}
def uf(ops:Array Oper):Bool:=ops.all fun o=>match o.op with | .defer _=>false | _=>true
theorem FR(h:uf ops=true){o:Oper}(B:ops[i]? = some o):∀c,o.op≠.defer c:=fun c e=>by
 unfold uf at h;rw[Array.all_eq_true] at h;obtain⟨A,rfl⟩:=Array.getElem?_eq_some_iff.1 B;have:=h i A;rw[e] at this;cases this
theorem Fu{r:String}{args:Array Value}{R:Value->World->Prop}(l:Nat)(h:Rows P r args w R):RowsIn (Fence.wide.inRound l) n P r args w R:=fun c cs _=>by
 obtain⟨v,w',A,B⟩:=h c cs;exact⟨v,w',A,stepsIn_wide.2 B⟩
theorem iA{Q:Exit->Act->World->Prop}{ops:Array Oper}(lp:Nat)(B:uf ops=true)(A:¬LetsOut Q):∀(l:List Nat) (a:Act) (w:World),wpOps P ops Q l a w->wpOpsIn (Fence.wide.inRound lp) n P ops Q l a w
 | [],a,w,h=>h
 | i::rest,a,w,h=>by
  rw[wpOps_cons] at h;unfold wpOp at h;cases D:ops[i]? with
  | none=>
   rw[D] at h;simp only[wpOpsIn,D];exact iA lp B A rest a w h
  | some o=>
   rw[D] at h;simp only[wpOpsIn,D];simp only at h;by_cases F:Region.wanted o (yielded ops a.tmps)=true
   ·rw[if_pos F] at h ⊢
    rcases h with h | ⟨_,h⟩
    ·refine⟨fun _ _=>trivial,?_⟩
     rw[Oper.semAt_plain _ _ _ (FR B D)];unfold Oper.wp at h;generalize (execOp a.eval o).run P w=r at h;cases r with
     | ok x w'=>
      cases x with
      | value v=>exact iA lp B A rest _ _ h
      | skip=>exact iA lp B A rest _ _ h
      | defer d=>exact iA lp B A rest _ _ h
      | enter f args=>
       refine⟨fun E=>(by cases E),(CallsIn.inRound lp (callsIn_wide.2 h)).mono ?_⟩;intro e w'' C;cases e with
       | returned u=>exact iA lp B A rest _ _ C
       | panicked c=>exact C
       | outgrown=>exact C
      | row r args=>
       refine⟨fun E=>(by cases E),Fu lp (Rows.mono h (fun u w'' C=>iA lp B A rest _ _ C))⟩
      | _=>exact h.elim
     | halt x w'=>cases x <;> first | exact h | exact h.elim
    ·exact absurd h A
   ·rw[if_neg F] at h ⊢
    exact⟨fun _ _=>trivial,iA lp B A rest _ _ h⟩
theorem zy{id:Nat}{a:Act}(lp:Nat)(B:uf ops=true)(A:¬LetsOut Q)(C:P.follows .mixedOrders=true)(h:wpAny P .any ops Q ops.size (Array.replicate ops.size false) a w.drew):
  (Code.region id ops true).wpIn (Fence.wide.inRound lp) n P Q a w:=
 wpIn_region_draw fun t=>iA lp B A _ _ _ (by
  simp only[Region.schedule,C,Bool.true_or,if_true];exact wpAny_sound ops.size t _ a _ h)
theorem eZ{S:World->Prop}{id:Nat}{a:Act}(ts:List Nat)(lp:Nat)(B:uf ops=true)(A:¬LetsOut Q)(E:P.follows .mixedOrders=true)(C:S w.drew)(h:S w.drew->Du P .any ops Q S ts ops.size (Array.replicate ops.size false) a w.drew):
  (Code.region id ops true).wpIn (Fence.wide.inRound lp) n P Q a w:=
 zy lp B A E (yV _ _ _ _ (h C (fun j o F D=>by
  have G:=Au _ _ D;have H:=(Array.getElem?_eq_some_iff.1 F).1
  omega)))
def ku(o:Obj):Prop:=∀c f,o≠.cells c 5 f
structure cO (K:Nat->Prop) (w w':World):Prop where
 os:w'.os=w.os
 tape:w'.tape=w.tape
 output:w'.output=w.output
 size:w.heap.size<=w'.heap.size
 block:∀k,K k->w'.heap[k]? = w.heap[k]?
theorem cO.refl(K:Nat->Prop)(w:World):cO K w w:=⟨rfl,rfl,rfl,nr,fun _ _=>rfl⟩
theorem cO.trans{a b c:World}(h:cO K a b)(g:cO K b c):cO K a c:=⟨g.os.trans h.os,g.tape.trans h.tape,g.output.trans h.output,aC h.size g.size,fun k A=>(g.block k A).trans (h.block k A)⟩
theorem cO.of_below(A:Below m w w')(h:∀k,K k->k<m):cO K w w':=⟨A.os,A.tape,A.output,A.size,fun k B=>A.block k (h k B)⟩
theorem cO.to_below(A:cO K w w')(h:∀k,k<m->K k):Below m w w':=⟨A.os,A.tape,A.output,A.size,fun k B=>A.block k (h k B)⟩
theorem cO.put{l:Nat}(h:cO K W W')(B:¬K l):cO K W (W'.putObj l o):=
 h.trans ⟨rfl,rfl,rfl,by simp,fun k A=>World.putObj_heap_other (fun e=>B (e▸A))⟩
def wD{α:Type}(K:Nat->Prop)(bid:Nat)(I:List α->World->Prop)(Z:World->Prop)(xs:List α)(W0 Wy W:World):Exit->Act->World->Prop
 | .normal,_,W'=>KeepsOthers W W'/\cO K W W'/\(∀k o,W0.heap.size<=k->k<Wy.heap.size->W.heap[k]? = some o->ku o->W'.heap[k]? = some o)/\I xs W'
 | .exit i,_,W'=>i=bid/\KeepsOthers W W'/\cO K W W'/\(∀k o,W0.heap.size<=k->k<Wy.heap.size->W.heap[k]? = some o->ku o->W'.heap[k]? = some o)/\Z W'
 | _,_,_=>False
def Pp{α:Type}(F:Fence)(m:Nat)(P:Program)(l:Nat)(K:Nat->Prop)(enc:α->Value)(ok:List α->α->Prop)(J:List α->World->Prop)(Y:World->Prop):Prop:=
 ∀pre x W0 W,ok pre x->J pre W0->Below W0.heap.size W0 W->YieldAt F m P l #[enc x] W fun e W'=>cO K W W'/\(∀k o,W0.heap.size<=k->k<W.heap.size->W.heap[k]? = some o->ku o->W'.heap[k]? = some o)/\((e=.returned (.bool true)/\J (pre++[x]) W')\/(e=.returned (.bool false)/\Y W'))
def lH(I:World->Prop):Prop:=∀W W',I W->Below W.heap.size W W'->I W'
def yX{α:Type}(F:Fence)(m:Nat)(P:Program)(gf:FuncId)(lb:Array Value)(K:Nat->Prop)(enc:α->Value)(ok:List α->α->Prop)(xs:List α)(w:World):Prop:=
 ∀(l:Nat) (J:List α->World->Prop) (Y:World->Prop),(∀s,lH (J s))->lH Y->Pp F (m-1) P l K enc ok J Y->
  ∀W,Below w.heap.size w W->J [] W->CallsIn F m P gf (#[.func (.yield l) #[] #[]]++lb) W fun e W'=>(∃v,e=.returned v)/\(J xs W'\/Y W')
theorem vD{l:Nat}(h:Below B W W')(C:B<=l):Below B W (W'.putObj l o):=
 h.trans ⟨rfl,rfl,rfl,by simp,fun k A=>World.putObj_heap_other (by omega)⟩
theorem Gy{l:Nat}(h:Below n W W')(B:l<W.heap.size):Below n (W.putObj l o) (W'.putObj l o):=by
 have hs:=h.size;refine⟨h.os,h.tape,h.output,by simpa using hs,fun k A=>?_⟩;by_cases e:k=l
 ·subst e
  rw[World.putObj_heap_same (by omega),World.putObj_heap_same B]
 ·rw[World.putObj_heap_other e,World.putObj_heap_other e]
  exact h.block k A
theorem mZ{α:Type}{g:Operand}{ps:Array Tmp}{assign body:Code}{Q:Exit->Act->World->Prop}{a:Act}{w:World}
  (D5:F.round=none) (h1:1<=n) {gf:Nat} {lb:Array Value} (hg:a.eval g=.func (.func gf) #[] lb) (B9:F.fn gf) (eg:∀args w,(callFunc gf args).run P w=.ok (.enter gf args) w)
  {enc:α->Value} {ok:List α->α->Prop} {xs:List α} {K:Nat->Prop} (hK:∀k,K k->k<w.heap.size) (A1:yX F (n-1) P gf lb K enc ok xs w)
  (D4:ps.size=1) (I:List α->World->Prop) (Z:World->Prop) (bid:Nat) (A7:∀s,lH (I s)) (C4:lH Z)
  (U:∀s W l o o',w.heap.size<=l->W.heap[l]? = some o->o.isCells=false->I s W->I s (W.putObj l o'))
  (A8:∀W l o o',w.heap.size<=l->W.heap[l]? = some o->o.isCells=false->Z W->Z (W.putObj l o'))
  (h0:I [] w) (Bx:α->World->Act->World->Prop)
  (B7:∀x Wy a W l o o',w.heap.size<=l->W.heap[l]? = some o->o.isCells=false->Bx x Wy a W->Bx x Wy a (W.putObj l o'))
  (M:∀(l:Nat) (x:α) (W:World),assign.wpIn (F.inRound l) (n-1-1) P (Exit.then (fun a1 W1=>Bx x W a1 W1/\Below W.heap.size W W1) (fun _ _ _=>False)) { tmps:=(ps.zip #[enc x]).foldl (fun t (p,v)=>t.setIfInBounds p v) a.tmps,defers:=[] } W)
  (X:∀(l:Nat) (pre:List α) (x:α) (W0 Wy W:World) (a1:Act),w.heap.size<=l->ok pre x->I pre W0->Below W0.heap.size W0 W->W0.heap.size<=Wy.heap.size->Wy.heap.size<=W.heap.size->Bx x Wy a1 W->body.wpIn (F.inRound l) (n-1-1) P (wD K bid I Z (pre++[x]) W0 Wy W) a1 W)
  (Y:∀(D:Nat) (W:World),w.heap.size<=D->I xs W->W.heap[D]? = some (.deferred (some []))->Q .normal { a with defers:={ target:=.collected D,args:=#[] }::a.defers } W)
  (O:∀(D:Nat) (W:World),w.heap.size<=D->Z W->W.heap[D]? = some (.deferred (some []))->(Code.exit bid).wpIn F n P Q { a with defers:={ target:=.collected D,args:=#[] }::a.defers } W) :
  (Code.rangeFunc g ps assign body).wpIn F n P Q a w:=by
 refine wpIn_rangeFunc ?_;intro fn C8;rw[D5];obtain⟨rec,A⟩:∃rec:LoopState->Option Code->Loop,rec=fun st pe=>{ state:=st,pending:=pe,fn,tmps:=a.tmps,params:=ps,assign,body,defers:=w.heap.size }:=⟨_,rfl⟩
 obtain⟨W1,N⟩:∃W1,(w.alloc (.deferred (some []))).alloc (.loop (rec .ready none))=W1:=⟨_,rfl⟩;have C3:W1.heap[w.heap.size+1]? = some (.loop (rec .ready none)):=by
  rw[<-N]; have:=World.alloc_heap_new (w.alloc (.deferred (some []))) (.loop (rec .ready none)); rwa[World.size_alloc] at this
 have C2:W1.heap[w.heap.size]? = some (.deferred (some [])):=by
  rw[<-N]; exact(Below.heap_alloc _ _ _ (by simp)).trans (World.alloc_heap_new w _)
 have A9:Below w.heap.size w W1:=by rw[<-N]; exact((bf _).alloc nr _).alloc (by simp) _
 have C0:I [] W1:=A7 _ _ _ h0 A9;refine⟨w.heap.size+1,[{ target:=.collected w.heap.size,args:=#[] }],W1,{ target:=.fn (.func gf) lb,args:=#[.func (.yield (w.heap.size+1)) #[] #[]] },W1,gf,
  #[.func (.yield (w.heap.size+1)) #[] #[]]++lb,W1,?_,?_,?_,?_,fun _=>h1,?_⟩
 ·rw[<-N,A]; exact run_enterLoop_outer _ _ _ _ _
 ·simp only[resolve,hg]
  simp[go_sem]
 ·intro f' B0; simp[Target.leads] at B0; subst B0; exact B9
 ·simp[invoke,go_sem,eg]
 ·have C:∀{W W':World} {k:Nat} {o:Obj},Below W.heap.size W W'->W.heap[k]? = some o->W'.heap[k]? = some o:=fun E H=>(E.block _ (Array.getElem?_eq_some_iff.1 H).1).trans H
  refine(A1 (w.heap.size+1)
   (fun pre W=>I pre W/\W.heap[w.heap.size+1]? = some (.loop (rec .ready none))/\W.heap[w.heap.size]? = some (.deferred (some [])))
   (fun W=>Z W/\W.heap[w.heap.size+1]? = some (.loop (rec .done (some (.exit bid))))/\W.heap[w.heap.size]? = some (.deferred (some [])))
   (fun s W W' hs E=>⟨A7 _ _ _ hs.1 E,C E hs.2.1,C E hs.2.2⟩) (fun W W' hs E=>⟨C4 _ _ hs.1 E,C E hs.2.1,C E hs.2.2⟩) ?_ W1 A9 ⟨C0,C3,C2⟩).mono ?_
  ·rintro pre x W0 W D3 ⟨R,A3,D0⟩ E
   have T:=C E A3;have H:=C E D0;have B3:w.heap.size+1<W0.heap.size:=(Array.getElem?_eq_some_iff.1 A3).1;have hy:=run_yield (P:=P) (args:=#[enc x]) T (by rw[A]; simp[D4]);rw[A] at hy;refine⟨fn,_,assign,body,hy,roundIn_of_wpIn C8 (wpIn_mono (M _ x W) ?_)⟩;rintro e a1 Wa hp;cases e with
   | normal=>
    obtain⟨B8,J⟩:=hp;have A4:=C J T;have D1:=C J H;refine⟨_,run_beginRound A4 (by rw[A]),?_⟩;have B4:w.heap.size+1<Wa.heap.size:=(Array.getElem?_eq_some_iff.1 A4).1;have B2:(Wa.putObj (w.heap.size+1) (.loop { rec .ready none with state:=.busy })).heap[w.heap.size+1]? = some (.loop { rec .ready none with state:=.busy }):=World.putObj_heap_same B4;have B1:(Wa.putObj (w.heap.size+1) (.loop { rec .ready none with state:=.busy })).heap[w.heap.size]? = some (.deferred (some [])):=(World.putObj_heap_other (by omega)).trans D1;have C5:Below W0.heap.size W0 Wa:=E.trans (J.mono E.size);have C9:=U _ _ _ _ (.loop { rec .ready none with state:=.busy }) (by omega) A3 rfl R;have C6:=Gy (o:=.loop { rec .ready none with state:=.busy }) C5 B3;have A5:(W0.putObj (w.heap.size+1) (.loop { rec .ready none with state:=.busy })).heap.size=W0.heap.size:=by simp
    have D6:(Wa.putObj (w.heap.size+1) (.loop { rec .ready none with state:=.busy })).heap.size=Wa.heap.size:=by simp
    refine wpIn_mono (X _ pre x _ W _ a1 (by omega) D3 C9 (by rw[A5]; exact C6) (by rw[A5]; exact E.size) (by rw[D6]; exact J.size) (B7 _ _ _ _ _ _ _ (by omega) A4 rfl B8)) ?_;rintro e a3 W3 L;have S:∀(o:Obj),cO K (Wa.putObj (w.heap.size+1) (.loop { rec .ready none with state:=.busy })) W3->(∀k o,(W0.putObj (w.heap.size+1) (.loop { rec .ready none with state:=.busy })).heap.size<=k->k<W.heap.size->(Wa.putObj (w.heap.size+1) (.loop { rec .ready none with state:=.busy })).heap[k]? = some o->ku o->W3.heap[k]? = some o)->
      cO K W (W3.putObj (w.heap.size+1) o)/\∀k x,W0.heap.size<=k->k<W.heap.size->W.heap[k]? = some x->ku x->(W3.putObj (w.heap.size+1) o).heap[k]? = some x:=fun o C7 G=>by
     refine⟨((((cO.of_below J (fun k H=>by have:=E.size; have:=hK k H; omega)).put (fun H=>by have:=hK _ H; omega)).trans C7).put (fun H=>by have:=hK _ H; omega)),fun k x h1 h2 hx D2=>?_⟩;rw[World.putObj_heap_other (by omega)];exact G k x (by rw[A5]; exact h1) h2 (by rw[World.putObj_heap_other (by omega),J.block k h2]; exact hx) D2
    cases e with
    | normal=>
     obtain⟨G,V,A2,A0⟩:=L;have B:=G.same _ _ B2 rfl;have hr:=run_endRound (P:=P) none B;rw[A] at hr B ⊢;obtain⟨g1,g2⟩:=S (.loop { state:=.ready,pending:=none,fn,tmps:=a.tmps,params:=ps,assign,body,defers:=w.heap.size }) V A2;exact⟨_,_,hr,g1,g2,.inl ⟨rfl,U _ _ _ _ _ (by omega) B rfl A0,World.putObj_heap_same (Array.getElem?_eq_some_iff.1 B).1,(World.putObj_heap_other (by omega)).trans (G.same _ _ B1 rfl)⟩⟩
    | exit i=>
     obtain⟨rfl,G,V,A2,A0⟩:=L;have B:=G.same _ _ B2 rfl;have hr:=run_endRound (P:=P) (some (.exit i)) B;rw[A] at hr B ⊢;obtain⟨g1,g2⟩:=S (.loop { state:=.done,pending:=some (.exit i),fn,tmps:=a.tmps,params:=ps,assign,body,defers:=w.heap.size }) V A2;exact⟨_,_,hr,g1,g2,.inr ⟨rfl,A8 _ _ _ _ (by omega) B rfl A0,World.putObj_heap_same (Array.getElem?_eq_some_iff.1 B).1,(World.putObj_heap_other (by omega)).trans (G.same _ _ B1 rfl)⟩⟩
    | ret=>exact L.elim
    | goto t=>exact L.elim
    | panic ch=>exact L.elim
    | outgrown=>exact L.elim
   | ret=>exact hp.elim
   | exit i=>exact hp.elim
   | goto t=>exact hp.elim
   | panic ch=>exact hp.elim
   | outgrown=>exact hp.elim
  ·rintro e W2 ⟨⟨v,rfl⟩,R | R⟩
   ·obtain⟨R,T,H⟩:=R
    exact⟨none,_,by have:=run_endLoop (P:=P) T (by rw[A]; simp); rw[A] at this; exact this,Y _ _ nr (U _ _ _ _ _ (by omega) T rfl R) ((World.putObj_heap_other (by omega)).trans H)⟩
   ·obtain⟨R,T,H⟩:=R
    exact⟨some (.exit bid),_,by have:=run_endLoop (P:=P) T (by rw[A]; simp); rw[A] at this; exact this,O _ _ nr (A8 _ _ _ _ (by omega) T rfl R) ((World.putObj_heap_other (by omega)).trans H)⟩
theorem MN(p:Tmp)(v:Value)(t:Array Value):(#[p].zip #[v]).foldl (fun t (p,v)=>t.setIfInBounds p v) t=t.setIfInBounds p v:=by simp
theorem ji{α:Type}{g:Operand}{p bs:Tmp}{assign body:Code}{Q:Exit->Act->World->Prop}{a:Act}{w:World}(T:TypeId)(cs:α->Array Value)
  (V:F.round=none) (M:1<=n) {gf:Nat} {lb:Array Value} (hg:a.eval g=.func (.func gf) #[] lb) (N:F.fn gf) (eg:∀args w,(callFunc gf args).run P w=.ok (.enter gf args) w)
  {enc:α->Value} {ok:List α->α->Prop} {xs:List α} {K:Nat->Prop} (hK:∀k,K k->k<w.heap.size) (G:yX F (n-1) P gf lb K enc ok xs w)
  (I:List α->World->Prop) (Z:World->Prop) (bid:Nat) (O:∀s,lH (I s)) (S:lH Z)
  (R:∀s W l o o',w.heap.size<=l->W.heap[l]? = some o->o.isCells=false->I s W->I s (W.putObj l o'))
  (U:∀W l o o',w.heap.size<=l->W.heap[l]? = some o->o.isCells=false->Z W->Z (W.putObj l o'))
  (Y:I [] w)
  (A:∀(l:Nat) (x:α) (W:World),assign.wpIn (F.inRound l) (n-1-1) P (Exit.then (fun a1 W1=>a1={ tmps:=(a.tmps.setIfInBounds p (enc x)).setIfInBounds bs (.pointer (some ⟨W.heap.size,0,none⟩)),defers:=[] }/\W1=W.alloc (.cells (cs x) T)) (fun _ _ _=>False)) { tmps:=a.tmps.setIfInBounds p (enc x),defers:=[] } W)
  (C:∀(l:Nat) (pre:List α) (x:α) (W0 Wy W:World),w.heap.size<=l->ok pre x->I pre W0->Below W0.heap.size W0 W->W0.heap.size<=Wy.heap.size->Wy.heap.size<=W.heap.size->W.heap[Wy.heap.size]? = some (.cells (cs x) T (0,0))->
   body.wpIn (F.inRound l) (n-1-1) P (wD K bid I Z (pre++[x]) W0 Wy W) { tmps:=(a.tmps.setIfInBounds p (enc x)).setIfInBounds bs (.pointer (some ⟨Wy.heap.size,0,none⟩)),defers:=[] } W)
  (E:∀(D:Nat) (W:World),w.heap.size<=D->I xs W->W.heap[D]? = some (.deferred (some []))->Q .normal { a with defers:={ target:=.collected D,args:=#[] }::a.defers } W)
  (B:∀(D:Nat) (W:World),w.heap.size<=D->Z W->W.heap[D]? = some (.deferred (some []))->(Code.exit bid).wpIn F n P Q { a with defers:={ target:=.collected D,args:=#[] }::a.defers } W) :
  (Code.rangeFunc g #[p] assign body).wpIn F n P Q a w:=by
 refine mZ V M hg N eg hK G rfl I Z bid O S R U Y
  (fun x Wy a1 W=>a1={ tmps:=(a.tmps.setIfInBounds p (enc x)).setIfInBounds bs (.pointer (some ⟨Wy.heap.size,0,none⟩)),defers:=[] }/\W.heap[Wy.heap.size]? = some (.cells (cs x) T (0,0)))
  (fun x Wy a1 W l o o' hl J ho L=>⟨L.1,(World.putObj_heap_other (fun e=>?_)).trans L.2⟩) (fun l x W=>?_) (fun l pre x W0 Wy W a1 M h2 h3 h4 h5 h6 L=>?_) E B
 ·rw[<-e,L.2] at J
  cases J; cases ho
 ·rw[MN]
  refine wpIn_mono (A l x W) ?_;rintro e a1 W1 H;cases e with
  | normal=>
   obtain⟨rfl,rfl⟩:=H;exact⟨⟨rfl,World.alloc_heap_new _ _⟩,(bf _).alloc nr _⟩
  | ret=>exact H.elim
  | exit i=>exact H.elim
  | goto t=>exact H.elim
  | panic ch=>exact H.elim
  | outgrown=>exact H.elim
 ·obtain⟨rfl,X⟩:=L
  exact C l pre x W0 Wy W M h2 h3 h4 h5 h6 X
theorem nX{α:Type}{g:Operand}{p bs:Tmp}{assign body:Code}{Q:Exit->Act->World->Prop}{a:Act}{w:World}(T:TypeId)(cs:α->Array Value)
  (S:F.round=none) (V:1<=n) {gf:Nat} {lb:Array Value} (hg:a.eval g=.func (.func gf) #[] lb) (H:F.fn gf) (eg:∀args w,(callFunc gf args).run P w=.ok (.enter gf args) w)
  {enc:α->Value} {ok:List α->α->Prop} {xs:List α} {K:Nat->Prop} (Y:∀k,K k->k<w.heap.size) (E:yX F (n-1) P gf lb K enc ok xs w)
  (I:List α->World->Prop) (Z:World->Prop) (bid:Nat) (L:∀s,lH (I s)) (N:lH Z)
  (M:∀s W l o o',w.heap.size<=l->W.heap[l]? = some o->o.isCells=false->I s W->I s (W.putObj l o'))
  (O:∀W l o o',w.heap.size<=l->W.heap[l]? = some o->o.isCells=false->Z W->Z (W.putObj l o'))
  (U:I [] w) (J:∀W,I xs W->Z W)
  (A:∀(l:Nat) (x:α) (W:World),assign.wpIn (F.inRound l) (n-1-1) P (Exit.then (fun a1 W1=>a1={ tmps:=(a.tmps.setIfInBounds p (enc x)).setIfInBounds bs (.pointer (some ⟨W.heap.size,0,none⟩)),defers:=[] }/\W1=W.alloc (.cells (cs x) T)) (fun _ _ _=>False)) { tmps:=a.tmps.setIfInBounds p (enc x),defers:=[] } W)
  (C:∀(l:Nat) (pre:List α) (x:α) (W0 Wy W:World),w.heap.size<=l->ok pre x->I pre W0->Below W0.heap.size W0 W->W0.heap.size<=Wy.heap.size->Wy.heap.size<=W.heap.size->W.heap[Wy.heap.size]? = some (.cells (cs x) T (0,0))->
   body.wpIn (F.inRound l) (n-1-1) P (wD K bid I Z (pre++[x]) W0 Wy W) { tmps:=(a.tmps.setIfInBounds p (enc x)).setIfInBounds bs (.pointer (some ⟨Wy.heap.size,0,none⟩)),defers:=[] } W)
  (B:∀(D:Nat) (W:World),w.heap.size<=D->Z W->W.heap[D]? = some (.deferred (some []))->Q .normal { a with defers:={ target:=.collected D,args:=#[] }::a.defers } W) :
  (Code.rangeFunc g #[p] assign body).wpIn F n P (Exit.inBlock bid Q) a w:=
 ji T cs S V hg H eg Y E I Z bid L N M O U A C (fun D W G X R=>B D W G (J W X) R)
  (fun D W G hZ R=>wpIn_exit (by show(if bid=bid then _ else _); rw[if_pos rfl]; exact B D W G hZ R))
end
section
attribute [local go_sem] Oper.semAt_some
theorem fT.below_lt{α:Type}{G:N8 α}{F:α->Option Value}(h:fT G b n F W)(I:Below B W W')(A:b<B):fT G b n F W':=by
 obtain⟨D,⟨es,clock,C,E⟩,H⟩:=h;exact⟨D,⟨es,clock,(I.block b A).trans C,E⟩,H⟩
def GN(xs:List Itm)(d:Int×Int):Option Value:=(xs.find? (fun x=>decide (x.d=d))).map fun x=>.string ⟨x.data.toArray⟩
theorem sM(xs:List Itm)(d:Int×Int):(GN xs d).getD (.string ⟨#[]⟩)=.string ⟨(gL xs d).toArray⟩:=by
 unfold GN gL De;cases xs.find? (fun x=>decide (x.d=d)) <;> rfl
theorem xI(W:World):(zeroValue 9).run Tryz.prog W=.ok (.string ⟨#[]⟩) W:=by kernel_rfl
abbrev Cd:=(Int×Int)×Nat
def JM(xs:List Itm)(x:Cd):Value:=.agg #[.int .u64 x.1.1,.int .u64 x.1.2,.string ⟨(gL xs x.1).toArray⟩,.int .i64 (x.2:Int)]
def cdCs(xs:List Itm)(x:Cd):Array Value:=#[.int .u64 x.1.1,.int .u64 x.1.2,.string ⟨(gL xs x.1).toArray⟩,.int .i64 (x.2:Int)]
def dU:Qd->Nat->List Cd
 | [],_=>[]
 | d::l,k=>(d,k+1)::dU l (k+1)
def vB(l base:Qd):List Cd:=base.map (fun d=>(d,0))++dU l 0
theorem qD:∀(l:Qd) (d:Int×Int) (k:Nat),dU (l++[d]) k=dU l k++[(d,k+l.length+1)]
 | [],d,k=>by simp[dU]
 | x::l,d,k=>by
  rw[bz,dU,dU,qD l d (k+1),az,bz];rw[show k+1+l.length+1=k+(l.length+1)+1 by omega]
def okC(xs:List Cd)(pre:List Cd)(x:Cd):Prop:=(pre++[x]) <+: xs
structure Mj (xs:List Itm) (l base:Qd) (K:Nat->Prop) (B bb db lb mb n:Nat) (ba la:Qa) (bc lc:Nat) (W:World):Prop where
 bx:W.cell? ⟨bb,0,none⟩=some (.slice ba base.length bc)
 dx:W.cell? ⟨db,0,none⟩=some (.map (some mb))
 lx:W.cell? ⟨lb,0,none⟩=some (.slice la l.length lc)
 bd:dE B W ba base
 ld:dE B W la l
 mp:fT vH mb n (GN xs) W
 okb:∀d∈base,OkD d
 okl:∀d∈l,OkD d
 kb:K bb/\K db/\K lb/\K mb
 kB:∀k,k<B->K k
theorem Dm(A:cO K W W'){p:Addr}(B:K p.block):W'.cell? p=W.cell? p:=World.cell?_of_block (w:=W) (A.block p.block B)
theorem fT.on{α:Type}{G:N8 α}{F:α->Option Value}(h:fT G b n F W)(E:cO K W W')(H:K b):fT G b n F W':=by
 obtain⟨D,⟨es,clock,A,B⟩,C⟩:=h;exact⟨D,⟨es,clock,(E.block b H).trans A,B⟩,C⟩
theorem Mj.kept(h:Mj xs l base K B bb db lb mb n ba la bc lc W)(A:cO K W W'):Mj xs l base K B bb db lb mb n ba la bc lc W':=
 ⟨(Dm A h.kb.1).trans h.bx,(Dm A h.kb.2.1).trans h.dx,(Dm A h.kb.2.2.1).trans h.lx,h.bd.below (A.to_below h.kB) nr,h.ld.below (A.to_below h.kB) nr,h.mp.on A h.kb.2.2.2,h.okb,h.okl,h.kb,h.kB⟩
theorem Mj.look(h:Mj xs l base K B bb db lb mb n ba la bc lc W){x y:Int}(C:OkD (x,y)):(Instr.lookup 138 (.map (some mb)) (.agg #[.int .u64 x,.int .u64 y]) false).run Tryz.prog W=.ok (.string ⟨(gL xs (x,y)).toArray⟩) W:=by
 have:=h.mp.look Tryz.underlying138 (xI W) (a:=(x,y)) C;rw[sM] at this;exact this
theorem sV{e:Ending}{P Q:Prop}(h:(e=.returned (.bool true)/\P)\/(e=.returned (.bool false)/\Q)):∃b,e=.returned (.bool b)/\((b=true/\P)\/(b=false/\Q)):=by
 rcases h with⟨rfl,h⟩ | ⟨rfl,h⟩
 ·exact⟨true,rfl,.inl ⟨rfl,h⟩⟩
 ·exact⟨false,rfl,.inr ⟨rfl,h⟩⟩
theorem JN(hd:Mj xs l base K B bb db lb mb n ba la bc lc w)(hK:∀k,K k->k<w.heap.size)(D2:(l.length:Int)<=1000000)(C8:(base.length:Int)<=1000000)(m:Nat)(hm:1<=m):
  yX Fence.wide m Tryz.prog 185 #[.pointer (some ⟨bb,0,none⟩),.pointer (some ⟨db,0,none⟩),.pointer (some ⟨lb,0,none⟩)] K (JM xs) (okC (vB l base)) (vB l base) w:=by
 intro lp J Y hJ hY C1 W B1 h0;refine callsIn_of_wp Tryz.func185 rfl trivial ?_ rfl;simp only[Tryz.ntmps185,nU,az,aK,Nat.reduceAdd,Nat.reduceSub,jg,je,nV,jT,aY,bz];have HJ:=Qf hJ;have B9:=Qf C1;have HK:=Qf hK;have A2:=Qf (hd.kept (cO.of_below B1 hK));have C:Qg (w.heap.size<=W.heap.size):=Qf B1.size;have H0:=Qf h0;obtain⟨nb,Z⟩:=Qe base.length;obtain⟨nl,B5⟩:=Qe l.length;have B7:Qg (nb=base.length):=Qf Z;have A5:Qg (nl=l.length):=Qf B5;rw[<-Z] at C8;rw[<-B5] at D2;have C9:=A2.o.bx;rw[<-Z] at C9;clear hJ C1 hd B1 h0 Z B5;gi_wp2;gi_loopw [11] (fun i wr=>∃(k:Nat),i=.int .i64 (k:Int)/\k<=nb/\Qg (J ((base.take k).map fun d=>(d,0)) wr)/\Qg (Mj xs l base K B bb db lb mb n ba la bc lc wr)/\Qg (w.heap.size<=wr.heap.size)) (fun i _=>nb-(intOf i).toNat)
 case atStart=>exact⟨0,rfl,by omega,H0,A2,C⟩
 clear H0 A2 C;obtain⟨k,rfl,hk,E,I,C⟩:=hrel;by_cases D3:k<nb
 ·have D1:(k:Int)<(nb:Int):=by omega
  have B4:k<base.length:=by rw[<-B7.o]; exact D3
  obtain⟨b0,o0,B0,C7,q0,q1⟩:=I.out.bd k B4;have U:=I.out.okb _ (ak B4);have G:(base.take (k+1)).map (fun d=>((d,0):Cd))=(base.take k).map (fun d=>((d,0):Cd))++[(base[k],0)]:=by rw[ai B4,dJ]; rfl
  have N:((base.take k).map (fun d=>((d,0):Cd))++[(base[k],0)]) <+: vB l base:=by
   rw[<-G];refine⟨(base.drop (k+1)).map (fun d=>((d,0):Cd))++dU l 0,?_⟩;unfold vB;rw[<-ay,<-dJ,aQ]
  generalize base[k]=d at *
  obtain⟨x,y⟩:=d;simp only at q0 q1;obtain⟨v,V⟩:=Qe (wr.alloc (.cells #[.int .u64 x,.int .u64 y] 54));have D:Below wr.heap.size wr v.drew:=by rw[V]; exact((bf _).alloc nr _).drew
  have S:BK wr.heap.size #[.int .u64 x,.int .u64 y] 54 v.drew:=by
   have:BK wr.heap.size #[.int .u64 x,.int .u64 y] 54 v:=by rw[V]; exact BK.new _ _ _
   exact this
  have M:=I.out.kept (cO.of_below D (fun k hk=>aO (HK.o k hk) C.o));have T:=M.look U;have Q:=M.dx;obtain⟨fn,tmps,assign,body,hy,hR⟩:=B9.o _ ((x,y),0) wr v.drew N E.out D;simp only[JM] at hy;rw[show((0:Nat):Int)=0 from rfl] at hy;obtain⟨c0,c1⟩:=BK.c2 S;have HR:=Qf hR;have H:=Qf D;have A6:=Qf G;rw[V] at T Q hy c0 c1 HR;subst B0;have HV:=Qf V;clear V D S M hR G N U;gi_wp2;have D4:Tryz.prog.follows .mixedOrders=true:=by kernel_rfl
  gi_region_with_o ((refine HR.o.mono ?_); rintro e W3 ⟨F,R,L⟩; obtain⟨bv,rfl,D⟩:=sV L)
  all_goals
   rw[<-HV.o] at F R;have P:=I.out.kept ((cO.of_below H.o (fun k hk=>aO (HK.o k hk) C.o)).trans F);have X:w.heap.size<=W3.heap.size:=aC C.o (aC H.o.size F.size);clear hy T Q c0 c1 R F H HV HR;have A3:=Qf P;have A8:=Qf X;clear P X I C E;rcases D with⟨rfl,O⟩ | ⟨rfl,A9⟩
   ·have A4:=Qf O
    clear O;gi_wp2;go_roundw
    case rel=>exact⟨k+1,by go_num,by omega,by rw[A6.o]; exact A4,A3,A8⟩
    case measure=>simp[intOf] <;> omega
   ·gi_wp2
    refine bodyPost_ret (results_none rfl _ _ _) rfl ?_;exact⟨⟨_,rfl⟩,.inr A9⟩
 ·obtain rfl:k=nb:=by omega
  have D1:¬(k:Int)<(k:Int):=by omega
  have C4:base.take k=base:=ag (by have:=B7.o; omega);rw[C4] at E;have C3:=I.out.lx;rw[<-A5.o] at C3;clear C4;gi_wp2;gi_loopw [26] (fun i wr=>∃(k:Nat),i=.int .i64 (k:Int)/\k<=nl/\Qg (J (base.map (fun d=>(d,0))++dU (l.take k) 0) wr)/\Qg (Mj xs l base K B bb db lb mb n ba la bc lc wr)/\Qg (w.heap.size<=wr.heap.size)) (fun i _=>nl-(intOf i).toNat)
  case atStart=>exact⟨0,rfl,by omega,Qf (by simpa[dU] using E.out),I,C⟩
  clear E I C C3;obtain⟨j,rfl,hj,E,I,C⟩:=hrel;by_cases C2:j<nl
  ·have D0:(j:Int)<(nl:Int):=by omega
   have B3:j<l.length:=by rw[<-A5.o]; exact C2
   obtain⟨b0,o0,B0,C7,q0,q1⟩:=I.out.ld j B3;have U:=I.out.okl _ (ak B3);have G:base.map (fun d=>((d,0):Cd))++dU (l.take (j+1)) 0=(base.map (fun d=>((d,0):Cd))++dU (l.take j) 0)++[(l[j],j+1)]:=by
    rw[ai B3,qD,ay,aA,mM (by omega),aZ]
   have N:((base.map (fun d=>((d,0):Cd))++dU (l.take j) 0)++[(l[j],j+1)]) <+: vB l base:=by
    rw[<-G];unfold vB;refine(List.prefix_append_right_inj _).2 ?_;have key:∀(r s:Qd) (q:Nat),dU r q <+: dU (r++s) q:=by
     intro r;induction r with
     | nil=>intro s q; exact List.nil_prefix
     | cons d r ih=>
      intro s q;rw[bz,dU,dU];exact List.cons_prefix_cons.2 ⟨rfl,ih s _⟩
    have:=key (l.take (j+1)) (l.drop (j+1)) 0
    rwa[aQ] at this
   generalize l[j]=d at *
   obtain⟨x,y⟩:=d;simp only at q0 q1;obtain⟨v,V⟩:=Qe (wr.alloc (.cells #[.int .u64 x,.int .u64 y] 54));have D:Below wr.heap.size wr v.drew:=by rw[V]; exact((bf _).alloc nr _).drew
   have S:BK wr.heap.size #[.int .u64 x,.int .u64 y] 54 v.drew:=by
    have:BK wr.heap.size #[.int .u64 x,.int .u64 y] 54 v:=by rw[V]; exact BK.new _ _ _
    exact this
   have M:=I.out.kept (cO.of_below D (fun k hk=>aO (HK.o k hk) C.o));have T:=M.look U;have Q:=M.dx;have D5:IntKind.i64.wrap ((j:Int)+1)=((j+1:Nat):Int):=by rw[wrap_i64 (by omega) (by omega)]; omega
   obtain⟨j1,B2⟩:=Qe (j+1);rw[<-B2] at N G D5;obtain⟨fn,tmps,assign,body,hy,hR⟩:=B9.o _ ((x,y),j1) wr v.drew N E.out D;simp only[JM] at hy;obtain⟨c0,c1⟩:=BK.c2 S;have HR:=Qf hR;have H:=Qf D;have A6:=Qf G;have B6:Qg (j1=j+1):=Qf B2;rw[V] at T Q hy c0 c1 HR;subst B0;have HV:=Qf V;clear V D S M hR G N U B2;gi_wp2;have D4:Tryz.prog.follows .mixedOrders=true:=by kernel_rfl
   gi_region_with_o ((refine HR.o.mono ?_); rintro e W3 ⟨F,R,L⟩; obtain⟨bv,rfl,D⟩:=sV L)
   all_goals
    rw[<-HV.o] at F R;have P:=I.out.kept ((cO.of_below H.o (fun k hk=>aO (HK.o k hk) C.o)).trans F);have X:w.heap.size<=W3.heap.size:=aC C.o (aC H.o.size F.size);clear hy T Q c0 c1 R F H HV HR;have A3:=Qf P;have A8:=Qf X;clear P X I C E;rcases D with⟨rfl,O⟩ | ⟨rfl,A9⟩
    ·have A4:=Qf O
     clear O;gi_wp2;go_roundw
     case rel=>exact⟨j1,rfl,by have:=B6.o; omega,by rw[A6.o]; exact A4,A3,A8⟩
     case measure=>
      have:=B6.o;simp only[intOf];omega
    ·gi_wp2
     refine bodyPost_ret (results_none rfl _ _ _) rfl ?_;exact⟨⟨_,rfl⟩,.inr A9⟩
  ·obtain rfl:j=nl:=by omega
   have D0:¬(j:Int)<(j:Int):=by omega
   have C5:l.take j=l:=ag (by have:=A5.o; omega);rw[C5] at E;clear C5 I;gi_wp2;go_end0;exact⟨⟨_,rfl⟩,.inl E.out⟩
end
def txD(xs:List Itm)(d c:Int×Int):Qb:=(AV (iM (gL xs c) (gL xs d))).1
theorem GZ(xs:List Itm)(d c:Int×Int):txS xs d c=fF (txD xs d c):=rfl
def pkO(xs:List Itm)(d:Int×Int)(cs:Qd):Option ((Int×Int)×Nat):=iL (fun c=>(txS xs d c).length) cs none
def visC(pre:List Cd)(i:Nat):Qd:=(pre.filter (fun c=>decide (c.2<=i))).map (·.1)
theorem zf(pre:List Cd)(c:Int×Int)(f i:Nat):visC (pre++[(c,f)]) i=if f<=i then visC pre i++[c] else visC pre i:=by
 unfold visC;rw[vX,dJ];by_cases h:f<=i
 ·rw[if_pos h,kK,if_pos (by simpa using h)]; rfl
 ·rw[if_neg h,kK,if_neg (by simpa using h)]; simp
theorem Bi:∀(l:Qd) (k i:Nat),((dU l k).filter (fun c=>decide (c.2<=k+i))).map (·.1)=l.take i
 | [],k,i=>by simp[dU]
 | d::l,k,0=>by
  rw[dU,kK,if_neg (by simp),List.take_zero];have key:∀(l:Qd) (q:Nat),k<=q->(dU l q).filter (fun c=>decide (c.2<=k+0))=[]:=by
   intro l;induction l with
   | nil=>intro q _; rfl
   | cons d l ih=>
    intro q A;rw[dU,kK,if_neg (by simp; omega),ih (q+1) (by omega)]
  rw[key l (k+1) (by omega)]; rfl
 | d::l,k,i+1=>by
  rw[dU,kK,if_pos (by simp),eX,jS];have:=Bi l (k+1) i;rw[show k+1+i=k+(i+1) by omega] at this;rw[this]
theorem zg(base l:Qd)(i:Nat):visC (base.map (fun d=>((d,0):Cd))++dU l 0) i=base++l.take i:=by
 unfold visC;rw[vX,dJ];have B:(base.map (fun d=>((d,0):Cd))).filter (fun c=>decide (c.2<=i))=base.map (fun d=>((d,0):Cd)):=by
  rw[List.filter_eq_self];intro c C;obtain⟨d,_,rfl⟩:=bV.1 C;simp
 have A:=Bi l 0 i;rw[aZ] at A;rw[B,A,List.map_map];have:((fun x:Cd=>x.1) ∘ fun d:Int×Int=>((d,0):Cd))=id:=rfl;rw[this,List.map_id]
theorem pI:∀(l:Qd) (k:Nat),(dU l k).length=l.length
 | [],_=>rfl
 | d::l,k=>by rw[dU,az,az,pI]
theorem EJ:∀(l:Qd) (k j:Nat) (h:j<(dU l k).length),((dU l k)[j]).2=k+j+1
 | [],k,j,h=>by simp[dU] at h
 | d::l,k,0,h=>by simp[dU]
 | d::l,k,j+1,h=>by
  simp only[dU,bK];rw[EJ l (k+1) j]; omega
theorem E5{pre:List Cd}(h:okC (vB l base) pre (c,l.length)):∀i,i<l.length->visC pre i=base++l.take i:=by
 intro i I;obtain⟨r,C⟩:=h;have B:=congrArg List.length C;unfold vB at C B;simp only[af,fC,az,aK,pI] at B;have A:(base.map (fun d=>((d,0):Cd))++dU l 0)[pre.length]'(by simp[pI]; omega)=(c,l.length):=by
  have:(pre++[(c,l.length)]++r)[pre.length]'(by simp)=(c,l.length):=by simp
  simp only[C] at this;exact this
 by_cases G:pre.length<base.length
 ·rw[sU (by simpa using G)] at A
  simp only[List.getElem_map,Prod.mk.injEq] at A;omega
 ·rw[qK (by simpa using G)] at A
  have F:=EJ l 0 (pre.length-(base.map (fun d=>((d,0):Cd))).length) (by simp[pI]; omega);rw[A] at F;simp only[fC] at F;have E:r=[]:=List.length_eq_zero_iff.1 (by omega);subst E;rw[bG] at C;have D:l≠[]:=fun e=>by subst e; simp at I
  have J:=(List.dropLast_concat_getLast D);have H:dU l 0=dU l.dropLast 0++[(l.getLast D,l.length)]:=by
   conv=>lhs; rw[<-J,qD]
   rw[List.length_dropLast];congr 3;have:0<l.length:=by omega
   omega
  rw[H,<-ay] at C;have K:=(List.append_inj' C rfl).1;rw[K,zg,List.dropLast_eq_take,List.take_take,mM (by omega)]
def vT(xs:List Itm)(d:Int×Int):Option ((Int×Int)×Nat)->Chc
 | none=>⟨false,(0,0),[],0⟩
 | some (b,k)=>⟨true,b,txD xs d b,k⟩
def BN(xs:List Itm)(l:Qd)(pre:List Cd)(i:Nat):Chc:=vT xs (l.getD i (0,0)) (pkO xs (l.getD i (0,0)) (visC pre i))
def EK(xs:List Itm)(l:Qd)(pre:List Cd):List Chc:=(List.range l.length).map (BN xs l pre)
def rD(xs:List Itm)(l:Qd)(pre:List Cd)(x:Cd)(i:Nat):List Chc:=(List.range l.length).map fun j=>if j<i then BN xs l (pre++[x]) j else BN xs l pre j
theorem KU{pre:List Cd}{x:Cd}:(rD xs l pre x i).length=l.length:=by simp[rD]
theorem FV(xs:List Itm)(l:Qd)(pre:List Cd)(x:Cd):rD xs l pre x x.2=EK xs l pre:=by
 unfold rD EK;refine rO (fun j _=>?_);by_cases h:j<x.2
 ·rw[if_pos h]
  unfold BN;rw[zf,if_neg (by omega)]
 ·rw[if_neg h]
theorem KV(xs:List Itm)(l:Qd)(pre:List Cd)(x:Cd)(h:l.length<=i):rD xs l pre x i=EK xs l (pre++[x]):=by
 unfold rD EK;refine rO (fun j A=>?_);rw[if_pos (by have:=List.mem_range.1 A; omega)]
theorem yg(xs:List Itm)(l:Qd)(pre:List Cd)(x:Cd)(i:Nat){j:Nat}(h:j<(rD xs l pre x i).length):(rD xs l pre x i)[j]=if j<i then BN xs l (pre++[x]) j else BN xs l pre j:=by simp[rD]
theorem Np(xs:List Itm)(l:Qd)(pre:List Cd)(x:Cd)(h:i<(rD xs l pre x i).length):(rD xs l pre x i)[i]=BN xs l pre i:=by rw[yg,if_neg (by omega)]
theorem Iq(xs:List Itm)(l:Qd)(pre:List Cd)(x:Cd):rD xs l pre x (i+1)=(rD xs l pre x i).set i (BN xs l (pre++[x]) i):=by
 refine List.ext_getElem (by simp[rD]) (fun j C A=>?_);have B:j<(rD xs l pre x i).length:=by simpa using A
 rw[List.getElem_set,yg,yg _ _ _ _ _ B];by_cases e:i=j
 ·subst e; rw[if_pos (by omega),if_pos rfl]
 ·rw[if_neg e]
  by_cases e2:j<i
  ·rw[if_pos (by omega),if_pos e2]
  ·rw[if_neg (by omega),if_neg e2]
theorem JQ{pre:List Cd}{f:Nat}(A:f<=i):BN xs l (pre++[(c,f)]) i =
  (if(BN xs l pre i).sm=false\/(txS xs (l.getD i (0,0)) c).length<(BN xs l pre i).sz then⟨true,c,txD xs (l.getD i (0,0)) c,(txS xs (l.getD i (0,0)) c).length⟩ else BN xs l pre i):=by
 unfold BN;rw[zf,if_pos A];unfold pkO;rw[lQ];cases iL (fun c=>(txS xs (l.getD i (0,0)) c).length) (visC pre i) none with
 | none=>exact(if_pos (.inl rfl)).symm
 | some p=>
  obtain⟨b,k⟩:=p;by_cases h:(txS xs (l.getD i (0,0)) c).length<k
  ·refine Eq.trans ?_ (if_pos (.inr h)).symm
   show vT xs _ (if _<k then _ else _)=_;rw[if_pos h]; rfl
  ·refine Eq.trans ?_ (if_neg (fun e=>e.elim (fun e=>by cases e) h)).symm
   show vT xs _ (if _<k then _ else _)=_;rw[if_neg h]
theorem LV(xs:List Itm)(l:Qd):EK xs l []=List.replicate l.length ⟨false,(0,0),[],0⟩:=by
 unfold EK;refine List.ext_getElem (by simp) (fun j A B=>?_);simp[BN,visC,pkO,iL,vT]
def Km(xs:List Itm)(d:Int×Int)(c:Chc):Chc:=if(fF (gL xs d)).length<=c.sz+16 then { c with sm:=false } else c
def Gg(xs:List Itm)(l base:Qd):List Chc:=(List.range l.length).map fun i=>Km xs (l.getD i (0,0)) (vT xs (l.getD i (0,0)) (pkO xs (l.getD i (0,0)) (base++l.take i)))
theorem Lu(xs:List Itm)(d:Int×Int)(cs:Qd):yG xs d (Km xs d (vT xs d (pkO xs d cs)))=Ph xs d (chosen xs d cs):=by
 rw[Dk];unfold pkO;cases iL (fun c=>(txS xs d c).length) cs none with
 | none=>
  simp only[FN,vT];unfold yG Ph Km;split <;> simp
 | some p=>
  obtain⟨b,k⟩:=p;simp only[FN,vT];unfold Km;simp only;by_cases h:(fF (gL xs d)).length<=k+16
  ·rw[if_pos h,if_pos h]; unfold yG Ph; simp
  ·rw[if_neg h,if_neg h]; unfold yG Ph; simp[GZ]
theorem LX(xs:List Itm)(l base:Qd):bodyC xs l (Gg xs l base)=Ih xs l base:=by
 unfold bodyC Ih;congr 1;have h:(l.zip (Gg xs l base)).map (fun p=>yG xs p.1 p.2)=(List.range l.length).map (entI xs l base):=by
  refine List.ext_getElem (by simp[Gg]) (fun j C A=>?_);have B:j<l.length:=by simpa using A
  simp only[List.getElem_map,List.getElem_zip,List.getElem_range,Gg,entI];rw[<-Lu];simp[List.getD,B]
 rw[List.flatMap_def,List.flatMap_def,h]
theorem Ie{cs:Qd}{b:Int×Int}(h:pkO xs d cs=some (b,k)):b∈cs/\k=(txS xs d b).length:=by
 obtain⟨B,A⟩:=lN cs none (fun b k h=>by cases h) b k h;rcases A with A | A
 ·exact⟨A,B⟩
 ·cases A
theorem Pm{g:Nat}{T:TypeId}{L:List Chc}(h:BK g (gcs vJ L).toArray T W)(A:i<L.length)(c:Chc):
  BK g (gcs vJ (L.set i c)).toArray T (((((W.setCell ⟨g,i*5,none⟩ (.bool c.sm)).setCell ⟨g,i*5+1,none⟩ (.int .u64 c.b.1)).setCell ⟨g,i*5+2,none⟩ (.int .u64 c.b.2)).setCell ⟨g,i*5+3,none⟩ (.string ⟨c.tx.toArray⟩)).setCell ⟨g,i*5+4,none⟩ (.int .i64 (c.sz:Int))):=by
 have step:∀{W:World} {L:List Chc} (h:BK g (gcs vJ L).toArray T W) (A:i<L.length) (j:Nat) (v:Value) (b:Chc),j<5->vJ b=(vJ L[i]).set j v->BK g (gcs vJ (L.set i b)).toArray T (W.setCell ⟨g,i*5+j,none⟩ v):=by
  intro W L h A j v b D C;have B:=h.set (i*5+j) v;rw[dR,yA IB L i A j v b D C] at B;exact B
 obtain⟨o,E⟩:=Qe (L[i]);have e0:=step h A 0 (.bool c.sm) ⟨c.sm,o.b,o.tx,o.sz⟩ (by decide) (by rw[<-E]; rfl);have e1:=step e0 (by simpa using A) 1 (.int .u64 c.b.1) ⟨c.sm,(c.b.1,o.b.2),o.tx,o.sz⟩ (by decide) (by rw[List.getElem_set_self]; rfl);rw[List.set_set] at e1;have e2:=step e1 (by simpa using A) 2 (.int .u64 c.b.2) ⟨c.sm,(c.b.1,c.b.2),o.tx,o.sz⟩ (by decide) (by rw[List.getElem_set_self]; rfl);rw[List.set_set] at e2;have e3:=step e2 (by simpa using A) 3 (.string ⟨c.tx.toArray⟩) ⟨c.sm,(c.b.1,c.b.2),c.tx,o.sz⟩ (by decide) (by rw[List.getElem_set_self]; rfl);rw[List.set_set] at e3;have e4:=step e3 (by simpa using A) 4 (.int .i64 (c.sz:Int)) ⟨c.sm,(c.b.1,c.b.2),c.tx,c.sz⟩ (by decide) (by rw[List.getElem_set_self]; rfl);rw[List.set_set] at e4;exact e4
