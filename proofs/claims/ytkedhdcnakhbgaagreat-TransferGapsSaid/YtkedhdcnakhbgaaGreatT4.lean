/- Lemmas. -/
import Derived.Test.YtkedhdcnakhbgaaGreatP10
import Derived.Test.YtkedhdcnakhbgaaGreatG5
import Derived.Test.YtkedhdcnakhbgaaGreatG6
import Derived.Test.YtkedhdcnakhbgaaGreatT1
import Derived.Test.YtkedhdcnakhbgaaGreatW3
import Derived.Test.YtkedhdcnakhbgaaGreatT2
import Derived.Test.YtkedhdcnakhbgaaGreatT3
set_option linter.unusedSimpArgs false
set_option maxRecDepth 100000
set_option maxHeartbeats 16000000
namespace Go.Proofs.YtkedhdcnakhbgaaGreat
open Go.RowKit
set_option linter.unusedVariables false
variable {x:Fet}{e i id j pid size tot:Int}{d:Int×Int}{base:List Dg}{Q X Y Z xs:List Itm}{ps qs:List P}{m:Msg}{f k sz t:Nat}{K seen:Nat->Prop}{p:P}{D T:Qb}{l want:Qd}{s:Ses}{A:Sz}{c:UInt8}
structure Sup (X Z:List Itm):Prop where
 ax:Asc X
 az:Asc Z
 sub:∀y∈X,y∈Z
theorem VS(F:Asc X){x:Itm}(H:x∈X):I7 X x.d=true:=by
 obtain⟨k,E,B⟩:=aV H;have C:At X x.d k:=⟨Zo,fun j D h=>by
  have A:=F j k D E h;rw[B] at A;exact A,fun j D h=>by
  rcases gB k j with A | A
  ·have G:=F k j E D A;rw[B] at G;have I:=iZ (a:=x.d) (b:=X[j].d);omega
  ·obtain rfl:j=k:=Zo;rw[B,fO]
   decide⟩
 have A:=C.eq;unfold I7 qw;rw[<-A,List.getElem?_eq_getElem E,B];simp
theorem U8(h:Asc xs):xs.Nodup:=by
 rw[List.nodup_iff_pairwise_ne,List.pairwise_iff_getElem];intro i j C D A e;have B:=h i j C D A;rw[e,fO] at B;omega
theorem Sup.get(h:Sup X Z)(A:(dW X d).2=0):dW Z d=dW X d:=by
 obtain⟨x,C,rfl,B⟩:=oW A;rw[<-B]; exact Lh h.az (h.sub x C)
theorem Sup.com(h:Sup X Z)(B:(aF X d).2=0):aF Z d=aF X d:=by
 have A:=(Ba B).1;unfold aF;rw[h.get A]
theorem Sup.rch(h:Sup X Z)(G:(dh X l).2=[])(d:Int×Int):Rch Z l d↔Rch X l d:=by
 obtain⟨_,_,g⟩:=gW X l;have F:∀x,Rch X l x->(dW X x).2=0:=fun x H=>Classical.byContradiction fun e=>by
  have:=(g x).2.2 ⟨H,e⟩;rw[G] at this; cases this
 constructor
 ·intro E;induction E with
  | root C A=>exact .root C A
  | link _ A B D ih=>rw[h.get (F _ ih)] at B; exact .link ih (F _ ih) B D
 ·intro E;induction E with
  | root C A=>exact .root C A
  | link _ A B D ih=>exact .link ih (by rw[h.get A]; exact A) (by rw[h.get A]; exact B) D
theorem Sup.reach(h:Sup X Z)(B:(dh X l).2=[]):dh Z l=dh X l:=by
 obtain⟨a1,a2,g⟩:=gW X l;obtain⟨b1,b2,q⟩:=gW Z l;have A:∀x,Rch X l x->(dW X x).2=0:=fun x C=>Classical.byContradiction fun e=>by
  have:=(g x).2.2 ⟨C,e⟩;rw[B] at this; cases this
 refine Prod.ext (yT b1 a1 fun x=>?_) (yT b2 a2 fun x=>?_)
 ·rw[(q x).1,(g x).1,h.rch B x];exact⟨fun e=>⟨e.1,A _ e.1⟩,fun e=>⟨e.1,by rw[h.get e.2]; exact e.2⟩⟩
 ·rw[(q x).2,(g x).2,h.rch B x];exact⟨fun e=>absurd (by rw[h.get (A _ e.1)]; exact A _ e.1) e.2,fun e=>absurd (A _ e.1) e.2⟩
theorem Sup.has(h:Sup X Z)(A:I7 X d=true):I7 Z d=true:=by
 obtain⟨x,B,rfl⟩:=QE A;exact VS h.az (h.sub x B)
theorem QW(A:PV X l=true):(∀d∈l,I7 X d=true)/\(dh X l).2=[]:=by
 unfold PV at A;rw[Bool.and_eq_true,P5,decide_eq_true_eq] at A;exact A
theorem Sup.dat(h:Sup X Z)(B:I7 X d=true):gL Z d=gL X d:=by
 obtain⟨x,A,rfl⟩:=QE B;rw[TV h.ax A,TV h.az (h.sub x A)]
theorem TY{X:List Itm}:∀(l:Qd),(∀d∈l,(aF X d).2=0)->vI X l=0
 | [],_=>rfl
 | d::l,h=>by
  rw[vI,if_neg (by simp[h d Zs])];exact TY l (fun x A=>h x (Zj A))
theorem U5{xs:List Itm}:∀(l met:Qd),QR xs met l=0->∀d∈l,(aF xs d).2=0
 | [],_,_,d,D=>by cases D
 | d::l,met,h,x,B=>by
  rw[QR] at h;by_cases A:(aF xs d).2=0
  ·rw[if_neg (Zj A)] at h;have F:∃E,QR xs E l=0:=by
    split at h
    ·exact⟨_,h⟩
    ·split at h
     ·cases h
     ·exact⟨_,h⟩
   obtain⟨m2,C⟩:=F;rcases List.mem_cons.1 B with rfl | B
   ·exact A
   ·exact U5 l m2 C x B
  ·rw[if_pos A] at h;exact absurd h A
def Ug(X:List Itm)(want com:Qd):Qd:=(dh X want).1.filter fun d=>!decide (d∈(dh X com).1)
theorem UK{com:Qd}(A:∀d∈want++com,(aF X d).2=0)(B:(dh X want).2=[]):M6 X want com=(Ug X want com,0):=by
 unfold M6 Ug;rw[if_neg (by simp[TY _ A]),if_neg (Zn B)]
theorem TP{tx ty:Dg->Nat}:∀(cs:List Dg) (m:Nat) (r:Option Dg),(∀c∈cs,tx c=ty c)->xS tx cs m r=xS ty cs m r
 | [],_,_,_=>rfl
 | c::cs,m,r,h=>by
  have A:=fun m r=>TP cs m r (fun x B=>h x (pM _ B))
  rw[xS,xS,h c P9,A,A]
theorem Sn{tx:Dg->Nat}:∀(cs:List Dg) (m:Nat) (r:Option Dg) (d:Dg),xS tx cs m r=some d->d∈cs\/r=some d
 | [],_,_,_,h=>.inr h
 | c::cs,m,r,d,h=>by
  rw[xS] at h;split at h
  ·rcases Sn cs _ _ d h with h | h
   ·exact .inl (pM _ h)
   ·cases h; exact .inl P9
  ·rcases Sn cs _ _ d h with h | h
   ·exact .inl (pM _ h)
   ·exact .inr h
theorem U3{α β:Type}{f g:α->List β}:∀(l:List α),(∀x∈l,f x=g x)->l.flatMap f=l.flatMap g
 | [],_=>rfl
 | x::l,h=>by rw[bR,bR,h x Zs,U3 l (fun y A=>h y (Zj A))]
theorem Vq{l:List Dg}(h:∀d∈l++base,gL Z d=gL X d):Ih Z l base=Ih X l base:=by
 unfold Ih;congr 1;have G:∀i∈List.range l.length,VU Z l base i=VU X l base i:=fun i F=>by
  have B:i<l.length:=List.mem_range.1 F;have E:l.getD i (0,0)∈l:=by rw[List.getD_eq_getElem?_getD,List.getElem?_eq_getElem B]; exact ak B
  unfold VU;have D:∀c∈base++l.take i,c∈l++base:=fun c A=>by
   rcases aD.1 A with A | A
   ·exact aD.2 (.inr A)
   ·exact aD.2 (.inl (dK A))
  generalize l.getD i (0,0)=d at E;have e0:=h d (aD.2 (.inl E));have e1:∀c∈base++l.take i,txS Z d c=txS X d c:=fun c A=>by unfold txS; rw[e0,h c (D c A)]
  have e2:QK Z d (base++l.take i)=QK X d (base++l.take i):=by
   unfold QK;rw[e0];exact TP _ _ _ (fun c A=>by rw[e1 c A])
  rw[e2];unfold Ph;cases A:QK X d (base++l.take i) with
  | none=>simp only; rw[e0]
  | some c=>
   simp only;have:c∈base++l.take i:=by
    unfold QK at A;rcases Sn _ _ _ c A with C | C
    ·exact C
    ·cases C
   rw[e1 c this]
 exact U3 _ G
theorem VQ{X:List Itm}:∀(l E:List Dg),(∀d∈l,I7 X d=true/\d∉E)->l.Nodup->pkE X l E=0
 | [],_,_,_=>rfl
 | d::l,E,h,D=>by
  obtain⟨B,C⟩:=h d Zs;rw[pkE,if_neg (Zj B),if_neg C];obtain⟨n1,n2⟩:=List.nodup_cons.1 D;refine VQ l _ (fun x A=>⟨(h x (Zj A)).1,fun e=>?_⟩) n2;rcases aD.1 e with e | e
  ·exact(h x (Zj A)).2 e
  ·rw[aH.1 e] at A; exact n1 A
theorem Sq{l:List Dg}(B:∀d∈l++base,I7 X d=true)(C:l.Nodup)(D:l.length<=1000):Cs X l base=0:=by
 unfold Cs bsE;rw[if_neg Zo,if_neg (by rw[VQ l [] (fun d A=>⟨B d (Zj A),Zs⟩) C]; simp),if_pos (P5.2 fun d A=>B d (Zj A))]
theorem Sup.pack(h:Sup X Z){l:List Dg}(A:∀d∈l++base,I7 X d=true)(E:l.Nodup)(D:l.length<=1000):zP Z l base=zP X l base/\zP X l base=(BX (Ih X l base),0):=by
 have e1:=Sq A E D;have e2:=Sq (X:=Z) (fun d B=>h.has (A d B)) E D;have C:zP X l base=(BX (Ih X l base),0):=by unfold zP; rw[if_neg (by simp[e1])]
 refine⟨?_,C⟩;rw[C];unfold zP;rw[if_neg (by simp[e2]),Vq (fun d B=>h.dat (A d B))]
theorem S9(C:d∈(dh X l).1)(B:Asc X):I7 X d=true:=by
 have A:=(((gW X l).2.2 d).1.1 C).2;obtain⟨x,D,rfl,_⟩:=oW A;exact VS B D
theorem SF(D:Asc X){com:Qd}:(∀d∈Ug X want com++(dh X com).1,I7 X d=true)/\(Ug X want com).Nodup/\(Ug X want com).length<=X.length:=by
 have B:∀d∈Ug X want com,I7 X d=true:=fun d A=>S9 (QJ.1 A).1 D
 have E:(dh X want).1.Nodup:=(gW X want).1.imp (fun {a b} h e=>by
  subst e;rw[fO] at h
  omega)
 have C:(Ug X want com).Nodup:=E.filter _;refine⟨fun d A=>?_,C,?_⟩
 ·rcases aD.1 A with A | A
  ·exact B d A
  ·exact S9 A D
 ·have F:=C.length_le_of_subset (l₂:=X.map (·.d)) (fun d A=>by
   obtain⟨x,G,rfl⟩:=QE (B d A);exact List.mem_map_of_mem G)
  rwa[fC] at F
def shM(n f:Nat)(m:Msg):Msg:=⟨m.kind,m.id,m.off+f,n,m.ds,m.data⟩
def V5(id:Int)(D:Qb)(f t sz:Nat):List Msg:=(Rn id ((D.drop f).take (t-f)) sz).map (shM D.length f)
theorem Tz(h:m.why=0):Qc m=(O9 m,0):=by unfold Qc; rw[if_pos h]
theorem TN{n f:Nat}:∀(ms:List Msg) (C:Qb),(∀m∈ms,(shM n f m).why=0)->Rz n f ms C=(C++(ms.map (shM n f)).flatMap O9,0)
 | [],C,_=>by simp[Rz]
 | m::ms,C,h=>by
  have A:=Tz (h m Zs);unfold shM at A;rw[Rz,A,if_neg Zs,TN ms _ (fun x B=>h x (Zj B)),eX,bR,ay];rfl
theorem UW(hs:1<=sz)(h:m∈Rn id D sz):∃a,a<D.length/\m=part id D sz a:=by
 unfold Rn at h;obtain⟨i,A,rfl⟩:=bV.1 h;rw[List.mem_range,Nat.lt_div_iff_mul_lt Zo] at A;exact⟨i*sz,Zo,rfl⟩
theorem Vn(hs:1<=sz)(E:t<=D.length)(h:m∈V5 id D f t sz):∃a:Nat,f<=a/\a<t/\m=⟨2,id,(a:Int),D.length,[],(D.drop a).take (min sz (t-a))⟩:=by
 unfold V5 at h;obtain⟨m',A,rfl⟩:=bV.1 h;obtain⟨a,B,rfl⟩:=UW hs A;have C:a<t-f:=by
  rw[aA,ah] at B;omega
 refine⟨a+f,Zo,Zo,?_⟩;unfold shM part;simp only[List.drop_take,eY,List.take_take];rw[show min sz (t-f-a)=min sz (t-(a+f)) by omega,show f+a=a+f by omega];simp
theorem TM(A:0<=id)(B:id<=1099511627776)(hs:1<=sz)(E:sz<=65536)(F:t<=D.length)(I:D.length<=1048576):∀m∈V5 id D f t sz,m.why=0/\m.ds=[]:=fun m C=>by
 obtain⟨a,G,H,rfl⟩:=Vn hs F C;refine⟨VJ A B ?_,rfl⟩;unfold vM v2;simp only[aA,ah,aK];simp;omega
theorem WW(C:0<=id)(E:id<=1099511627776)(hs:1<=size)(J:size<=65536)(G:f<t)(K:t<=D.length)(F:D.length<=1048576):
  Uw id D f t size=((V5 id D f t size.toNat).flatMap O9,0)/\V5 id D f t size.toNat≠[]:=by
 have H:((D.drop f).take (t-f)).length=t-f:=by rw[aA,ah]; omega
 have A:ww id ((D.drop f).take (t-f)) size=(Rn id ((D.drop f).take (t-f)) size.toNat,0):=by
  unfold ww;rw[if_neg Zo,if_neg Zo]
 have L:=TM (f:=f) C E (sz:=size.toNat) Zo Zo K F;constructor
 ·unfold Uw;rw[A,if_neg Zs,TN _ _ (fun m I=>(L (shM D.length f m) (List.mem_map_of_mem I)).1)];rfl
 ·intro e;have B:=congrArg List.length e;unfold V5 Rn at B;simp only[fC,List.length_range,aK,H] at B;have M:0<(t-f+size.toNat-1)/size.toNat:=Nat.div_pos Zo Zo;omega
theorem U2(m:Msg):O9 m≠[]:=fun e=>by
 have:=congrArg List.length e;rw[QP] at this;simp at this
theorem Wn{ms:List Msg}(h:ms≠[]):ms.flatMap O9≠[]:=by
 cases ms with
 | nil=>exact absurd rfl h
 | cons m ms=>
  rw[bR];intro e;exact U2 m (List.append_eq_nil_iff.1 e).1
theorem Si{com:Qd}(h:want.length+com.length<=1000):(PX want com).why=0:=by
 refine VJ (by unfold PX; simp) (by unfold PX; simp) ?_;unfold vM PX;simp;omega
theorem We{ds:Qd}(h:∀d∈ds,OkD d):WG ds:=fun d A=>by
 have:=h d A;unfold OkD Ku at this;omega
theorem UN{com:Qd}{a:Bool}(h:want.length+com.length<=1000):Rx ⟨xs,want,com,id,tot,[],a,false⟩=(O9 (PX want com),0):=by
 unfold Rx;rw[if_neg Zs,Tz (Si h),if_neg Zs,if_pos (.inl rfl)]
theorem UL{com:Qd}(h:want.length+com.length<=1000)(E:∀d∈want,OkD d)(C:∀d∈com,OkD d):BG (O9 (PX want com)) [PX want com] (O9 (PX want com)).length:=by
 have B:=Q4 [PX want com] (fun m D=>by
  rw[aH.1 D];exact⟨Si h,We (fun d A=>by
   rcases aD.1 A with A | A
   ·exact E d A
   ·exact C d A)⟩)
 simpa using B
open Go.RowKit Go.Shelf
def Tp(X:List Itm)(want com:Qd):Qb:=BX (Ih X (Ug X want com) (dh X com).1)
def rplM(X:List Itm)(want com:Qd)(size:Int):List Msg:=V5 (Ux (Tp X want com)) (Tp X want com) 0 (Tp X want com).length size.toNat
def Xr(X:List Itm)(want com:Qd)(size:Int):Qb:=(rplM X want com size).flatMap O9
theorem UV(T:Qb):0<=Ux T/\Ux T<=1099511627776:=by unfold Ux; omega
theorem UF(D:Asc X)(F:X.length<=40)(E:∀x∈X,x.data.length<=1000)(want com:Qd):0<(Tp X want com).length/\(Tp X want com).length<=1048576:=by
 obtain⟨f1,f2,f3⟩:=SF D (want:=want) (com:=com);have B:=Sq f1 f2 Zo;have A:=Vp E (Ug X want com) (dh X com).1;have C:zP X (Ug X want com) (dh X com).1=(Tp X want com,0):=by unfold zP Tp; rw[if_neg (Zj B)]
 rw[C] at A;simp only at A;refine⟨?_,Zo⟩;unfold Tp BX;rw[af,bX];omega
theorem txt_len2(D:Asc X)(F:X.length<=40)(E:∀x∈X,x.data.length<=1000)(want com:Qd):(Tp X want com).length<=65536:=by
 obtain⟨f1,f2,f3⟩:=SF D (want:=want) (com:=com);have B:=Sq f1 f2 Zo;have A:=Vp E (Ug X want com) (dh X com).1;have C:zP X (Ug X want com) (dh X com).1=(Tp X want com,0):=by unfold zP Tp; rw[if_neg (Zj B)]
 rw[C] at A;simp only at A;omega
theorem SN(B:Asc X)(E:X.length<=40)(C:∀x∈X,x.data.length<=1000){want com:Qd}(A:1<=size)(F:size<=1000):
  Uw (Ux (Tp X want com)) (Tp X want com) 0 (Tp X want com).length size=(Xr X want com size,0)/\rplM X want com size≠[]/\∀m∈rplM X want com size,m.why=0/\m.ds=[]:=by
 obtain⟨l0,l1⟩:=UF B E C want com;obtain⟨p0,p1⟩:=UV (Tp X want com);obtain⟨r1,r2⟩:=WW (D:=Tp X want com) (f:=0) (t:=(Tp X want com).length) p0 p1 A Zo l0 nr l1;exact⟨r1,r2,TM p0 p1 Zo Zo nr l1⟩
theorem Uh{X P:List Itm}(hs:Sup X P)(T:X.length<=40)(E:∀x∈X,x.data.length<=1000){want com:Qd}(U:∀d∈want++com,(aF X d).2=0)(Y:(dh X want).2=[])(L:(dh X com).2=[])(okw:∀d∈want,OkD d)(okc:∀d∈com,OkD d)(lw:want.length<=6)(lc:com.length<=6){size:Int}(S:1<=size)(Z:size<=1000)
  (a:Qa) (c:Nat) (w:World) (V:jQ w a P c) (Q:P.length<=90) (C:∀x∈P,OkD x.d/\x.data.length<=1000) :
  Qh 21 #[.slice a P.length c,(O9 (PX want com)),Yi size] w (Xz (.tuple #[(Xr X want com size),Yi 0]) w):=by
 obtain⟨f1,f2,f3⟩:=SF hs.ax (want:=want) (com:=com);obtain⟨g1,g2,g3⟩:=SN hs.ax T E (want:=want) (com:=com) S Z;obtain⟨l0,l1⟩:=UF hs.ax T E want com;obtain⟨q1,q2⟩:=hs.pack f1 f2 Zo;have J:=hs.reach Y;have I:=hs.reach L;have R:M6 P want com=(Ug X want com,0):=by
  rw[UK (fun d B=>by rw[hs.com (U d B)]; exact U d B) (J▸Y)];unfold Ug;rw[J,I]
 have N:∀d∈want++com,OkD d:=fun d B=>by
  rcases aD.1 B with B | B
  ·exact okw d B
  ·exact okc d B
 have O:Pt P c:=⟨hs.az,fun x D=>(C x D).1,fun x D=>(C x D).2,Zo,V.cap⟩;have H:∀{l:Qd},(∀d∈l,I7 X d=true)->∀d∈l,OkD d:=fun M d B=>by
  obtain⟨x,D,rfl⟩:=QE (M d B);exact(C x (hs.sub x D)).1
 have G:=QY (PX want com);rw[Tz (Si Zo)] at G;simp only at G;have A2:(dh X com).1.length<=X.length:=by
  have K:(dh X com).1.Nodup:=(gW X com).1.imp (fun {a b} h e=>by
   subst e;rw[fO] at h
   omega)
  have h3:=K.length_le_of_subset (l₂:=X.map (·.d)) (fun d B=>by
   obtain⟨x,D,rfl⟩:=QE (f1 d (aD.2 (.inr B)));exact List.mem_map_of_mem D)
  rwa[fC] at h3
 have ht:(want++com).take want.length=want:=List.take_left;have F:(want++com).drop want.length=com:=qL;have A0:=SG a P c (O9 (PX want com)) size w want.length (O9 (PX want com)).length 0 (want++com) (Ug X want com) (dh X com).1 (Tp X want com) V hs.az Q (UL Zo okw okc) rfl Zo Zs N (Zy af) S Zo (by rw[ht,F]; exact R) (by rw[F,I]) Zo
  (fun la A1 ba bc W hi M hb=>by
   have K:=PG O hi M hb (H (fun d B=>f1 d (aD.2 (.inl B)))) (H (fun d B=>f1 d (aD.2 (.inr B)))) (lc:=A1) (bc:=bc) Zo Zo;rw[q1,q2] at K;exact K)
 rw[g1] at A0;exact A0
def Bears(m:Msg)(j:Nat):Prop:=m.off<=j/\(j:Int)<m.off+m.data.length
def PartOf(T:Qb)(pid:Int)(m:Msg):Prop:=∃a n:Nat,1<=n/\a+n<=T.length/\m=⟨2,pid,(a:Int),T.length,[],(T.drop a).take n⟩
structure HSt (X:List Itm) (want com:Qd) (T:Qb) (pid:Int) (seen:Nat->Prop) (s:Ses):Prop where
 x:s.xs=X
 w:s.want=want
 c:s.com=com
 d:s.done=false
 p:Xl T pid 0 s.id s.tot s.ps
 o:∀j,j<T.length->seen j->∃c,Has s.ps j c
 n:(y9 s.id s.tot s.ps).2=false
structure HDn (Q:List Itm) (want com:Qd) (s:Ses):Prop where
 x:s.xs=Q
 w:s.want=want
 c:s.com=com
 d:s.done=true
theorem whole_is{t:Int}(h:Xl T pid 0 i t ps)(A:(y9 i t ps).2=true):(y9 i t ps).1=T:=by
 match ps,h,A with
 | [],_,A=>exact absurd A (by simp[y9])
 | [p],h,A=>
  rw[EY] at A ⊢;split at A
  ·rename_i F;rw[if_pos F];obtain⟨G,H⟩:=h.same Zs;obtain⟨D,_⟩:=QS h.valid;rw[xJ] at D;obtain⟨g1,g2,g3,_⟩:=D.1 p Zs;unfold PU at g3;have E:p.1=0:=Zo;have I:p.2.length=T.length:=Zo
   show p.2=T;refine List.ext_getElem? (fun j=>?_);by_cases C:j<p.2.length
   ·have B:=(h.sub (j:Int) p.2[j] ⟨p,Zs,Zo,by rw[E]; simp[C]⟩).2;rw[aj] at B;rw[B]; simp[C]
   ·rw[List.getElem?_eq_none Zo,List.getElem?_eq_none Zo]
  ·cases A
 | _::_::_,_,A=>exact absurd A (by simp[y9])
theorem take_hon{com:Qd}(Qf:0<=pid/\pid<=1099511627776)(O:T.length<=65536)(Y:tu T X=(Q,0))(R:PV Q want=true)(U:PartOf T pid m)(h:HSt X want com T pid seen s):
  HSt X want com T pid (fun j=>seen j\/Bears m j) (Qk s m).1\/HDn Q want com (Qk s m).1:=by
 obtain⟨a,n,V,G,rfl⟩:=U;obtain⟨xs,sw,sc,si,st,sp,sa,sd⟩:=s;obtain⟨I,J,K,L,F,M,N⟩:=h;simp only at I J K L F M N;subst I J K L;have B:∃i t ps,WJ ⟨xs,sw,sc,si,st,sp,sa,false⟩ ⟨2,pid,(a:Int),T.length,[],(T.drop a).take n⟩=(i,t,ps)/\Xl T pid 0 i t ps/\∀j c,Has sp j c->Has ps j c:=by
  unfold WJ;by_cases D:sp=[]
  ·rw[if_pos (.inl D)];exact⟨0,0,[],rfl,Xl.start T pid,fun j c A=>by rw[D] at A; exact A⟩
  ·obtain⟨e1,e2⟩:=F.same (bJ.2 D);rw[if_neg (by
    simp only;rintro(e | e | e)
    ·exact D e
    ·exact e e1
    ·exact e e2)]
   exact⟨si,st,sp,rfl,F,fun j c A=>A⟩
 obtain⟨i,t,ps,W,H,C⟩:=B;obtain⟨qs,g1,g2,g3,g4,g5⟩:=H.step Qf (o:=a) (n:=n) (m':=0) G V O (.inl nr);have S:Vt ⟨xs,sw,sc,si,st,sp,sa,false⟩ ⟨2,pid,(a:Int),T.length,[],(T.drop a).take n⟩=(0,pid,(T.length:Int),qs):=by
  unfold Vt;rw[W];exact g1
 unfold Qk;rw[if_neg Zs,S,if_neg Zs];simp only;unfold Rl;simp only;by_cases E:(y9 pid T.length qs).2=true
 ·rw[if_pos E,whole_is g2 E];unfold Us;simp only;rw[Y,if_pos ⟨rfl,R⟩];exact .inr ⟨rfl,rfl,rfl,rfl⟩
 ·rw[if_neg E];refine .inl ⟨rfl,rfl,rfl,rfl,g2,fun j A hs=>?_,Zu E⟩;rcases hs with hs | ⟨b1,b2⟩
  ·obtain⟨c,P⟩:=M j A hs;exact⟨c,g4 _ _ (C _ _ P)⟩
  ·simp only[aA,ah] at b1 b2;exact g5 j Zo Zo
theorem rec_hon{X Q:List Itm}{want com:Qd}{T:Qb}{pid:Int}(Qf:0<=pid/\pid<=1099511627776)(D:T.length<=65536)(G:tu T X=(Q,0))(F:PV Q want=true):∀(ms:List Msg) (I:Nat->Prop) (s:Ses),(∀m∈ms,PartOf T pid m)->HSt X want com T pid I s\/HDn Q want com s->
  HSt X want com T pid (fun j=>I j\/∃m∈ms,Bears m j) (Ql s ms).1\/HDn Q want com (Ql s ms).1
 | [],I,s,_,h=>by
  rw[Ql];refine h.imp (fun h=>⟨h.x,h.w,h.c,h.d,h.p,fun j C hs=>h.o j C (hs.elim id (fun⟨m,B,_⟩=>(by cases B))),h.n⟩) id
 | m::ms,I,s,B,h=>by
  rw[Ql];have H:HSt X want com T pid (fun j=>I j\/Bears m j) (Qk s m).1\/HDn Q want com (Qk s m).1:=by
   rcases h with h | h
   ·exact take_hon Qf D G F (B m Zs) h
   ·refine .inr ?_;unfold Qk;rw[if_pos (.inl h.d)];exact h
  refine(rec_hon Qf D G F ms _ _ (fun x A=>B x (Zj A)) H).imp (fun h=>⟨h.x,h.w,h.c,h.d,h.p,fun j C hs=>h.o j C ?_,h.n⟩) id;rcases hs with hs | ⟨x,A,E⟩
  ·exact .inl (.inl hs)
  ·rcases List.mem_cons.1 A with rfl | A
   ·exact .inl (.inr E)
   ·exact .inr ⟨x,A,E⟩
theorem all_done{com:Qd}(B:1<=T.length)(hs:∀j,j<T.length->seen j)(h:HSt X want com T pid seen s\/HDn Q want com s):HDn Q want com s:=by
 rcases h with h | h
 ·exfalso;have E:=h.p;have D:0<s.ps.length:=by
   obtain⟨c,p,F,_⟩:=h.o 0 B (hs 0 B);exact List.length_pos_of_mem F
  obtain⟨e1,e2⟩:=E.same D;have A:=E.valid;rw[e2] at A;have H:=whole_of_full A E.sub (fun j G=>h.o j G (hs j G)) B;have C:=h.n;rw[H,e2] at C;rw[H] at A;rw[whole_one A] at C;cases C
 ·exact h
theorem rep_cov(hs:1<=sz):(∀m∈V5 id D 0 D.length sz,PartOf D id m)/\∀j,j<D.length->∃m∈V5 id D 0 D.length sz,Bears m j:=by
 refine⟨fun m B=>?_,fun j H=>?_⟩
 ·obtain⟨a,F,G,rfl⟩:=Vn hs nr B;exact⟨a,min sz (D.length-a),Zo,Zo,rfl⟩
 ·have C:j/sz*sz<=j:=Nat.div_mul_le_self j sz;have E:j<j/sz*sz+sz:=Nat.lt_div_mul_add Zo;refine⟨shM D.length 0 (part id ((D.drop 0).take (D.length-0)) sz (j/sz*sz)),?_,?_⟩
  ·unfold V5 Rn;refine List.mem_map_of_mem (bV.2 ⟨j/sz,?_,rfl⟩);rw[List.mem_range,Nat.lt_div_iff_mul_lt Zo];simp;omega
  ·obtain⟨q,A⟩:=Qe (j/sz*sz);rw[<-A] at C E ⊢;unfold Bears shM part;simp;omega
theorem dig_nz(l:Qb):iY l≠(0,0):=by
 unfold iY;split
 ·intro h; cases h
 ·rename_i h;intro e;exact h ⟨congrArg Prod.fst e,congrArg Prod.snd e⟩
theorem uni_both(D:Asc X)(A:Asc Y)(h:(QU X Y).2=0):∃V,Sup X V/\Sup Y V/\∀v∈V,v∈X\/v∈Y:=by
 rcases TL D A with⟨C,_⟩ | ⟨V,C,B⟩
 ·rw[C] at h; cases h
 ·exact⟨V,⟨D,B.asc,fun y A=>(B.mem y).2 (.inl A)⟩,⟨A,B.asc,fun y A=>(B.mem y).2 (.inr A)⟩,fun v E=>(B.mem v).1 E⟩
theorem full_mem(h:(dh X l).2=[])(B:Rch X l d):(dW X d).2=0:=Classical.byContradiction fun e=>by
 have A:=(((gW X l).2.2 d).2).2 ⟨B,e⟩;rw[h] at A; cases A
theorem hon_unpack{com:Qd}(L:Asc X)(J:Asc Y)(cx:∀y∈X,vg y=0)(cy:∀y∈Y,vg y=0)(R:∀y∈Y,y.data.length<=1000)(A2:Y.length<=40)(un:(QU X Y).2=0)(yw:PV Y want=true)(yc:PV Y com=true)(xc:PV X com=true):
  ∃Q,tu (Tp Y want com) X=(Q,0)/\PV Q want=true/\Asc Q/\∀y∈Q,y∈X\/y∈Y:=by
 obtain⟨V,sx,sy,W⟩:=uni_both L J un;obtain⟨w1,w2⟩:=QW yw;obtain⟨c1,c2⟩:=QW yc;obtain⟨x1,x2⟩:=QW xc;obtain⟨f1,f2,f3⟩:=SF J (want:=want) (com:=com);have g:=pack_good J cy R (Sq f1 f2 Zo);have cV:∀v∈V,vg v=0:=fun v hv=>(W v hv).elim (cx v) (cy v)
 have U:∀c∈(dh Y com).1,De X c=(gL Y c,0):=fun c G=>by
  have D:=(((gW Y com).2.2 c).1.1 G).1;have B:=(sx.rch x2 c).1 ((sy.rch c2 c).2 D);obtain⟨x,C,rfl,_⟩:=oW (full_mem x2 B);obtain⟨y,A,K⟩:=QE (S9 G J);have e:=Md sx.az (sx.sub x C) (sy.sub y A) K.symm;rw[VC L C];have F:=TV J A;rw[<-e] at F;rw[F]
 obtain⟨Q,q1,q2,q3⟩:=pack_unpack2 g L sx.az cV sy.sub sx.sub U;refine⟨Q,q1,?_,q2,fun y P=>(q3 y).1 P |>.elim .inl (fun h=>.inr h.1)⟩;have A0:Sup X Q:=⟨L,q2,fun y h=>(q3 y).2 (.inl h)⟩
 -- every object of the server that is reached from what is wanted is there
 have I:∀y∈Y,Rch Y want y.d->y∈Q:=fun y A S=>by
  have hg:y.d∈(dh Y want).1:=(((gW Y want).2.2 y.d).1).2 ⟨S,full_mem w2 S⟩;by_cases G:y.d∈(dh Y com).1
  ·have D:=(((gW Y com).2.2 y.d).1.1 G).1;have B:=(sx.rch x2 y.d).1 ((sy.rch c2 y.d).2 D);obtain⟨x,C,O,_⟩:=oW (full_mem x2 B);have e:=Md sx.az (sx.sub x C) (sy.sub y A) O;exact(q3 y).2 (.inl (e▸C))
  ·exact(q3 y).2 (.inr ⟨A,QJ.2 ⟨hg,Zu G⟩⟩)
 have H:∀d,Rch Y want d->dW Q d=dW Y d/\(dW Q d).2=0:=fun d E=>by
  have D:=full_mem w2 E;obtain⟨y,A,rfl,Z⟩:=oW D;have B:dW Q y.d=bI y.data:=Lh q2 (I y A E);rw[B,Z];exact⟨rfl,D⟩
 have N:∀d,Rch Q want d->Rch Y want d:=fun d E=>by
  induction E with
  | root D B=>exact .root D B
  | link _ B F T ih=>rw[(H _ ih).1] at B F; exact .link ih B F T
 unfold PV;rw[Bool.and_eq_true,P5,decide_eq_true_eq];refine⟨fun d E=>?_,List.eq_nil_iff_forall_not_mem.2 fun d E=>?_⟩
 ·obtain⟨y,A,rfl⟩:=QE (w1 d E);have M:y.d≠(0,0):=by rw[<-(chkI_parts (cy y A)).2]; exact dig_nz _
  exact VS q2 (I y A (.root E M))
 ·obtain⟨D,B⟩:=(((gW Q want).2.2 d).2).1 E;exact B (H d (N d D)).2
theorem vgo_tail(h:vgo tot e (p::ps)=true):vgo tot (PU p) ps=true:=by
 rw[vgo] at h;simp only[Bool.and_eq_true] at h;exact h.2
theorem vgo_pos(h:vgo tot e (p::ps)=true):0<=p.1/\p.1<PU p/\PU p<=tot/\e<p.1:=by
 obtain⟨A,B,C,D⟩:=(xJ.1 h).1 p Zs;have:=bJ.2 B;exact⟨A,by simp only[PU]; omega,C,D⟩
theorem vgo_out(h:vgo tot e (p::ps)=true)(B:Has ps i c):PU p<i:=by
 obtain⟨q,C,A⟩:=B;have D:=(vW.1 (xJ.1 h).2).1 q C;have:=A.1;omega
theorem has_fun{tot:Int}:∀{ps:List P} {e i:Int} {c d:UInt8},vgo tot e ps=true->Has ps i c->Has ps i d->c=d
 | [],_,_,_,_,_,h,_=>absurd h Has.nil
 | p::ps,e,i,c,d,A,h,g=>by
  rcases El.1 h with h | h <;> rcases El.1 g with g | g
  ·have B:=h.2;rw[g.2] at B;exact(Option.some.inj B).symm
  ·have:=vgo_out A g; have:=h.range; omega
  ·have:=vgo_out A h; have:=g.range; omega
  ·exact has_fun (vgo_tail A) h g
theorem vgo_first{e':Int}{q:P}(h:vgo tot e (p::ps)=true)(g:vgo tot e' (q::qs)=true)(C:∀i c,Has (p::ps) i c->Has (q::qs) i c):q.1<=p.1/\(p.1=q.1->PU p<=PU q):=by
 have D:=vgo_pos h;have E:=vgo_pos g;refine⟨?_,fun e1=>?_⟩
 ·obtain⟨c,B⟩:=h1_of (p:=p) (rP _) D.2.1;rcases El.1 (C _ _ (El.2 (.inl B))) with A | A
  ·exact A.1
  ·have:=vgo_out g A; omega
 ·rcases Int.lt_or_le (PU q) (PU p) with A | A
  ·exfalso;obtain⟨c,B⟩:=h1_of (p:=p) (i:=PU q) Zo A;rcases El.1 (C _ _ (El.2 (.inl B))) with A | A
   ·have:=A.range; omega
   ·have:=vgo_out g A; omega
  ·exact A
theorem vgo_ext{tot:Int}:∀{ps qs:List P} {e e':Int},vgo tot e ps=true->vgo tot e' qs=true->(∀i c,Has ps i c↔Has qs i c)->ps=qs
 | [],[],_,_,_,_,_=>rfl
 | [],q::qs,_,_,_,h,B=>by
  obtain⟨c,D⟩:=h1_of (p:=q) (rP _) (vgo_pos h).2.1;exact absurd ((B _ _).2 (El.2 (.inl D))) Has.nil
 | p::ps,[],_,_,h,_,B=>by
  obtain⟨c,D⟩:=h1_of (p:=p) (rP _) (vgo_pos h).2.1;exact absurd ((B _ _).1 (El.2 (.inl D))) Has.nil
 | p::ps,q::qs,e,e',h,g,B=>by
  obtain⟨a1,a2⟩:=vgo_first h g (fun i c=>(B i c).1);obtain⟨b1,b2⟩:=vgo_first g h (fun i c=>(B i c).2);have e1:p.1=q.1:=Zo;have e2:PU p=PU q:=by have:=a2 e1; have:=b2 e1.symm; omega
  have e3:p.2=q.2:=List.ext_getElem? fun k=>by
   simp only[PU] at e2;by_cases F:k<p.2.length
   ·have C:H1 p (p.1+k) p.2[k]:=⟨Zo,by rw[show(p.1+(k:Int)-p.1).toNat=k by omega]; simp[F]⟩;rcases El.1 ((B _ _).1 (El.2 (.inl C))) with A | A
    ·have E:=A.2;rw[show(p.1+(k:Int)-q.1).toNat=k by omega] at E;rw[E]; simp[F]
    ·have:=vgo_out g A; simp only[PU] at this; omega
   ·rw[List.getElem?_eq_none Zo,List.getElem?_eq_none Zo]
  obtain rfl:p=q:=Prod.ext e1 e3;rw[vgo_ext (vgo_tail h) (vgo_tail g) fun i c=>⟨fun C=>?_,fun C=>?_⟩]
  ·rcases El.1 ((B _ _).1 (El.2 (.inr C))) with A | A
   ·have:=vgo_out h C; have:=A.range; omega
   ·exact A
  ·rcases El.1 ((B _ _).2 (El.2 (.inr C))) with A | A
   ·have:=vgo_out g C; have:=A.range; omega
   ·exact A
def gapGo(tot:Int):List P->Int->Nat
 | [],a=>if a<tot then 1 else 0
 | p::ps,a=>(if a<p.1 then 1 else 0)+gapGo tot ps (PU p)
def gapsN(tot:Int)(ps:List P):Nat:=if ps=[] then 0 else gapGo tot ps 0
theorem vParts_of{t:Int}(A:0<=i/\i<=1099511627776/\0<=t/\t<=1048576)(h:vgo t (-1) (p::ps)=true):gm i t (p::ps)=true:=by
 unfold gm;rw[h,decide_eq_true A];simp
theorem seg_has{m:Nat}(E:m<=D.length):H1 (0,D.take m) j c↔(0<=j/\j<m/\D[j.toNat]? = some c):=by
 unfold H1;simp only[Int.sub_zero,List.getElem?_take];constructor
 ·rintro⟨B,A⟩;split at A
  ·exact⟨B,Zo,A⟩
  ·cases A
 ·rintro⟨B,A,C⟩;exact⟨B,by rw[if_pos Zo]; exact C⟩
theorem Xl.h1{m:Nat}{t:Int}(h:Xl D id m i t ps)(E:p∈ps):H1 p j c↔(p.1<=j/\j<PU p/\D[j.toNat]? = some c):=by
 constructor
 ·intro A;exact⟨A.range.1,A.range.2,(h.sub j c ⟨p,E,A⟩).2⟩
 ·rintro⟨A,F,G⟩;obtain⟨d,C⟩:=h1_of A F;have B:=(h.sub j d ⟨p,E,C⟩).2;rw[G] at B;cases B;exact C
theorem gap_fill{m:Nat}{t:Int}(h:Xl D id m i t ps)(T:ps≠[])(K:(O8 i t ps).2.2=true):
  ∃o n:Nat,O8 i t ps=((o:Int),(n:Int),true)/\1<=n/\o+n<=D.length/\(∀j c,(o:Int)<=j->j<o+n->¬Has ps j c)/\
   ∃qs,qs≠[]/\gm i t qs=true/\gapsN t qs+1=gapsN t ps/\∀j c,Has qs j c↔Has ps j c\/((o:Int)<=j/\j<o+n/\D[j.toNat]? = some c):=by
 cases ps with
 | nil=>exact absurd rfl T
 | cons p ps=>
  obtain⟨rfl,rfl⟩:=h.same Zs;obtain⟨R,v1,v2,v3,v4⟩:=QS h.valid;obtain⟨p0,p1,p2,_⟩:=vgo_pos R;have N:=fun j c=>vgo_out R (ps:=ps) (i:=j) (c:=c)
  have S:=fun j c=>h.h1 (P9 (a:=p) (l:=ps)) (j:=j) (c:=c)
  -- the new first piece
  have A0:∀(M:Nat) (r:List P),M<=D.length->1<=M->vgo D.length (M:Int) r=true->gm i D.length ((0,D.take M)::r)=true/\∀j c,Has ((0,D.take M)::r) j c↔((0<=j/\j<M/\D[j.toNat]? = some c)\/Has r j c):=fun M r F V hr=>by
   refine⟨vParts_of ⟨v1,v2,v3,v4⟩ ?_,fun j c=>by rw[El,seg_has F]⟩;have L:(D.take M).length=M:=Zy aA;have hx:(D.take M).isEmpty=false:=by
    cases X:D.take M with
    | nil=>rw[X] at L; simp at L; omega
    | cons a b=>rfl
   rw[vgo,L,hx];rw[show(0:Int)+(M:Int)=M by omega,hr];simp;omega
  rw[uG,if_neg (by rw[h.valid]; decide)] at K ⊢;have H:gapsN D.length (p::ps)=(if 0<p.1 then 1 else 0)+gapGo D.length ps (PU p):=by
   unfold gapsN; rw[if_neg Zs,gapGo]
  have G:∀(M:Nat) (r:List P),M<=D.length->gapsN D.length ((0,D.take M)::r)=gapGo D.length r M:=fun M r F=>by
   unfold gapsN;rw[if_neg Zs,gapGo];have L:(D.take M).length=M:=Zy aA;simp only[PU,L];rw[if_neg Zo,aZ,Int.zero_add]
  by_cases O:0<p.1
  ·rw[if_pos O] at K ⊢;have F:((PU p).toNat:Int)=PU p:=Zo;obtain⟨k1,k2⟩:=A0 (PU p).toNat ps Zo Zo (F▸vgo_tail R);refine⟨0,p.1.toNat,Zt,Zo,Zo,fun j c A E C=>?_,(0,D.take (PU p).toNat)::ps,Zs,k1,?_,fun j c=>?_⟩
   ·rcases El.1 C with C | C
    ·have:=C.range; omega
    ·have:=N _ _ C; omega
   ·rw[G _ _ Zo,H,if_pos O,F,Nat.add_comm]
   ·rw[k2,El,S];constructor
    ·rintro(⟨A,E,B⟩ | A)
     ·by_cases U:j<p.1
      ·exact .inr ⟨Zo,Zo,B⟩
      ·exact .inl (.inl ⟨Zo,Zo,B⟩)
     ·exact .inl (.inr A)
    ·rintro((⟨A,E,B⟩ | A) | ⟨A,E,B⟩)
     ·exact .inl ⟨Zo,Zo,B⟩
     ·exact .inr A
     ·exact .inl ⟨Zo,Zo,B⟩
  ·rw[if_neg O] at K ⊢;have Z:p.1=0:=Zo;by_cases Q:PU p=nxt D.length ps
   ·rw[if_pos Q] at K; cases K
   rw[if_neg Q];cases ps with
   | nil=>
    simp only[nxt] at Q ⊢;obtain⟨k1,k2⟩:=A0 D.length [] Zo Zo rfl;refine⟨(PU p).toNat,(D.length-(PU p).toNat),?_,Zo,Zo,fun j c A E C=>?_,(0,D.take D.length)::[],Zs,k1,?_,fun j c=>?_⟩
    ·simp only[Prod.mk.injEq,and_true]; omega
    ·rcases El.1 C with C | C
     ·have:=C.range; omega
     ·exact Has.nil C
    ·rw[G _ _ Zo,H,if_neg O,gapGo,gapGo,if_neg Zo,if_pos Zo]
    ·rw[k2,El,S];constructor
     ·rintro(⟨A,E,B⟩ | A)
      ·by_cases U:j<PU p
       ·exact .inl (.inl ⟨Zo,Zo,B⟩)
       ·exact .inr ⟨Zo,Zo,B⟩
      ·exact .inl (.inr A)
     ·rintro((⟨A,E,B⟩ | A) | ⟨A,E,B⟩)
      ·exact .inl ⟨Zo,Zo,B⟩
      ·exact .inr A
      ·exact .inl ⟨Zo,Zo,B⟩
   | cons q qs=>
    simp only[nxt] at Q ⊢;have J:=vgo_tail R;obtain⟨q0,q1,q2,q3⟩:=vgo_pos J;have F:((PU q).toNat:Int)=PU q:=Zo;have W:=fun j c=>h.h1 (pM p (P9 (a:=q) (l:=qs))) (j:=j) (c:=c)
    have I:=fun j c=>vgo_out J (i:=j) (c:=c)
    obtain⟨k1,k2⟩:=A0 (PU q).toNat qs Zo Zo (F▸vgo_tail J);refine⟨(PU p).toNat,(q.1-PU p).toNat,?_,Zo,Zo,fun j c A E C=>?_,(0,D.take (PU q).toNat)::qs,Zs,k1,?_,fun j c=>?_⟩
    ·simp only[Prod.mk.injEq,and_true]; omega
    ·rcases El.1 C with C | C
     ·have:=C.range; omega
     ·rcases El.1 C with C | C
      ·have:=C.range; omega
      ·have:=I _ _ C; omega
    ·rw[G _ _ Zo,H,if_neg O,gapGo,if_pos q3,F]; omega
    ·rw[k2,El,El,S,W];constructor
     ·rintro(⟨A,E,B⟩ | A)
      ·by_cases U:j<PU p
       ·exact .inl (.inl ⟨Zo,Zo,B⟩)
       ·by_cases Y:j<q.1
        ·exact .inr ⟨Zo,Zo,B⟩
        ·exact .inl (.inr (.inl ⟨Zo,Zo,B⟩))
      ·exact .inl (.inr (.inr A))
     ·rintro((⟨A,E,B⟩ | ⟨A,E,B⟩ | A) | ⟨A,E,B⟩)
      ·exact .inl ⟨Zo,Zo,B⟩
      ·exact .inl ⟨Zo,Zo,B⟩
      ·exact .inr A
      ·exact .inl ⟨Zo,Zo,B⟩
theorem know_text(fb:Nat->UInt8){t:Int}(M:gm i t ps=true)(H:ps≠[]):
  ∃D:Qb,(D.length:Int)=t/\Xl D i 0 i t ps/\∀j:Nat,j<D.length->(∀c,¬Has ps j c)->D[j]? = some (fb j):=by
 cases ps with
 | nil=>exact absurd rfl H
 | cons p ps=>
  obtain⟨K,v1,v2,v3,v4⟩:=QS M;have B:∀j:Nat,∃x:UInt8,(∀c,Has (p::ps) j c->c=x)/\((∀c,¬Has (p::ps) j c)->x=fb j):=fun j=>by
   rcases Classical.em (∃c,Has (p::ps) j c) with⟨c,A⟩ | h
   ·exact⟨c,fun d N=>has_fun K N A,fun h=>absurd A (h c)⟩
   ·exact⟨fb j,fun c A=>absurd ⟨c,A⟩ h,fun _=>rfl⟩
  obtain⟨F,J⟩:∃F:Nat->UInt8,∀j:Nat,(∀c,Has (p::ps) j c->c=F j)/\((∀c,¬Has (p::ps) j c)->F j=fb j):=⟨fun j=>(B j).choose,fun j=>(B j).choose_spec⟩;have G:((List.range t.toNat).map F).length=t.toNat:=Zs;refine⟨(List.range t.toNat).map F,Zy G,⟨M,fun _=>⟨rfl,Zy G⟩,fun j c A=>?_,fun j E=>Zo⟩,fun j E O=>?_⟩
  ·obtain⟨q,L,I⟩:=A;obtain⟨q0,_,q2,_⟩:=ni K q L;have:=I.range;refine⟨Zo,?_⟩;have C:=(J j.toNat).1 c (by rw[show((j.toNat:Nat):Int)=j by omega]; exact⟨q,L,I⟩);rw[C,List.getElem?_map,List.getElem?_range Zo];rfl
  ·have C:=(J j).2 O;rw[G] at E;rw[<-C,List.getElem?_map,List.getElem?_range E];rfl
theorem part_whole{t:Int}(h:Xl D i 0 i t ps)(A:ps≠[])(G:1<=D.length)(B:(y9 i t ps).2=false):(O8 i t ps).2.2=true:=by
 rcases gap_law h A G with⟨C,rfl,_,E⟩ | ⟨o,n,C,_⟩
 ·rw[E] at B;have F:=h.valid;rw[E] at F;rw[whole_one F] at B;cases B
 ·rw[C]
structure KSt (X:List Itm) (want com:Qd) (D:Qb) (pid:Int) (K:Nat->Prop) (s:Ses):Prop where
 x:s.xs=X
 w:s.want=want
 c:s.com=com
 d:s.done=false
 p:Xl D pid 0 s.id s.tot s.ps
 k:∀j:Nat,j<D.length->((∃c,Has s.ps j c)↔K j)
 n:(y9 s.id s.tot s.ps).2=false
theorem KSt.cg{com:Qd}{K':Nat->Prop}(h:KSt X want com D pid K s)(e:∀j,j<D.length->(K j↔K' j)):KSt X want com D pid K' s:=⟨h.x,h.w,h.c,h.d,h.p,fun j A=>(h.k j A).trans (e j A),h.n⟩
theorem take_gen{com:Qd}(Qf:0<=pid/\pid<=1099511627776)(V:D.length<=65536)(Z:PartOf D pid m)(h:KSt X want com D pid K s):
  KSt X want com D pid (fun j=>K j\/Bears m j) (Qk s m).1\/((∀j,j<D.length->K j\/Bears m j)/\(Qk s m).1={ Us s D with asked:=false }):=by
 obtain⟨a,n,hn,N,rfl⟩:=Z;obtain⟨xs,sw,sc,si,st,sp,sa,sd⟩:=s;obtain⟨G,Q,R,S,J,L,U⟩:=h;simp only at G Q R S J L U;subst G Q R S;have F:∃i t ps,WJ ⟨xs,sw,sc,si,st,sp,sa,false⟩ ⟨2,pid,(a:Int),D.length,[],(D.drop a).take n⟩=(i,t,ps)/\Xl D pid 0 i t ps/\∀j c,Has sp j c↔Has ps j c:=by
  unfold WJ;by_cases I:sp=[]
  ·rw[if_pos (.inl I)];exact⟨0,0,[],rfl,Xl.start D pid,fun j c=>Zx I⟩
  ·obtain⟨e1,e2⟩:=J.same (bJ.2 I);rw[if_neg (by
    simp only;rintro(e | e | e)
    ·exact I e
    ·exact e e1
    ·exact e e2)]
   exact⟨si,st,sp,rfl,J,fun j c=>Iff.rfl⟩
 obtain⟨i,t,ps,ho,O,C⟩:=F;obtain⟨qs,g1,g2,g3,g4,g5⟩:=O.step Qf (o:=a) (n:=n) (m':=0) N hn V (.inl nr);obtain⟨_,_,_,_,g6,_⟩:=Ot g1;have E:∀j:Nat,j<D.length->((∃c,Has qs j c)↔(K j\/Bears ⟨2,pid,(a:Int),D.length,[],(D.drop a).take n⟩ j)):=fun j H=>by
  constructor
  ·rintro⟨c,B⟩;rcases(g6 _ _).1 B with B | B
   ·exact .inl ((L j H).1 ⟨c,(C _ _).2 B⟩)
   ·refine .inr ?_;have:=B.range;simp only[PU] at this;unfold Bears;simp only;omega
  ·rintro(Y | ⟨b1,b2⟩)
   ·obtain⟨c,B⟩:=(L j H).2 Y;exact⟨c,g4 _ _ ((C _ _).1 B)⟩
   ·simp only[aA,ah] at b1 b2;exact g5 j Zo Zo
 have W:Vt ⟨xs,sw,sc,si,st,sp,sa,false⟩ ⟨2,pid,(a:Int),D.length,[],(D.drop a).take n⟩=(0,pid,(D.length:Int),qs):=by
  unfold Vt;rw[ho];exact g1
 unfold Qk;rw[if_neg Zs,W,if_neg Zs];simp only;unfold Rl;simp only;by_cases A:(y9 pid D.length qs).2=true
 ·rw[if_pos A,whole_is g2 A];refine .inr ⟨fun j H=>?_,?_⟩
  ·have P:qs=[(0,D)]:=by
    match qs,g2,A with
    | [],_,A=>exact absurd A (by simp[y9])
    | [p],g2,A=>
     have M:=whole_is g2 A;rw[EY] at A M;split at A
     ·rename_i G;rw[if_pos G] at M;obtain⟨hv,_⟩:=QS g2.valid;have:=vgo_pos hv;simp only[PU] at this;have T:p.1=0:=Zo;exact congrArg (fun x=>[x]) (Prod.ext T M)
     ·cases A
    | _::_::_,_,A=>exact absurd A (by simp[y9])
   refine(E j H).1 ?_;rw[P];obtain⟨c,B⟩:=h1_of (p:=((0:Int),D)) (i:=(j:Int)) Zp (by simp only[PU]; omega);exact⟨c,_,Zs,B⟩
  ·unfold Us;simp only;split <;> rfl
 ·rw[if_neg A];exact .inl ⟨rfl,rfl,rfl,rfl,g2,E,Zu A⟩
theorem run_gen{X:List Itm}{want com:Qd}{D:Qb}{pid:Int}(Qf:0<=pid/\pid<=1099511627776)(C:D.length<=65536){z:Nat}(F:z<D.length):∀(ms:List Msg) {K:Nat->Prop} {s:Ses},(∀m∈ms,PartOf D pid m/\¬Bears m z)->¬K z->KSt X want com D pid K s->KSt X want com D pid (fun j=>K j\/∃m∈ms,Bears m j) (Ql s ms).1
 | [],K,s,_,_,h=>by
  rw[Ql];exact h.cg (fun j _=>Zs)
 | m::ms,K,s,A,E,h=>by
  rw[Ql];rcases take_gen Qf C (A m Zs).1 h with B | ⟨B,_⟩
  ·refine(run_gen Qf C F ms (fun x G=>A x (Zj G)) (fun e=>e.elim E (A m Zs).2) B).cg (fun j _=>?_);simp only[List.mem_cons,exists_eq_or_imp,or_assoc]
  ·exact((B z F).elim E (A m Zs).2).elim
theorem rep_last{id:Int}(hs:1<=sz)(T:f<t)(Z:t<=D.length):
  ∃ms m,V5 id D f t sz=ms++[m]/\(∀x∈ms,PartOf D id x/\¬Bears x (t-1))/\PartOf D id m/\∀j,(∃x∈ms++[m],Bears x j)↔f<=j/\j<t:=by
 have U:((D.drop f).take (t-f)).length=t-f:=by rw[aA,ah]; omega
 obtain⟨n,M⟩:∃n,n+1=(t-f+sz-1)/sz:=⟨(t-f+sz-1)/sz-1,by have:0<(t-f+sz-1)/sz:=Nat.div_pos Zo Zo; omega⟩;have N:(n+1)*sz<=t-f+sz-1:=M▸Nat.div_mul_le_self _ _;have O:t-f+sz-1<(n+1)*sz+sz:=M▸Nat.lt_div_mul_add (by omega);rw[rM,Nat.one_mul] at N O;have G:∀k,k<=n->k*sz<=n*sz:=fun k G=>pK _ G
 have H:∀k,k<n->k*sz+sz<=n*sz:=fun k G=>by
  have:=pK sz (show k+1<=n by omega)
  rwa[rM,Nat.one_mul] at this
 obtain⟨P,R⟩:∃P:Nat->Msg,P=fun k=>shM D.length f (part id ((D.drop f).take (t-f)) sz (k*sz)):=⟨_,rfl⟩
 have F:∀k,P k=⟨2,id,((k*sz+f:Nat):Int),D.length,[],(D.drop (k*sz+f)).take (min sz (t-(k*sz+f)))⟩:=fun k=>by
  rw[R];unfold shM part;simp only[List.drop_take,eY,List.take_take];rw[show min sz (t-f-k*sz)=min sz (t-(k*sz+f)) by omega,show f+k*sz=k*sz+f by omega];simp
 have J:∀k,k<=n->∀j,Bears (P k) j↔(k*sz+f<=j/\j<k*sz+f+min sz (t-(k*sz+f))):=fun k A j=>by
  have:=G k A;rw[F];unfold Bears;simp only[aA,ah];omega
 have I:∀k,k<=n->PartOf D id (P k):=fun k A=>by
  have:=G k A;exact⟨k*sz+f,min sz (t-(k*sz+f)),Zo,Zo,F k⟩
 have X:V5 id D f t sz=(List.range n).map P++[P n]:=by
  unfold V5 Rn;rw[U,<-M,List.range_succ,dJ,dJ,List.map_map,R];rfl
 refine⟨_,_,X,fun x C=>?_,I n nr,fun j=>?_⟩
 ·obtain⟨k,B,rfl⟩:=bV.1 C;have A:=List.mem_range.1 B;refine⟨I k Zo,fun e=>?_⟩;have K:=(J k Zo _).1 e;have:=H k A;omega
 ·constructor
  ·rintro⟨x,C,L⟩;rcases aD.1 C with C | C
   ·obtain⟨k,B,rfl⟩:=bV.1 C;have A:=List.mem_range.1 B;have K:=(J k Zo _).1 L;have:=H k A;omega
   ·rw[aH.1 C] at L;have K:=(J n nr _).1 L;omega
  ·rintro⟨K,Y⟩;have V:(j-f)/sz*sz<=j-f:=Nat.div_mul_le_self _ _;have W:j-f<(j-f)/sz*sz+sz:=Nat.lt_div_mul_add Zo;have Q:(j-f)/sz<=n:=by
    rcases gB n ((j-f)/sz) with E | E
    ·have:=pK sz (show n+1<=(j-f)/sz by omega);rw[rM,Nat.one_mul] at this;omega
    ·exact E
   refine⟨P ((j-f)/sz),?_,(J _ Q j).2 Zo⟩;rcases gB ((j-f)/sz) n with E | E
   ·exact aD.2 (.inl (List.mem_map_of_mem (List.mem_range.2 E)))
   ·obtain S:(j-f)/sz=n:=Zo;rw[S]; simp
theorem fill_gen{com:Qd}(Qf:0<=pid/\pid<=1099511627776)(G:D.length<=65536)(hs:1<=sz)(C:f<t)(O:t<=D.length)(N:¬K (t-1))(h:KSt X want com D pid K s):
  KSt X want com D pid (fun j=>K j\/(f<=j/\j<t)) (Ql s (V5 pid D f t sz)).1\/((Ql s (V5 pid D f t sz)).1={ (if(tu D X).2=0/\PV (tu D X).1 want=true then⟨(tu D X).1,want,com,0,0,[],false,true⟩ else⟨X,want,com,0,0,[],false,false⟩:Ses) with asked:=false }):=by
 obtain⟨ms,m,M,H,I,J⟩:=rep_last (id:=pid) hs C O;rw[M,SX];have A:=run_gen Qf G (z:=t-1) Zo ms H N h;rcases take_gen Qf G I A with F | ⟨F,L⟩
 ·refine .inl (F.cg (fun j _=>?_));rw[<-J j];simp only[aD,aH,or_assoc];constructor
  ·rintro(h | ⟨x,E,B⟩ | h)
   ·exact .inl h
   ·exact .inr ⟨x,.inl E,B⟩
   ·exact .inr ⟨m,.inr rfl,h⟩
  ·rintro(h | ⟨x,E | rfl,B⟩)
   ·exact .inl h
   ·exact .inr (.inl ⟨x,E,B⟩)
   ·exact .inr (.inr B)
 ·refine .inr ?_;rw[L];unfold Us;rw[A.x,A.w,A.c,A.d];split <;> rfl
def servM(T:Qb)(pid:Int)(sz:Nat)(s:Ses):List Msg:=
 if(O8 s.id s.tot s.ps).2.2=true/\s.id=pid/\(O8 s.id s.tot s.ps).1+(O8 s.id s.tot s.ps).2.1<=T.length then V5 pid T (O8 s.id s.tot s.ps).1.toNat ((O8 s.id s.tot s.ps).1+(O8 s.id s.tot s.ps).2.1).toNat sz else V5 pid T 0 T.length sz
structure OpenS (X:List Itm) (want com:Qd) (s:Ses):Prop where
 x:s.xs=X
 w:s.want=want
 c:s.com=com
 d:s.done=false
 v:gm s.id s.tot s.ps=true
 n:(y9 s.id s.tot s.ps).2=false
def RndOk(X:List Itm)(want com:Qd)(T:Qb)(pid:Int)(k:Nat)(s:Ses):Prop:=s.done=true\/(OpenS X want com s/\(s.ps=[]/\1<=k\/s.ps≠[]/\(Xl T pid 0 s.id s.tot s.ps/\gapsN s.tot s.ps<=k\/gapsN s.tot s.ps+2<=k)))
theorem open_gap{com:Qd}(h:OpenS X want com s)(A:s.ps≠[])(fb:Nat->UInt8):
  ∃D:Qb,(D.length:Int)=s.tot/\Xl D s.id 0 s.id s.tot s.ps/\(∀j:Nat,j<D.length->(∀c,¬Has s.ps j c)->D[j]? = some (fb j))/\(O8 s.id s.tot s.ps).2.2=true:=by
 obtain⟨D,B,C,F⟩:=know_text fb h.v A;refine⟨D,B,C,F,part_whole C A ?_ h.n⟩;obtain⟨xs,w,c,i,t,ps,a,d⟩:=s;have E:=h.v;simp only at E A B;cases ps with
 | nil=>exact absurd rfl A
 | cons p ps=>
  have:=vgo_pos (QS E).1;omega
theorem rn_zero{com:Qd}(h:RndOk X want com T pid 0 s):s.done=true:=by
 rcases h with h | ⟨h,⟨_,A⟩ | ⟨A,B⟩⟩
 ·exact h
 ·omega
 ·exfalso;obtain⟨D,_,C,_,E⟩:=open_gap h A (fun _=>0);obtain⟨o,n,_,_,_,_,qs,_,_,F,_⟩:=gap_fill C A E;rcases B with⟨_,B⟩ | B <;> omega
theorem rn_start{com:Qd}(h:s.done=true\/OpenS X want com s):RndOk X want com T pid (gapsN s.tot s.ps+2) s:=by
 refine h.imp id fun h=>⟨h,?_⟩
 by_cases A:s.ps=[]
 ·exact .inl ⟨A,Zo⟩
 ·exact .inr ⟨A,.inr Zo⟩
theorem take_reset(Qf:0<=pid/\pid<=1099511627776)(G:D.length<=65536)(H:PartOf D pid m)(B:s.done=false)(C:s.ps=[]\/s.id≠pid\/s.tot≠D.length):Qk s m=Qk { s with id:=0,tot:=0,ps:=[] } m:=by
 obtain⟨a,n,I,A,rfl⟩:=H;obtain⟨xs,sw,sc,si,st,sp,sa,sd⟩:=s;simp only at B C;subst B;obtain⟨qs,g1,_⟩:=(Xl.start D pid).step Qf (o:=a) (n:=n) (m':=0) A I G (.inl nr);have E:Vt ⟨xs,sw,sc,si,st,sp,sa,false⟩ ⟨2,pid,(a:Int),D.length,[],(D.drop a).take n⟩=(0,pid,(D.length:Int),qs):=by
  unfold Vt WJ;rw[if_pos C];exact g1
 have F:Vt ⟨xs,sw,sc,0,0,[],sa,false⟩ ⟨2,pid,(a:Int),D.length,[],(D.drop a).take n⟩=(0,pid,(D.length:Int),qs):=by
  unfold Vt WJ;rw[if_pos (.inl rfl)];exact g1
 unfold Qk;rw[E,F];simp only;rw[if_neg Zs,if_neg Zs,if_neg Zs,if_neg Zs];unfold Rl;simp only
theorem kst_start{com:Qd}(E:s.xs=X)(C:s.want=want)(A:s.com=com)(B:s.done=false):KSt X want com D pid (fun _=>False) { s with id:=0,tot:=0,ps:=[] }:=
 ⟨E,C,A,B,Xl.start D pid,fun j _=>⟨fun⟨c,A⟩=>Has.nil A,fun h=>h.elim⟩,rfl⟩
theorem kst_full{com:Qd}(B:1<=D.length)(I:∀j,j<D.length->K j)(h:KSt X want com D pid K s):False:=by
 have F:=h.p;have E:0<s.ps.length:=by
  obtain⟨c,p,G,_⟩:=(h.k 0 B).2 (I 0 B);exact List.length_pos_of_mem G
 obtain⟨e1,e2⟩:=F.same E;have A:=F.valid;rw[e2] at A;have J:=whole_of_full A F.sub (fun j H=>(h.k j H).2 (I j H)) B;have C:=h.n;rw[J,e2] at C;rw[J] at A;rw[whole_one A] at C;cases C
theorem kst_ps{com:Qd}(h:KSt X want com D pid K s)(J:qs≠[])(L:gm pid D.length qs=true)(N:∀j c,Has qs j c↔(0<=j/\K j.toNat/\D[j.toNat]? = some c)):s.ps=qs/\s.id=pid/\s.tot=D.length:=by
 have hs:∀j c,Has s.ps j c↔Has qs j c:=fun j c=>by
  rw[N];constructor
  ·intro E;obtain⟨F,A⟩:=h.p.sub j c E;have G:=(List.getElem?_eq_some_iff.1 A).1;exact⟨F,(h.k _ G).1 ⟨c,by rw[show((j.toNat:Nat):Int)=j by omega]; exact E⟩,A⟩
  ·rintro⟨E,F,A⟩;have G:=(List.getElem?_eq_some_iff.1 A).1;obtain⟨d,H⟩:=(h.k _ G).2 F;rw[show((j.toNat:Nat):Int)=j by omega] at H;have I:=(h.p.sub j d H).2;rw[A] at I;cases I;exact H
 have B:s.ps≠[]:=fun e=>by
  cases qs with
  | nil=>exact J rfl
  | cons q qs=>
   obtain⟨c,M⟩:=h1_of (p:=q) (rP _) (vgo_pos (QS L).1).2.1;have:=(hs q.1 c).2 (El.2 (.inl M));rw[e] at this;exact Has.nil this
 obtain⟨e1,e2⟩:=h.p.same (bJ.2 B);have C:=h.p.valid;rw[e2] at C;have g1:vgo D.length (-1) s.ps=true:=by
  revert C B;cases s.ps with
  | nil=>intro h; exact absurd rfl h
  | cons p ps=>intro _ h; exact(QS h).1
 have g2:vgo D.length (-1) qs=true:=by
  cases qs with
  | nil=>exact absurd rfl J
  | cons p ps=>exact(QS L).1
 exact⟨vgo_ext g1 g2 hs,e1,e2⟩
theorem gaps_two{com:Qd}(L:t<=D.length)(h:KSt X want com D pid (fun j=>f<=j/\j<t) s):gapsN s.tot s.ps<=2:=by
 have B:=h.p;have C:=h.k;have E:=h.n;generalize s.ps=ps at B C E ⊢;generalize s.id=i at B E;generalize s.tot=tt at B E ⊢;cases ps with
 | nil=>simp[gapsN]
 | cons p r=>
  have F:=(QS B.valid).1;cases r with
  | nil=>
   unfold gapsN gapGo gapGo;rw[if_neg Zs];split <;> split <;> omega
  | cons q r=>
   exfalso;have G:=vgo_pos F;have H:=vgo_pos (vgo_tail F);have K:tt=D.length:=(B.same Zs).2;obtain⟨c,I⟩:=h1_of (p:=p) (rP _) G.2.1;obtain⟨d,J⟩:=h1_of (p:=q) (rP _) H.2.1;have k1:=(C p.1.toNat Zo).1 ⟨c,by rw[show((p.1.toNat:Nat):Int)=p.1 by omega]; exact El.2 (.inl I)⟩;have k2:=(C q.1.toNat Zo).1 ⟨d,by rw[show((q.1.toNat:Nat):Int)=q.1 by omega]; exact El.2 (.inr (El.2 (.inl J)))⟩;obtain⟨x,A⟩:=(C (PU p).toNat Zo).2 ⟨Zo,Zo⟩;rw[show(((PU p).toNat:Nat):Int)=PU p by omega] at A;rcases El.1 A with A | A
   ·have:=A.range; omega
   ·have:=vgo_out F A; omega
theorem rep_eq{A B:Qb}(D:A.length=B.length)(h:∀j,f<=j->j<t->A[j]? = B[j]?):V5 id A f t sz=V5 id B f t sz:=by
 have C:(A.drop f).take (t-f)=(B.drop f).take (t-f):=List.ext_getElem? fun k=>by
  simp only[List.getElem?_take,List.getElem?_drop];split
  ·exact h _ Zo Zo
  ·rfl
 unfold V5;rw[C,D]
theorem recS_reset(Qf:0<=pid/\pid<=1099511627776)(H:D.length<=65536)(hs:1<=sz)(A:f<t)(L:t<=D.length)(I:s.done=false)(K:s.ps=[]\/s.id≠pid\/s.tot≠D.length):(Ql s (V5 pid D f t sz)).1=(Ql { s with id:=0,tot:=0,ps:=[] } (V5 pid D f t sz)).1:=by
 obtain⟨ms,m,J,B,C,_⟩:=rep_last (id:=pid) hs A L;have E:∃x xs,ms++[m]=x::xs/\PartOf D pid x:=by
  cases ms with
  | nil=>exact⟨m,[],rfl,C⟩
  | cons y ys=>exact⟨y,ys++[m],rfl,(B y Zs).1⟩
 obtain⟨x,xs,F,G⟩:=E;rw[J,F,Ql,Ql,take_reset Qf H G I K]
theorem round_ok{com:Qd}(Qf:0<=pid/\pid<=1099511627776)(P:1<=T.length)(U:T.length<=65536)(hs:1<=sz)(W:tu T X=(Q,0))(V:PV Q want=true)(K:s.done=false)(h:RndOk X want com T pid (k+1) s):RndOk X want com T pid k (Ql s (servM T pid sz s)).1:=by
 rcases h with h | ⟨G,h⟩
 ·rw[h] at K; cases K
 -- a reply that is not added to what was there
 have A1:∀f t:Nat,f<t->t<=T.length->(s.ps=[]\/s.id≠pid\/s.tot≠T.length)->KSt X want com T pid (fun j=>f<=j/\j<t) (Ql s (V5 pid T f t sz)).1\/(Ql s (V5 pid T f t sz)).1.done=true:=fun f t B L M=>by
  rw[recS_reset Qf U hs B L K M];rcases fill_gen Qf U hs B L (fun e=>e) (kst_start (D:=T) (pid:=pid) G.x G.w G.c K) with A | A
  ·exact .inl (A.cg (fun j _=>Zs))
  ·rw[W,if_pos ⟨rfl,V⟩] at A;rw[A];exact .inr rfl
 have A2:(s.ps=[]\/s.id≠pid\/s.tot≠T.length)->(Ql s (V5 pid T 0 T.length sz)).1.done=true:=fun M=>by
  rcases A1 0 T.length Zo nr M with A | A
  ·exact(kst_full P (fun j hj=>⟨Q6 _,hj⟩) A).elim
  ·exact A
 by_cases J:s.ps=[]
 ·refine .inl ?_;unfold servM;rw[if_neg (by rw[J]; simp[O8])];exact A2 (.inl J)
 have h:=h.elim (fun e=>absurd e.1 J) (fun e=>e.2);obtain⟨D0,l0,p0,d0,g0⟩:=open_gap G J (fun j=>T.getD j 0);obtain⟨o,n,e1,e2,e3,e4,qs,e5,e6,e7,e8⟩:=gap_fill p0 J g0;by_cases F:s.id=pid/\o+n<=T.length
 case neg=>
  refine .inl ?_;unfold servM;rw[e1];simp only;rw[if_neg (fun e=>F ⟨e.2.1,Zo⟩)];refine A2 (.inr ?_);by_cases B:s.id=pid
  ·refine .inr fun L=>F ⟨B,Zo⟩
  ·exact .inl B
 obtain⟨c1,c2⟩:=F;have R:servM T pid sz s=V5 pid T o (o+n) sz:=by
  unfold servM;rw[e1];simp only;rw[if_pos ⟨trivial,c1,Zo⟩,aj,show((o:Int)+(n:Int)).toNat=o+n by omega]
 rw[R];by_cases O:s.tot=T.length
 case neg=>
  have hk:2<=k:=by
   rcases h with⟨B,_⟩ | B
   ·exact absurd (B.same (bJ.2 J)).2 O
   ·omega
  rcases A1 o (o+n) Zo c2 (.inr (.inr O)) with A | A
  ·refine .inr ⟨⟨A.x,A.w,A.c,A.d,A.p.valid,A.n⟩,.inr ⟨fun e=>?_,.inl ⟨A.p,?_⟩⟩⟩
   ·obtain⟨c,F⟩:=(A.k o Zo).2 ⟨nr,Zo⟩;rw[e] at F;exact Has.nil F
   ·have:=gaps_two c2 A; omega
  ·exact .inl A
 -- the same text's Rn: the gap is filled
 have Y:∃D:Qb,D.length=T.length/\Xl D pid 0 s.id s.tot s.ps/\(∀j,o<=j->j<o+n->T[j]? = D[j]?)/\(Xl T pid 0 s.id s.tot s.ps->D=T):=by
  rcases Classical.em (Xl T pid 0 s.id s.tot s.ps) with B | B
  ·exact⟨T,rfl,B,fun _ _ _=>rfl,fun _=>rfl⟩
  ·refine⟨D0,Zo,by rw[<-c1]; exact p0,fun j L M=>?_,fun e=>absurd e B⟩;rw[d0 j Zo (fun c F=>e4 _ _ Zo Zo F)];simp[List.getD,show j<T.length by omega]
 obtain⟨D,q1,q2,q3,q4⟩:=Y;rw[rep_eq q1.symm q3];have Z:KSt X want com D pid (fun j=>∃c,Has s.ps j c) s:=⟨G.x,G.w,G.c,K,q2,fun j _=>Iff.rfl,G.n⟩;rcases fill_gen Qf Zo hs (f:=o) (t:=o+n) Zo Zo (fun⟨c,F⟩=>e4 _ _ Zo Zo F) Z with A | A
 ·-- one gap less
  obtain⟨o',n',f1,f2,f3,f4,rs,f5,f6,f7,f8⟩:=gap_fill q2 J g0;rw[e1] at f1;simp only[Prod.mk.injEq,and_true] at f1;obtain rfl:o'=o:=Zo;obtain rfl:n'=n:=Zo;rw[O,<-q1,c1] at f6;obtain⟨g1,g2,g3⟩:=kst_ps A f5 f6 (fun j c=>by
   rw[f8];constructor
   ·rintro(C | ⟨C,H,E⟩)
    ·obtain⟨H,E⟩:=q2.sub j c C;exact⟨H,.inl ⟨c,by rw[show((j.toNat:Nat):Int)=j by omega]; exact C⟩,E⟩
    ·exact⟨Zo,.inr ⟨Zo,Zo⟩,E⟩
   ·rintro⟨C,H | ⟨H,E⟩,S⟩
    ·obtain⟨d,I⟩:=H;rw[show((j.toNat:Nat):Int)=j by omega] at I;have E:=(q2.sub j d I).2;rw[S] at E;cases E;exact .inl I
    ·exact .inr ⟨Zo,Zo,S⟩)
  refine .inr ⟨⟨A.x,A.w,A.c,A.d,A.p.valid,A.n⟩,.inr ⟨by rw[g1]; exact f5,?_⟩⟩;have A0:gapsN (Ql s (V5 pid D o' (o'+n') sz)).1.tot (Ql s (V5 pid D o' (o'+n') sz)).1.ps+1=gapsN s.tot s.ps:=by rw[g1,g3,q1,<-O]; exact f7
  rcases h with⟨C,H⟩ | C
  ·refine .inl ⟨?_,Zo⟩;have E:=A.p;rw[q4 C] at E ⊢;exact E
  ·exact .inr Zo
 ·-- the text is whole
  rw[A];by_cases N:(tu D X).2=0/\PV (tu D X).1 want=true
  ·rw[if_pos N];exact .inl rfl
  ·rw[if_neg N];refine .inr ⟨⟨rfl,rfl,rfl,rfl,rfl,rfl⟩,.inl ⟨rfl,?_⟩⟩;rcases h with⟨C,H⟩ | C
   ·rw[q4 C,W] at N;exact absurd ⟨rfl,V⟩ N
   ·omega
theorem gap_apart{com:Qd}(h:OpenS X want com s)(B:s.ps≠[]):∃o n:Nat,O8 s.id s.tot s.ps=((o:Int),(n:Int),true)/\1<=n/\(o:Int)+n<=s.tot/\∀p∈s.ps,¬(p.1<(o:Int)+n/\(o:Int)<p.1+p.2.length):=by
 obtain⟨D,l0,F,_,G⟩:=open_gap h B (fun _=>0);obtain⟨o,n,e1,e2,e3,e4,_⟩:=gap_fill F B G;refine⟨o,n,e1,e2,Zo,fun p A I=>?_⟩;have C:0<=p.1/\p.2≠[]:=by
  have C:=h.v;revert C A;generalize s.ps=ps;intro A C;cases ps with
  | nil=>simp at A
  | cons q r=>
   have:=(xJ.1 (QS C).1).1 p A;exact⟨this.1,this.2.1⟩
 have J:=bJ.2 C.2;by_cases H:p.1<=o
 ·obtain⟨c,E⟩:=h1_of (p:=p) (i:=(o:Int)) H (by simp only[PU]; omega);exact e4 _ c Zo Zo ⟨p,A,E⟩
 ·obtain⟨c,E⟩:=h1_of (p:=p) (rP _) (by simp only[PU]; omega);exact e4 _ c Zo Zo ⟨p,A,E⟩
theorem serve_two(a:Qa)(xs:List Itm)(c:Nat)(L:Qb)(size:Int)(w:World)(f n nd:Nat)(ds l base:Qd)(T:Qb)(hp:jQ w a xs c)(hA:Asc xs)(F1:xs.length<=90)(gi:Int)(go gt:Nat)(E6:BG L [⟨1,0,(f:Int),0,ds,[]⟩,⟨3,gi,(go:Int),(gt:Int),[],[]⟩] n)(f0 t0:Nat)(E3:(gi=Ux T/\(go:Int)+gt<=T.length/\go=f0/\go+gt=t0)\/(¬(gi=Ux T/\(go:Int)+gt<=T.length)/\0=f0/\T.length=t0))(H4:(go:Int)+gt<=1048576)(hn:n=L.length)(hL:(L.length:Int)<=1000000)(hf:f<=ds.length)(A0:∀d∈ds,OkD d)(G0:ds.length<=45)(H7:1<=size)(H8:size<=65536)
  (E7:M6 xs (ds.take f) (ds.drop f)=(l,0)) (D9:(dh xs (ds.drop f)).1=base) (hT:(T.length:Int)<=1048576)
  (E4:∀la lc ba bc W,Its W.heap.size W a xs->dE W.heap.size W la l->dE W.heap.size W ba base->Qh 49 #[.slice a xs.length c,.slice la l.length lc,.slice ba base.length bc] W (Xz (.tuple #[T,Yi 0]) W)) :
  Qh 21 #[.slice a xs.length c,L,Yi size] w (Xz (.tuple #[.string ⟨(Uw (Ux T) T f0 t0 size).1.toArray⟩,Yi (Uw (Ux T) T f0 t0 size).2]) w):=by
 obtain⟨D5,F6,M,V,S,D2⟩:=Yn (UX L w Zo) E6 (fun wa wc ca cc W (hW:PM w W) hw hc=>Pz a xs c wa (ds.take f) wc ca (ds.drop f) cc W (hp.below hW) hA F1 hw (fun d hd=>A0 d (dK hd)) (Zy aA) hc (fun d hd=>A0 d (List.mem_of_mem_drop hd)) (Zy ah)) (fun ca cc W (hW:PM w W) hc=>zH a xs c ca (ds.drop f) cc W (hp.below hW) hA hc (fun d hd=>A0 d (List.mem_of_mem_drop hd)) Zo (Zy ah)) E4 hp.its;have B0:=Qf (fun W=>by
  have h:=UO (Ux T) T f0 t0 size W Zo Zo hT;exact h)
 have D4:=Qf (fun W=>qV T W Zo);have G3:=bH T;rw[E7] at M;obtain⟨tn,F0⟩:=Qe T.length;rw[<-F0] at hT G3 E3;have E:wrap64 ((iY T).1.tmod 1099511627777)=Ux T:=by
  rw[Int.tmod_eq_emod_of_nonneg (LH T)];unfold Ux wrap64;omega
 have C3:(ds.take f).length=f:=Zy aA;obtain⟨nc,C6⟩:=Qe (ds.length-f);have C2:(ds.drop f).length=nc:=by rw[ah,C6]
 rw[C3,C2] at M;rw[C2] at V;obtain⟨G9,H0,F5⟩:=Yk G0 C3 C6;have H3:(f:Int)<=45:=Zo;generalize xs.length=nx at M V S ⊢;obtain⟨ll,C4⟩:=Qe l.length;obtain⟨bl,B9⟩:=Qe base.length;obtain⟨D3,C9,HN,F4⟩:=Yl C4 B9 hn D9;rw[<-C4,<-B9] at S;clear hp hA F1 E6 A0 E7 E4 F0 C3 C6 C2 C4 B9 hn D9;go_enter Tryz.func21,Tryz.ntmps21;go_wp2_with fail;have hx:=D5.o;refine hx.mono ?_;clear hx D5;rintro e u ⟨ms,n2,E5,E0,C0⟩;obtain⟨rfl,rfl⟩:=F6.o.one E5;rcases C0 with⟨hq,a1,c1,rfl,C5,E1⟩ | ⟨hq,rfl⟩
 ·obtain⟨b0,o0,da,cd,B8,Y,q0,q1,q2,q3,q4,q5,X⟩:=C5 0 Zs;obtain⟨b1,o1,_,_,A7,_,_,s1,s2,s3,_,_,_⟩:=C5 1 Zs;rw[B8] at A7;cases A7;obtain⟨E2,F7,F3,F2,A6,A3,C1⟩:=E1 0 Zs;rw[B8] at A6;cases A6;simp only[aS,dG,QI] at q0 q1 q2 q3 q4 q5 X A3 C1;simp only[bK,aS,Nat.one_mul] at s1 s2 s3;rw[q4] at A3;cases A3;subst B8;obtain⟨A1,k1,D7,E8⟩:=Js da ds.length cd f Zo;obtain⟨A2,k2,D8,E9⟩:=Xi da ds.length cd f nc hf C1 F5.o;obtain⟨D0,D1,A9⟩:=Yk (D7 _ _ _ X) (D8 _ _ _ rfl X) E0;simp only[az,aK,aZ];have H6:Tryz.prog.follows .mixedOrders=true:=Zk;have D6:Qg (∀v,PM u v->v.cell? ⟨b0,o0+6+1,none⟩=some (Yi gi)):=Qf (fun v hv=>(hv.cell (p:=⟨b0,o0+6+1,none⟩) Y).trans s1);have B1:Qg (∀v,PM u v->v.cell? ⟨b0,o0+6+2,none⟩=some (Yi (go:Int))):=Qf (fun v hv=>(hv.cell (p:=⟨b0,o0+6+2,none⟩) Y).trans s2);have B2:Qg (∀v,PM u v->v.cell? ⟨b0,o0+6+3,none⟩=some (Yi (gt:Int))):=Qf (fun v hv=>(hv.cell (p:=⟨b0,o0+6+3,none⟩) Y).trans s3);clear hq C5 E1 E5 Y X C1 D7 D8 E0 s1 s2 s3;go_wp2_with fail;go_region;obtain⟨v,hv⟩:=Qe u.drew;rw[<-hv];have O:PM u v:=hv▸(bf _).drew;obtain⟨R,B6,J⟩:=Yk (A9.o.trans (O.mono A9.o.size)) O (D1.o.ahead O);have HS:=Qf (M.o A1 k1 A2 k2 v R.o (D0.o.ahead O) J.o);clear hv O D0 D1 A9 E8 E9 M q0 q1 q2 q3 q4 q5;go_wp2_with fail;refine HS.o.mono ?_;rintro e u2 ⟨la,lc,rfl,F,B⟩;simp only at F ⊢;rw[<-D3.o] at F ⊢;obtain⟨P,B3,A5⟩:=Yk (R.o.trans (B.mono R.o.size)) (B6.o.trans (B.mono B6.o.size)) (kr D3.o F);have U:=Qf (V.o A2 k2 u2 P.o (J.o.ahead B));clear F B HS R J V;go_wp2_with fail;refine U.o.mono ?_;rintro e u3 ⟨pa,pc,sa,sc,rfl,Z,G1,B⟩;rw[F4.o] at Z ⊢;rw[<-C9.o] at Z ⊢;obtain⟨Q,B4⟩:=Yj (P.o.trans (B.mono P.o.size)) (B3.o.trans (B.mono B3.o.size));have HP:=Qf (S.o la lc pa pc u3 (D2.o.ahead Q.o) (A5.o.ahead B) (kr C9.o Z));clear Z G1 B U P A5 S D2;go_wp2_with fail;refine HP.o.mono ?_;rintro e u4 ⟨rfl,B⟩;obtain⟨A8,B5,HO⟩:=Yk (Q.o.trans (B.mono Q.o.size)) (B4.o.trans (B.mono B4.o.size)) (D4.o u4);clear B HP Q D4;generalize (iY T).1=g1 at E HO;generalize (iY T).2=g2 at HO;go_wp2_with fail;refine HO.o.mono ?_;rintro e u5 ⟨rfl,B⟩;obtain⟨C8,N⟩:=Yj (A8.o.trans (B.mono A8.o.size)) (B5.o.trans (B.mono B5.o.size));clear B HO A8 B5 B4 B3 B6;have H5:∀W,(Instr.index 54 (.agg #[Yu g1,Yu g2]) (Yi 0)).run Tryz.prog W=.ok (Yu g1) W:=fun W=>Zk
  have I0:IntKind.i64.wrap ((go:Int)+gt)=(go:Int)+gt:=ZV;obtain⟨v6,A4⟩:=Qe u5.drew;have k1:=D6.o u5 N.o;have k2:=B1.o u5 N.o;have k3:=B2.o u5 N.o;have C7:PM u v6:=A4▸N.o.drew;have m2:=B1.o v6 C7;have m3:=B2.o v6 C7;have C:Qg (PM w v6):=Qf (A4▸C8.o.drew);have H:Qg (PM w v6.drew):=Qf C.o.drew;obtain⟨U,K,B7⟩:=Yk (B0.o v6) (B0.o v6.drew) A4;clear D6 B1 B2 N B0 A4 C8 C7;rcases E3 with⟨G,D,rfl,rfl⟩ | ⟨G,rfl,rfl⟩
  ·have t1:(gi==Ux T)=true:=Zu G;have t2:decide ((go:Int)+gt<=(tn:Int))=true:=Zu D;rw[Int.natCast_add] at K;clear G D U C;go_wp2_with fail;rw[E];go_region;rw[<-B7.o];go_wp2_with fail;go_region;go_wp2_with fail;refine K.o.mono ?_;rintro e u7 ⟨rfl,B⟩;have I:=Qf (H.o.trans (B.mono H.o.size));clear B K H;go_wp2_with fail;go_ret2;exact⟨rfl,I.o⟩
  ·rw[Int.natCast_zero] at U;by_cases D:gi=Ux T
   ·have t1:(gi==Ux T)=true:=Zu D;have t2:decide ((go:Int)+gt<=(tn:Int))=false:=by simpa using fun h=>G ⟨D,h⟩
    clear G D K H m2 m3;go_wp2_with fail;rw[E];go_region;rw[<-B7.o];go_wp2_with fail;refine U.o.mono ?_;rintro e u7 ⟨rfl,B⟩;have I:=Qf (C.o.trans (B.mono C.o.size));clear B U C;go_wp2_with fail;go_ret2;exact⟨rfl,I.o⟩
   ·have t1:(gi==Ux T)=false:=Zu D;clear G D K H m2 m3;go_wp2_with fail;rw[E];go_region;rw[<-B7.o];go_wp2_with fail;refine U.o.mono ?_;rintro e u7 ⟨rfl,B⟩;have I:=Qf (C.o.trans (B.mono C.o.size));clear B U C;go_wp2_with fail;go_ret2;exact⟨rfl,I.o⟩
 ·exfalso;simp[okM,HN.o] at hq
theorem rgaps_any(id tot:Int)(a:Qa)(ps:List P)(c:Nat)(w:World)(G:Pcs w.heap.size w a ps)(S:gm id tot ps=true):
  Qh 35 #[.agg #[Yi id,Yi tot,.slice a ps.length c]] w (Xz (Yi (gapsN tot ps:Nat)) w):=by
 obtain⟨R,N⟩:=Qe (gapsN tot ps);rw[<-N];cases ps with
 | nil=>
  have M:Qg (R=0):=Qf (Zw N);have Q:Qg (PM w (w.alloc (.cells #[Yi id,Yi tot,.slice a 0 c] 32))):=Qf ((bf _).alloc nr _);simp only[aK];clear G S N;go_enter Tryz.func35,Tryz.ntmps35;go_wp2_with fail;go_ret;exact⟨Zw M.o,Q.o⟩
 | cons p0 r0=>
  obtain⟨ps,F⟩:=Qe (p0::r0);have O:R=gapGo tot ps 0:=by rw[N,F]; unfold gapsN; rw[if_neg Zs]
  obtain⟨hg,_,_,A8,A9⟩:=QS S;have D:=ni hg;have hb:=(P6 S).1;rw[<-F] at G D hb ⊢;have Y:0<ps.length:=Zn F;obtain⟨U,K⟩:=Yj G D;obtain⟨n,X⟩:=Qe ps.length;rw[<-X] at hb Y ⊢;obtain⟨Z,T⟩:=Yj X O;have hz:((n:Int)==0)=false:=Zy beq_eq_false_iff_ne;obtain⟨v0,H⟩:=Qe (w.alloc (.cells #[Yi id,Yi tot,.slice a n c] 32));have HK:Qg (BK w.heap.size #[Yi id,Yi tot,.slice a n c] 32 v0):=Qf (H▸BK.new _ _ _);have Q:Qg (PM w v0):=Qf (H▸(bf _).alloc nr _);have HV:=Qf H;clear N F hg D G S X O H;go_enter Tryz.func35,Tryz.ntmps35;go_wp2_with fail;rw[<-HV.o];clear HV;go_loopw [3,4,5] (fun g z i wr=>∃(k q gn:Nat) (zz:Int),k<=n/\wr=v0.drewN q/\g=Yi (gn:Int)/\z=Yi zz/\i=Yi (k:Int)/\gn<=k/\0<=zz/\zz<=1048576/\Qg (R=gn+gapGo tot (ps.drop k) zz)) (fun _ _ i _=>n-(intOf i).toNat)
  case atStart=>exact⟨0,0,0,0,Zo,rfl,rfl,rfl,rfl,Zo,Zo,Zo,Qf (Zn T.o)⟩
  case round=>
   obtain⟨k,q,gn,zz,hk,rfl,rfl,rfl,rfl,A5,B1,B2,L⟩:=hrel;have I:Qg (PM w (v0.drewN q)):=Qf (below_drewN Q.o q);obtain⟨c0,c1,c2⟩:=BK.c3 HK.o;by_cases A6:k<n
   ·have W:(k:Int)<(n:Int):=Zo;have V:k<ps.length:=Zh Z.o;obtain⟨b0,o0,rfl,A4,q0,q1⟩:=(U.o.below Q.o nr) k V;obtain⟨p1,_,p3,_⟩:=K.o _ (ak V);have B:=L.out;rw[aN V,gapGo] at B;have C:=Qf B;generalize ps[k]=p at q0 q1 p1 p3 C;obtain⟨px,pd⟩:=p;simp only[PU] at q0 q1 p1 p3 C;have A7:=bH pd;have B0:IntKind.i64.wrap (px+(pd.length:Int))=px+(pd.length:Int):=ZV;clear B L I;by_cases E:zz<px
    ·have J:Qg (R=(gn+1)+gapGo tot (ps.drop (k+1)) (px+(pd.length:Int))):=Qf (by rw[C.o,if_pos E]; omega);clear C;go_wp2_with fail;go_region;go_wp2_with fail;go_roundw
     case rel=>exact⟨k+1,q+1,gn+1,px+(pd.length:Int),Zo,rfl,Zg,rfl,Zg,Zo,Zo,Zo,J⟩
     case measure=>simp[intOf]; omega
    ·have J:Qg (R=gn+gapGo tot (ps.drop (k+1)) (px+(pd.length:Int))):=Qf (by rw[C.o,if_neg E]; omega);clear C;go_wp2_with fail;go_region;go_wp2_with fail;go_roundw
     case rel=>exact⟨k+1,q+1,gn,px+(pd.length:Int),Zo,rfl,rfl,rfl,Zg,Zo,Zo,Zo,J⟩
     case measure=>simp[intOf]; omega
   ·have W:¬(k:Int)<(n:Int):=Zo;have B:=L.out;rw[kR (Zh Z.o),gapGo] at B;by_cases E:zz<tot
    ·have M:Qg (R=gn+1):=Qf (by rw[B,if_pos E]);clear B L;go_wp2_with fail;go_ret;exact⟨by rw[M.o]; go_num,I.o⟩
    ·have M:Qg (R=gn):=Qf (by rw[B,if_neg E]; rfl);clear B L;go_wp2_with fail;go_ret;exact⟨Zw M.o,I.o⟩
def reqM(s:Ses):List Msg:=if s.ps=[] then[PX s.want s.com] else[PX s.want s.com,Vd s]
theorem req_is{com:Qd}(h:OpenS X want com s)(M:want.length+com.length<=1000)(K:∀d∈want++com,OkD d):Rx s=((reqM s).flatMap O9,0)/\(∀m∈reqM s,m.why=0/\WG m.ds)/\(s.ps=[]->(O8 s.id s.tot s.ps).2.2=false):=by
 have D:s.want.length+s.com.length<=1000:=by rw[h.w,h.c]; exact M
 have w0:=Si D;have e0:=Tz w0;have G:=WV h.d D h.v;have A:WG (PX s.want s.com).ds:=We (fun d I=>by
  have B:d∈s.want++s.com:=I;rw[h.w,h.c] at B;exact K d B)
 have C:s.ps=[]->(O8 s.id s.tot s.ps).2.2=false:=fun e=>Zw e
 unfold reqM;by_cases F:s.ps=[]
 ·rw[if_pos F];refine⟨?_,fun m E=>?_,C⟩
  ·unfold Rx;rw[if_neg (Zn h.d),e0,if_neg Zs,if_pos (.inl F)];simp
  ·rw[aH.1 E]; exact⟨w0,A⟩
 ·rw[if_neg F];obtain⟨o,n,e1,_⟩:=gap_apart h F;have J:¬(s.ps=[]\/(O8 s.id s.tot s.ps).2.2=false):=fun e=>e.elim F (fun e=>by rw[e1] at e; cases e)
  unfold Rx at G ⊢;rw[if_neg (Zn h.d),e0,if_neg Zs,if_neg J] at G ⊢;have H:(Qc (Vd s)).2=0:=Classical.byContradiction fun e=>by
   rw[if_pos e] at G;exact e G
  have L:(Vd s).why=0:=Classical.byContradiction fun e=>by
   unfold Qc at H;rw[if_neg e] at H;exact e H
  refine⟨?_,fun m E=>?_,C⟩
  ·rw[if_neg (Zn H),Tz L];simp
  ·rcases List.mem_cons.1 E with rfl | E
   ·exact⟨w0,A⟩
   ·rw[aH.1 E];exact⟨L,fun d I=>(by cases I)⟩
theorem serve_req{X:List Itm}{Z:List Itm}(J:Asc X)(M:X.length<=40)(G:∀x∈X,OkD x.d/\x.data.length<=1000){want com:Qd}(hc:∀d∈want++com,(aF X d).2=0)(hw:(dh X want).2=[])(U:(dh X com).2=[])(okw:∀d∈want,OkD d)(okc:∀d∈com,OkD d)(lw:want.length<=6)(lc:com.length<=6){size:Int}(S:1<=size)(h1:size<=1000)
  (a:Qa) (c:Nat) (w:World) (Y:jQ w a X c) {s:Ses} (K:OpenS Z want com s) :
  Qh 21 #[.slice a X.length c,((reqM s).flatMap O9),Yi size] w (Xz (.tuple #[((servM (Tp X want com) (Ux (Tp X want com)) size.toNat s).flatMap O9),Yi 0]) w):=by
 have O:∀d∈want++com,OkD d:=fun d B=>by
  rcases aD.1 B with B | B
  ·exact okw d B
  ·exact okc d B
 obtain⟨r1,r2,r3⟩:=req_is K Zo O;have C:∀x∈X,x.data.length<=1000:=fun x L=>(G x L).2
 by_cases E:s.ps=[]
 ·have F:=Uh ⟨J,J,fun y hy=>hy⟩ M C hc hw U okw okc lw lc S h1 a c w Y Zo G;unfold Xr rplM at F;unfold reqM servM;rw[if_pos E,if_neg (fun e=>by rw[r3 E] at e; cases e.1),K.w,K.c];simpa using F
 obtain⟨f1,f2,f3⟩:=SF J (want:=want) (com:=com);obtain⟨l0,l1⟩:=UF J M C want com;obtain⟨p0,p1⟩:=UV (Tp X want com);obtain⟨q1,q2⟩:=(Sup.mk J J (fun y hy=>hy)).pack f1 f2 Zo;obtain⟨o,n,e1,e2,e3,_⟩:=gap_apart K E;have hv:s.tot<=1048576:=by
  have hv:=K.v;revert hv E;cases s.ps with
  | nil=>intro h; exact absurd rfl h
  | cons p r=>intro _ h; exact(QS h).2.2.2.2
 have A1:M6 X want com=(Ug X want com,0):=UK hc hw;have A0:Pt X c:=⟨J,fun x L=>(G x L).1,C,Zo,Y.cap⟩;have P:∀{l:Qd},(∀d∈l,I7 X d=true)->∀d∈l,OkD d:=fun V d B=>by
  obtain⟨x,L,rfl⟩:=QE (V d B);exact(G x L).1
 have A8:(dh X com).1.length<=X.length:=by
  have F:(dh X com).1.Nodup:=(gW X com).1.imp (fun {a b} h e=>by
   subst e;rw[fO] at h
   omega)
  have R:=F.length_le_of_subset (l₂:=X.map (·.d)) (fun d B=>by
   obtain⟨x,L,rfl⟩:=QE (f1 d (aD.2 (.inr B)));exact List.mem_map_of_mem L)
  rwa[fC] at R
 have I:reqM s=[PX want com,⟨3,s.id,(o:Int),(n:Int),[],[]⟩]:=by
  unfold reqM Vd;rw[if_neg E,e1,K.w,K.c]
 have A9:(((reqM s).flatMap O9).length:Int)<=1000000:=by
  have F:=QY (PX want com);have R:=QY (⟨3,s.id,(o:Int),(n:Int),[],[]⟩:Msg);have w1:=(r2 _ (Zn I):(PX want com).why=0/\_).1;have w2:=(r2 _ (Zn I):(⟨3,s.id,(o:Int),(n:Int),[],[]⟩:Msg).why=0/\_).1;rw[Tz w1] at F;rw[Tz w2] at R;rw[I];simp only[bR,List.flatMap_nil,bG,af];simp only at F R;omega
 have Q:=Q4 (reqM s) r2;have ht:(want++com).take want.length=want:=List.take_left;have N:(want++com).drop want.length=com:=qL;have T:(servM (Tp X want com) (Ux (Tp X want com)) size.toNat s)=if s.id=Ux (Tp X want com)/\(o:Int)+n<=(Tp X want com).length then V5 (Ux (Tp X want com)) (Tp X want com) o (o+n) size.toNat else V5 (Ux (Tp X want com)) (Tp X want com) 0 (Tp X want com).length size.toNat:=by
  unfold servM;rw[e1];simp only[true_and,aj];rw[show((o:Int)+(n:Int)).toNat=o+n by omega]
 rw[T];have A2:∀f0 t0:Nat,f0<t0->t0<=(Tp X want com).length->((s.id=Ux (Tp X want com)/\(o:Int)+n<=(Tp X want com).length/\o=f0/\o+n=t0)\/(¬(s.id=Ux (Tp X want com)/\(o:Int)+n<=(Tp X want com).length)/\0=f0/\(Tp X want com).length=t0))->Qh 21 #[.slice a X.length c,((reqM s).flatMap O9),Yi size] w (Xz (.tuple #[((V5 (Ux (Tp X want com)) (Tp X want com) f0 t0 size.toNat).flatMap O9),Yi 0]) w):=fun f0 t0 g1 g2 g3=>by
  have k:=serve_two a X c ((reqM s).flatMap O9) size w want.length ((reqM s).flatMap O9).length 0 (want++com) (Ug X want com) (dh X com).1 (Tp X want com) Y J Zo s.id o n (by rw[I] at Q ⊢; exact Q) f0 t0 g3 Zo rfl Zo Zs O (Zy af) S Zo (by rw[ht,N]; exact A1) (Zx N) Zo
   (fun la A3 ba bc W hi V hb=>by
    have F:=PG A0 hi V hb (P (fun d B=>f1 d (aD.2 (.inl B)))) (P (fun d B=>f1 d (aD.2 (.inr B)))) (lc:=A3) (bc:=bc) Zo Zo;rw[q2] at F;exact F)
  rw[(WW (D:=Tp X want com) (f:=f0) (t:=t0) p0 p1 S Zo g1 g2 l1).1] at k;exact k
 split
 ·rename_i H;exact A2 o (o+n) Zo Zo (.inl ⟨H.1,H.2,rfl,rfl⟩)
 ·rename_i H;exact A2 0 _ l0 nr (.inr ⟨H,rfl,rfl⟩)
theorem rnd_open{com:Qd}(h:RndOk X want com T pid k s)(A:s.done=false):OpenS X want com s:=by
 rcases h with h | h
 ·rw[A] at h; cases h
 ·exact h.1
structure GaR (X:List Itm) (want com:Qd) (ya:Qa) (ny yc:Nat) (sz:Int) (T:Qb) (v:World):Prop where
 rq:∀s E b W,OpenS X want com s->PQ W s E b->Qh 16 #[s.val E] W (Xz (.tuple #[((reqM s).flatMap O9),Yi 0]) W)
 sc:∀s W,OpenS X want com s->Qh 32 #[((reqM s).flatMap O9)] W fun e w'=>(∃a c n,e=.returned (.tuple #[.slice a (reqM s).length c,Yi n])/\GQ w'.heap.size w' a (reqM s))/\PM W w'
 sv:∀s W,OpenS X want com s->PM v W->Qh 21 #[.slice ya ny yc,((reqM s).flatMap O9),Yi sz] W (Xz (.tuple #[((servM T (Ux T) sz.toNat s).flatMap O9),Yi 0]) W)
 rc:∀k s E b W,RndOk X want com T (Ux T) (k+1) s->s.done=false->PQ W s E b->Qh 23 #[s.val E,((servM T (Ux T) sz.toNat s).flatMap O9)] W fun e w'=>(∃s' E' n,e=.returned (.tuple #[Ses.val s' E',Yi n,Yi 0])/\PQ w' s' E' w'.heap.size/\RndOk X want com T (Ux T) k s')/\PM W w'
theorem frame_small2(A:m.ds=[])(B:m.data.length<=1000):(O9 m).length<=50000:=by
 rw[QP];unfold yP;have:=jo [m.kind,m.id,m.off,m.tot,m.ds.length];have C:=aG m.data.length;rw[af,af,af,lF,A];rw[A] at this;simp only[az,aK] at this ⊢;omega
theorem com_both2{com:Qd}(E:Asc X)(D:Asc Y)(cy:∀y∈Y,vg y=0)(un:(QU X Y).2=0)(C:∀d∈com,(aF X d).2=0)(yc:∀d∈com,I7 Y d=true)(wc:∀d∈want,(aF Y d).2=0):∀d∈want++com,(aF Y d).2=0:=fun d A=>by
 rcases aD.1 A with A | A
 ·exact wc d A
 ·obtain⟨V,sx,sy,_⟩:=uni_both E D un;obtain⟨y,B,rfl⟩:=QE (yc d A);have g3:(dW Y y.d).2=0:=by rw[Lh D B]; exact(chkI_parts (cy y B)).1
  have g4:aF Y y.d=aF V y.d:=by
   unfold aF;rw[sy.get g3]
  rw[g4,sx.com (C _ A)];exact C _ A
theorem servM_why(C:1<=sz)(E:sz<=1000)(K:T.length<=65536){com:Qd}(M:OpenS X want com s):(∀m∈servM T (Ux T) sz s,m.why=0/\WG m.ds)/\((servM T (Ux T) sz s).flatMap O9).length<=100000000000:=by
 obtain⟨p0,p1⟩:=UV T;have N:∀f t:Nat,t<=T.length->(∀m∈V5 (Ux T) T f t sz,m.why=0/\WG m.ds)/\((V5 (Ux T) T f t sz).flatMap O9).length<=100000000000:=fun f t D=>by
  have B:=TM (f:=f) p0 p1 C Zo D Zo;refine⟨fun m A=>⟨(B m A).1,by rw[(B m A).2]; intro d G; cases G⟩,?_⟩;have I:(V5 (Ux T) T f t sz).length<=70000:=by
   unfold V5 Rn;simp only[fC,List.length_range,aA,ah];exact aC (Nat.div_le_self _ _) Zo
  have F:∀(l:List Msg),(∀m∈l,(O9 m).length<=50000)->(l.flatMap O9).length<=50000*l.length:=by
   intro l;induction l with
   | nil=>intro _; simp
   | cons m l ih=>
    intro A;have E:=A m Zs;have B:=ih (fun z H=>A z (Zj H));rw[bR,af,az];omega
  have J:=F (V5 (Ux T) T f t sz) (fun m A=>by
   obtain⟨a,_,_,rfl⟩:=Vn C D A;refine frame_small2 rfl ?_;simp only[aA]
   omega)
  omega
 unfold servM;split
 ·rename_i L;exact N _ _ Zo
 ·exact N 0 _ nr
theorem gaR{v:World}(h:PW v x A)(J:QM x)(F:WK x)(hk:QR x.xs [] x.com=0):∃T,GaR x.xs x.want x.com A.ya x.ys.length A.yc x.sz T v:=by
 obtain⟨A7,A8⟩:=RG J.pg;obtain⟨H,S⟩:=RG J.gy;obtain⟨Y,L⟩:=PP J.ck;obtain⟨M,C⟩:=PP J.ky;have lw:=J.lw;have lc:=J.lc;have z0:=F.z0;have z1:=F.z1;obtain⟨A4,A3⟩:=QW F.yw;obtain⟨A0,A2⟩:=QW F.yc;have N:=com_both2 L C M F.un (U5 x.com [] hk) A0 F.wc;have U:∀y∈x.ys,OkD y.d/\y.data.length<=1000:=fun y K=>by have:=S y K; exact⟨(h.y.dat y K).1,Zo⟩
 have D:∀y∈x.ys,y.data.length<=1000:=fun y K=>(U y K).2
 obtain⟨Q,q1,q2,q3,q4⟩:=hon_unpack L C Y M D H F.un F.yw F.yc F.xc;have t0:=(UF C H D x.want x.com).1;have t2:=txt_len2 C H D x.want x.com;have R:∀d∈x.want++x.com,OkD d:=fun d G=>by
  rcases aD.1 G with G | G
  ·exact h.w.ok d G
  ·exact h.c.ok d G
 refine⟨Tp x.ys x.want x.com,fun s E b W P hs=>?_,fun s W P=>?_,fun s W P hW=>?_,fun k s E b W hr G hs=>?_⟩
 ·have h1:=Qt s E b W hs;rw[(req_is P Zo R).1] at h1;exact h1
 ·obtain⟨r1,r2,_⟩:=req_is P Zo R;have hl:(((reqM s).flatMap O9).length:Int)<=1000000000000:=by
   have I:=r2;unfold reqM at I ⊢;have V:∀m:Msg,m.why=0->((O9 m).length:Int)<=200000:=fun m Z=>by
    have:=QY m;rw[Tz Z] at this;exact this
   split
   ·rename_i hp;rw[if_pos hp] at I;have:=V _ (I (PX s.want s.com) Zs).1;simp only[bR,List.flatMap_nil,bG];omega
   ·rename_i hp;rw[if_neg hp] at I;have:=V _ (I (PX s.want s.com) Zs).1;have:=V _ (I (Vd s) Zs).1;simp only[bR,List.flatMap_nil,bG,af];omega
  exact(PD _ W hl).mono (by
   rintro e w' ⟨ms,n,a,c,hs,rfl,Z,X,_⟩;obtain⟨rfl,rfl⟩:=(Q4 _ r2).one hs;exact⟨⟨a,c,_,rfl,Z⟩,X⟩)
 ·exact serve_req C H U N A3 A2 h.w.ok h.c.ok lw lc z0 z1 A.ya A.yc W ⟨h.y.its.ahead hW,h.y.cap.1,Zo,fun y K=>Zh (S y K)⟩ P
 ·obtain⟨s1,s2⟩:=servM_why (T:=Tp x.ys x.want x.com) (sz:=x.sz.toNat) Zo Zo t2 (rnd_open hr G);exact(QL s E b _ W hs Zo).mono (by
   rintro e w' (⟨O,_⟩ | ⟨_,ms,n,B,hs,rfl,A1,X⟩)
   ·rw[G] at O; cases O
   ·obtain⟨rfl,rfl⟩:=(Q4 _ s1).one hs;exact⟨⟨_,B,_,rfl,A1,round_ok (UV _) t0 t2 Zo q1 q2 G hr⟩,X⟩)
theorem PW.aheadG{W W':World}(h:PW W x A)(B:PM W W'):PW W' x A:=
 ⟨⟨h.h.its.ahead B,h.h.cap,h.h.dat⟩,⟨h.y.its.ahead B,h.y.cap,h.y.dat⟩,⟨h.w.dig.ahead B,h.w.cap,h.w.ok⟩,⟨h.c.dig.ahead B,h.c.cap,h.c.ok⟩,fun i E=>by
  obtain⟨b,F,e,C,D⟩:=h.t i E;exact⟨b,F,e,aO C B.size,(B.cell (p:=⟨b,F+i,none⟩) C).trans D⟩,h.tl⟩
theorem vParts_all{t:Int}(h:gm i t ps=true):∀p∈ps,0<=p.1/\p.1+(p.2.length:Int)<=1048576:=fun p A=>by
 cases ps with
 | nil=>simp at A
 | cons q r=>
  obtain⟨D,_,_,_,E⟩:=QS h;obtain⟨B,_,C,_⟩:=ni D p A;simp only[PU] at C;exact⟨B,Zo⟩
structure LoopGa (X:List Itm) (want com:Qd) (T:Qb) (xv:Array Value) (w v:World) (xb sb k:Nat) (s:Ses) (A:QF) (W:World):Prop where
 ks:BK sb (Ses.arr s A) 34 W
 kx:BK xb xv 27 W
 si:PQ W s A sb
 rn:RndOk X want com T (Ux T) k s
 be:PM w W
 bv:PM v W
theorem gapGo_le{tot:Int}:∀(ps:List P) (a:Int),gapGo tot ps a<=ps.length+1
 | [],a=>by unfold gapGo; split <;> simp
 | p::ps,a=>by
  have:=gapGo_le (tot:=tot) ps (PU p);unfold gapGo;simp only[az];split <;> omega
theorem gapsN_le(ps:List P):gapsN tot ps<=ps.length+1:=by
 unfold gapsN;split
 ·omega
 ·exact gapGo_le ps 0
theorem tgaps_any(L6:T9)(x:Fet)(A:Sz)(w:World)(h:PW w x A):
  Qh 8 #[.agg (x.arr A)] w (Xz (.bool true) w):=by
 obtain⟨G,hG⟩:∃G:Ending->World->Prop,G=(Xz (.bool true) w):=⟨_,rfl⟩;rw[<-hG];have HG:Qg (∀u,PM w u->G (.returned (.bool true)) u):=Qf (fun u hu=>by rw[hG]; exact⟨rfl,hu⟩);obtain⟨B5,B9,B1,L,A1,I5⟩:=Yn (fun W=>Rt L6 W) (fun W (hW:PM w W)=>Sa x A W (h.aheadG hW)) (fun(hf:QM x) W (hW:PM w W)=>Uo x A W (h.aheadG hW) hf) (fun(hf:QM x) W (hW:PM w W)=>Tu x A W (h.aheadG hW) hf) (fun(hf:QM x) (hn:WK x) W (hW:PM w W) hk=>gaR (h.aheadG hW) hf hn hk) (fun W (hW:PM w W)=>h.y.its.ahead hW);obtain⟨K9,A3⟩:=Yj h.y.cap (fun(xa:Qa) (xs:List Itm) (xc:Nat) W (h1:Its W.heap.size W xa xs) (h2:Its W.heap.size W A.ya x.ys) (hl:xs.length<=2000) (M9:x.ys.length<=40)=>Rh xa A.ya xs x.ys xc A.yc W h1 h2 Zo Zo);clear hG h;obtain⟨xs,ys,G8,M3,ts,sz⟩:=x;obtain⟨ha,hc,ya,yc,wa,wc,ca,cc,ta,tc⟩:=A;simp only[Fet.arr] at B9 B1 L A1 I5 K9 A3 ⊢;obtain⟨nx,J7⟩:=Qe xs.length;obtain⟨ny,E4⟩:=Qe ys.length;obtain⟨nw,J6⟩:=Qe G8.length;obtain⟨nc,J5⟩:=Qe M3.length;rw[<-J7,<-E4,<-J6,<-J5] at B9 B1 L ⊢;rw[<-E4] at A1 A3;generalize ts.length=nt at B9 B1 L ⊢;have K8:=Qf E4;clear J7 E4 J6 J5;obtain⟨u1,D5⟩:=Qe (w.alloc (.cells #[.slice ha nx hc,.slice ya ny yc,.slice wa nw wc,.slice ca nc cc,.slice ta nt tc,Yi sz] 27));have E1:PM w u1:=D5▸(bf _).alloc nr _;have I2:Qg (BK w.heap.size #[.slice ha nx hc,.slice ya ny yc,.slice wa nw wc,.slice ca nc cc,.slice ta nt tc,Yi sz] 27 u1):=Qf (D5▸BK.new _ _ _);have HD:=Qf (B9.o u1 E1);rw[D5] at HD;obtain⟨F1,I0⟩:=Yj E1 D5;clear D5 E1 B9;go_enter Tryz.func8,Tryz.ntmps8;go_wp2_with fail;refine HD.o.mono ?_;rintro e u2 ⟨⟨r,rfl,hr⟩,B⟩;rw[<-I0.o] at B;obtain⟨A9,G0⟩:=Yj (F1.o.trans (B.mono F1.o.size)) (I2.o.below B);clear B HD I0 F1 I2;cases r with
 | false=>
  clear A1 hr B1 L A3;go_wp2_with fail;refine(B5.o u2).mono ?_;rintro e ux ⟨rfl,B⟩;have HF:=Qf (HG.o ux (A9.o.trans (B.mono A9.o.size)));clear B;go_wp2_with fail;exact HF.o
 | true=>
 have D7:=Qf (hr Zv);have HD:=Qf (B1.o D7.o u2 A9.o);clear hr B1;obtain⟨x0,x1,x2,x3,x4,x5⟩:=BK.c6 G0.o;go_wp2_with fail;refine HD.o.mono ?_;rintro e u3 ⟨⟨r,rfl,hr⟩,B⟩;obtain⟨B0,G1⟩:=Yj (A9.o.trans (B.mono A9.o.size)) (G0.o.below B);clear B HD A9 G0 x0 x1 x2 x3 x4 x5;cases r with
 | false=>
  clear A1 hr L A3;go_wp2_with fail;refine(B5.o u3).mono ?_;rintro e ux ⟨rfl,B⟩;have HF:=Qf (HG.o ux (B0.o.trans (B.mono B0.o.size)));clear B;go_wp2_with fail;exact HF.o
 | true=>
 have K7:=Qf (hr Zv);clear hr;have HD:=Qf (L.o D7.o u3 B0.o);clear L;obtain⟨x0,x1,x2,x3,x4,x5⟩:=BK.c6 G1.o;go_wp2_with fail;refine HD.o.mono ?_;rintro e u5 ⟨ok,⟨sx,sw,sc,si,st,sp,sa,sd⟩,⟨L9,M0,M6,N0,M4,M5,M1,M2⟩,rfl,J9,B⟩;unfold Ses.arr;simp only;have L:=Qf J9;obtain⟨v5,A7⟩:=Qe (u5.alloc (.cells #[.slice L9 sx.length M0,.slice M6 sw.length N0,.slice M4 sc.length M5,Yi si,Yi st,.slice M1 sp.length M2,.bool sa,.bool sd] 34));have A6:PM u5 v5:=A7▸(bf _).alloc nr _;have G9:=B.size;have H:=B.trans (A6.mono B.size);have A0:=Qf (B0.o.trans (H.mono B0.o.size));have J:BK u5.heap.size #[.slice L9 sx.length M0,.slice M6 sw.length N0,.slice M4 sc.length M5,Yi si,Yi st,.slice M1 sp.length M2,.bool sa,.bool sd] 34 v5:=A7▸BK.new _ _ _;have G2:=Qf (G1.o.below H);clear B x0 x1 x2 x3 x4 x5 HD J9;cases ok with
 | false=>
  clear A1 L A3 J;rw[A7] at A0;clear A7 H A6;go_wp2_with fail;refine(B5.o _).mono ?_;rintro e ux ⟨rfl,B⟩;have HF:=Qf (HG.o ux (A0.o.trans (B.mono A0.o.size)));clear B;go_wp2_with fail;exact HF.o
 | true=>
 obtain⟨G5,E9⟩:=L.o Zv;have D4:=E9.below A6;have J3:sx.length<=2000:=D4.lx;obtain⟨C0,C3⟩:=Yj G5 D4;have K3:ny<=40:=K8.o▸(RG D7.o.gy).1;have HU:=Qf (A3.o L9 sx M0 v5 (D4.hp.its) (I5.o v5 A0.o) J3 K3);obtain⟨T,hT⟩:=A1.o D7.o K7.o u3 B0.o G5.b;obtain⟨HT,H3⟩:=Yj hT H;obtain⟨RU,I6⟩:=Qe (QU sx ys);rw[<-I6] at HU;obtain⟨RL,re⟩:=RU;obtain⟨O5,O6,O7,O8,P0,P1,P2,P3⟩:=BK.c8 J;obtain⟨x0,x1,x2,x3,x4,x5⟩:=BK.c6 G2.o;rw[A7] at x0 x1 x2 x3 x4 x5 O5 O6 O7 O8 P0 P1 P2 P3 HU;have I1:=Qf A7;obtain⟨sb,B3⟩:=Qe u5.heap.size;have D9:Qg (w.heap.size<sb):=Qf (B3▸aO G1.o.lt G9);have H9:Qg (u3.heap.size<=sb):=Qf (B3▸G9);have H5:Qg (BK sb #[.slice L9 sx.length M0,.slice M6 sw.length N0,.slice M4 sc.length M5,Yi si,Yi st,.slice M1 sp.length M2,.bool sa,.bool sd] 34 v5):=Qf (B3▸J);have E6:Qg (PQ v5 ⟨sx,sw,sc,si,st,sp,sa,sd⟩ ⟨L9,M0,M6,N0,M4,M5,M1,M2⟩ sb):=Qf (B3▸D4);clear G9 J D4 E9 G5 hT I6 A7 H A6 A3 A1 L K3 J3 C3;go_wp2_with fail;refine HU.o.mono ?_;rintro e u6 ⟨pa,pc,rfl,I7⟩;have B:=I7.2.2.2;rw[<-I1.o] at B;obtain⟨B6,F6,I3,Q,F3⟩:=Ym (A0.o.trans (B.mono A0.o.size)) (H5.o.below B) (G2.o.below B) (E6.o.below B) (H3.o.trans (B.mono H3.o.size));clear I7 B HU x0 x1 x2 x3 x4 x5 O5 O6 O7 O8 P0 P1 P2 P3 A0 H5 G2 E6 I1;simp only;by_cases E8:re=0
 case neg=>
  have N6:(re !=0)=true:=Zu E8;go_wp2_with fail;refine(B5.o u6).mono ?_;rintro e ux ⟨rfl,B⟩;have HF:=Qf (HG.o ux (B6.o.trans (B.mono B6.o.size)));clear B;go_wp2_with fail;exact HF.o
 subst E8;obtain⟨N,hN⟩:=Qe (gapsN st sp+2);have H8:Qg (RndOk xs G8 M3 T (Ux T) N ⟨sx,sw,sc,si,st,sp,sa,sd⟩):=Qf (by
  rw[hN];refine rn_start (s:=⟨sx,sw,sc,si,st,sp,sa,sd⟩) ?_;cases L7:sd with
  | true=>exact .inl rfl
  | false=>exact .inr ⟨C0.o.n L7,C0.o.w,C0.o.c,rfl,Q.o.vp,C0.o.nw⟩)
 have M7:N<=1048580:=by
  have:=gapsN_le (tot:=st) sp;have:=(P6 Q.o.vp).1;simp only at this;omega
 have L8:IntKind.i64.wrap ((gapsN st sp:Nat)+2:Int)=(N:Int):=by
  rw[ZV];omega
 have F5:=Qf (rgaps_any si st M1 sp M2 u6 Q.o.hq Q.o.vp);generalize gapsN st sp=gn at F5 L8;rw[<-B3];obtain⟨c0,c1,c2,c3,c4,c5,c6,c7⟩:=BK.c8 F6.o;clear hN C0 B3;go_wp2_with fail;refine F5.o.mono ?_;rintro e u7 ⟨rfl,B⟩;have H4:Qg (∃s A,LoopGa xs G8 M3 T #[.slice ha nx hc,.slice ya ny yc,.slice wa nw wc,.slice ca nc cc,.slice ta nt tc,Yi sz] w u3 w.heap.size sb (N-0) s A u7):=Qf ⟨⟨sx,sw,sc,si,st,sp,sa,sd⟩,⟨L9,M0,M6,N0,M4,M5,M1,M2⟩,F6.o.below B,I3.o.below B,Q.o.below B,H8.o,B6.o.trans (B.mono B6.o.size),F3.o.trans (B.mono F3.o.size)⟩;clear B F5 H8 F6 I3 Q B6 F3 c0 c1 c2 c3 c4 c5 c6 c7;go_wp2_with fail;go_loopw [52] (fun i wr=>∃k:Nat,k<=N/\i=Yi k/\Qg (∃s A,LoopGa xs G8 M3 T #[.slice ha nx hc,.slice ya ny yc,.slice wa nw wc,.slice ca nc cc,.slice ta nt tc,Yi sz] w u3 w.heap.size sb (N-k) s A wr)) (fun i _=>N-(intOf i).toNat)
 case atStart=>exact⟨0,Zo,rfl,H4⟩
 case round=>
  clear H4;obtain⟨k,hk,rfl,HJ⟩:=hrel;obtain⟨⟨fx,fw,fc,fi,ft,fp,fa,fd⟩,⟨H2,I8,K6,L0,H0,H1,K4,K5⟩,hl⟩:=HJ.out;have C8:=hl.ks;unfold Ses.arr at C8;simp only at C8;obtain⟨wq,K1⟩:=Qe wr;rw[<-K1] at hl C8 ⊢;obtain⟨HK,HX,C3,HR,HB,F4⟩:=Yn C8 hl.kx hl.si hl.rn hl.be hl.bv;clear HJ hl C8 K1;by_cases hc:k<N/\fd=false
  ·obtain⟨J2,rfl⟩:=hc;have I9:(k:Int)<(N:Int):=Zo;have D8:Qg (RndOk xs G8 M3 T (Ux T) (N-(k+1)+1) ⟨fx,fw,fc,fi,ft,fp,fa,false⟩):=Qf (by
    rw[show N-(k+1)+1=N-k by omega]; exact HR.o)
   have A2:=Qf (rnd_open HR.o rfl);have D:=Qf (HT.o.rq _ _ _ _ A2.o C3.o);obtain⟨RS,G4⟩:=Qe ((reqM ⟨fx,fw,fc,fi,ft,fp,fa,false⟩).flatMap O9);rw[<-G4] at D;have C2:=Qf G4;obtain⟨c0,c1,c2,c3,c4,c5,c6,c7⟩:=BK.c8 HK.o;clear G4 HR J2;go_wp2_with fail;refine D.o.mono ?_;rintro e u7 ⟨rfl,B⟩;obtain⟨H6,I4,F2,B7,E7,D⟩:=Yn (HK.o.below B) (HX.o.below B) (HB.o.trans (B.mono HB.o.size)) (F4.o.trans (B.mono F4.o.size)) (C3.o.below B) (HT.o.sc _ u7 A2.o);rw[<-C2.o] at D;clear B c0 c1 c2 c3 c4 c5 c6 c7 HK HX HB F4 C3;go_wp2_with fail;refine D.o.mono ?_;rintro e u8 ⟨⟨ma,P7,P5,rfl,J4⟩,B⟩;obtain⟨Y,Z,S,E,F,F7⟩:=Yn (H6.o.below B) (I4.o.below B) (F2.o.trans (B.mono F2.o.size)) (B7.o.trans (B.mono B7.o.size)) (E7.o.below B) J4;clear B J4 D H6 I4 F2 B7 E7;by_cases V:fp=[]
   ·have B2:(reqM ⟨fx,fw,fc,fi,ft,fp,fa,false⟩).length=1:=by unfold reqM; rw[if_pos V]; rfl
    rw[B2];have D1:fp.length=0:=Zw V;obtain⟨z0,z1,z2,z3,z4,z5,z6,z7⟩:=BK.c8 Y.o;rw[D1] at z5;clear B2 F7 D1 V;have D:=Qf (HT.o.sv ⟨fx,fw,fc,fi,ft,fp,fa,false⟩ u8 A2.o E.o);rw[<-C2.o] at D;obtain⟨SS,A4⟩:=Qe ((servM T (Ux T) sz.toNat ⟨fx,fw,fc,fi,ft,fp,fa,false⟩).flatMap O9);have C4:=Qf A4;rw[<-A4] at D;obtain⟨x0,x1,x2,x3,x4,x5⟩:=BK.c6 Z.o;clear A4;go_wp2_with fail;refine D.o.mono ?_;rintro e u9 ⟨rfl,B⟩;obtain⟨U,C5,K,I,D⟩:=Ym (Y.o.below B) (Z.o.below B) (S.o.trans (B.mono S.o.size)) (E.o.trans (B.mono E.o.size)) (HT.o.rc (N-(k+1)) ⟨fx,fw,fc,fi,ft,fp,fa,false⟩ ⟨H2,I8,K6,L0,H0,H1,K4,K5⟩ sb u9 D8.o rfl (F.o.below B));rw[<-C4.o] at D;clear B x0 x1 x2 x3 x4 x5 z0 z1 z2 z3 z4 z5 z6 z7 Y Z S E F C4 C2 A2 D8;obtain⟨c0,c1,c2,c3,c4,c5,c6,c7⟩:=BK.c8 U.o;go_wp2_with fail;refine D.o.mono ?_;rintro e u5 ⟨⟨⟨mx,mw,mc,mi,mt,mp,G3,md⟩,⟨B8,C6,E3,F0,A8,B4,D6,E0⟩,P4,rfl,D3,D2⟩,H⟩;simp only;obtain⟨v6,O⟩:=Qe (u5.alloc (.cells #[.slice B8 mx.length C6,.slice E3 mw.length F0,.slice A8 mc.length B4,Yi mi,Yi mt,.slice D6 mp.length E0,.bool G3,.bool md] 34));have A5:PM u5 v6:=O▸(bf _).alloc nr _;have C:=H.trans (A5.mono H.size);have J:=U.o.below C;have C9:BK u5.heap.size #[.slice B8 mx.length C6,.slice E3 mw.length F0,.slice A8 mc.length B4,Yi mi,Yi mt,.slice D6 mp.length E0,.bool G3,.bool md] 34 v6:=O▸BK.new _ _ _;obtain⟨v7,X⟩:=Qe ((((((((v6.setCell sb (.slice B8 mx.length C6)).setCell ⟨sb,1,none⟩ (.slice E3 mw.length F0)).setCell ⟨sb,2,none⟩ (.slice A8 mc.length B4)).setCell ⟨sb,3,none⟩ (Yi mi)).setCell ⟨sb,4,none⟩ (Yi mt)).setCell ⟨sb,5,none⟩ (.slice D6 mp.length E0)).setCell ⟨sb,6,none⟩ (.bool G3)).setCell ⟨sb,7,none⟩ (.bool md));have C7:BK sb #[.slice B8 mx.length C6,.slice E3 mw.length F0,.slice A8 mc.length B4,Yi mi,Yi mt,.slice D6 mp.length E0,.bool G3,.bool md] 34 v7:=X▸((((((((J.set 0 _).set 1 _).set 2 _).set 3 _).set 4 _).set 5 _).set 6 _).set 7 _);have M:v6.grownBy v7 (some sb):=X▸fM (fM (fM (fM (fM (fM (fM (dN _ _ _ _) _ _) _ _) _ _) _ _) _ _) _ _) _ _;have C1:Qg (∃s A,LoopGa xs G8 M3 T #[.slice ha nx hc,.slice ya ny yc,.slice wa nw wc,.slice ca nc cc,.slice ta nt tc,Yi sz] w u3 w.heap.size sb (N-(k+1)) s A v7):=Qf ⟨⟨mx,mw,mc,mi,mt,mp,G3,md⟩,⟨B8,C6,E3,F0,A8,B4,D6,E0⟩,C7,(C5.o.below C).grow1 M (Zh D9.o),(((D3.kind (Tw (U.o.below H))).below A5).grown M),D2,(K.o.trans (C.mono K.o.size)).grown M (aC K.o.size C.size) (fun k e=>by cases e; exact Nat.le_of_lt D9.o),(I.o.trans (C.mono I.o.size)).grown M (aC I.o.size C.size) (fun k e=>by cases e; exact H9.o)⟩;obtain⟨r0,r1,r2,r3,r4,r5,r6,r7⟩:=BK.c8 J;obtain⟨N2,N7,N8,N9,O0,O1,O2,O3⟩:=BK.f8 (J);obtain⟨x0,x1,x2,x3,x4,x5,x6,x7⟩:=BK.c8 C9;rw[O] at r0 r1 r2 r3 r4 r5 r6 r7 N2 N7 N8 N9 O0 O1 O2 O3 x0 x1 x2 x3 x4 x5 x6 x7;rw[X,O] at C1;clear c0 c1 c2 c3 c4 c5 c6 c7 O A5 C J C9 X C7 M D3 D2 H D U C5 K I;go_wp2_with fail;go_roundw
    case rel=>exact⟨k+1,Zo,Zg,C1⟩
    case measure=>simp[intOf] <;> omega
   ·have B2:(reqM ⟨fx,fw,fc,fi,ft,fp,fa,false⟩).length=2:=by unfold reqM; rw[if_neg V]; rfl
    obtain⟨o,n,e1,n1,n2,O4⟩:=gap_apart A2.o V;simp only at e1 n2 O4;have N3:ft<=1048576:=by
     have hv:=F.o.vp;revert hv V;simp only;cases fp with
     | nil=>intro h; exact absurd rfl h
     | cons p r=>intro _ h; exact(QS h).2.2.2.2
    have D1:0<fp.length:=bJ.2 V;have L5:(fp.length:Int)<=1048577:=(P6 F.o.vp).1;have J8:decide ((0:Int)<(fp.length:Int))=true:=Zu D1;have K0:∀h:1<(reqM ⟨fx,fw,fc,fi,ft,fp,fa,false⟩).length,(reqM ⟨fx,fw,fc,fi,ft,fp,fa,false⟩)[1]=⟨3,fi,(o:Int),(n:Int),[],[]⟩:=by
     unfold reqM;rw[if_neg V];intro h;simp only[bK,aS];unfold Vd;simp only;rw[e1]
    obtain⟨b0,o0,da,cd,L4,J1,z0,z1,q2,q3,z4,z5,z6⟩:=F7.o 1 (by rw[B2]; decide);rw[K0] at q2 q3;clear z0 z1 z4 z5 z6;simp only[Nat.one_mul] at q2 q3;subst L4;obtain⟨F9,F8,E5⟩:=Yk F.o.hq (vParts_all F.o.vp) O4;have N4:IntKind.i64.wrap ((o:Int)+n)=(o:Int)+n:=ZV;rw[B2];obtain⟨c0,c1,c2,c3,c4,c5,c6,c7⟩:=BK.c8 Y.o;obtain⟨Q2,Q3⟩:=Yj q2 q3;simp only at F9 F8;obtain⟨np,G6⟩:=Qe fp.length;rw[<-G6] at c5 L5 J8 D1;have H7:=Qf G6;clear B2 K0 F7 e1 O4 q2 q3 G6 V;go_wp2_with fail;clear c0 c1 c2 c3 c4 c5 c6 c7;go_loopw [91] (fun i wj=>∃j:Nat,j<=np/\i=Yi j/\Qg (PM u8 wj)) (fun i _=>np-(intOf i).toNat)
    case atStart=>exact⟨0,Zo,rfl,Qf (bf _)⟩
    case round=>
     obtain⟨j,hj,rfl,P⟩:=hrel;by_cases M8:j<np
     ·have L3:(j:Int)<(np:Int):=Zo;have h1:j<fp.length:=Zh H7.o;obtain⟨b1,o1,L2,E1,p0,p1⟩:=(F9.o.below P.out nr) j h1;have D0:=E5.o _ (ak h1);have G7:=F8.o _ (ak h1);generalize fp[j]=pp at p0 p1 D0 G7;obtain⟨px,pd⟩:=pp;simp only at p0 p1 D0 G7;subst L2;have N1:=bH pd;have N5:IntKind.i64.wrap (px+(pd.length:Int))=px+(pd.length:Int):=ZV;obtain⟨v,hv⟩:=Qe (wr.alloc (.cells #[Yi px,pd] 78));have A6:PM wr v:=hv▸(bf _).alloc nr _;have E2:=P.out.trans (A6.mono P.out.size);have m2:=(E2.cell (p:=⟨b0,o0+6+2,none⟩) J1).trans Q2.o;have m3:=(E2.cell (p:=⟨b0,o0+6+3,none⟩) J1).trans Q3.o;have J0:BK wr.heap.size #[Yi px,pd] 78 v:=hv▸BK.new _ _ _;obtain⟨k0,k1⟩:=BK.c2 J0;have K:Qg (PM u8 v.drew):=Qf E2.drew;rw[hv] at m2 m3 k0 k1 K;clear hv A6 E2 J0 h1 G7;by_cases h2:px<(o:Int)+n
      ·have h3:¬(o:Int)<px+(pd.length:Int):=fun h=>D0 ⟨h2,h⟩
       have d2:decide (px<(o:Int)+n)=true:=Zu h2;have d3:decide ((o:Int)<px+(pd.length:Int))=false:=Zu h3;clear D0 h2 h3;go_wp2_with fail;go_region;go_wp2_with fail;go_roundw
       case rel=>exact⟨j+1,Zo,Zg,K⟩
       case measure=>simp[intOf] <;> omega
      ·have d2:decide (px<(o:Int)+n)=false:=Zu h2;clear D0 h2;go_wp2_with fail;go_region;go_wp2_with fail;go_roundw
       case rel=>exact⟨j+1,Zo,Zg,K⟩
       case measure=>simp[intOf] <;> omega
     ·have L3:¬(j:Int)<(np:Int):=Zo;obtain⟨wz,K2⟩:=Qe wr;rw[<-K2] at P ⊢;obtain⟨Y,Z,S,E,F⟩:=Ym (Y.o.below P.out) (Z.o.below P.out) (S.o.trans (P.out.mono S.o.size)) (E.o.trans (P.out.mono E.o.size)) (F.o.below P.out);clear K2 P F9 F8 E5 Q2 Q3 H7 J8;have D:=Qf (HT.o.sv ⟨fx,fw,fc,fi,ft,fp,fa,false⟩ wz A2.o E.o);rw[<-C2.o] at D;obtain⟨SS,A4⟩:=Qe ((servM T (Ux T) sz.toNat ⟨fx,fw,fc,fi,ft,fp,fa,false⟩).flatMap O9);have C4:=Qf A4;rw[<-A4] at D;obtain⟨x0,x1,x2,x3,x4,x5⟩:=BK.c6 Z.o;clear A4;go_wp2_with fail;refine D.o.mono ?_;rintro e u9 ⟨rfl,B⟩;obtain⟨U,C5,K,I,D⟩:=Ym (Y.o.below B) (Z.o.below B) (S.o.trans (B.mono S.o.size)) (E.o.trans (B.mono E.o.size)) (HT.o.rc (N-(k+1)) ⟨fx,fw,fc,fi,ft,fp,fa,false⟩ ⟨H2,I8,K6,L0,H0,H1,K4,K5⟩ sb u9 D8.o rfl (F.o.below B));rw[<-C4.o] at D;clear B x0 x1 x2 x3 x4 x5 Y Z S E F C4 C2 A2 D8;obtain⟨c0,c1,c2,c3,c4,c5,c6,c7⟩:=BK.c8 U.o;go_wp2_with fail;refine D.o.mono ?_;rintro e u5 ⟨⟨⟨mx,mw,mc,mi,mt,mp,G3,md⟩,⟨B8,C6,E3,F0,A8,B4,D6,E0⟩,P4,rfl,D3,D2⟩,H⟩;simp only;obtain⟨v6,O⟩:=Qe (u5.alloc (.cells #[.slice B8 mx.length C6,.slice E3 mw.length F0,.slice A8 mc.length B4,Yi mi,Yi mt,.slice D6 mp.length E0,.bool G3,.bool md] 34));have A5:PM u5 v6:=O▸(bf _).alloc nr _;have C:=H.trans (A5.mono H.size);have J:=U.o.below C;have C9:BK u5.heap.size #[.slice B8 mx.length C6,.slice E3 mw.length F0,.slice A8 mc.length B4,Yi mi,Yi mt,.slice D6 mp.length E0,.bool G3,.bool md] 34 v6:=O▸BK.new _ _ _;obtain⟨v7,X⟩:=Qe ((((((((v6.setCell sb (.slice B8 mx.length C6)).setCell ⟨sb,1,none⟩ (.slice E3 mw.length F0)).setCell ⟨sb,2,none⟩ (.slice A8 mc.length B4)).setCell ⟨sb,3,none⟩ (Yi mi)).setCell ⟨sb,4,none⟩ (Yi mt)).setCell ⟨sb,5,none⟩ (.slice D6 mp.length E0)).setCell ⟨sb,6,none⟩ (.bool G3)).setCell ⟨sb,7,none⟩ (.bool md));have C7:BK sb #[.slice B8 mx.length C6,.slice E3 mw.length F0,.slice A8 mc.length B4,Yi mi,Yi mt,.slice D6 mp.length E0,.bool G3,.bool md] 34 v7:=X▸((((((((J.set 0 _).set 1 _).set 2 _).set 3 _).set 4 _).set 5 _).set 6 _).set 7 _);have M:v6.grownBy v7 (some sb):=X▸fM (fM (fM (fM (fM (fM (fM (dN _ _ _ _) _ _) _ _) _ _) _ _) _ _) _ _) _ _;have C1:Qg (∃s A,LoopGa xs G8 M3 T #[.slice ha nx hc,.slice ya ny yc,.slice wa nw wc,.slice ca nc cc,.slice ta nt tc,Yi sz] w u3 w.heap.size sb (N-(k+1)) s A v7):=Qf ⟨⟨mx,mw,mc,mi,mt,mp,G3,md⟩,⟨B8,C6,E3,F0,A8,B4,D6,E0⟩,C7,(C5.o.below C).grow1 M (Zh D9.o),(((D3.kind (Tw (U.o.below H))).below A5).grown M),D2,(K.o.trans (C.mono K.o.size)).grown M (aC K.o.size C.size) (fun k e=>by cases e; exact Nat.le_of_lt D9.o),(I.o.trans (C.mono I.o.size)).grown M (aC I.o.size C.size) (fun k e=>by cases e; exact H9.o)⟩;obtain⟨r0,r1,r2,r3,r4,r5,r6,r7⟩:=BK.c8 J;obtain⟨N2,N7,N8,N9,O0,O1,O2,O3⟩:=BK.f8 (J);obtain⟨x0,x1,x2,x3,x4,x5,x6,x7⟩:=BK.c8 C9;rw[O] at r0 r1 r2 r3 r4 r5 r6 r7 N2 N7 N8 N9 O0 O1 O2 O3 x0 x1 x2 x3 x4 x5 x6 x7;rw[X,O] at C1;clear c0 c1 c2 c3 c4 c5 c6 c7 O A5 C J C9 X C7 M D3 D2 H D U C5 K I;go_wp2_with fail;go_roundw
      case rel=>exact⟨k+1,Zo,Zg,C1⟩
      case measure=>simp[intOf] <;> omega
  ·have L1:fd=true:=by
    cases fd with
    | true=>rfl
    | false=>
     have h0:N-k=0:=by
      rcases gB k N with h1 | h1
      ·exact absurd ⟨h1,rfl⟩ hc
      ·omega
     have h1:=HR.o;rw[h0] at h1;exact rn_zero h1
   subst L1;obtain⟨c0,c1,c2,c3,c4,c5,c6,c7⟩:=BK.c8 HK.o;have HA:=Qf (B5.o wq);by_cases J2:k<N
   ·have I9:(k:Int)<(N:Int):=Zo;go_wp2_with fail;refine HA.o.mono ?_;rintro e ux ⟨rfl,B⟩;have HF:=Qf (HG.o ux (HB.o.trans (B.mono HB.o.size)));clear B;go_wp2_with fail;exact HF.o
   ·have I9:¬(k:Int)<(N:Int):=Zo;go_wp2_with fail;refine HA.o.mono ?_;rintro e ux ⟨rfl,B⟩;have HF:=Qf (HG.o ux (HB.o.trans (B.mono HB.o.size)));clear B;go_wp2_with fail;exact HF.o
