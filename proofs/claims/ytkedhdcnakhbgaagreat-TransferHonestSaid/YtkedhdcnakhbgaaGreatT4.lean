/- Lemmas. -/
import Derived.Test.YtkedhdcnakhbgaaGreatP10
import Derived.Test.YtkedhdcnakhbgaaGreatG5
import Derived.Test.YtkedhdcnakhbgaaGreatG6
import Derived.Test.YtkedhdcnakhbgaaGreatT1
import Derived.Test.YtkedhdcnakhbgaaGreatW3
import Derived.Test.YtkedhdcnakhbgaaGreatT2
import Derived.Test.YtkedhdcnakhbgaaGreatT3
set_option linter.unusedSimpArgs false
set_option maxRecDepth 100000
set_option maxHeartbeats 16000000
namespace Go.Proofs.YtkedhdcnakhbgaaGreat
open Go.RowKit
set_option linter.unusedVariables false
variable {x:Fet}{id pid size:Int}{d:Int×Int}{base:List Dg}{M Q X Y Z ms xs:List Itm}{m:Msg}{f mc sz t:Nat}{seen:Nat->Prop}{ma:Qa}{D T:Qb}{l want:Qd}{s:Ses}{A:Sz}{W W' v w:World}
structure Sup (X Z:List Itm):Prop where
 ax:Asc X
 az:Asc Z
 sub:∀y∈X,y∈Z
theorem VS(F:Asc X){x:Itm}(H:x∈X):I7 X x.d=true:=by
 obtain⟨k,E,B⟩:=aV H;have C:At X x.d k:=⟨Zo,fun j D h=>by
  have A:=F j k D E h;rw[B] at A;exact A,fun j D h=>by
  rcases gB k j with A | A
  ·have G:=F k j E D A;rw[B] at G;have I:=iZ (a:=x.d) (b:=X[j].d);omega
  ·obtain rfl:j=k:=Zo;rw[B,fO]
   decide⟩
 have A:=C.eq;unfold I7 qw;rw[<-A,List.getElem?_eq_getElem E,B];simp
theorem U8(h:Asc xs):xs.Nodup:=by
 rw[List.nodup_iff_pairwise_ne,List.pairwise_iff_getElem];intro i j C D A e;have B:=h i j C D A;rw[e,fO] at B;omega
theorem Sup.get(h:Sup X Z)(A:(dW X d).2=0):dW Z d=dW X d:=by
 obtain⟨x,C,rfl,B⟩:=oW A;rw[<-B]; exact Lh h.az (h.sub x C)
theorem Sup.com(h:Sup X Z)(B:(aF X d).2=0):aF Z d=aF X d:=by
 have A:=(Ba B).1;unfold aF;rw[h.get A]
theorem Sup.rch(h:Sup X Z)(G:(dh X l).2=[])(d:Int×Int):Rch Z l d↔Rch X l d:=by
 obtain⟨_,_,g⟩:=gW X l;have F:∀x,Rch X l x->(dW X x).2=0:=fun x H=>Classical.byContradiction fun e=>by
  have:=(g x).2.2 ⟨H,e⟩;rw[G] at this; cases this
 constructor
 ·intro E;induction E with
  | root C A=>exact .root C A
  | link _ A B D ih=>rw[h.get (F _ ih)] at B; exact .link ih (F _ ih) B D
 ·intro E;induction E with
  | root C A=>exact .root C A
  | link _ A B D ih=>exact .link ih (by rw[h.get A]; exact A) (by rw[h.get A]; exact B) D
theorem Sup.reach(h:Sup X Z)(B:(dh X l).2=[]):dh Z l=dh X l:=by
 obtain⟨a1,a2,g⟩:=gW X l;obtain⟨b1,b2,q⟩:=gW Z l;have A:∀x,Rch X l x->(dW X x).2=0:=fun x C=>Classical.byContradiction fun e=>by
  have:=(g x).2.2 ⟨C,e⟩;rw[B] at this; cases this
 refine Prod.ext (yT b1 a1 fun x=>?_) (yT b2 a2 fun x=>?_)
 ·rw[(q x).1,(g x).1,h.rch B x];exact⟨fun e=>⟨e.1,A _ e.1⟩,fun e=>⟨e.1,by rw[h.get e.2]; exact e.2⟩⟩
 ·rw[(q x).2,(g x).2,h.rch B x];exact⟨fun e=>absurd (by rw[h.get (A _ e.1)]; exact A _ e.1) e.2,fun e=>absurd (A _ e.1) e.2⟩
theorem Sup.has(h:Sup X Z)(A:I7 X d=true):I7 Z d=true:=by
 obtain⟨x,B,rfl⟩:=QE A;exact VS h.az (h.sub x B)
theorem QW(A:PV X l=true):(∀d∈l,I7 X d=true)/\(dh X l).2=[]:=by
 unfold PV at A;rw[Bool.and_eq_true,P5,decide_eq_true_eq] at A;exact A
theorem Sup.dat(h:Sup X Z)(B:I7 X d=true):gL Z d=gL X d:=by
 obtain⟨x,A,rfl⟩:=QE B;rw[TV h.ax A,TV h.az (h.sub x A)]
theorem TY{X:List Itm}:∀(l:Qd),(∀d∈l,(aF X d).2=0)->vI X l=0
 | [],_=>rfl
 | d::l,h=>by
  rw[vI,if_neg (by simp[h d Zs])];exact TY l (fun x A=>h x (Zj A))
theorem U5{xs:List Itm}:∀(l met:Qd),QR xs met l=0->∀d∈l,(aF xs d).2=0
 | [],_,_,d,D=>by cases D
 | d::l,met,h,x,B=>by
  rw[QR] at h;by_cases A:(aF xs d).2=0
  ·rw[if_neg (Zj A)] at h;have F:∃E,QR xs E l=0:=by
    split at h
    ·exact⟨_,h⟩
    ·split at h
     ·cases h
     ·exact⟨_,h⟩
   obtain⟨m2,C⟩:=F;rcases List.mem_cons.1 B with rfl | B
   ·exact A
   ·exact U5 l m2 C x B
  ·rw[if_pos A] at h;exact absurd h A
def Ug(X:List Itm)(want com:Qd):Qd:=(dh X want).1.filter fun d=>!decide (d∈(dh X com).1)
theorem UK{com:Qd}(A:∀d∈want++com,(aF X d).2=0)(B:(dh X want).2=[]):M6 X want com=(Ug X want com,0):=by
 unfold M6 Ug;rw[if_neg (by simp[TY _ A]),if_neg (Zn B)]
theorem TP{tx ty:Dg->Nat}:∀(cs:List Dg) (m:Nat) (r:Option Dg),(∀c∈cs,tx c=ty c)->xS tx cs m r=xS ty cs m r
 | [],_,_,_=>rfl
 | c::cs,m,r,h=>by
  have A:=fun m r=>TP cs m r (fun x B=>h x (pM _ B))
  rw[xS,xS,h c P9,A,A]
theorem Sn{tx:Dg->Nat}:∀(cs:List Dg) (m:Nat) (r:Option Dg) (d:Dg),xS tx cs m r=some d->d∈cs\/r=some d
 | [],_,_,_,h=>.inr h
 | c::cs,m,r,d,h=>by
  rw[xS] at h;split at h
  ·rcases Sn cs _ _ d h with h | h
   ·exact .inl (pM _ h)
   ·cases h; exact .inl P9
  ·rcases Sn cs _ _ d h with h | h
   ·exact .inl (pM _ h)
   ·exact .inr h
theorem U3{α β:Type}{f g:α->List β}:∀(l:List α),(∀x∈l,f x=g x)->l.flatMap f=l.flatMap g
 | [],_=>rfl
 | x::l,h=>by rw[bR,bR,h x Zs,U3 l (fun y A=>h y (Zj A))]
theorem Vq{l:List Dg}(h:∀d∈l++base,gL Z d=gL X d):Ih Z l base=Ih X l base:=by
 unfold Ih;congr 1;have G:∀i∈List.range l.length,VU Z l base i=VU X l base i:=fun i F=>by
  have B:i<l.length:=List.mem_range.1 F;have E:l.getD i (0,0)∈l:=by rw[List.getD_eq_getElem?_getD,List.getElem?_eq_getElem B]; exact ak B
  unfold VU;have D:∀c∈base++l.take i,c∈l++base:=fun c A=>by
   rcases aD.1 A with A | A
   ·exact aD.2 (.inr A)
   ·exact aD.2 (.inl (dK A))
  generalize l.getD i (0,0)=d at E;have e0:=h d (aD.2 (.inl E));have e1:∀c∈base++l.take i,txS Z d c=txS X d c:=fun c A=>by unfold txS; rw[e0,h c (D c A)]
  have e2:QK Z d (base++l.take i)=QK X d (base++l.take i):=by
   unfold QK;rw[e0];exact TP _ _ _ (fun c A=>by rw[e1 c A])
  rw[e2];unfold Ph;cases A:QK X d (base++l.take i) with
  | none=>simp only; rw[e0]
  | some c=>
   simp only;have:c∈base++l.take i:=by
    unfold QK at A;rcases Sn _ _ _ c A with C | C
    ·exact C
    ·cases C
   rw[e1 c this]
 exact U3 _ G
theorem VQ{X:List Itm}:∀(l E:List Dg),(∀d∈l,I7 X d=true/\d∉E)->l.Nodup->pkE X l E=0
 | [],_,_,_=>rfl
 | d::l,E,h,D=>by
  obtain⟨B,C⟩:=h d Zs;rw[pkE,if_neg (Zj B),if_neg C];obtain⟨n1,n2⟩:=List.nodup_cons.1 D;refine VQ l _ (fun x A=>⟨(h x (Zj A)).1,fun e=>?_⟩) n2;rcases aD.1 e with e | e
  ·exact(h x (Zj A)).2 e
  ·rw[aH.1 e] at A; exact n1 A
theorem Sq{l:List Dg}(B:∀d∈l++base,I7 X d=true)(C:l.Nodup)(D:l.length<=1000):Cs X l base=0:=by
 unfold Cs bsE;rw[if_neg Zo,if_neg (by rw[VQ l [] (fun d A=>⟨B d (Zj A),Zs⟩) C]; simp),if_pos (P5.2 fun d A=>B d (Zj A))]
theorem Sup.pack(h:Sup X Z){l:List Dg}(A:∀d∈l++base,I7 X d=true)(E:l.Nodup)(D:l.length<=1000):zP Z l base=zP X l base/\zP X l base=(BX (Ih X l base),0):=by
 have e1:=Sq A E D;have e2:=Sq (X:=Z) (fun d B=>h.has (A d B)) E D;have C:zP X l base=(BX (Ih X l base),0):=by unfold zP; rw[if_neg (by simp[e1])]
 refine⟨?_,C⟩;rw[C];unfold zP;rw[if_neg (by simp[e2]),Vq (fun d B=>h.dat (A d B))]
theorem S9(C:d∈(dh X l).1)(B:Asc X):I7 X d=true:=by
 have A:=(((gW X l).2.2 d).1.1 C).2;obtain⟨x,D,rfl,_⟩:=oW A;exact VS B D
theorem SF(D:Asc X){com:Qd}:(∀d∈Ug X want com++(dh X com).1,I7 X d=true)/\(Ug X want com).Nodup/\(Ug X want com).length<=X.length:=by
 have B:∀d∈Ug X want com,I7 X d=true:=fun d A=>S9 (QJ.1 A).1 D
 have E:(dh X want).1.Nodup:=(gW X want).1.imp (fun {a b} h e=>by
  subst e;rw[fO] at h
  omega)
 have C:(Ug X want com).Nodup:=E.filter _;refine⟨fun d A=>?_,C,?_⟩
 ·rcases aD.1 A with A | A
  ·exact B d A
  ·exact S9 A D
 ·have F:=C.length_le_of_subset (l₂:=X.map (·.d)) (fun d A=>by
   obtain⟨x,G,rfl⟩:=QE (B d A);exact List.mem_map_of_mem G)
  rwa[fC] at F
def shM(n f:Nat)(m:Msg):Msg:=⟨m.kind,m.id,m.off+f,n,m.ds,m.data⟩
def V5(id:Int)(D:Qb)(f t sz:Nat):List Msg:=(Rn id ((D.drop f).take (t-f)) sz).map (shM D.length f)
theorem Tz(h:m.why=0):Qc m=(O9 m,0):=by unfold Qc; rw[if_pos h]
theorem TN{n f:Nat}:∀(ms:List Msg) (C:Qb),(∀m∈ms,(shM n f m).why=0)->Rz n f ms C=(C++(ms.map (shM n f)).flatMap O9,0)
 | [],C,_=>by simp[Rz]
 | m::ms,C,h=>by
  have A:=Tz (h m Zs);unfold shM at A;rw[Rz,A,if_neg Zs,TN ms _ (fun x B=>h x (Zj B)),eX,bR,ay];rfl
theorem UW(hs:1<=sz)(h:m∈Rn id D sz):∃a,a<D.length/\m=part id D sz a:=by
 unfold Rn at h;obtain⟨i,A,rfl⟩:=bV.1 h;rw[List.mem_range,Nat.lt_div_iff_mul_lt Zo] at A;exact⟨i*sz,Zo,rfl⟩
theorem Vn(hs:1<=sz)(E:t<=D.length)(h:m∈V5 id D f t sz):∃a:Nat,f<=a/\a<t/\m=⟨2,id,(a:Int),D.length,[],(D.drop a).take (min sz (t-a))⟩:=by
 unfold V5 at h;obtain⟨m',A,rfl⟩:=bV.1 h;obtain⟨a,B,rfl⟩:=UW hs A;have C:a<t-f:=by
  rw[aA,ah] at B;omega
 refine⟨a+f,Zo,Zo,?_⟩;unfold shM part;simp only[List.drop_take,eY,List.take_take];rw[show min sz (t-f-a)=min sz (t-(a+f)) by omega,show f+a=a+f by omega];simp
theorem TM(A:0<=id)(B:id<=1099511627776)(hs:1<=sz)(E:sz<=65536)(F:t<=D.length)(I:D.length<=1048576):∀m∈V5 id D f t sz,m.why=0/\m.ds=[]:=fun m C=>by
 obtain⟨a,G,H,rfl⟩:=Vn hs F C;refine⟨VJ A B ?_,rfl⟩;unfold vM v2;simp only[aA,ah,aK];simp;omega
theorem WW(C:0<=id)(E:id<=1099511627776)(hs:1<=size)(J:size<=65536)(G:f<t)(K:t<=D.length)(F:D.length<=1048576):
  Uw id D f t size=((V5 id D f t size.toNat).flatMap O9,0)/\V5 id D f t size.toNat≠[]:=by
 have H:((D.drop f).take (t-f)).length=t-f:=by rw[aA,ah]; omega
 have A:ww id ((D.drop f).take (t-f)) size=(Rn id ((D.drop f).take (t-f)) size.toNat,0):=by
  unfold ww;rw[if_neg Zo,if_neg Zo]
 have L:=TM (f:=f) C E (sz:=size.toNat) Zo Zo K F;constructor
 ·unfold Uw;rw[A,if_neg Zs,TN _ _ (fun m I=>(L (shM D.length f m) (List.mem_map_of_mem I)).1)];rfl
 ·intro e;have B:=congrArg List.length e;unfold V5 Rn at B;simp only[fC,List.length_range,aK,H] at B;have M:0<(t-f+size.toNat-1)/size.toNat:=Nat.div_pos Zo Zo;omega
theorem U2(m:Msg):O9 m≠[]:=fun e=>by
 have:=congrArg List.length e;rw[QP] at this;simp at this
theorem Wn{ms:List Msg}(h:ms≠[]):ms.flatMap O9≠[]:=by
 cases ms with
 | nil=>exact absurd rfl h
 | cons m ms=>
  rw[bR];intro e;exact U2 m (List.append_eq_nil_iff.1 e).1
theorem Si{com:Qd}(h:want.length+com.length<=1000):(PX want com).why=0:=by
 refine VJ (by unfold PX; simp) (by unfold PX; simp) ?_;unfold vM PX;simp;omega
theorem We{ds:Qd}(h:∀d∈ds,OkD d):WG ds:=fun d A=>by
 have:=h d A;unfold OkD Ku at this;omega
theorem UN{com:Qd}{tot:Int}{a:Bool}(h:want.length+com.length<=1000):Rx ⟨xs,want,com,id,tot,[],a,false⟩=(O9 (PX want com),0):=by
 unfold Rx;rw[if_neg Zs,Tz (Si h),if_neg Zs,if_pos (.inl rfl)]
theorem UL{com:Qd}(h:want.length+com.length<=1000)(E:∀d∈want,OkD d)(C:∀d∈com,OkD d):BG (O9 (PX want com)) [PX want com] (O9 (PX want com)).length:=by
 have B:=Q4 [PX want com] (fun m D=>by
  rw[aH.1 D];exact⟨Si h,We (fun d A=>by
   rcases aD.1 A with A | A
   ·exact E d A
   ·exact C d A)⟩)
 simpa using B
open Go.RowKit Go.Shelf
def Tp(X:List Itm)(want com:Qd):Qb:=BX (Ih X (Ug X want com) (dh X com).1)
def rplM(X:List Itm)(want com:Qd)(size:Int):List Msg:=V5 (Ux (Tp X want com)) (Tp X want com) 0 (Tp X want com).length size.toNat
def Xr(X:List Itm)(want com:Qd)(size:Int):Qb:=(rplM X want com size).flatMap O9
theorem UV(T:Qb):0<=Ux T/\Ux T<=1099511627776:=by unfold Ux; omega
theorem UF(D:Asc X)(F:X.length<=40)(E:∀x∈X,x.data.length<=1000)(want com:Qd):0<(Tp X want com).length/\(Tp X want com).length<=1048576:=by
 obtain⟨f1,f2,f3⟩:=SF D (want:=want) (com:=com);have B:=Sq f1 f2 Zo;have A:=Vp E (Ug X want com) (dh X com).1;have C:zP X (Ug X want com) (dh X com).1=(Tp X want com,0):=by unfold zP Tp; rw[if_neg (Zj B)]
 rw[C] at A;simp only at A;refine⟨?_,Zo⟩;unfold Tp BX;rw[af,bX];omega
theorem txt_len2(D:Asc X)(F:X.length<=40)(E:∀x∈X,x.data.length<=1000)(want com:Qd):(Tp X want com).length<=65536:=by
 obtain⟨f1,f2,f3⟩:=SF D (want:=want) (com:=com);have B:=Sq f1 f2 Zo;have A:=Vp E (Ug X want com) (dh X com).1;have C:zP X (Ug X want com) (dh X com).1=(Tp X want com,0):=by unfold zP Tp; rw[if_neg (Zj B)]
 rw[C] at A;simp only at A;omega
theorem SN(B:Asc X)(E:X.length<=40)(C:∀x∈X,x.data.length<=1000){want com:Qd}(A:1<=size)(F:size<=1000):
  Uw (Ux (Tp X want com)) (Tp X want com) 0 (Tp X want com).length size=(Xr X want com size,0)/\rplM X want com size≠[]/\∀m∈rplM X want com size,m.why=0/\m.ds=[]:=by
 obtain⟨l0,l1⟩:=UF B E C want com;obtain⟨p0,p1⟩:=UV (Tp X want com);obtain⟨r1,r2⟩:=WW (D:=Tp X want com) (f:=0) (t:=(Tp X want com).length) p0 p1 A Zo l0 nr l1;exact⟨r1,r2,TM p0 p1 Zo Zo nr l1⟩
theorem Uh{X P:List Itm}(hs:Sup X P)(T:X.length<=40)(E:∀x∈X,x.data.length<=1000){want com:Qd}(U:∀d∈want++com,(aF X d).2=0)(Y:(dh X want).2=[])(L:(dh X com).2=[])(okw:∀d∈want,OkD d)(okc:∀d∈com,OkD d)(lw:want.length<=6)(lc:com.length<=6){size:Int}(S:1<=size)(Z:size<=1000)
  (a:Qa) (c:Nat) (w:World) (V:jQ w a P c) (Q:P.length<=90) (C:∀x∈P,OkD x.d/\x.data.length<=1000) :
  Qh 21 #[.slice a P.length c,(O9 (PX want com)),Yi size] w (Xz (.tuple #[(Xr X want com size),Yi 0]) w):=by
 obtain⟨f1,f2,f3⟩:=SF hs.ax (want:=want) (com:=com);obtain⟨g1,g2,g3⟩:=SN hs.ax T E (want:=want) (com:=com) S Z;obtain⟨l0,l1⟩:=UF hs.ax T E want com;obtain⟨q1,q2⟩:=hs.pack f1 f2 Zo;have J:=hs.reach Y;have I:=hs.reach L;have R:M6 P want com=(Ug X want com,0):=by
  rw[UK (fun d B=>by rw[hs.com (U d B)]; exact U d B) (J▸Y)];unfold Ug;rw[J,I]
 have N:∀d∈want++com,OkD d:=fun d B=>by
  rcases aD.1 B with B | B
  ·exact okw d B
  ·exact okc d B
 have O:Pt P c:=⟨hs.az,fun x D=>(C x D).1,fun x D=>(C x D).2,Zo,V.cap⟩;have H:∀{l:Qd},(∀d∈l,I7 X d=true)->∀d∈l,OkD d:=fun M d B=>by
  obtain⟨x,D,rfl⟩:=QE (M d B);exact(C x (hs.sub x D)).1
 have G:=QY (PX want com);rw[Tz (Si Zo)] at G;simp only at G;have A2:(dh X com).1.length<=X.length:=by
  have K:(dh X com).1.Nodup:=(gW X com).1.imp (fun {a b} h e=>by
   subst e;rw[fO] at h
   omega)
  have h3:=K.length_le_of_subset (l₂:=X.map (·.d)) (fun d B=>by
   obtain⟨x,D,rfl⟩:=QE (f1 d (aD.2 (.inr B)));exact List.mem_map_of_mem D)
  rwa[fC] at h3
 have ht:(want++com).take want.length=want:=List.take_left;have F:(want++com).drop want.length=com:=qL;have A0:=SG a P c (O9 (PX want com)) size w want.length (O9 (PX want com)).length 0 (want++com) (Ug X want com) (dh X com).1 (Tp X want com) V hs.az Q (UL Zo okw okc) rfl Zo Zs N (Zy af) S Zo (by rw[ht,F]; exact R) (by rw[F,I]) Zo
  (fun la A1 ba bc W hi M hb=>by
   have K:=PG O hi M hb (H (fun d B=>f1 d (aD.2 (.inl B)))) (H (fun d B=>f1 d (aD.2 (.inr B)))) (lc:=A1) (bc:=bc) Zo Zo;rw[q1,q2] at K;exact K)
 rw[g1] at A0;exact A0
theorem VV{xs:List Itm}:∀(l met:Qd),(∀d∈l,(aF xs d).2=0)->(∀d∈l,(dh xs [d]).2=[])->QR xs met l=0
 | [],_,_,_=>by rw[QR]
 | d::l,met,B,C=>by
  have g:=fun m=>VV l m (fun x A=>B x (Zj A)) (fun x A=>C x (Zj A))
  rw[QR,if_neg (by simp[B d Zs])];split
  ·exact g _
  ·rw[if_neg (by simp[C d Zs])];exact g _
theorem SY(h:(dh xs l).2=[])(H:d∈l):(dh xs [d]).2=[]:=by
 obtain⟨_,_,g⟩:=gW xs l;obtain⟨_,_,q⟩:=gW xs [d];refine List.eq_nil_iff_forall_not_mem.2 (fun y I=>?_);obtain⟨B,C⟩:=(q y).2.1 I;have D:∀z,Rch xs [d] z->Rch xs l z:=fun z J=>by
  induction J with
  | root E A=>exact .root (by rw[aH.1 E]; exact H) A
  | link _ A F G ih=>exact .link ih A F G
 have:=(g y).2.2 ⟨D y B,C⟩;rw[h] at this;cases this
theorem TZ(hs:Sup X Z){com:Qd}(h:(Qm X want com).2=0)(D:(dh X com).2=[])(F:want.length<=6/\com.length<=6):Qm Z want com=(⟨Z,want,com,0,0,[],false,PV Z want⟩,0)/\∀d∈com,(aF X d).2=0:=by
 have C:¬(1000:Int)<(want.length:Int)+com.length:=Zo;have E:QR X [] com=0:=Classical.byContradiction fun e=>by
  unfold Qm at h;rw[if_neg C,if_pos e] at h;exact e h
 have B:=U5 com [] E;refine⟨Sy C (VV com [] (fun d A=>by rw[hs.com (B d A)]; exact B d A) (fun d A=>?_)),B⟩;rw[hs.reach (SY D A)];exact SY D A
structure RpX (x:Fet) (A:Sz) (ms:List Itm) (ma:Qa) (mc:Nat) (R:Ses) (k:Int) (E:QF) (L1 L2:List Itm) (e1 e2:Int) (w:World):Prop where
 b1:∀W,PM w W->Qh 12 #[.slice A.ha x.xs.length A.hc,.slice A.wa x.want.length A.wc,.slice A.ca x.com.length A.cc] W (Xz (.tuple #[R.val E,Yi k]) W)
 u1:∀W,PM w W->Qh 34 #[.slice A.ya x.ys.length A.yc,.slice ma ms.length mc] W fun e w'=>(∃a c,e=.returned (.tuple #[.slice a L1.length c,Yi e1])/\Its w'.heap.size w' a L1/\L1.length<=c)/\PM W w'
 u2:∀W,PM w W->Qh 34 #[.slice A.ha x.xs.length A.hc,.slice ma ms.length mc] W fun e w'=>(∃a c,e=.returned (.tuple #[.slice a L2.length c,Yi e2])/\Its w'.heap.size w' a L2/\L2.length<=c)/\PM W w'
 c1:e1=0->∀a c W,Its W.heap.size W a L1->Qh 38 #[.slice a L1.length c] W fun e w'=>(∃b,e=.returned (.bool b))/\PM W w'
 c2:e2=0->∀a c W,Its W.heap.size W a L2->Qh 38 #[.slice a L2.length c] W fun e w'=>(∃b,e=.returned (.bool b))/\PM W w'
theorem QT(D:Asc X)(E:Asc M)(h:(QU X M).2=0):Sup X (QU X M).1/\∀y∈(QU X M).1,y∈X\/y∈M:=by
 rcases TL D E with⟨A,_⟩ | ⟨zs,A,B⟩
 ·rw[A] at h; cases h
 ·rw[A];exact⟨⟨D,B.asc,fun y C=>(B.mem y).2 (.inl C)⟩,fun y C=>(B.mem y).1 C⟩
theorem Sl(D:Asc X)(E:Asc M)(h:(QU X M).2=0):(QU X M).1.length<=X.length+M.length:=by
 obtain⟨A,B⟩:=QT D E h;have C:=(U8 A.az).length_le_of_subset (l₂:=X++M) (fun z F=>aD.2 (B z F))
 rwa[af] at C
theorem rpX(h:PW w x A)(G:QM x)(Q:PZ w ma ms mc)(R:Cr ms=false)(S:mV ms=0):RpX x A ms ma mc (Qm x.xs x.want x.com).1 (Qm x.xs x.want x.com).2 (Uy (Qm x.xs x.want x.com) ⟨A.ha,A.hc,A.wa,A.wc,A.ca,A.cc,none,0⟩) (QU x.ys ms).1 (QU x.xs ms).1 (QU x.ys ms).2 (QU x.xs ms).2 w:=by
 obtain⟨V,K⟩:=RG G.pg;obtain⟨X,P⟩:=RG G.gy;obtain⟨U,J⟩:=RG R;have F:=(PP G.ck).2;have H:=(PP G.ky).2;have D:=(PP S).2;have O:jQ w A.ha x.xs A.hc:=⟨h.h.its,h.h.cap.1,Zo,fun y L=>Zh (K y L)⟩;have lw:=G.lw;have lc:=G.lc;refine⟨fun W C=>Qx A.ha x.xs A.hc A.wa x.want A.wc A.ca x.com A.cc W (O.below C) F (h.w.dig.ahead C) (h.c.dig.ahead C) h.w.ok h.c.ok Zo Zo Zo,fun W C=>?_,fun W C=>?_,fun I a c W N=>?_,fun I a c W N=>?_⟩
 ·exact(Rh A.ya ma x.ys ms A.yc mc W (h.y.its.ahead C) (Q.its.ahead C) Zo Zo).mono (by
   rintro e w' ⟨a,c,rfl,B⟩;exact⟨⟨a,c,rfl,B.1,B.2.1⟩,B.2.2.2⟩)
 ·exact(Rh A.ha ma x.xs ms A.hc mc W (h.h.its.ahead C) (Q.its.ahead C) Zo Zo).mono (by
   rintro e w' ⟨a,c,rfl,B⟩;exact⟨⟨a,c,rfl,B.1,B.2.1⟩,B.2.2.2⟩)
 ·obtain⟨s1,s2⟩:=QT H D I;have T:=Sl H D I;exact(Oi a _ c W N s1.az Zo (fun y L=>by
   rcases s2 y L with E | E
   ·have:=P y E; omega
   ·have:=J y E; omega)).mono (by
   rintro e w' ⟨rfl,M⟩;exact⟨⟨_,rfl⟩,M⟩)
 ·obtain⟨s1,s2⟩:=QT F D I;have T:=Sl F D I;exact(Oi a _ c W N s1.az Zo (fun y L=>by
   rcases s2 y L with E | E
   ·have:=K y E; omega
   ·have:=J y E; omega)).mono (by
   rintro e w' ⟨rfl,M⟩;exact⟨⟨_,rfl⟩,M⟩)
structure RpY (x:Fet) (A:Sz) (R:Ses) (E:QF) (L1 L2:List Itm) (fr rep:Qb) (v:World):Prop where
 rq:∀W,PM v W->Qh 16 #[R.val E] W (Xz (.tuple #[fr,Yi 0]) W)
 s1:∀W,PM v W->Qh 21 #[.slice A.ya x.ys.length A.yc,fr,Yi x.sz] W (Xz (.tuple #[rep,Yi 0]) W)
 s2:∀a c W,Its W.heap.size W a L1->L1.length<=c->Qh 21 #[.slice a L1.length c,fr,Yi x.sz] W (Xz (.tuple #[rep,Yi 0]) W)
 b2:∀a c W,PM v W->Its W.heap.size W a L2->L2.length<=c->Qh 12 #[.slice a L2.length c,.slice A.wa x.want.length A.wc,.slice A.ca x.com.length A.cc] W fun e w'=>(∃R2 E2,e=.returned (.tuple #[Ses.val R2 E2,Yi 0])/\(R2.done=false->∀W',PM w' W'->Qh 16 #[R2.val E2] W' fun e w3=>e=.returned (.tuple #[fr,Yi 0])/\PM W' w3))/\PM W w'
 ne:rep≠[]
theorem rpY(h:PW v x A)(N:QM x)(J:WK x)(hg:Cr ms=false)(hk:mV ms=0)(A8:∀y∈ms,OkD y.d)(k0:(Qm x.xs x.want x.com).2=0)(e1:(QU x.ys ms).2=0)(e2:(QU x.xs ms).2=0)(H:(Qm x.xs x.want x.com).1.done=false):
  ∃fr B8,RpY x A (Qm x.xs x.want x.com).1 (Uy (Qm x.xs x.want x.com) ⟨A.ha,A.hc,A.wa,A.wc,A.ca,A.cc,none,0⟩) (QU x.ys ms).1 (QU x.xs ms).1 fr B8 v:=by
 obtain⟨B7,B0⟩:=RG N.pg;obtain⟨A1,B1⟩:=RG N.gy;obtain⟨B4,V⟩:=RG hg;obtain⟨A6,E⟩:=PP N.ck;obtain⟨A7,C⟩:=PP N.ky;obtain⟨A5,K⟩:=PP hk;have lw:=N.lw;have lc:=N.lc;obtain⟨s1,s2⟩:=QT C K e1;obtain⟨t1,t2⟩:=QT E K e2;obtain⟨r1,r2⟩:=QT E C J.un;have l1:=Sl C K e1;have l2:=Sl E K e2;obtain⟨B9,B5⟩:=QW J.yw;obtain⟨B2,B3⟩:=QW J.yc;obtain⟨C0,A3⟩:=QW J.xc;obtain⟨bv,S⟩:=TZ (Z:=(QU x.xs ms).1) t1 k0 A3 ⟨lw,lc⟩;obtain⟨bx,_⟩:=TZ (Z:=x.xs) ⟨E,E,fun y B=>B⟩ k0 A3 ⟨lw,lc⟩;rw[bx] at H ⊢;simp only at H;rw[H];have T:∀d∈x.want++x.com,(aF x.ys d).2=0:=fun d H=>by
  rcases aD.1 H with H | H
  ·exact J.wc d H
  ·have g1:=r1.com (S d H);obtain⟨y,B,L⟩:=QE (B2 d H);have r3:Sup x.ys (QU x.xs x.ys).1:=by
    rcases TL E C with⟨q1,_⟩ | ⟨zs,q1,q2⟩
    ·have:=J.un; rw[q1] at this; cases this
    ·rw[q1]; exact⟨C,q2.asc,fun y B=>(q2.mem y).2 (.inr B)⟩
   have g2:dW x.ys d=bI y.data:=L▸Lh C B;have g3:(dW x.ys d).2=0:=by rw[g2]; exact(Qp (A7 y B)).1
   have g4:aF x.ys d=aF (QU x.xs x.ys).1 d:=by
    unfold aF;rw[r3.get g3]
   rw[g4,g1];exact S d H
 have I:∀y∈x.ys,OkD y.d/\y.data.length<=1000:=fun y B=>⟨(h.y.dat y B).1,Zh (B1 y B)⟩
 have L:∀y∈x.ys,y.data.length<=1000:=fun y B=>(I y B).2
 have A0:∀(P:List Itm),Sup x.ys P->P.length<=90->(∀y∈P,OkD y.d/\y.data.length<=1000)->∀a c W,Its W.heap.size W a P->P.length<=c->Qh 21 #[.slice a P.length c,(O9 (PX x.want x.com)),Yi x.sz] W (Xz (.tuple #[(Xr x.ys x.want x.com x.sz),Yi 0]) W):=fun P hp A9 X a c W Q O=>
  Uh hp A1 L T B5 B3 h.w.ok h.c.ok lw lc J.z0 J.z1 a c W ⟨Q,O,Zo,fun y B=>Zh ((X y B).2)⟩ A9 X
 have Y:∀{P:List Itm} {pa:Qa} {pc:Nat} {W:World},PQ W ⟨P,x.want,x.com,0,0,[],false,false⟩ ⟨pa,pc,A.wa,A.wc,A.ca,A.cc,none,0⟩ W.heap.size->Qh 16 #[Ses.val ⟨P,x.want,x.com,0,0,[],false,false⟩ ⟨pa,pc,A.wa,A.wc,A.ca,A.cc,none,0⟩] W (Xz (.tuple #[(O9 (PX x.want x.com)),Yi 0]) W):=fun hs=>by
  have R:=Qt _ _ _ _ hs;rw[UN Zo] at R;exact R
 refine⟨O9 (PX x.want x.com),Xr x.ys x.want x.com x.sz,fun W D=>?_,fun W D=>?_,fun a c W Q O=>?_,fun a c W D Q O=>?_,?_⟩
 ·exact Y (sesN D.size D.size (h.h.its.below D nr) h.h.cap.1 N.pg N.ck (h.w.dig.below D nr) (h.c.dig.below D nr) h.w.cap.1 h.c.cap.1 h.w.ok h.c.ok lw lc _)
 ·exact A0 x.ys ⟨C,C,fun y B=>B⟩ Zo I A.ya A.yc W (h.y.its.ahead D) h.y.cap.1
 ·refine A0 _ s1 Zo (fun y B=>?_) a c W Q O;rcases s2 y B with G | G
  ·exact I y G
  ·exact⟨A8 y G,Zh (V y G)⟩
 ·have M:∀y∈(QU x.xs ms).1,y.data.length<=1000:=fun y B=>by
   rcases t2 y B with G | G
   ·have:=B0 y G; omega
   ·have:=V y G; omega
  have A4:∀y∈(QU x.xs ms).1,vg y=0:=fun y B=>by
   rcases t2 y B with G | G
   ·exact A6 y G
   ·exact A5 y G
  have R:=Qx a (QU x.xs ms).1 c A.wa x.want A.wc A.ca x.com A.cc W ⟨Q,O,Zo,fun y B=>Zh (M y B)⟩ t1.az (h.w.dig.ahead D) (h.c.dig.ahead D) h.w.ok h.c.ok Zo Zo Zo;rw[bv] at R;refine R.mono (by
   rintro e w' ⟨rfl,hb⟩;refine⟨⟨_,_,rfl,fun U W' A2=>?_⟩,hb⟩;simp only at U;rw[U];have F:=hb.trans (A2.mono hb.size);have B6:=D.trans (F.mono D.size);exact Y (sesM F.size F.size (Q.below F nr) O Zo M A4 t1.az ((h.w.dig.ahead D).below F nr) ((h.c.dig.ahead D).below F nr) h.w.cap.1 h.c.cap.1 h.w.ok h.c.ok lw lc _))
 ·exact Wn (SN C A1 L J.z0 J.z1).2.1
theorem PZ.below{a:Qa}{c:Nat}(h:PZ W a xs c)(A:PM W W'):PZ W' a xs c:=⟨h.its.ahead A,h.cap,h.dat⟩
theorem PW.ahead(h:PW W x A)(B:PM W W'):PW W' x A:=
 ⟨h.h.below B,h.y.below B,⟨h.w.dig.ahead B,h.w.cap,h.w.ok⟩,⟨h.c.dig.ahead B,h.c.cap,h.c.ok⟩,fun i E=>by
  obtain⟨b,F,e,C,D⟩:=h.t i E;exact⟨b,F,e,aO C B.size,(B.cell (p:=⟨b,F+i,none⟩) C).trans D⟩,h.tl⟩
theorem rpXY(h:PW w x A)(B:QM x)(G:WK x)(F:PZ w ma ms mc)(C:Cr ms=false)(D:mV ms=0):∃R k E L1 L2 e1 e2,RpX x A ms ma mc R k E L1 L2 e1 e2 w/\(k=0->e1=0->e2=0->R.done=false->∃fr I,RpY x A R E L1 L2 fr I w):=
 ⟨_,_,_,_,_,_,_,rpX h B F C D,fun a b c d=>rpY h B G C D (fun y H=>(F.dat y H).1) a b c d⟩
theorem SE(I2:T9)(x:Fet)(A:Sz)(ms:List Itm)(ma:Qa)(mc:Nat)(w:World)(h:PW w x A)(hm:PZ w ma ms mc):
  Qh 9 #[.agg (x.arr A),.slice ma ms.length mc] w (Xz (.bool true) w):=by
 obtain⟨G,hG⟩:∃G:Ending->World->Prop,G=(Xz (.bool true) w):=⟨_,rfl⟩;rw[<-hG];have Q:Qg (∀u,PM w u->G (.returned (.bool true)) u):=Qf (fun u hu=>by rw[hG]; exact⟨rfl,hu⟩);have D2:(ms.length:Int)<=9223372036854775807/\∀y∈ms,(y.data.length:Int)<=9223372036854775807:=by
  have h1:=hm.cap;have h2:=hm.dat;unfold maxLen at h1 h2;exact⟨Zo,fun y hy=>Zh ((h2 y hy).2)⟩
 obtain⟨C,T,O,A3,S,I⟩:=Yn (fun W=>Rt I2 W) (fun W (hW:PM w W)=>Sa x A W (h.ahead hW)) (fun(hf:QM x) W (hW:PM w W)=>Uo x A W (h.ahead hW) hf) (fun W (hW:PM w W)=>Ol ma ms mc W (hm.its.ahead hW) D2.1 D2.2) (fun(hg:Cr ms=false) W (hW:PM w W)=>M7 ma ms mc W (hm.its.ahead hW) (Zh ((RG hg).1)) (fun y hy=>Zh ((RG hg).2 y hy))) (fun(hf:QM x) (hn:WK x) (hg:Cr ms=false) (hk:mV ms=0) W (hW:PM w W)=>rpXY (h.ahead hW) hf hn (hm.below hW) hg hk);clear hG h hm D2;obtain⟨xs,ys,K9,L0,ts,sz⟩:=x;obtain⟨ha,hc,ya,yc,wa,wc,ca,cc,ta,tc⟩:=A;simp only[Fet.arr] at T O ⊢;obtain⟨nx,D9⟩:=Qe xs.length;obtain⟨ny,E0⟩:=Qe ys.length;obtain⟨nw,D8⟩:=Qe K9.length;obtain⟨nc,D6⟩:=Qe L0.length;obtain⟨nm,D7⟩:=Qe ms.length;rw[<-D9,<-E0,<-D8,<-D6] at T O ⊢;rw[<-D7] at A3 S ⊢;generalize ts.length=nt at T O ⊢;obtain⟨F5,C7,C6,C5,F4⟩:=Ym D9 E0 D8 D6 D7;clear D9 E0 D8 D6 D7;generalize Cr ms=g at A3 S I;generalize mV ms=ke at S I;obtain⟨u1,A0⟩:=Qe (w.alloc (.cells #[.slice ha nx hc,.slice ya ny yc,.slice wa nw wc,.slice ca nc cc,.slice ta nt tc,Yi sz] 27));have C9:PM w u1:=A0▸(bf _).alloc nr _;have F8:Qg (BK w.heap.size #[.slice ha nx hc,.slice ya ny yc,.slice wa nw wc,.slice ca nc cc,.slice ta nt tc,Yi sz] 27 u1):=Qf (A0▸BK.new _ _ _);have P:=Qf (T.o u1 C9);rw[A0] at P;obtain⟨C1,F6⟩:=Yj C9 A0;clear A0 C9 T;go_enter Tryz.func9,Tryz.ntmps9;go_wp2_with fail;refine P.o.mono ?_;rintro e u2 ⟨⟨r,rfl,hr⟩,B⟩;rw[<-F6.o] at B;obtain⟨M,C8⟩:=Yj (C1.o.trans (B.mono C1.o.size)) (F8.o.below B);clear B P F6 C1 F8;cases r with
 | false=>
  clear I hr O;go_wp2_with fail;refine(C.o u2).mono ?_;rintro e ux ⟨rfl,B⟩;have F:=Qf (Q.o ux (M.o.trans (B.mono M.o.size)));clear B;go_wp2_with fail;exact F.o
 | true=>
 have E5:=Qf (hr Zv);have P:=Qf (O.o E5.o u2 M.o);clear hr O;obtain⟨x0,x1,x2,x3,x4,x5⟩:=BK.c6 C8.o;go_wp2_with fail;refine P.o.mono ?_;rintro e u3 ⟨⟨r,rfl,hr⟩,B⟩;obtain⟨H,F9⟩:=Yj (M.o.trans (B.mono M.o.size)) (C8.o.below B);clear B P M C8 x0 x1 x2 x3 x4 x5;cases r with
 | false=>
  clear I hr;go_wp2_with fail;refine(C.o u3).mono ?_;rintro e ux ⟨rfl,B⟩;have F:=Qf (Q.o ux (H.o.trans (B.mono H.o.size)));clear B;go_wp2_with fail;exact F.o
 | true=>
 obtain⟨H8,P⟩:=Yj (hr Zv) (A3.o u3 H.o);clear hr A3;go_wp2_with fail;refine P.o.mono ?_;rintro e L8 ⟨rfl,rfl⟩;clear P;cases g with
 | true=>
  clear I;go_wp2_with fail;refine(C.o u3).mono ?_;rintro e ux ⟨rfl,B⟩;have F:=Qf (Q.o ux (H.o.trans (B.mono H.o.size)));clear B;go_wp2_with fail;exact F.o
 | false=>
 have P:=Qf (S.o Zv u3 H.o);clear S;go_wp2_with fail;refine P.o.mono ?_;rintro e u4 ⟨rfl,B⟩;obtain⟨J,K⟩:=Yj (H.o.trans (B.mono H.o.size)) (F9.o.below B);clear B P H F9;by_cases H4:ke=0
 case neg=>
  have E3:(ke !=0)=true:=Zu H4;clear I;go_wp2_with fail;refine(C.o u4).mono ?_;rintro e ux ⟨rfl,B⟩;have F:=Qf (Q.o ux (J.o.trans (B.mono J.o.size)));clear B;go_wp2_with fail;exact F.o
 subst H4;obtain⟨⟨sx,sw,sc,si,st,sp,sa,sd⟩,k,⟨H5,I0,I4,I5,E1,E4,I1,I3⟩,L1,L2,e1,e2,⟨g1,g2,g3,g4,g5⟩,hY⟩:=I.o E5.o H8.o Zv Zv u4 J.o;have HY:=Qf hY;simp only[<-F5.o,<-C7.o,<-C6.o,<-C5.o,<-F4.o] at g1 g2 g3;unfold Ses.val at g1;simp only at g1;obtain⟨G1,G2,G3,G4,G5⟩:=Ym (g1 u4 (bf _)) g2 g3 g4 g5;obtain⟨x0,x1,x2,x3,x4,x5⟩:=BK.c6 K.o;clear g1 g2 g3 g4 g5 hY I;go_wp2_with fail;refine G1.o.mono ?_;rintro e u5 ⟨rfl,B⟩;obtain⟨mx,D5⟩:=Qe sx.length;obtain⟨mw,D4⟩:=Qe sw.length;obtain⟨C0,D1⟩:=Qe sc.length;obtain⟨mp,D3⟩:=Qe sp.length;rw[<-D5,<-D4,<-D1,<-D3];obtain⟨F3,F2,F0,F1⟩:=Yl D5 D4 D1 D3;clear D5 D4 D1 D3;obtain⟨v5,A1⟩:=Qe (u5.alloc (.cells #[.slice H5 mx I0,.slice I4 mw I5,.slice E1 C0 E4,Yi si,Yi st,.slice I1 mp I3,.bool sa,.bool sd] 34));have L:PM u5 v5:=A1▸(bf _).alloc nr _;have B5:=Qf (B.trans (L.mono B.size));have C3:Qg (BK u5.heap.size #[.slice H5 mx I0,.slice I4 mw I5,.slice E1 C0 E4,Yi si,Yi st,.slice I1 mp I3,.bool sa,.bool sd] 34 v5):=Qf (A1▸BK.new _ _ _);obtain⟨D,G0⟩:=Yj (G2.o v5 B5.o) (K.o.below B5.o);clear B L x0 x1 x2 x3 x4 x5 G1 G2;obtain⟨x0,x1,x2,x3,x4,x5⟩:=BK.c6 G0.o;obtain⟨sb,E2⟩:=Qe u5.heap.size;rw[<-E2] at C3;rw[A1] at x0 x1 x2 x3 x4 x5 D;have F7:=Qf A1;clear A1;go_wp2_with fail;refine D.o.mono ?_;rintro e u6 ⟨⟨a1,c1,rfl,H1,G7⟩,B⟩;rw[<-F7.o] at B;rw[<-E2];obtain⟨B6,E7⟩:=Yj (B5.o.trans (B.mono B5.o.size)) (C3.o.below B);obtain⟨G6,E6,H6,D⟩:=Yl (K.o.below B6.o) H1 G7 (G3.o u6 B6.o);clear B F7 x0 x1 x2 x3 x4 x5 E2 G0 B5 C3 H1 G7 G3;obtain⟨x0,x1,x2,x3,x4,x5⟩:=BK.c6 G6.o;go_wp2_with fail;refine D.o.mono ?_;rintro e u7 ⟨⟨a2,c2,rfl,H2,G8⟩,B⟩;obtain⟨B7,C4⟩:=Yj (B6.o.trans (B.mono B6.o.size)) (E7.o.below B);obtain⟨H9,V,B0,H7,E⟩:=Ym (K.o.below B7.o) (E6.o.ahead B) H2 G8 (J.o.trans (B7.o.mono J.o.size));clear B D x0 x1 x2 x3 x4 x5 G6 B6 E7 H2 G8 E6;by_cases H3:k=0
 case neg=>
  have E3:(k !=0)=true:=Zu H3;go_wp2_with fail;refine(C.o u7).mono ?_;rintro e ux ⟨rfl,B⟩;have F:=Qf (Q.o ux (E.o.trans (B.mono E.o.size)));clear B;go_wp2_with fail;exact F.o
 subst H3;by_cases G9:e1=0
 case neg=>
  have E3:(e1 !=0)=true:=Zu G9;go_wp2_with fail;refine(C.o u7).mono ?_;rintro e ux ⟨rfl,B⟩;have F:=Qf (Q.o ux (E.o.trans (B.mono E.o.size)));clear B;go_wp2_with fail;exact F.o
 subst G9;by_cases H0:e2=0
 case neg=>
  have E3:(e2 !=0)=true:=Zu H0;go_wp2_with fail;refine(C.o u7).mono ?_;rintro e ux ⟨rfl,B⟩;have F:=Qf (Q.o ux (E.o.trans (B.mono E.o.size)));clear B;go_wp2_with fail;exact F.o
 subst H0;obtain⟨I6,I7,I8,J0,J1,J5,J6,J7⟩:=BK.c8 C4.o;cases sd with
 | true=>
  go_wp2_with fail;refine(C.o u7).mono ?_;rintro e ux ⟨rfl,B⟩;have F:=Qf (Q.o ux (E.o.trans (B.mono E.o.size)));clear B;go_wp2_with fail;exact F.o
 | false=>
 have D:=Qf (G4.o Zv a1 c1 u7 V.o);clear G4;go_wp2_with fail;refine D.o.mono ?_;rintro e u8 ⟨⟨b,rfl⟩,B⟩;obtain⟨B8,R,E8,A8,Z⟩:=Ym (B7.o.trans (B.mono B7.o.size)) (E.o.trans (B.mono E.o.size)) (C4.o.below B) (V.o.ahead B) (B0.o.ahead B);clear B D I6 I7 I8 J0 J1 J5 J6 J7 H9 B7 C4 V B0 E;cases b with
 | true=>
  go_wp2_with fail;refine(C.o u8).mono ?_;rintro e ux ⟨rfl,B⟩;have F:=Qf (Q.o ux (R.o.trans (B.mono R.o.size)));clear B;go_wp2_with fail;exact F.o
 | false=>
 have D:=Qf (G5.o Zv a2 c2 u8 Z.o);clear G5;go_wp2_with fail;refine D.o.mono ?_;rintro e u9 ⟨⟨b,rfl⟩,B⟩;obtain⟨B9,C2,E9,A9,B1⟩:=Ym (B8.o.trans (B.mono B8.o.size)) (R.o.trans (B.mono R.o.size)) (E8.o.below B) (A8.o.ahead B) (Z.o.ahead B);clear B D B8 E8 A8 Z R;cases b with
 | true=>
  go_wp2_with fail;refine(C.o u9).mono ?_;rintro e ux ⟨rfl,B⟩;have F:=Qf (Q.o ux (C2.o.trans (B.mono C2.o.size)));clear B;go_wp2_with fail;exact F.o
 | false=>
 obtain⟨fr,A5,⟨y1,y2,y3,y4,y5⟩⟩:=HY.o Zv Zv Zv Zv;simp only[<-C7.o,<-C6.o,<-C5.o] at y2 y4;unfold Ses.val at y1;simp only[<-F3.o,<-F2.o,<-F0.o,<-F1.o] at y1;obtain⟨D,Y2,Y3,Y4⟩:=Yl (y1 u9 B9.o) y2 y3 y4;have J2:((A5.length:Int)==0)=false:=by
  cases A5 with
  | nil=>exact absurd rfl y5
  | cons a b=>simp; omega
 have J4:=bH A5;clear y1 y2 y3 y4 y5 HY F5 C7 C6 C5 F4 F3 F2 F0 F1;obtain⟨I6,I7,I8,J0,J1,J5,J6,J7⟩:=BK.c8 E9.o;go_wp2_with fail;refine D.o.mono ?_;rintro e L4 ⟨rfl,B⟩;obtain⟨A2,U,X⟩:=Yk (B9.o.trans (B.mono B9.o.size)) (A9.o.ahead B) (B1.o.ahead B);obtain⟨B2,D⟩:=Yj (K.o.below A2.o) (Y2.o L4 A2.o);clear B B9 E9 A9 B1 C2 I6 I7 I8 J0 J1 J5 J6 J7 Y2;obtain⟨x0,x1,x2,x3,x4,x5⟩:=BK.c6 B2.o;go_wp2_with fail;refine D.o.mono ?_;rintro e L5 ⟨rfl,B⟩;obtain⟨A6,Y⟩:=Yj (A2.o.trans (B.mono A2.o.size)) (X.o.ahead B);obtain⟨B3,D⟩:=Yj (K.o.below A6.o) (Y3.o a1 c1 L5 (U.o.ahead B) H6.o);clear B A2 U X B2 x0 x1 x2 x3 x4 x5 Y3;obtain⟨x0,x1,x2,x3,x4,x5⟩:=BK.c6 B3.o;go_wp2_with fail;refine D.o.mono ?_;rintro e L6 ⟨rfl,B⟩;have A4:=Qf (A6.o.trans (B.mono A6.o.size));obtain⟨B4,D⟩:=Yj (K.o.below A4.o) (Y4.o a2 c2 L6 A4.o (Y.o.ahead B) H7.o);clear B A6 Y B3 x0 x1 x2 x3 x4 x5 Y4;obtain⟨x0,x1,x2,x3,x4,x5⟩:=BK.c6 B4.o;go_wp2_with fail;refine D.o.mono ?_;rintro e J9 ⟨⟨⟨tx,tw,L3,qi,qt,tp,qa,qd⟩,⟨K2,K3,K6,K7,K0,K1,K4,K5⟩,rfl,hq⟩,B⟩;have K8:=Qf (A4.o.trans (B.mono A4.o.size));unfold Ses.val at hq ⊢;simp only at hq ⊢;clear B A4 B4 D x0 x1 x2 x3 x4 x5;generalize tx.length=px at hq ⊢;generalize tw.length=pw at hq ⊢;generalize L3.length=J8 at hq ⊢;generalize tp.length=pp at hq ⊢;obtain⟨v,hv⟩:=Qe (J9.alloc (.cells #[.slice K2 px K3,.slice K6 pw K7,.slice K0 J8 K1,Yi qi,Yi qt,.slice K4 pp K5,.bool qa,.bool qd] 34));have L:PM J9 v:=hv▸(bf _).alloc nr _;have N:=Qf (J.o.trans ((K8.o.trans (L.mono K8.o.size)).mono J.o.size));have D0:BK J9.heap.size #[.slice K2 px K3,.slice K6 pw K7,.slice K0 J8 K1,Yi qi,Yi qt,.slice K4 pp K5,.bool qa,.bool qd] 34 v:=hv▸BK.new _ _ _;obtain⟨d0,d1,d2,d3,d4,d5,d6,d7⟩:=BK.c8 D0;rw[hv] at d0 d1 d2 d3 d4 d5 d6 d7;have I9:(fr==fr)=true:=Zs;have J3:(A5==A5)=true:=Zs;cases qd with
 | true=>
  rw[hv] at N;clear hq hv L D0;go_wp2_with fail;refine(C.o _).mono ?_;rintro e ux ⟨rfl,B⟩;have F:=Qf (Q.o ux (N.o.trans (B.mono N.o.size)));clear B;go_wp2_with fail;exact F.o
 | false=>
 have D:=Qf (hq Zv v L);rw[hv] at D;have HV:=Qf hv;clear hq hv L D0;go_wp2_with fail;refine D.o.mono ?_;rintro e L7 ⟨rfl,B⟩;rw[<-HV.o] at B;have A7:=Qf (N.o.trans (B.mono N.o.size));clear B D HV N d0 d1 d2 d3 d4 d5 d6 d7;go_wp2_with fail;refine(C.o L7).mono ?_;rintro e ux ⟨rfl,B⟩;have F:=Qf (Q.o ux (A7.o.trans (B.mono A7.o.size)));clear B;go_wp2_with fail;exact F.o
def Bears(m:Msg)(j:Nat):Prop:=m.off<=j/\(j:Int)<m.off+m.data.length
def PartOf(T:Qb)(pid:Int)(m:Msg):Prop:=∃a n:Nat,1<=n/\a+n<=T.length/\m=⟨2,pid,(a:Int),T.length,[],(T.drop a).take n⟩
structure HSt (X:List Itm) (want com:Qd) (T:Qb) (pid:Int) (seen:Nat->Prop) (s:Ses):Prop where
 x:s.xs=X
 w:s.want=want
 c:s.com=com
 d:s.done=false
 p:Xl T pid 0 s.id s.tot s.ps
 o:∀j,j<T.length->seen j->∃c,Has s.ps j c
 n:(y9 s.id s.tot s.ps).2=false
structure HDn (Q:List Itm) (want com:Qd) (s:Ses):Prop where
 x:s.xs=Q
 w:s.want=want
 c:s.com=com
 d:s.done=true
theorem whole_is{i t:Int}{ps:List P}(h:Xl T pid 0 i t ps)(A:(y9 i t ps).2=true):(y9 i t ps).1=T:=by
 match ps,h,A with
 | [],_,A=>exact absurd A (by simp[y9])
 | [p],h,A=>
  rw[EY] at A ⊢;split at A
  ·rename_i F;rw[if_pos F];obtain⟨G,H⟩:=h.same Zs;obtain⟨D,_⟩:=QS h.valid;rw[xJ] at D;obtain⟨g1,g2,g3,_⟩:=D.1 p Zs;unfold PU at g3;have E:p.1=0:=Zo;have I:p.2.length=T.length:=Zo
   show p.2=T;refine List.ext_getElem? (fun j=>?_);by_cases C:j<p.2.length
   ·have B:=(h.sub (j:Int) p.2[j] ⟨p,Zs,Zo,by rw[E]; simp[C]⟩).2;rw[aj] at B;rw[B]; simp[C]
   ·rw[List.getElem?_eq_none Zo,List.getElem?_eq_none Zo]
  ·cases A
 | _::_::_,_,A=>exact absurd A (by simp[y9])
theorem take_hon{com:Qd}(Qf:0<=pid/\pid<=1099511627776)(O:T.length<=65536)(Y:tu T X=(Q,0))(R:PV Q want=true)(U:PartOf T pid m)(h:HSt X want com T pid seen s):
  HSt X want com T pid (fun j=>seen j\/Bears m j) (Qk s m).1\/HDn Q want com (Qk s m).1:=by
 obtain⟨a,n,V,G,rfl⟩:=U;obtain⟨xs,sw,sc,si,st,sp,sa,sd⟩:=s;obtain⟨I,J,K,L,F,M,N⟩:=h;simp only at I J K L F M N;subst I J K L;have B:∃i t ps,WJ ⟨xs,sw,sc,si,st,sp,sa,false⟩ ⟨2,pid,(a:Int),T.length,[],(T.drop a).take n⟩=(i,t,ps)/\Xl T pid 0 i t ps/\∀j c,Has sp j c->Has ps j c:=by
  unfold WJ;by_cases D:sp=[]
  ·rw[if_pos (.inl D)];exact⟨0,0,[],rfl,Xl.start T pid,fun j c A=>by rw[D] at A; exact A⟩
  ·obtain⟨e1,e2⟩:=F.same (bJ.2 D);rw[if_neg (by
    simp only;rintro(e | e | e)
    ·exact D e
    ·exact e e1
    ·exact e e2)]
   exact⟨si,st,sp,rfl,F,fun j c A=>A⟩
 obtain⟨i,t,ps,W,H,C⟩:=B;obtain⟨qs,g1,g2,g3,g4,g5⟩:=H.step Qf (o:=a) (n:=n) (m':=0) G V O (.inl nr);have S:Vt ⟨xs,sw,sc,si,st,sp,sa,false⟩ ⟨2,pid,(a:Int),T.length,[],(T.drop a).take n⟩=(0,pid,(T.length:Int),qs):=by
  unfold Vt;rw[W];exact g1
 unfold Qk;rw[if_neg Zs,S,if_neg Zs];simp only;unfold Rl;simp only;by_cases E:(y9 pid T.length qs).2=true
 ·rw[if_pos E,whole_is g2 E];unfold Us;simp only;rw[Y,if_pos ⟨rfl,R⟩];exact .inr ⟨rfl,rfl,rfl,rfl⟩
 ·rw[if_neg E];refine .inl ⟨rfl,rfl,rfl,rfl,g2,fun j A hs=>?_,Zu E⟩;rcases hs with hs | ⟨b1,b2⟩
  ·obtain⟨c,P⟩:=M j A hs;exact⟨c,g4 _ _ (C _ _ P)⟩
  ·simp only[aA,ah] at b1 b2;exact g5 j Zo Zo
theorem rec_hon{X Q:List Itm}{want com:Qd}{T:Qb}{pid:Int}(Qf:0<=pid/\pid<=1099511627776)(D:T.length<=65536)(G:tu T X=(Q,0))(F:PV Q want=true):∀(ms:List Msg) (I:Nat->Prop) (s:Ses),(∀m∈ms,PartOf T pid m)->HSt X want com T pid I s\/HDn Q want com s->
  HSt X want com T pid (fun j=>I j\/∃m∈ms,Bears m j) (Ql s ms).1\/HDn Q want com (Ql s ms).1
 | [],I,s,_,h=>by
  rw[Ql];refine h.imp (fun h=>⟨h.x,h.w,h.c,h.d,h.p,fun j C hs=>h.o j C (hs.elim id (fun⟨m,B,_⟩=>(by cases B))),h.n⟩) id
 | m::ms,I,s,B,h=>by
  rw[Ql];have H:HSt X want com T pid (fun j=>I j\/Bears m j) (Qk s m).1\/HDn Q want com (Qk s m).1:=by
   rcases h with h | h
   ·exact take_hon Qf D G F (B m Zs) h
   ·refine .inr ?_;unfold Qk;rw[if_pos (.inl h.d)];exact h
  refine(rec_hon Qf D G F ms _ _ (fun x A=>B x (Zj A)) H).imp (fun h=>⟨h.x,h.w,h.c,h.d,h.p,fun j C hs=>h.o j C ?_,h.n⟩) id;rcases hs with hs | ⟨x,A,E⟩
  ·exact .inl (.inl hs)
  ·rcases List.mem_cons.1 A with rfl | A
   ·exact .inl (.inr E)
   ·exact .inr ⟨x,A,E⟩
theorem all_done{com:Qd}(B:1<=T.length)(hs:∀j,j<T.length->seen j)(h:HSt X want com T pid seen s\/HDn Q want com s):HDn Q want com s:=by
 rcases h with h | h
 ·exfalso;have E:=h.p;have D:0<s.ps.length:=by
   obtain⟨c,p,F,_⟩:=h.o 0 B (hs 0 B);exact List.length_pos_of_mem F
  obtain⟨e1,e2⟩:=E.same D;have A:=E.valid;rw[e2] at A;have H:=whole_of_full A E.sub (fun j G=>h.o j G (hs j G)) B;have C:=h.n;rw[H,e2] at C;rw[H] at A;rw[whole_one A] at C;cases C
 ·exact h
theorem rep_cov(hs:1<=sz):(∀m∈V5 id D 0 D.length sz,PartOf D id m)/\∀j,j<D.length->∃m∈V5 id D 0 D.length sz,Bears m j:=by
 refine⟨fun m B=>?_,fun j H=>?_⟩
 ·obtain⟨a,F,G,rfl⟩:=Vn hs nr B;exact⟨a,min sz (D.length-a),Zo,Zo,rfl⟩
 ·have C:j/sz*sz<=j:=Nat.div_mul_le_self j sz;have E:j<j/sz*sz+sz:=Nat.lt_div_mul_add Zo;refine⟨shM D.length 0 (part id ((D.drop 0).take (D.length-0)) sz (j/sz*sz)),?_,?_⟩
  ·unfold V5 Rn;refine List.mem_map_of_mem (bV.2 ⟨j/sz,?_,rfl⟩);rw[List.mem_range,Nat.lt_div_iff_mul_lt Zo];simp;omega
  ·obtain⟨q,A⟩:=Qe (j/sz*sz);rw[<-A] at C E ⊢;unfold Bears shM part;simp;omega
theorem dig_nz(l:Qb):iY l≠(0,0):=by
 unfold iY;split
 ·intro h; cases h
 ·rename_i h;intro e;exact h ⟨congrArg Prod.fst e,congrArg Prod.snd e⟩
theorem uni_both(D:Asc X)(A:Asc Y)(h:(QU X Y).2=0):∃V,Sup X V/\Sup Y V/\∀v∈V,v∈X\/v∈Y:=by
 rcases TL D A with⟨C,_⟩ | ⟨V,C,B⟩
 ·rw[C] at h; cases h
 ·exact⟨V,⟨D,B.asc,fun y A=>(B.mem y).2 (.inl A)⟩,⟨A,B.asc,fun y A=>(B.mem y).2 (.inr A)⟩,fun v E=>(B.mem v).1 E⟩
theorem full_mem(h:(dh X l).2=[])(B:Rch X l d):(dW X d).2=0:=Classical.byContradiction fun e=>by
 have A:=(((gW X l).2.2 d).2).2 ⟨B,e⟩;rw[h] at A; cases A
theorem hon_unpack{com:Qd}(L:Asc X)(J:Asc Y)(cx:∀y∈X,vg y=0)(cy:∀y∈Y,vg y=0)(R:∀y∈Y,y.data.length<=1000)(A2:Y.length<=40)(un:(QU X Y).2=0)(yw:PV Y want=true)(yc:PV Y com=true)(xc:PV X com=true):
  ∃Q,tu (Tp Y want com) X=(Q,0)/\PV Q want=true/\Asc Q/\∀y∈Q,y∈X\/y∈Y:=by
 obtain⟨V,sx,sy,W⟩:=uni_both L J un;obtain⟨w1,w2⟩:=QW yw;obtain⟨c1,c2⟩:=QW yc;obtain⟨x1,x2⟩:=QW xc;obtain⟨f1,f2,f3⟩:=SF J (want:=want) (com:=com);have g:=pack_good J cy R (Sq f1 f2 Zo);have cV:∀v∈V,vg v=0:=fun v hv=>(W v hv).elim (cx v) (cy v)
 have U:∀c∈(dh Y com).1,De X c=(gL Y c,0):=fun c G=>by
  have D:=(((gW Y com).2.2 c).1.1 G).1;have B:=(sx.rch x2 c).1 ((sy.rch c2 c).2 D);obtain⟨x,C,rfl,_⟩:=oW (full_mem x2 B);obtain⟨y,A,K⟩:=QE (S9 G J);have e:=Md sx.az (sx.sub x C) (sy.sub y A) K.symm;rw[VC L C];have F:=TV J A;rw[<-e] at F;rw[F]
 obtain⟨Q,q1,q2,q3⟩:=pack_unpack2 g L sx.az cV sy.sub sx.sub U;refine⟨Q,q1,?_,q2,fun y P=>(q3 y).1 P |>.elim .inl (fun h=>.inr h.1)⟩;have A0:Sup X Q:=⟨L,q2,fun y h=>(q3 y).2 (.inl h)⟩
 -- every object of the server that is reached from what is wanted is there
 have I:∀y∈Y,Rch Y want y.d->y∈Q:=fun y A S=>by
  have hg:y.d∈(dh Y want).1:=(((gW Y want).2.2 y.d).1).2 ⟨S,full_mem w2 S⟩;by_cases G:y.d∈(dh Y com).1
  ·have D:=(((gW Y com).2.2 y.d).1.1 G).1;have B:=(sx.rch x2 y.d).1 ((sy.rch c2 y.d).2 D);obtain⟨x,C,O,_⟩:=oW (full_mem x2 B);have e:=Md sx.az (sx.sub x C) (sy.sub y A) O;exact(q3 y).2 (.inl (e▸C))
  ·exact(q3 y).2 (.inr ⟨A,QJ.2 ⟨hg,Zu G⟩⟩)
 have H:∀d,Rch Y want d->dW Q d=dW Y d/\(dW Q d).2=0:=fun d E=>by
  have D:=full_mem w2 E;obtain⟨y,A,rfl,Z⟩:=oW D;have B:dW Q y.d=bI y.data:=Lh q2 (I y A E);rw[B,Z];exact⟨rfl,D⟩
 have N:∀d,Rch Q want d->Rch Y want d:=fun d E=>by
  induction E with
  | root D B=>exact .root D B
  | link _ B F T ih=>rw[(H _ ih).1] at B F; exact .link ih B F T
 unfold PV;rw[Bool.and_eq_true,P5,decide_eq_true_eq];refine⟨fun d E=>?_,List.eq_nil_iff_forall_not_mem.2 fun d E=>?_⟩
 ·obtain⟨y,A,rfl⟩:=QE (w1 d E);have M:y.d≠(0,0):=by rw[<-(chkI_parts (cy y A)).2]; exact dig_nz _
  exact VS q2 (I y A (.root E M))
 ·obtain⟨D,B⟩:=(((gW Q want).2.2 d).2).1 E;exact B (H d (N d D)).2
structure HoX (x:Fet) (A:Sz) (R:Ses) (k:Int) (E:QF) (w:World):Prop where
 b1:∀W,PM w W->Qh 12 #[.slice A.ha x.xs.length A.hc,.slice A.wa x.want.length A.wc,.slice A.ca x.com.length A.cc] W (Xz (.tuple #[R.val E,Yi k]) W)
 al:k=0->R.done=true->∀W,PM w W->Qh 31 #[.slice A.ha x.xs.length A.hc,.slice A.wa x.want.length A.wc] W (Xz (.bool true) W)
theorem beg_cases(xs:List Itm)(want com:Qd):(Qm xs want com).2=0->Qm xs want com=(⟨xs,want,com,0,0,[],false,PV xs want⟩,0):=fun h=>by
 unfold Qm at h ⊢;by_cases B:(1000:Int)<(want.length:Int)+com.length
 ·rw[if_pos B] at h; cases h
 ·rw[if_neg B] at h ⊢;by_cases A:QR xs [] com≠0
  ·rw[if_pos A] at h; exact absurd h A
  ·rw[if_neg A]
theorem hoX(h:PW w x A)(E:QM x):HoX x A (Qm x.xs x.want x.com).1 (Qm x.xs x.want x.com).2 (Uy (Qm x.xs x.want x.com) ⟨A.ha,A.hc,A.wa,A.wc,A.ca,A.cc,none,0⟩) w:=by
 obtain⟨J,D⟩:=RG E.pg;have C:=(PP E.ck).2;have F:jQ w A.ha x.xs A.hc:=⟨h.h.its,h.h.cap.1,Zo,fun y G=>Zh (D y G)⟩;have lw:=E.lw;have lc:=E.lc;refine⟨fun W B=>Qx A.ha x.xs A.hc A.wa x.want A.wc A.ca x.com A.cc W (F.below B) C (h.w.dig.ahead B) (h.c.dig.ahead B) h.w.ok h.c.ok Zo Zo Zo,fun k0 I W B=>?_⟩;rw[beg_cases _ _ _ k0] at I;have H:=Qz A.ha x.xs A.hc A.wa x.want A.wc W (h.h.its.ahead B) C (h.w.dig.ahead B) Zo Zo (fun y G=>Zh (D y G));rw[show PV x.xs x.want=true from I] at H;exact H
structure HoY (x:Fet) (A:Sz) (R:Ses) (E:QF) (fr:Qb) (M:List Msg) (v:World):Prop where
 rq:∀W,PM v W->Qh 16 #[R.val E] W (Xz (.tuple #[fr,Yi 0]) W)
 sv:∀W,PM v W->Qh 21 #[.slice A.ya x.ys.length A.yc,fr,Yi x.sz] W (Xz (.tuple #[(M.flatMap O9),Yi 0]) W)
 sc:∀W,Qh 32 #[(M.flatMap O9)] W fun e w'=>(∃a c,e=.returned (.tuple #[.slice a M.length c,Yi ((M.flatMap O9).length:Nat)])/\GQ w'.heap.size w' a M)/\PM W w'
 ne:M≠[]
 en:∀m∈M,∀W a c,Qh 33 #[m.val a c] W (Xz (.tuple #[(O9 m),Yi 0]) W)
 fl:∀m∈M,(O9 m).length<=50000
 ds:∀m∈M,m.ds=[]
 rc:∀Q:List Msg,(∀m∈Q,m∈M)->(∀m∈M,m∈Q)->((Q.flatMap O9).length:Int)<=100000000000->∀W,PM v W->Qh 23 #[R.val E,(Q.flatMap O9)] W fun e w'=>(∃s B n,e=.returned (.tuple #[Ses.val s B,Yi n,Yi 0])/\s.done=true/\Its w'.heap.size w' B.ha s.xs/\s.xs.length<=2000/\∀y∈s.xs,I7 x.xs y.d=true\/I7 x.ys y.d=true)/\PM W w'
 hx:∀p q W,PM v W->Qh 28 #[.slice A.ha x.xs.length A.hc,.agg #[Yu p,Yu q]] W (Xz (.bool (I7 x.xs (p,q))) W)
 hy:∀p q W,PM v W->Qh 28 #[.slice A.ya x.ys.length A.yc,.agg #[Yu p,Yu q]] W (Xz (.bool (I7 x.ys (p,q))) W)
theorem frame_small(A:m.ds=[])(B:m.data.length<=1000):(O9 m).length<=50000:=by
 rw[QP];unfold yP;have:=jo [m.kind,m.id,m.off,m.tot,m.ds.length];have C:=aG m.data.length;rw[af,af,af,lF,A];rw[A] at this;simp only[az,aK] at this ⊢;omega
theorem com_both{com:Qd}(E:Asc X)(D:Asc Y)(cy:∀y∈Y,vg y=0)(un:(QU X Y).2=0)(C:∀d∈com,(aF X d).2=0)(yc:∀d∈com,I7 Y d=true)(wc:∀d∈want,(aF Y d).2=0):∀d∈want++com,(aF Y d).2=0:=fun d A=>by
 rcases aD.1 A with A | A
 ·exact wc d A
 ·obtain⟨V,sx,sy,_⟩:=uni_both E D un;obtain⟨y,B,rfl⟩:=QE (yc d A);have g3:(dW Y y.d).2=0:=by rw[Lh D B]; exact(chkI_parts (cy y B)).1
  have g4:aF Y y.d=aF V y.d:=by
   unfold aF;rw[sy.get g3]
  rw[g4,sx.com (C _ A)];exact C _ A
theorem hoY(h:PW v x A)(N:QM x)(F:WK x)(k0:(Qm x.xs x.want x.com).2=0)(O:(Qm x.xs x.want x.com).1.done=false):
  ∃fr M,HoY x A (Qm x.xs x.want x.com).1 (Uy (Qm x.xs x.want x.com) ⟨A.ha,A.hc,A.wa,A.wc,A.ca,A.cc,none,0⟩) fr M v:=by
 obtain⟨B8,B4⟩:=RG N.pg;obtain⟨J,S⟩:=RG N.gy;obtain⟨A7,K⟩:=PP N.ck;obtain⟨Y,E⟩:=PP N.ky;have lw:=N.lw;have lc:=N.lc;obtain⟨B9,B6⟩:=QW F.yw;obtain⟨A5,A9⟩:=QW F.yc;have bx:=beg_cases _ _ _ k0;have A6:∀d∈x.com,(aF x.xs d).2=0:=U5 x.com [] (Classical.byContradiction fun e=>by
  unfold Qm at k0;rw[if_neg Zo,if_pos e] at k0;exact e k0)
 rw[bx] at O ⊢;simp only at O;rw[O];have Z:=com_both K E Y F.un A6 A5 F.wc;have I:∀y∈x.ys,y.data.length<=1000:=fun y H=>Zh (S y H)
 obtain⟨Q,q1,q2,q3,q4⟩:=hon_unpack K E A7 Y I J F.un F.yw F.yc F.xc;obtain⟨r1,r2,r3⟩:=SN E J I (want:=x.want) (com:=x.com) F.z0 F.z1;obtain⟨t1,t2⟩:=UF E J I x.want x.com;obtain⟨c1,c2⟩:=rep_cov (id:=Ux (Tp x.ys x.want x.com)) (D:=Tp x.ys x.want x.com) (sz:=x.sz.toNat) (Zh F.z0);have A3:∀{W:World},PM v W->PQ W ⟨x.xs,x.want,x.com,0,0,[],false,false⟩ ⟨A.ha,A.hc,A.wa,A.wc,A.ca,A.cc,none,0⟩ W.heap.size:=fun G=>sesN G.size G.size (h.h.its.below G nr) h.h.cap.1 N.pg N.ck (h.w.dig.below G nr) (h.c.dig.below G nr) h.w.cap.1 h.c.cap.1 h.w.ok h.c.ok lw lc _
 have A1:∀m∈rplM x.ys x.want x.com x.sz,(O9 m).length<=50000:=fun m C=>by
  refine frame_small (r3 m C).2 ?_;obtain⟨a,_,_,rfl⟩:=Vn (Zh F.z0) nr C;have:=F.z1;simp only[aA];omega
 have R:∀m∈rplM x.ys x.want x.com x.sz,m.why=0/\WG m.ds:=fun m C=>⟨(r3 m C).1,by rw[(r3 m C).2]; intro d O; cases O⟩
 refine⟨O9 (PX x.want x.com),rplM x.ys x.want x.com x.sz,fun W G=>?_,fun W G=>?_,fun W=>?_,r2,fun m C W a c=>?_,A1,fun m C=>(r3 m C).2,fun L A2 B0 B1 W G=>?_,fun p q W G=>?_,fun p q W G=>?_⟩
 ·have U:=Qt _ _ _ _ (A3 G);rw[UN Zo] at U;exact U
 ·exact Uh (P:=x.ys) ⟨E,E,fun y H=>H⟩ J I Z B6 A9 h.w.ok h.c.ok lw lc F.z0 F.z1 A.ya A.yc W ⟨h.y.its.ahead G,h.y.cap.1,Zo,fun y H=>Zh (S y H)⟩ Zo (fun y H=>⟨(h.y.dat y H).1,I y H⟩)
 ·have B5:((rplM x.ys x.want x.com x.sz).flatMap O9).length<=1000000000000:=by
   have B7:(rplM x.ys x.want x.com x.sz).length<=2000000:=by
    unfold rplM V5 Rn;simp only[fC,List.length_range,List.drop_zero,Nat.sub_zero,rC];exact aC (Nat.div_le_self _ _) (Zh F.z1)
   have V:∀(l:List Msg),(∀m∈l,(O9 m).length<=50000)->(l.flatMap O9).length<=50000*l.length:=by
    intro l;induction l with
    | nil=>intro _; simp
    | cons m l ih=>
     intro C;have U:=C m Zs;have h2:=ih (fun z hz=>C z (Zj hz));rw[bR,af,az];omega
   have:=V _ A1;omega
  exact(PD _ W Zo).mono (by
   rintro e w' ⟨ms,n,a,c,hs,rfl,C,V,_⟩;obtain⟨rfl,rfl⟩:=(Q4 _ R).one hs;exact⟨⟨a,c,rfl,C⟩,V⟩)
 ·have hw:=R m C;have V:=zk (Sg hw.1).2.2;have U:=MV m a c W (by rw[(r3 m C).2]; exact dE.nil _ _ _) (by rw[(r3 m C).2]; intro d O; cases O) Zo Zo;rw[Tz hw.1] at U;exact U
 ·exact(QL _ _ _ _ W (A3 G) B1).mono (by
   rintro e w' (⟨A8,_⟩ | ⟨_,ms,n,B,hs,rfl,A4,V⟩)
   ·cases A8
   ·obtain⟨rfl,rfl⟩:=(Q4 L (fun m C=>R m (A2 m C))).one hs;have B3:=rec_hon (X:=x.xs) (Q:=Q) (want:=x.want) (com:=x.com) (T:=Tp x.ys x.want x.com) (UV _) (by
     have:=txt_len2 E J I x.want x.com
     omega) q1 q2 L (fun _=>False) ⟨x.xs,x.want,x.com,0,0,[],false,false⟩ (fun m C=>c1 m (A2 m C)) (.inl ⟨rfl,rfl,rfl,rfl,Xl.start _ _,fun j _ hj=>hj.elim,rfl⟩)
    have A0:=all_done t1 (fun j hj=>.inr (by
     obtain⟨m,C,B2⟩:=c2 j hj;exact⟨m,B0 m C,B2⟩)) B3
    refine⟨⟨_,B,_,rfl,A0.d,A4.hp.its,A4.lx,fun y H=>?_⟩,V⟩;rw[A0.x] at H;rcases q4 y H with h3 | h3
    ·exact .inl (VS K h3)
    ·exact .inr (VS E h3))
 ·exact I6 A.ha x.xs A.hc p q W ⟨h.h.its.ahead G,h.h.cap.1,Zo,fun y H=>Zh (B4 y H)⟩ K
 ·exact I6 A.ya x.ys A.yc p q W ⟨h.y.its.ahead G,h.y.cap.1,Zo,fun y H=>Zh (S y H)⟩ E
theorem PW.aheadH(h:PW W x A)(B:PM W W'):PW W' x A:=
 ⟨⟨h.h.its.ahead B,h.h.cap,h.h.dat⟩,⟨h.y.its.ahead B,h.y.cap,h.y.dat⟩,⟨h.w.dig.ahead B,h.w.cap,h.w.ok⟩,⟨h.c.dig.ahead B,h.c.cap,h.c.ok⟩,fun i E=>by
  obtain⟨b,F,e,C,D⟩:=h.t i E;exact⟨b,F,e,aO C B.size,(B.cell (p:=⟨b,F+i,none⟩) C).trans D⟩,h.tl⟩
theorem hoXY(h:PW w x A)(B:QM x)(C:WK x):∃R k E,HoX x A R k E w/\(k=0->R.done=false->∃fr M,HoY x A R E fr M w):=
 ⟨_,_,_,hoX h B,fun a b=>hoY h B C a b⟩
theorem thonest_any(M0:T9)(x:Fet)(A:Sz)(oa:Qa)(zs:List Int)(oc:Nat)(w:World)(h:PW w x A)(ho:U16s w.heap.size w oa zs):
  Qh 7 #[.agg (x.arr A),.slice oa zs.length oc] w (Xz (.bool true) w):=by
 obtain⟨G,hG⟩:∃G:Ending->World->Prop,G=(Xz (.bool true) w):=⟨_,rfl⟩;rw[<-hG];have HG:Qg (∀u,PM w u->G (.returned (.bool true)) u):=Qf (fun u hu=>by rw[hG]; exact⟨rfl,hu⟩);obtain⟨K,X,S,A1,I2⟩:=Ym (fun W=>Rt M0 W) (fun W (hW:PM w W)=>Sa x A W (h.aheadH hW)) (fun(hf:QM x) W (hW:PM w W)=>Uo x A W (h.aheadH hW) hf) (fun(hf:QM x) (hn:WK x) W (hW:PM w W)=>hoXY (h.aheadH hW) hf hn) (fun W (hW:PM w W)=>ho.ahead hW);clear hG h ho;obtain⟨xs,ys,Q5,Q9,ts,sz⟩:=x;obtain⟨ha,hc,ya,yc,wa,wc,ca,cc,ta,tc⟩:=A;simp only[Fet.arr] at X S ⊢;obtain⟨nx,F6⟩:=Qe xs.length;obtain⟨ny,F7⟩:=Qe ys.length;obtain⟨nw,F5⟩:=Qe Q5.length;obtain⟨nc,F3⟩:=Qe Q9.length;obtain⟨no,F4⟩:=Qe zs.length;rw[<-F6,<-F7,<-F5,<-F3] at X S ⊢;rw[<-F4];generalize ts.length=nt at X S ⊢;obtain⟨D4,I1,I0,H9,Z⟩:=Ym F6 F7 F5 F3 F4;clear F6 F7 F5 F3 F4;obtain⟨u1,A4⟩:=Qe (w.alloc (.cells #[.slice ha nx hc,.slice ya ny yc,.slice wa nw wc,.slice ca nc cc,.slice ta nt tc,Yi sz] 27));have E3:PM w u1:=A4▸(bf _).alloc nr _;have I6:Qg (BK w.heap.size #[.slice ha nx hc,.slice ya ny yc,.slice wa nw wc,.slice ca nc cc,.slice ta nt tc,Yi sz] 27 u1):=Qf (A4▸BK.new _ _ _);have HD:=Qf (X.o u1 E3);rw[A4] at HD;obtain⟨C9,I4⟩:=Yj E3 A4;clear A4 E3 X;go_enter Tryz.func7,Tryz.ntmps7;go_wp2_with fail;refine HD.o.mono ?_;rintro e u2 ⟨⟨r,rfl,hr⟩,C⟩;rw[<-I4.o] at C;obtain⟨P,D6⟩:=Yj (C9.o.trans (C.mono C9.o.size)) (I6.o.below C);clear C HD I4 C9 I6;cases r with
 | false=>
  clear A1 hr S;go_wp2_with fail;refine(K.o u2).mono ?_;rintro e ux ⟨rfl,C⟩;have R:=Qf (HG.o ux (P.o.trans (C.mono P.o.size)));clear C;go_wp2_with fail;exact R.o
 | true=>
 have G6:=Qf (hr Zv);have HD:=Qf (S.o G6.o u2 P.o);clear hr S;obtain⟨x0,x1,x2,x3,x4,x5⟩:=BK.c6 D6.o;go_wp2_with fail;refine HD.o.mono ?_;rintro e u3 ⟨⟨r,rfl,hr⟩,C⟩;obtain⟨E,D7⟩:=Yj (P.o.trans (C.mono P.o.size)) (D6.o.below C);clear C HD P D6 x0 x1 x2 x3 x4 x5;cases r with
 | false=>
  clear A1 hr;go_wp2_with fail;refine(K.o u3).mono ?_;rintro e ux ⟨rfl,C⟩;have R:=Qf (HG.o ux (E.o.trans (C.mono E.o.size)));clear C;go_wp2_with fail;exact R.o
 | true=>
 have K9:=Qf (hr Zv);clear hr;by_cases N9:(100:Int)<(no:Int)
 case pos=>
  clear A1;go_wp2_with fail;refine(K.o u3).mono ?_;rintro e ux ⟨rfl,C⟩;have R:=Qf (HG.o ux (E.o.trans (C.mono E.o.size)));clear C;go_wp2_with fail;exact R.o
 obtain⟨⟨sx,sw,sc,si,st,sp,sa,sd⟩,k,⟨L5,M3,M6,M7,L2,L3,M4,M5⟩,⟨g1,g2⟩,hY⟩:=A1.o G6.o K9.o u3 E.o;have HY:=Qf hY;simp only[<-D4.o,<-I0.o,<-H9.o] at g1 g2;unfold Ses.val at g1;simp only at g1;obtain⟨G1,G2⟩:=Yj (g1 u3 (bf _)) g2;obtain⟨x0,x1,x2,x3,x4,x5⟩:=BK.c6 D7.o;clear g1 g2 hY A1;go_wp2_with fail;refine G1.o.mono ?_;rintro e u5 ⟨rfl,C⟩;obtain⟨mx,F2⟩:=Qe sx.length;obtain⟨mw,F1⟩:=Qe sw.length;obtain⟨L0,E9⟩:=Qe sc.length;obtain⟨mp,F0⟩:=Qe sp.length;rw[<-F2,<-F1,<-E9,<-F0];obtain⟨H7,H6,H3,H4⟩:=Yl F2 F1 E9 F0;clear F2 F1 E9 F0;obtain⟨v5,H⟩:=Qe (u5.alloc (.cells #[.slice L5 mx M3,.slice M6 mw M7,.slice L2 L0 L3,Yi si,Yi st,.slice M4 mp M5,.bool sa,.bool sd] 34));have A2:PM u5 v5:=H▸(bf _).alloc nr _;have K3:=C.size;have B5:=Qf (C.trans (A2.mono C.size));have Q:=Qf (E.o.trans (B5.o.mono E.o.size));have E7:BK u5.heap.size #[.slice L5 mx M3,.slice M6 mw M7,.slice L2 L0 L3,Yi si,Yi st,.slice M4 mp M5,.bool sa,.bool sd] 34 v5:=H▸BK.new _ _ _;have D8:=Qf (D7.o.below B5.o);clear C A2 x0 x1 x2 x3 x4 x5 G1;obtain⟨C7,D0,E2,F8,G0,J5,K4,K6⟩:=BK.c8 E7;obtain⟨x0,x1,x2,x3,x4,x5⟩:=BK.c6 D8.o;rw[H] at x0 x1 x2 x3 x4 x5 C7 D0 E2 F8 G0 J5 K4 K6;obtain⟨sb,C0⟩:=Qe u5.heap.size;have I3:Qg (u3.heap.size<=sb):=Qf (C0▸K3);clear K3;have G7:Qg (BK sb #[.slice L5 mx M3,.slice M6 mw M7,.slice L2 L0 L3,Yi si,Yi st,.slice M4 mp M5,.bool sa,.bool sd] 34 v5):=Qf (C0▸E7);have D5:=Qf H;by_cases J6:k=0
 case neg=>
  have O3:(k !=0)=true:=Zu J6;rw[H] at Q;clear H;go_wp2_with fail;refine(K.o _).mono ?_;rintro e ux ⟨rfl,C⟩;have R:=Qf (HG.o ux (Q.o.trans (C.mono Q.o.size)));clear C;go_wp2_with fail;exact R.o
 subst J6;cases sd with
 | true=>
  have D:=Qf (G2.o Zv Zv v5 B5.o);rw[H] at D;clear H;go_wp2_with fail;refine D.o.mono ?_;rintro e u6 ⟨rfl,C⟩;rw[<-D5.o] at C;have G4:=Qf (Q.o.trans (C.mono Q.o.size));clear C;go_wp2_with fail;refine(K.o u6).mono ?_;rintro e ux ⟨rfl,C⟩;have R:=Qf (HG.o ux (G4.o.trans (C.mono G4.o.size)));clear C;go_wp2_with fail;exact R.o
 | false=>
 obtain⟨fr,M,⟨y1,y2,y3,y4,y5,y6,y7,y8,y9,P4⟩⟩:=HY.o Zv Zv;simp only[<-D4.o,<-I1.o] at y2 y9 P4;unfold Ses.val at y1 y8;simp only[<-H7.o,<-H6.o,<-H3.o,<-H4.o] at y1 y8;have D:=Qf (y1 v5 B5.o);rw[H] at D;obtain⟨Y2,Y3,Y5,Y6,Y7,Y8⟩:=Yn y2 y3 y5 y6 y7 y8;obtain⟨Y9,Q8⟩:=Yj y9 P4;obtain⟨nM,B3⟩:=Qe M.length;have L9:((nM:Int)==0)=false:=by
  rw[B3];cases M with
  | nil=>exact absurd rfl y4
  | cons m l=>simp; omega
 have N8:0<nM:=by
  rw[B3];exact bJ.2 y4
 have T:=Qf B3;clear y1 y2 y3 y4 y5 y6 y7 y8 y9 P4 B3 H HY G2 H7 H6 H3 H4 D4 I1 I0 H9;go_wp2_with fail;refine D.o.mono ?_;rintro e u6 ⟨rfl,C⟩;rw[<-D5.o] at C;rw[<-C0];obtain⟨B6,G8,D9⟩:=Yk (B5.o.trans (C.mono B5.o.size)) (G7.o.below C) (D8.o.below C);have D:=Qf (Y2.o u6 B6.o);clear C D5 C0 E7 x0 x1 x2 x3 x4 x5 C7 D0 E2 F8 G0 J5 K4 K6 G7 D8 Q B5 Y2;obtain⟨x0,x1,x2,x3,x4,x5⟩:=BK.c6 D9.o;go_wp2_with fail;refine D.o.mono ?_;rintro e u7 ⟨rfl,C⟩;obtain⟨B7,G9,I9,D⟩:=Yl (B6.o.trans (C.mono B6.o.size)) (G8.o.below C) (D9.o.below C) (Y3.o u7);clear C x0 x1 x2 x3 x4 x5 G8 D9 B6 Y3;generalize M.flatMap O9=SS at D ⊢;have M1:=bH SS;rw[<-T.o] at D;go_wp2_with fail;refine D.o.mono ?_;rintro e u8 ⟨⟨ma,R2,rfl,K0⟩,C⟩;obtain⟨B8,H0,J0⟩:=Yk (B7.o.trans (C.mono B7.o.size)) (G9.o.below C) (I9.o.below C);obtain⟨A6,H5⟩:=Yj (E.o.trans (B8.o.mono E.o.size)) K0;have L8:((SS.length:Int) !=(SS.length:Int))=false:=Zs;clear C D G9 I9 B7 K0;by_cases N6:(60:Int)<(nM:Int)
 case pos=>
  go_wp2_with fail;refine(K.o u8).mono ?_;rintro e ux ⟨rfl,C⟩;have R:=Qf (HG.o ux (A6.o.trans (C.mono A6.o.size)));clear C;go_wp2_with fail;exact R.o
 go_wp2_with fail;clear M1 L8 L9;go_loopw [13,106] (fun s i wr=>∃k:Nat,k<=no+nM/\i=Yi k/\∃L:List Msg,Qg (∀m∈L,m∈M)/\Qg (∀j (h:j<M.length),no+j<k->M[j]∈L)/\s=.string ⟨(L.flatMap O9).toArray⟩/\Qg ((L.flatMap O9).length<=50000*k)/\Qg (PM u8 wr)) (fun _ i _=>no+nM-(intOf i).toNat)
 case atStart=>exact⟨0,Zo,rfl,[],Qf Zs,Qf (fun j _ h=>Zo),rfl,Qf Zs,Qf (bf _)⟩
 case round=>
  obtain⟨k,hk,rfl,L,A8,A9,rfl,N,F⟩:=hrel;by_cases J9:k<no+nM
  ·have E8:(k:Int)<(no:Int)+(nM:Int):=Zo;have K8:=Qf (A6.o.trans (F.out.mono A6.o.size));have E5:∃q,q<M.length/\(k<no->∃b0 o0 z,oa=some ⟨b0,o0,none⟩/\wr.cell? ⟨b0,o0+k,none⟩=some (.int .u16 z)/\0<=z/\z<=65535/\Int.tmod z (nM:Int)=(q:Int))/\(¬k<no->(k:Int)-(no:Int)=(q:Int)/\no+q=k):=by
    by_cases O:k<no
    ·obtain⟨⟨F9,K7⟩,b0,o0,e0,B1,q0⟩:=I2.o wr K8.o k (Zh Z.o);have N4:0<=zs[k]'(Zh Z.o)%(nM:Int):=Int.emod_nonneg _ Zo;have N5:zs[k]'(Zh Z.o)%(nM:Int)<nM:=Int.emod_lt_of_pos _ Zo;refine⟨(zs[k]'(Zh Z.o)%(nM:Int)).toNat,Zh T.o,fun _=>⟨b0,o0,_,e0,q0,F9,K7,?_⟩,fun h=>absurd O h⟩;rw[Int.tmod_eq_emod_of_nonneg F9];omega
    ·exact⟨k-no,Zh T.o,fun h=>absurd h O,fun _=>⟨Zo,Zo⟩⟩
   obtain⟨q,K2,E4,B2⟩:=E5;have O0:(q:Int)<(nM:Int):=Zh T.o;obtain⟨bm,om,da,cd,L7,U,m0,m1,m2,m3,m4,m5,L4⟩:=H5.o q K2;subst L7;have m0:=(F.out.cell (p:=⟨bm,om+q*6,none⟩) U).trans m0;have m1:=(F.out.cell (p:=⟨bm,om+q*6+1,none⟩) U).trans m1;have m2:=(F.out.cell (p:=⟨bm,om+q*6+2,none⟩) U).trans m2;have m3:=(F.out.cell (p:=⟨bm,om+q*6+3,none⟩) U).trans m3;have m4:=(F.out.cell (p:=⟨bm,om+q*6+4,none⟩) U).trans m4;have m5:=(F.out.cell (p:=⟨bm,om+q*6+5,none⟩) U).trans m5;have J:Qg (M[q]∈M):=Qf (ak K2);have HJ:Qg (∀j (h:j<M.length),no+j<k+1->M[j]∈L++[M[q]]):=Qf (fun j h hj=>by
    by_cases L6:no+j<k
    ·exact List.mem_append_left _ (A9.out j h L6)
    ·obtain⟨_,e2⟩:=B2 Zo;obtain rfl:j=q:=Zo;simp)
   obtain⟨D,Y⟩:=Yj (Y5.o _ J.o wr da cd) (Y6.o _ J.o);generalize M[q]=m at m0 m1 m2 m3 m4 m5 J HJ D Y;have H8:Qg (∀z∈L++[m],z∈M):=Qf (fun z hz=>by
    rcases aD.1 hz with hz | hz
    ·exact A8.out z hz
    ·rw[aH.1 hz]; exact J.o)
   obtain⟨FR,E0⟩:=Qe (O9 m);obtain⟨LS,E1⟩:=Qe (L.flatMap O9);rw[<-E0] at D Y;rw[<-E1] at N ⊢;have B0:Qg (LS++FR=(L++[m]).flatMap O9):=Qf (by rw[E1,E0,bg]; simp);have O1:=Hl (A:=LS) (B:=FR) rfl (Zh N.out) (Zh Y.o);obtain⟨kd,mi,mo,mt,N2,O8⟩:=m;simp only[Msg.val] at D;simp only at m0 m1 m2 m3 m4 m5;generalize N2.length=dl at D m4;clear E0 E1 L4 A8 A9 J J9;by_cases O:k<no
   ·obtain⟨b0,o0,z,rfl,q0,F9,K7,M9⟩:=E4 O;have J7:(k:Int)<(no:Int):=Zo;clear E4 B2 O;go_wp2_with fail;refine D.o.mono ?_;rintro e u9 ⟨rfl,C⟩;have B9:=Qf (F.out.trans (C.mono F.out.size));have D3:Qg (((L++[(⟨kd,mi,mo,mt,N2,O8⟩:Msg)]).flatMap O9).length<=50000*(k+1)):=Qf (by rw[<-B0.o,af]; have:=N.out; have:=Y.o; omega);clear C D m0 m1 m2 m3 m4 m5;go_wp2_with fail;go_roundw
    case rel=>exact⟨k+1,Zo,Zg,L++[⟨kd,mi,mo,mt,N2,O8⟩],H8,HJ,Zx B0.o,D3,B9⟩
    case measure=>simp[intOf] <;> omega
   ·obtain⟨N0,_⟩:=B2 O;have J7:¬(k:Int)<(no:Int):=Zo;clear E4 B2 O;go_wp2_with fail;refine D.o.mono ?_;rintro e u9 ⟨rfl,C⟩;have B9:=Qf (F.out.trans (C.mono F.out.size));have D3:Qg (((L++[(⟨kd,mi,mo,mt,N2,O8⟩:Msg)]).flatMap O9).length<=50000*(k+1)):=Qf (by rw[<-B0.o,af]; have:=N.out; have:=Y.o; omega);clear C D m0 m1 m2 m3 m4 m5;go_wp2_with fail;go_roundw
    case rel=>exact⟨k+1,Zo,Zg,L++[⟨kd,mi,mo,mt,N2,O8⟩],H8,HJ,Zx B0.o,D3,B9⟩
    case measure=>simp[intOf] <;> omega
  ·have E8:¬(k:Int)<(no:Int)+(nM:Int):=Zo;have C6:∀m∈M,m∈L:=fun m hm=>by
    obtain⟨j,hj,rfl⟩:=aV hm;exact A9.out j hj (Zh T.o)
   obtain⟨x0,K5⟩:=Qe wr;rw[<-K5] at F ⊢;have B9:=Qf (B8.o.trans (F.out.mono B8.o.size));obtain⟨D,D2,J1⟩:=Yk (Y8.o L A8.out C6 (Zh N.out) x0 B9.o) (H0.o.below F.out) (J0.o.below F.out);obtain⟨C7,D0,E2,F8,G0,J5,K4,K6⟩:=BK.c8 D2.o;generalize L.flatMap O9=LS at D N ⊢;clear A8 A9 N C6 Y8 Y5 Y6 Y7 H5 T K5 F H0 J0 B8 I2 Z;go_wp2_with fail;refine D.o.mono ?_;rintro e Q4 ⟨⟨⟨tx,tw,P3,qi,qt,tp,qa,qd⟩,⟨C5,N1,O5,O6,N3,N7,O2,O4⟩,n,rfl,J3,Q3,K1,C8⟩,C⟩;have J4:qd=true:=J3;subst J4;simp only;obtain⟨A7,J⟩:=Yj Q3 C8;simp only at A7 J;have V:∀W,Qh 18 #[.agg #[.slice C5 tx.length N1,.slice O5 tw.length O6,.slice N3 P3.length N7,Yi qi,Yi qt,.slice O2 tp.length O4,.bool qa,.bool true]] W (Xz (.tuple #[.slice C5 tx.length N1,Yi 0]) W):=fun W=>by
    have h:=QV ⟨tx,tw,P3,qi,qt,tp,qa,true⟩ ⟨C5,N1,O5,O6,N3,N7,O2,O4⟩ W;rw[if_pos rfl,if_pos rfl] at h;exact h
   obtain⟨px,B4⟩:=Qe tx.length;have L1:=Qf B4;have M8:px<=2000:=B4▸K1;rw[<-B4] at V ⊢;generalize tw.length=pw at V ⊢;generalize P3.length=P2 at V ⊢;generalize tp.length=pp at V ⊢;have O7:=Qf (B9.o.trans (C.mono B9.o.size));obtain⟨G3,I,C3⟩:=Yk (E.o.trans (O7.o.mono E.o.size)) (D2.o.below C) (J1.o.below C);clear C D Q3 C8 J3 B4 K1 C7 D0 E2 F8 G0 J5 K4 K6 D2 J1 B9;obtain⟨C7,D0,E2,F8,G0,J5,K4,K6⟩:=BK.c8 I.o;obtain⟨P5,P6,P7,P8,P9,Q0,Q1,Q2⟩:=BK.f8 (I.o);obtain⟨v,hv⟩:=Qe ((((((((Q4.setCell sb (.slice C5 px N1)).setCell ⟨sb,1,none⟩ (.slice O5 pw O6)).setCell ⟨sb,2,none⟩ (.slice N3 P2 N7)).setCell ⟨sb,3,none⟩ (Yi qi)).setCell ⟨sb,4,none⟩ (Yi qt)).setCell ⟨sb,5,none⟩ (.slice O2 pp O4)).setCell ⟨sb,6,none⟩ (.bool qa)).setCell ⟨sb,7,none⟩ (.bool true));have hg:Q4.grownBy v (some sb):=hv▸fM (fM (fM (fM (fM (fM (fM (dN _ _ _ _) _ _) _ _) _ _) _ _) _ _) _ _) _ _;have J8:BK sb #[.slice C5 px N1,.slice O5 pw O6,.slice N3 P2 N7,Yi qi,Yi qt,.slice O2 pp O4,.bool qa,.bool true] 34 v:=hv▸((((((((I.o.set 0 _).set 1 _).set 2 _).set 3 _).set 4 _).set 5 _).set 6 _).set 7 _);have BV:=Qf (O7.o.grown hg O7.o.size (fun k e=>by cases e; exact I3.o));have J2:=Qf (C3.o.grow hg (fun k e he=>by
    cases e
    have h1:=I3.o;have h2:=D7.o.lt
    omega))
   have C2:Qg (Its v.heap.size v C5 tx):=Qf ((A7.o.grown nr hg (Ro A7.o (Tw I.o))).mono hg.size);have D:=Qf (V v);obtain⟨q0,q1,q2,q3,q4,q5,q6,q7⟩:=BK.c8 J8;rw[hv] at q0 q1 q2 q3 q4 q5 q6 q7 D;have HV:=Qf hv;clear hv hg J8 V I C3 G3 O7 A7;go_wp2_with fail;refine D.o.mono ?_;rintro e R0 ⟨rfl,C⟩;rw[<-HV.o] at C;have P0:=Qf (BV.o.trans (C.mono BV.o.size));obtain⟨C1,C4,D1⟩:=Yk (E.o.trans (P0.o.mono E.o.size)) (J2.o.below C) (C2.o.ahead C);clear C D HV J2 C2 BV C7 D0 E2 F8 G0 J5 K4 K6 P5 P6 P7 P8 P9 Q0 Q1 Q2 q0 q1 q2 q3 q4 q5 q6 q7;go_wp2_with fail;go_loopw [159] (fun i wr=>∃k:Nat,k<=px/\i=Yi k/\Qg (PM R0 wr)) (fun i _=>px-(intOf i).toNat)
   case atStart=>exact⟨0,Zo,rfl,Qf (bf _)⟩
   case round=>
    obtain⟨k,hk,rfl,F⟩:=hrel;by_cases J9:k<px
    ·have E8:(k:Int)<(px:Int):=Zo;have h1:k<tx.length:=Zh L1.o;obtain⟨b0,o0,rfl,B1,q0,q1,q2⟩:=D1.o k h1;have q0:=(F.out.cell (p:=⟨b0,o0+k*3,none⟩) B1).trans q0;have q1:=(F.out.cell (p:=⟨b0,o0+k*3+1,none⟩) B1).trans q1;have q2:=(F.out.cell (p:=⟨b0,o0+k*3+2,none⟩) B1).trans q2;have A0:=Qf (J.o _ (ak h1));generalize tx[k]=y at q0 q1 q2 A0;obtain⟨⟨d1,d2⟩,yd⟩:=y;simp only at q0 q1 q2 A0;obtain⟨v1,A5⟩:=Qe (wr.alloc (.cells #[Yu d1,Yu d2,yd] 56));have A2:PM wr v1:=A5▸(bf _).alloc nr _;have BW:=Qf (F.out.trans (A2.mono F.out.size));have BU:=Qf (P0.o.trans (BW.o.mono P0.o.size));have A3:BK wr.heap.size #[Yu d1,Yu d2,yd] 56 v1:=A5▸BK.new _ _ _;have D:=Qf (Y9.o d1 d2 v1 BU.o);obtain⟨x0,x1,x2,x3,x4,x5⟩:=BK.c6 (C4.o.below BW.o);obtain⟨i0,i1,i2⟩:=BK.c3 A3;rw[A5] at x0 x1 x2 x3 x4 x5 D i0 i1 i2;obtain⟨ib,E6⟩:=Qe wr.heap.size;have H1:Qg (BK ib #[Yu d1,Yu d2,yd] 56 v1):=Qf (E6▸A3);have I5:=Qf A5;clear A5 A2 A3;go_wp2_with fail;refine D.o.mono ?_;rintro e R1 ⟨rfl,C⟩;rw[<-I5.o] at C;rw[<-E6];obtain⟨P1,Q7,H2,I8⟩:=Yl (BW.o.trans (C.mono BW.o.size)) (BU.o.trans (C.mono BU.o.size)) (H1.o.below C) ((C4.o.below BW.o).below C);clear C D I5 H1 x0 x1 x2 x3 x4 x5 i0 i1 i2 q0 q1 q2 E6 BW BU F;cases hh:I7 xs (d1,d2) with
     | true=>
      go_wp2_with fail;go_roundw
      case rel=>exact⟨k+1,Zo,Zg,P1⟩
      case measure=>simp[intOf] <;> omega
     | false=>
      have M2:I7 ys (d1,d2)=true:=A0.o.resolve_left (Zn hh);have D:=Qf (Q8.o d1 d2 R1 Q7.o);obtain⟨x0,x1,x2,x3,x4,x5⟩:=BK.c6 I8.o;obtain⟨i0,i1,i2⟩:=BK.c3 H2.o;go_wp2_with fail;refine D.o.mono ?_;rintro e R3 ⟨rfl,C⟩;rw[M2];have Q6:=Qf (P1.o.trans (C.mono P1.o.size));clear C D x0 x1 x2 x3 x4 x5 i0 i1 i2;go_wp2_with fail;go_roundw
      case rel=>exact⟨k+1,Zo,Zg,Q6⟩
      case measure=>simp[intOf] <;> omega
    ·have E8:¬(k:Int)<(px:Int):=Zo;have G5:=Qf (C1.o.trans (F.out.mono C1.o.size));go_wp2_with fail;refine(K.o wr).mono ?_;rintro e ux ⟨rfl,C⟩;have R:=Qf (HG.o ux (G5.o.trans (C.mono G5.o.size)));clear C;go_wp2_with fail;exact R.o
