/- Lemmas. -/
import Derived.Test.YtkedhdcnakhbgaaGreatK1
import Derived.Lib.AppendStr
set_option linter.unusedSimpArgs false
set_option maxRecDepth 100000
set_option maxHeartbeats 16000000
namespace Go.Proofs.YtkedhdcnakhbgaaGreat
open Tryz
variable {cs:Array Value}{bad:Bool}{er u:Int}{d:Int×Int}{xs:List Value}{B B' b base base' c ec k m n pc z:Nat}{fz:Nat×Nat}{r:Option Nat}{a ea pa:Qa}{L l l' s:Qb}{ds:Qd}{v:Value}{W W' w w0 wr x:World}
structure Ent where
 name:Qb
 dir:Bool
 d:Int×Int
deriving DecidableEq
structure Ob where
 kind:Int
 data:Qb
 ents:List Ent
 tree:Int×Int
 pars:Qd
 author:Qb
 time:Int
 msg:Qb
deriving DecidableEq
def dI(c:UInt8):Bool:=(decide (97<=c.toNat)&&decide (c.toNat<=122))||(decide (65<=c.toNat)&&decide (c.toNat<=90))||(decide (48<=c.toNat)&&decide (c.toNat<=57))||c==46||c==95||c==45
def jA(s:Qb):Bool:=decide (1<=s.length)&&decide (s.length<=24)&&!(s==[46])&&!(s==[46,46])&&s.all dI
theorem di(h:jA s=true):1<=s.length/\s.length<=24:=by
 simp only[jA,XF,XJ] at h;exact⟨h.1.1.1.1,h.1.1.1.2⟩
def leB(a b:Qb):Bool:=Op.bytesLess a b||a==b
def xR:Option (Qb)->Qb->Bool
 | none,_=>false
 | some q,n=>leB n q
def kF:Option (Qb)->List Ent->Int
 | _,[]=>0
 | p,e::r=>if jA e.name=false then 6 else if xR p e.name=true then 10 else if e.d=(0,0) then 1 else kF (some e.name) r
def mK(l:List Ent):Int:=if 200<l.length then 4 else kF none l
def kQ:Qd->Qd->Int
 | _,[]=>0
 | seen,d::r=>if d=(0,0) then 1 else if d∈seen then 7 else kQ (seen++[d]) r
def dS(o:Ob):Int:=
 if o.tree=(0,0) then 1 else if 8<o.pars.length then 4 else if kQ [] o.pars≠0 then kQ [] o.pars
 else if jA o.author=false then 6 else if o.time<0\/1099511627776<o.time then 2 else if 200<o.msg.length then 4 else 0
def Kj(o:Ob):Bool:=!decide (o.tree=(0,0))||decide (0<o.pars.length)||decide (0<o.author.length)||!decide (o.time=0)||decide (0<o.msg.length)
def dz(o:Ob):Int:=
 if o.kind=1\/o.kind=4 then(if 0<o.ents.length\/Kj o=true then 1 else 0)
 else if o.kind=2 then(if 0<o.data.length\/Kj o=true then 1 else mK o.ents)
 else if o.kind=3 then(if 0<o.data.length\/0<o.ents.length then 1 else dS o)
 else 9
def fF(s:Qb):Qb:=Cw.enc s.length++s
def vG(b:Bool):Nat:=if b then 1 else 0
def beD(d:Int×Int):Qb:=be 8 d.1++be 8 d.2
def ru(e:Ent):Qb:=fF e.name++(Cw.enc (vG e.dir)++beD e.d)
def gZ(o:Ob):Qb:=
 Cw.enc o.kind.toNat ++
  (if o.kind=2 then Cw.enc o.ents.length++o.ents.flatMap ru
   else if o.kind=3 then beD o.tree++(Cw.enc o.pars.length++(o.pars.flatMap beD++(fF o.author++(Cw.enc o.time.toNat++fF o.msg))))
   else fF o.data)
def aR(o:Ob):Qb×Int:=if dz o≠0 then([],dz o) else if 65536<(gZ o).length then([],4) else(gZ o,0)
theorem bX(d:Int×Int):(beD d).length=16:=by simp[beD,bY]
theorem eP{o:Ob}(h:dz o=0):1<=o.kind/\o.kind<=4:=by
 unfold dz at h;split at h
 ·omega
 ·split at h
  ·omega
  ·split at h
   ·omega
   ·omega
theorem l9:∀{l:List Ent} {p:Option (Qb)},kF p l=0->∀e∈l,jA e.name=true
 | [],_,_,e,A=>by simp at A
 | x::l,p,h,e,A=>by
  rw[kF] at h;split at h
  ·cases h
  ·rename_i B;split at h
   ·cases h
   ·split at h
    ·cases h
    ·rcases XG.1 A with rfl | A
     ·simpa using B
     ·exact l9 h e A
open Go.RowKit
set_option linter.unusedVariables false
theorem FZ(c:UInt8)(w:World):Qh 239 #[Yb (c.toNat:Int)] w fun e w'=>e=.returned (.bool (dI c))/\w=w':=by
 have B:Qg (∀b:Bool,(b=true↔((97<=(c.toNat:Int)/\(c.toNat:Int)<=122)\/(65<=(c.toNat:Int)/\(c.toNat:Int)<=90)\/(48<=(c.toNat:Int)/\(c.toNat:Int)<=57)\/(c.toNat:Int)=46\/(c.toNat:Int)=95\/(c.toNat:Int)=45))->b=dI c):=Qf (fun b C=>by
  rw[YF,C];have e:∀k:UInt8,(c==k)=true↔(c.toNat:Int)=k.toNat:=fun k=>by
   rw[XS,<-UInt8.toNat_inj]; omega
  simp only[dI,Bool.or_eq_true,XF,XJ,e];simp
  omega)
 generalize (c.toNat:Int)=x at B ⊢;generalize dI c=R at B ⊢;by_cases D:97<=x <;> by_cases E:x<=122 <;> by_cases F:65<=x <;> by_cases G:x<=90 <;> by_cases H:48<=x <;> by_cases I:x<=57
 all_goals first
  | (exfalso; omega)
  | skip
 all_goals
  go_enter func239,ntmps239;go_wp2_with fail
  all_goals
   go_ret;exact⟨cK (B.o _ (by first | (simp; omega) | (simp; done))),rfl⟩
theorem EU(h:k<L.length)(A:(L.take k).all dI=true):(L.take (k+1)).all dI=dI L[k]:=by
 rw[ai h,List.all_append,A]; simp
theorem JX(h:k<L.length)(A:dI L[k]=false):L.all dI=false:=by
 rw[List.all_eq_false];exact⟨L[k],ak h,Zj A⟩
theorem zh(L:Qb)(w:World)(hs:(L.length:Int)<=9223372036854775807):Qh 219 #[L] w fun e w'=>e=.returned (.bool (jA L))/\w=w':=by
 obtain⟨R,H⟩:=Qe (jA L);rw[<-H];unfold jA at H;have C:=Qf H;clear H;by_cases I:(L.length:Int)<1
 ·have B:Qg (R=false):=Qf (by rw[C.o,XN Zo]; rfl);go_enter func219,ntmps219;go_wp2;go_ret;exact⟨Zw B.o,rfl⟩
 ·by_cases J:(24:Int)<L.length
  ·have B:Qg (R=false):=Qf (by rw[C.o,XN (show ¬L.length<=24 by omega)]; simp);go_enter func219,ntmps219;go_wp2;go_ret;exact⟨Zw B.o,rfl⟩
  ·have d1:decide ((L.length:Int)<1)=false:=Zt;have d2:decide ((24:Int)<(L.length:Int))=false:=Zt;have M:1<=(L.length:Int):=Zo;have N:(L.length:Int)<=24:=Zo;cases e1:(L==[46]) with
   | true=>
    have B:Qg (R=false):=Qf (by rw[C.o,e1]; simp);clear I J;go_enter func219,ntmps219;go_wp2;go_ret;exact⟨Zw B.o,rfl⟩
   | false=>
    cases e2:(L==[46,46]) with
    | true=>
     have B:Qg (R=false):=Qf (by rw[C.o,e2]; simp);clear I J;go_enter func219,ntmps219;go_wp2;go_ret;exact⟨Zw B.o,rfl⟩
    | false=>
     have B:Qg (R=L.all dI):=Qf (by rw[C.o,e1,e2,XI Zo,XI Zo]; simp);clear I J C;go_enter func219,ntmps219;go_wp2;go_loop [22] (fun i=>∃k:Nat,k<=L.length/\i=Yi k/\Qg ((L.take k).all dI=true)) (fun i=>L.length-(intOf i).toNat)
     case atStart=>exact⟨0,Zo,rfl,Qf Zs⟩
     case round=>
      obtain⟨k,O,rfl,K⟩:=hrel;by_cases F:k<L.length
      ·have G:=Qf (fun W=>FZ L[k] W);cases D:dI L[k] with
       | true=>
        rw[D] at G;have E:Qg ((L.take (k+1)).all dI=true):=Qf (by rw[EU F K.out,D]);clear D;go_wp2_with fail;refine(G.o _).mono ?_;rintro e w' ⟨rfl,rfl⟩;go_wp2;go_round
        case rel=>exact⟨k+1,Zo,Zg,E⟩
        case measure=>exact Yq
       | false=>
        rw[D] at G;have E:Qg (R=false):=Qf (B.o▸JX F D);clear D;go_wp2_with fail;refine(G.o _).mono ?_;rintro e w' ⟨rfl,rfl⟩;go_wp2;go_ret;exact⟨Zw E.o,rfl⟩
      ·have E:Qg (R=true):=Qf (by rw[B.o,<-K.out,ag Zo]);go_wp2;go_ret;exact⟨Zw E.o,rfl⟩
def BI(B:Nat)(W:World)(a:Qa)(es:List Ent):Prop:=
 ∀i (h:i<es.length),∃b off,a=some ⟨b,off,none⟩/\b<B/\W.cell? ⟨b,off+i*4,none⟩=some (.string ⟨es[i].name.toArray⟩)/\W.cell? ⟨b,off+i*4+1,none⟩=some (.bool es[i].dir)/\W.cell? ⟨b,off+i*4+2,none⟩=some (Yu es[i].d.1)/\W.cell? ⟨b,off+i*4+3,none⟩=some (Yu es[i].d.2)
theorem BI.below{es:List Ent}(h:BI B W a es)(A:Below B' W W')(J:B<=B'):BI B W' a es:=by
 intro i I;obtain⟨b,K,H,C,D,E,F,G⟩:=h i I;exact⟨b,K,H,C,(A.cell (p:=⟨b,K+i*4,none⟩) Zt).trans D,(A.cell (p:=⟨b,K+i*4+1,none⟩) Zt).trans E,(A.cell (p:=⟨b,K+i*4+2,none⟩) Zt).trans F,(A.cell (p:=⟨b,K+i*4+3,none⟩) Zt).trans G⟩
theorem BI.mono{es:List Ent}(h:BI B W a es)(F:B<=B'):BI B' W a es:=by
 intro i D;obtain⟨b,G,C,E,A⟩:=h i D;exact⟨b,G,C,Zo,A⟩
theorem BI.nil(B:Nat)(W:World)(a:Qa):BI B W a []:=fun i h=>by simp at h
def kP(es:List Ent):Nat->Option (Qb)
 | 0=>none
 | k+1=>(es[k]?).map (·.name)
def ER(es:List Ent)(k:Nat):Prop:=kF none es=kF (kP es k) (es.drop k)
theorem ER.start(es:List Ent):ER es 0:=rfl
theorem ER.step{es:List Ent}(h:ER es k)(A:k<es.length):kF none es=if jA es[k].name=false then 6 else if xR (kP es k) es[k].name=true then 10 else if es[k].d=(0,0) then 1 else kF (kP es (k+1)) (es.drop (k+1)):=by
 unfold ER at h;have e:kP es (k+1)=some es[k].name:=by rw[kP,XH A]; rfl
 rw[h,aN A,kF,e]
theorem ER.fin{es:List Ent}(h:ER es k)(A:es.length<=k):kF none es=0:=by
 unfold ER at h;rw[h,dV A];cases kP es k <;> rfl
theorem rH(a:Qa)(es:List Ent)(c:Nat)(w:World)(V:BI (w:Nat) w a es)(hn:(es.length:Int)<=9223372036854775807)(Z:∀e∈es,(e.name.length:Int)<=9223372036854775807):
  Qh 182 #[.slice a es.length c] w (Xz (Yi (mK es)) w):=by
 obtain⟨R,O⟩:=Qe (mK es);rw[<-O];obtain⟨n,P⟩:=Qe es.length;unfold mK at O;rw[<-P] at O hn ⊢;obtain⟨HN,T,A3⟩:=Yk P V Z;clear P V Z;by_cases A9:(200:Int)<n
 ·have N:Qg (R=4):=Qf (by rw[O,if_pos Zo]);clear O;go_enter func182,ntmps182;go_wp2;go_ret;exact⟨Zw N.o,bf _⟩
 ·have N:Qg (R=kF none es):=Qf (by rw[O,if_neg Zo]);clear O;go_enter func182,ntmps182;go_wp2;go_loopw [10] (fun i wr=>∃k:Nat,k<=n/\i=Yi k/\Qg (PM w wr)/\Qg (ER es k)) (fun i _=>n-(intOf i).toNat)
  case atStart=>exact⟨0,Zo,rfl,Qf (bf _),Qf (ER.start es)⟩
  case round=>
   obtain⟨k,hk,rfl,J,HE⟩:=hrel;have H:=J.out.size;by_cases A7:k<n
   ·have h1:k<es.length:=HN.o▸A7;obtain⟨b0,o0,rfl,B0,c0,c1,c2,c3⟩:=(T.o.below J.out nr) k h1;have I:=Qf (HE.out.step h1);have hl:=A3.o _ (ak h1);generalize es[k]=en at c0 c1 c2 c3 I hl;obtain⟨E,A0,d1,d2⟩:=en;simp only at c0 c1 c2 c3 I hl;have K:=Qf (fun W=>zh E W hl);cases S:jA E with
    | false=>
     rw[S] at K;have G:Qg (R=6):=Qf (by rw[N.o,I.o,S,if_pos rfl]);clear S I HE;go_wp2_with fail;refine(K.o _).mono ?_;rintro e w' ⟨rfl,rfl⟩;go_wp2;go_ret;exact⟨Zw G.o,J.out.alloc H _⟩
    | true=>
     rw[S] at K;have C:Qg (R=if xR (kP es k) E=true then 10 else if((d1,d2):Int×Int)=(0,0) then 1 else kF (kP es (k+1)) (es.drop (k+1))):=Qf (by rw[N.o,I.o,S,if_neg Zs]);clear S I HE;have hq:=fun W=>jD d1 d2 0 0 W
     by_cases Y:k=0
     ·have g0:decide ((0:Int)<(k:Int))=false:=Zt;have g1:decide (0<k)=false:=Zt;have B:Qg (R=if((d1,d2):Int×Int)=(0,0) then 1 else kF (kP es (k+1)) (es.drop (k+1))):=Qf (by rw[C.o,Y]; rfl);clear C Y;cases D:(d1==0&&d2==0) with
      | true=>
       rw[D] at hq;have G:Qg (R=1):=Qf (by
        rw[B.o,if_pos];simp only[XF,XS] at D;rw[D.1,D.2])
       clear D B;go_wp2_with fail;refine(K.o _).mono ?_;rintro e w' ⟨rfl,rfl⟩;go_wp2_with fail;go_quiet (fail);go_wp2;go_ret;exact⟨Zw G.o,below_drewN (J.out.alloc H _) _⟩
      | false=>
       rw[D] at hq;have G:Qg (ER es (k+1)):=Qf (by
        unfold ER;rw[<-N.o,B.o,if_neg];intro h;simp only[XC] at h;simp[h.1,h.2] at D)
       clear D B;go_wp2_with fail;refine(K.o _).mono ?_;rintro e w' ⟨rfl,rfl⟩;go_wp2_with fail;go_quiet (fail);go_wp2;go_roundw
       case rel=>exact⟨k+1,Zo,Zg,Qf (below_drewN (J.out.alloc H _) _),G⟩
       case measure=>exact Yq
     ·have g0:decide ((0:Int)<(k:Int))=true:=Zt;have g1:decide (0<k)=true:=Zt;obtain⟨j,hj⟩:∃j,k=j+1:=⟨k-1,Zo⟩;have X:j<es.length:=Zo;obtain⟨b1,o1,A5,L,q0,_,_,_⟩:=(T.o.below J.out nr) j X;cases A5;have M:(k:Int)-1=(j:Int):=Zo;have B2:IntKind.i64.wrap ((k:Int)-1)=(j:Int):=M▸ZV;have B1:(j:Int)<(n:Int):=Zo;have F:Qg (kP es k=some es[j].name):=Qf (by rw[hj,kP,XH X]; rfl);generalize es[j].name=Q at q0 F;have A1:=fun x=>bP q0 x
      cases L:Op.bytesLess E Q with
      | true=>
        have G:Qg (R=10):=Qf (by rw[C.o,F.o,if_pos]; simp[xR,leB,L]);clear C F hj M;go_wp2_with fail;refine(K.o _).mono ?_;rintro e w' ⟨rfl,rfl⟩;go_wp2_with fail;go_quiet (fail);go_wp2;go_ret;exact⟨Zw G.o,below_drewN (J.out.alloc H _) _⟩
      | false=>
       cases U:(E==Q) with
       | true=>
        have G:Qg (R=10):=Qf (by rw[C.o,F.o,if_pos]; simp[xR,leB,L,U]);clear C F hj M;go_wp2_with fail;refine(K.o _).mono ?_;rintro e w' ⟨rfl,rfl⟩;go_wp2_with fail;go_quiet (fail);go_wp2;go_ret;exact⟨Zw G.o,below_drewN (J.out.alloc H _) _⟩
       | false=>
        have B:Qg (R=if((d1,d2):Int×Int)=(0,0) then 1 else kF (kP es (k+1)) (es.drop (k+1))):=Qf (by rw[C.o,F.o,if_neg]; simp[xR,leB,L,U]);clear C F hj M;cases D:(d1==0&&d2==0) with
        | true=>
         rw[D] at hq;have G:Qg (R=1):=Qf (by
          rw[B.o,if_pos];simp only[XF,XS] at D;rw[D.1,D.2])
         clear D B;go_wp2_with fail;refine(K.o _).mono ?_;rintro e w' ⟨rfl,rfl⟩;go_wp2_with fail;go_quiet (fail);go_wp2;go_ret;exact⟨Zw G.o,below_drewN (J.out.alloc H _) _⟩
        | false=>
         rw[D] at hq;have G:Qg (ER es (k+1)):=Qf (by
          unfold ER;rw[<-N.o,B.o,if_neg];intro h;simp only[XC] at h;simp[h.1,h.2] at D)
         clear D B;go_wp2_with fail;refine(K.o _).mono ?_;rintro e w' ⟨rfl,rfl⟩;go_wp2_with fail;go_quiet (fail);go_wp2;go_roundw
         case rel=>exact⟨k+1,Zo,Zg,Qf (below_drewN (J.out.alloc H _) _),G⟩
         case measure=>exact Yq
   ·have G:Qg (R=0):=Qf (by rw[N.o]; exact HE.out.fin (by rw[<-HN.o]; omega));go_wp2;go_ret;exact⟨Zw G.o,J.out⟩
def Ld(ds:Qd)(d:Int×Int):Int:=if d∈ds then ds.idxOf d else -1
theorem Lc(h:k<ds.length)(A:ds[k]=d)(C:d∉ds.take k):Ld ds d=k:=by
 have B:d∈ds:=A▸ak h;unfold Ld;rw[if_pos B];congr 1;have e:ds=ds.take k++(d::ds.drop (k+1)):=by rw[<-A,List.getElem_cons_drop,aQ]
 rw[e,List.idxOf_append,if_neg C,List.idxOf_cons_self,aA];omega
theorem I1(h:d∉ds):Ld ds d=-1:=if_neg h
theorem kw(h:k<ds.length)(C:d∉ds.take k)(B:ds[k]≠d):d∉ds.take (k+1):=by
 rw[ai h,aD,aH];rintro(A | A)
 ·exact C A
 ·exact B A.symm
theorem F8(a:Qa)(ds:Qd)(c:Nat)(x y:Int)(w:World)(F:dE w w a ds)(Q:(ds.length:Int)<=9223372036854775807):
  Qh 240 #[.slice a ds.length c,.agg #[Yu x,Yu y]] w (Xz (Yi (Ld ds (x,y))) w):=by
 obtain⟨R,J⟩:=Qe (Ld ds (x,y));rw[<-J];obtain⟨n,C⟩:=Qe ds.length;rw[<-C] at Q ⊢;obtain⟨M,L,O⟩:=Yk J C F;clear C J F;go_enter func240,ntmps240;go_wp2;go_loopw [8] (fun i wr=>∃k q:Nat,k<=n/\i=Yi k/\wr=(w.alloc (.cells #[Yu x,Yu y] 54)).drewN q/\Qg ((x,y)∉ds.take k)) (fun i _=>n-(intOf i).toNat)
 case atStart=>exact⟨0,0,Zo,rfl,rfl,Qf Zs⟩
 case round=>
  obtain⟨k,q,S,rfl,rfl,E⟩:=hrel;by_cases K:k<n
  ·have I:k<ds.length:=L.o▸K;obtain⟨b1,o1,rfl,P,c1,c2⟩:=O.o k I;have T:=fun z=>bP c1 z
   have U:=fun z=>bP c2 z
   obtain⟨G,H⟩:=Yj (fun(h:ds[k]=(x,y))=>Lc I h E.out) (fun(h:ds[k]≠(x,y))=>kw I E.out h);generalize ds[k]=dk at c1 c2 T U G H;obtain⟨u,v⟩:=dk;simp only at c1 c2 T U;have N:=fun W=>jD x y u v W
   cases B:(x==u&&y==v) with
   | true=>
    rw[B] at N;have D:Qg (R=k):=Qf (by
     simp only[XF,XS] at B;rw[M.o];exact G.o (by rw[B.1,B.2]))
    clear B G H E;go_wp2_with fail;go_quiet (fail);go_wp2;go_ret;exact⟨Zw D.o,below_drewN (below_drewN (ba w _) _) _⟩
   | false=>
    rw[B] at N;have D:Qg ((x,y)∉ds.take (k+1)):=Qf (H.o (by
     intro h;simp only[XC] at h;simp[h.1,h.2] at B))
    clear B G H E;go_wp2_with fail;go_quiet (fail);go_wp2;go_roundw
    case rel=>exact⟨k+1,_,Zo,Zg,by first | rfl | (simp only[World.drewN_drewN]; rfl),D⟩
    case measure=>exact Yq
  ·have D:Qg (R=-1):=Qf (by
    rw[M.o];apply I1;have:=E.out
    rwa[ag (by rw[<-L.o]; omega)] at this)
   go_wp2;go_ret;exact⟨Zw D.o,below_drewN (ba w _) _⟩
theorem yL(a:Qa)(ds:Qd)(c:Nat)(x y:Int)(w:World)(B:dE w w a ds)(H:(ds.length:Int)<=9223372036854775807):
  Qh 220 #[.slice a ds.length c,.agg #[Yu x,Yu y]] w (Xz (.bool (decide ((x,y)∈ds))) w):=by
 obtain⟨R,D⟩:=Qe (decide ((x,y)∈ds));rw[<-D];have C:Qg (∀W,PM w W->Qh 240 #[.slice a ds.length c,.agg #[Yu x,Yu y]] W (Xz (Yi (Ld ds (x,y))) W)):=Qf (fun W F=>F8 a ds c x y W ((B.below F nr).mono F.size) H);have E:decide (0<=Ld ds (x,y))=R:=by
  rw[D];unfold Ld;by_cases h:(x,y)∈ds
  ·rw[if_pos h]; simp[h]
  ·rw[if_neg h]; simp[h]
 generalize Ld ds (x,y)=r at C E;generalize ds.length=n at C H ⊢;clear D B;have J:=Qf E;clear E;go_enter func220,ntmps220;go_wp2_with fail;refine(C.o _ (ba w _)).mono ?_;rintro e w' ⟨rfl,G⟩;have I:=Qf G;clear G;go_wp2;go_ret;exact⟨by rw[<-J.o]; rfl,(ba w _).trans (I.o.mono Zs)⟩
theorem DJ(W:World):(sizeOf (prog.elem 24)).run prog W=.ok 2 W:=by
 obtain⟨i,B,_,C,_⟩:=XR ul;rw[show prog.elem 24=54 by kernel_rfl];simp[sizeOf,typeInfo,B,C]
theorem Pi(h:dE B W a ds)(f:Nat):dE B W a (ds.take f):=by
 intro i F;have A:i<ds.length:=by simp at F; omega
 obtain⟨b,G,E,C,D⟩:=h i A;refine⟨b,G,E,C,?_⟩;rw[List.getElem_take];exact D
theorem dadd0(h:dE B W a ds):dE B W (a.map (·.add (0*2))) ds:=by
 intro i D;obtain⟨b,E,rfl,A,C⟩:=h i D;exact⟨b,E,by simp[XD],A,C⟩
theorem Js(a:Qa)(n c f:Nat)(h:f<=c):∃(A1:Qa) (c1:Nat),(∀B W ds,dE B W a ds->dE B W A1 (ds.take f))/\∀W,(Instr.slice 24 (.slice a n c) none (some (Yi f)) none).run prog W=.ok (.slice A1 f c1) W:=by
 refine⟨if c=0 then a else a.map (·.add (0*2)),c,fun B W ps C=>?_,fun W=>?_⟩
 ·split
  ·exact Pi C f
  ·exact dadd0 (Pi C f)
 ·rw[run_slice_h (P:=prog) W 24 a n c Zk .i64 f Zo Zo,DJ];simp[sliced,Result.andThen]
abbrev Ob.val(o:Ob)(ea:Qa)(ec:Nat)(pa:Qa)(pc:Nat):Value:=
 .agg #[Yi o.kind,o.data,.slice ea o.ents.length ec,Yu o.tree.1,Yu o.tree.2,.slice pa o.pars.length pc,o.author,Yi o.time,o.msg]
def PR(ds:Qd)(k:Nat):Prop:=kQ [] ds=kQ (ds.take k) (ds.drop k)
theorem PR.start(ds:Qd):PR ds 0:=by unfold PR; simp
theorem PR.step(h:PR ds k)(A:k<ds.length):kQ [] ds=if ds[k]=(0,0) then 1 else if ds[k]∈ds.take k then 7 else kQ (ds.take (k+1)) (ds.drop (k+1)):=by
 unfold PR at h;rw[h,aN A,kQ,ai A]
theorem PR.fin(h:PR ds k)(A:ds.length<=k):kQ [] ds=0:=by
 unfold PR at h;rw[h,dV A];rfl
theorem vw(o:Ob)(ea:Qa)(ec:Nat)(pa:Qa)(pc:Nat)(w:World)(hd:dE w w pa o.pars)(A7:o.pars.length<=pc)(hn:(o.pars.length:Int)<=9223372036854775807)(A6:(o.author.length:Int)<=9223372036854775807)(B2:(o.msg.length:Int)<=9223372036854775807):
  Qh 183 #[o.val ea ec pa pc] w (Xz (Yi (dS o)) w):=by
 obtain⟨R,K⟩:=Qe (dS o);rw[<-K];unfold dS at K;obtain⟨B4,data,B6,⟨t1,t2⟩,A0,A2,A9,B0⟩:=o;simp only at hd A7 hn A6 B2 K;change Qh 183 #[.agg #[Yi B4,data,.slice ea B6.length ec,Yu t1,Yu t2,.slice pa A0.length pc,A2,Yi A9,B0]] w _;generalize B6.length=ne;obtain⟨n,Z⟩:=Qe A0.length;rw[<-Z] at A7 hn K ⊢;obtain⟨HN,HD⟩:=Yj Z hd;clear Z hd;have hq:=fun W=>jD t1 t2 0 0 W
 cases E:(t1==0&&t2==0) with
 | true=>
  rw[E] at hq;have S:Qg (R=1):=Qf (by
   simp only[XF,XS] at E;rw[K,E.1,E.2,if_pos rfl])
  clear E K;go_enter func183,ntmps183;go_wp2;go_ret;exact⟨Zw S.o,ba w _⟩
 | false=>
  rw[E] at hq;rw[if_neg (by
   intro h;simp only[XC] at h;simp[h.1,h.2] at E)] at K
  clear E;by_cases h8:(8:Int)<n
  ·have S:Qg (R=4):=Qf (by rw[K,if_pos Zo]);clear K;go_enter func183,ntmps183;go_wp2;go_ret;exact⟨Zw S.o,ba w _⟩
  ·rw[if_neg Zo] at K;have S:=Qf K;clear K;have I:=Qf (fun W=>zh A2 W A6);go_enter func183,ntmps183;go_wp2;go_loopw [16] (fun i wr=>∃k:Nat,k<=n/\i=Yi k/\Qg (PM w wr)/\Qg (PR A0 k)/\(w:Nat)<(wr:Nat)/\Qg (wr.heap[(w:Nat)]? = some (.cells #[Yi B4,data,.slice ea ne ec,Yu t1,Yu t2,.slice pa n pc,A2,Yi A9,B0] 59 (0,0)))) (fun i _=>n-(intOf i).toNat)
   case atStart=>exact⟨0,Zo,rfl,Qf (ba w _),Qf (PR.start A0),Zs,Qf (YL w _)⟩
   case round=>
    obtain⟨k,hk,rfl,G,HP,J,HX⟩:=hrel;by_cases B1:k<n
    ·have h1:k<A0.length:=HN.o▸B1;obtain⟨b0,o0,B3,C3,c0,c1⟩:=(HD.o.below G.out nr) k h1;subst B3;have M:=Qf (HP.out.step h1);obtain⟨A1,B5,X,C4⟩:=Js (some ⟨b0,o0,none⟩) n pc k Zo;have A3:Qg (∀x y W,PM wr W->Qh 220 #[.slice A1 k B5,.agg #[Yu x,Yu y]] W (Xz (.bool (decide ((x,y)∈A0.take k))) W)):=Qf (fun x y W hW=>by
      have h2:=X _ _ _ (HD.o.below G.out nr);have h3:=yL A1 (A0.take k) B5 x y W (((h2.mono G.out.size).below hW nr).mono hW.size) (Zy aA)
      rwa[aA,mM Zo] at h3)
     generalize A0[k]=dk at c0 c1 M;obtain⟨x,y⟩:=dk;simp only at c0 c1;have A8:=fun W=>jD x y 0 0 W
     have e5:wr.cell? ⟨w,5,none⟩=some (.slice (some ⟨b0,o0,none⟩) n pc):=Zc HX.out;cases E:(x==0&&y==0) with
     | true=>
      rw[E] at A8;have C:Qg (R=1):=Qf (by
       simp only[XF,XS] at E;have:kQ [] A0=1:=by rw[M.o,E.1,E.2,if_pos rfl]
       rw[S.o,this,if_pos Zd])
      clear E M X;go_wp2;go_ret;exact⟨Zw C.o,G.out.alloc Zo _⟩
     | false=>
      rw[E] at A8;have H:Qg (kQ [] A0=if(x,y)∈A0.take k then 7 else kQ (A0.take (k+1)) (A0.drop (k+1))):=Qf (by
       rw[M.o,if_neg (by
        intro h;simp only[XC] at h;simp[h.1,h.2] at E)])
      clear E M X;have N:=Qf (A3.o x y);clear A3;cases Y:decide ((x,y)∈A0.take k) with
      | true=>
       have C:Qg (R=7):=Qf (by
        have:kQ [] A0=7:=by rw[H.o,if_pos (Zu Y)]
        rw[S.o,this,if_pos Zd])
       have L:Qg (∀W,PM wr W->Qh 220 #[.slice A1 k B5,.agg #[Yu x,Yu y]] W (Xz (.bool true) W)):=Qf (by
        have:=N.o
        rwa[Y] at this)
       clear Y N H;go_wp2_with fail;have B:Qg (PM wr (wr.alloc (.cells #[Yu x,Yu y] 54))):=Qf (ba wr _);have g0:(wr.alloc (.cells #[Yu x,Yu y] 54)).cell? wr=some (Yu x):=Zs;have g1:(wr.alloc (.cells #[Yu x,Yu y] 54)).cell? ⟨wr,1,none⟩=some (Yu y):=Zs;have g5:=bP e5 (.cells #[Yu x,Yu y] 54);have F:Qg ((wr.alloc (.cells #[Yu x,Yu y] 54)).heap[(w:Nat)]? = some (.cells #[Yi B4,data,.slice ea ne ec,Yu t1,Yu t2,.slice (some ⟨b0,o0,none⟩) n pc,A2,Yi A9,B0] 59 (0,0))):=Qf ((Below.heap_alloc _ _ _ J).trans HX.out);generalize wr.alloc (.cells #[Yu x,Yu y] 54)=x9 at B g0 g1 g5 F ⊢;have f0:=YG g0;have f1:=YG g1;have f5:=YG g5;have U:=Qf (fun d os=>YJ (w:=x9) (d:=d) (os:=os) (L.o _ (XT B.o (below_regrown x9 d os))));refine YH Zk Zk ?_
       repeat (any_goals (first | go_big_quiet_step (with_reducible exact U.o _ _) | quiet_step (with_reducible exact U.o _ _)))
       refine YI ?_;intro w2 D;have V:Qg (PM w w2):=Qf ((XT G.out B.o).trans ((aX D).mono (aC G.out.size B.o.size)));have A5:=Qf (((aX D).block (w:Nat) (aO J B.o.size)).trans F.o);have T:(w:Nat)<(w2:Nat):=aO J (aC B.o.size (aX D).size);clear D U f0 f1 f5 g0 g1 g5 L F;go_wp2;go_ret;exact⟨Zw C.o,V.o⟩
      | false=>
       have C:Qg (PR A0 (k+1)):=Qf (by
        unfold PR;rw[H.o,if_neg (Zu Y)])
       have L:Qg (∀W,PM wr W->Qh 220 #[.slice A1 k B5,.agg #[Yu x,Yu y]] W (Xz (.bool false) W)):=Qf (by
        have:=N.o
        rwa[Y] at this)
       clear Y N H;go_wp2_with fail;have B:Qg (PM wr (wr.alloc (.cells #[Yu x,Yu y] 54))):=Qf (ba wr _);have g0:(wr.alloc (.cells #[Yu x,Yu y] 54)).cell? wr=some (Yu x):=Zs;have g1:(wr.alloc (.cells #[Yu x,Yu y] 54)).cell? ⟨wr,1,none⟩=some (Yu y):=Zs;have g5:=bP e5 (.cells #[Yu x,Yu y] 54);have F:Qg ((wr.alloc (.cells #[Yu x,Yu y] 54)).heap[(w:Nat)]? = some (.cells #[Yi B4,data,.slice ea ne ec,Yu t1,Yu t2,.slice (some ⟨b0,o0,none⟩) n pc,A2,Yi A9,B0] 59 (0,0))):=Qf ((Below.heap_alloc _ _ _ J).trans HX.out);generalize wr.alloc (.cells #[Yu x,Yu y] 54)=x9 at B g0 g1 g5 F ⊢;have f0:=YG g0;have f1:=YG g1;have f5:=YG g5;have U:=Qf (fun d os=>YJ (w:=x9) (d:=d) (os:=os) (L.o _ (XT B.o (below_regrown x9 d os))));refine YH Zk Zk ?_
       repeat (any_goals (first | go_big_quiet_step (with_reducible exact U.o _ _) | quiet_step (with_reducible exact U.o _ _)))
       refine YI ?_;intro w2 D;have V:Qg (PM w w2):=Qf ((XT G.out B.o).trans ((aX D).mono (aC G.out.size B.o.size)));have A5:=Qf (((aX D).block (w:Nat) (aO J B.o.size)).trans F.o);have T:(w:Nat)<(w2:Nat):=aO J (aC B.o.size (aX D).size);clear D U f0 f1 f5 g0 g1 g5 L F;go_wp2;go_roundw
       case rel=>exact⟨k+1,Zo,Zg,V,C,T,A5⟩
       case measure=>exact Yq
    ·have A4:=Qf (HP.out.fin (by rw[<-HN.o]; omega));have O:Qg (R=if jA A2=false then 6 else if A9<0\/1099511627776<A9 then 2 else if 200<B0.length then 4 else 0):=Qf (by rw[S.o,A4.o,if_neg Zs]);have e6:wr.cell? ⟨w,6,none⟩=some (.string ⟨A2.toArray⟩):=Zc HX.out;have e7:wr.cell? ⟨w,7,none⟩=some (Yi A9):=Zc HX.out;have e8:wr.cell? ⟨w,8,none⟩=some (.string ⟨B0.toArray⟩):=Zc HX.out;clear S A4 HP;cases hv:jA A2 with
     | false=>
      rw[hv] at I;have C:Qg (R=6):=Qf (by rw[O.o,hv,if_pos rfl]);clear hv O;go_wp2_with fail;refine(I.o _).mono ?_;rintro e w' ⟨rfl,rfl⟩;go_wp2;go_ret;exact⟨Zw C.o,G.out⟩
     | true=>
      rw[hv] at I;have P:Qg (R=if A9<0\/1099511627776<A9 then 2 else if 200<B0.length then 4 else 0):=Qf (by rw[O.o,hv,if_neg Zs]);clear hv O;by_cases ht:A9<0\/1099511627776<A9
      ·have C:Qg (R=2):=Qf (by rw[P.o,if_pos ht]);clear P;go_wp2_with fail;refine(I.o _).mono ?_;rintro e w' ⟨rfl,rfl⟩;go_wp2_with fail
       all_goals first
        | (exfalso; omega)
        | (go_ret; exact⟨Zw C.o,G.out⟩)
      ·have Q:Qg (R=if 200<B0.length then 4 else 0):=Qf (by rw[P.o,if_neg ht]);have B7:decide (A9<0)=false:=Zt;have B8:decide (1099511627776<A9)=false:=Zt;clear P ht;by_cases Y:(200:Int)<B0.length
       ·have C:Qg (R=4):=Qf (by rw[Q.o,if_pos Zo]);clear Q;go_wp2_with fail;refine(I.o _).mono ?_;rintro e w' ⟨rfl,rfl⟩;go_wp2;go_ret;exact⟨Zw C.o,G.out⟩
       ·have C:Qg (R=0):=Qf (by rw[Q.o,if_neg Zo]);clear Q;go_wp2_with fail;refine(I.o _).mono ?_;rintro e w' ⟨rfl,rfl⟩;go_wp2;go_ret;exact⟨Zw C.o,G.out⟩
theorem KT(x y:Int)(W:World):(binOp .neq 54 (.agg #[Yu x,Yu y]) (.agg #[Yu 0,Yu 0])).run prog W=.ok (.bool (!(x==0&&y==0))) W:=nI x y 0 0 W
theorem I8(o:Ob):Kj o=(!(o.tree.1==0&&o.tree.2==0)||decide (0<o.pars.length)||!(o.author==[])||!(o.time==0)||!(o.msg==[])):=by
 obtain⟨D,data,C,⟨t1,t2⟩,E,B,A,F⟩:=o;unfold Kj;have e1:decide (((t1,t2):Int×Int)=(0,0))=(t1==0&&t2==0):=by
  rw[YF]; simp
 have e2:∀l:Qb,decide (0<l.length)=!(l==[]):=fun l=>by cases l <;> simp
 have e3:decide (A=0)=(A==0):=Zn YF;simp only[e1,e2,e3]
theorem JL(o:Ob)(ea:Qa)(ec:Nat)(pa:Qa)(pc:Nat)(w:World)(he:BI (w:Nat) w ea o.ents)(hd:dE w w pa o.pars)(T:o.pars.length<=pc)(N:(o.ents.length:Int)<=9223372036854775807)(L:∀e∈o.ents,(e.name.length:Int)<=9223372036854775807)(hn:(o.pars.length:Int)<=9223372036854775807)(A3:(o.data.length:Int)<=9223372036854775807)(Y:(o.author.length:Int)<=9223372036854775807)(A0:(o.msg.length:Int)<=9223372036854775807):
  Qh 136 #[o.val ea ec pa pc] w (Xz (Yi (dz o)) w):=by
 have HE:Qg (∀W,PM w W->Qh 182 #[.slice ea o.ents.length ec] W (Xz (Yi (mK o.ents)) W)):=Qf (fun W X=>rH ea o.ents ec W ((he.below X nr).mono X.size) N L);have U:Qg (∀W,PM w W->Qh 183 #[o.val ea ec pa pc] W (Xz (Yi (dS o)) W)):=Qf (fun W X=>vw o ea ec pa pc W ((hd.below X nr).mono X.size) T hn Y A0);obtain⟨R,hR⟩:=Qe (dz o);rw[<-hR];obtain⟨bc,I⟩:=Qe (Kj o);have H:R=if o.kind=1\/o.kind=4 then(if 0<o.ents.length\/bc=true then 1 else 0) else if o.kind=2 then(if 0<o.data.length\/bc=true then 1 else mK o.ents) else if o.kind=3 then(if 0<o.data.length\/0<o.ents.length then 1 else dS o) else 9:=by rw[hR,I]; rfl
 rw[I8] at I;have e2:(0<o.data.length)=((!(o.data==[]))=true):=by cases o.data <;> simp
 simp only[e2] at H;generalize mK o.ents=re at HE H;generalize dS o=rc at U H;obtain⟨A1,data,A7,⟨t1,t2⟩,A8,A2,A4,A5⟩:=o;simp only at T N hn A3 Y A0 HE H I;change Qg (∀W,PM w W->Qh 183 #[.agg #[Yi A1,data,.slice ea A7.length ec,Yu t1,Yu t2,.slice pa A8.length pc,A2,Yi A4,A5]] W (Xz (Yi rc) W)) at U;change Qh 136 #[.agg #[Yi A1,data,.slice ea A7.length ec,Yu t1,Yu t2,.slice pa A8.length pc,A2,Yi A4,A5]] w _;generalize A7.length=ne at HE U H N ⊢;generalize A8.length=n at U hn T I ⊢;obtain⟨F,E⟩:=Yj H I;clear H I hR he hd L e2;have hq:=fun W=>KT t1 t2 W
 go_enter func136,ntmps136;go_upto_region 3 with fail
 go_cut [5] from 13 to 37 (fun x wx=>x=.bool bc/\wx=w.alloc (.cells #[Yi A1,data,.slice ea ne ec,Yu t1,Yu t2,.slice pa n pc,A2,Yi A4,A5] 59))
 case first=>
  cases h1:(t1==0&&t2==0) with
  | false=>
   rw[h1] at hq E;have K:Qg (bc=true):=Qf (Zn E.o);go_wp2_with fail;go_meet
   case rel=>exact⟨Zx K.o,rfl⟩
  | true=>
   rw[h1] at hq E;cases h2:decide (0<n) with
   | true=>
    rw[h2] at E;have K:Qg (bc=true):=Qf (Zn E.o);go_wp2_with fail;go_meet
    case rel=>exact⟨Zx K.o,rfl⟩
   | false=>
    rw[h2] at E;cases h3:(A2==[]) with
    | false=>
     rw[h3] at E;have K:Qg (bc=true):=Qf (Zn E.o);go_wp2_with fail;go_meet
     case rel=>exact⟨Zx K.o,rfl⟩
    | true=>
     rw[h3] at E;cases V:(A4==0) with
     | false=>
      rw[V] at E;have K:Qg (bc=true):=Qf (Zn E.o);have B6:(A4 !=0)=true:=Zu V;go_wp2_with fail;go_meet
      case rel=>exact⟨Zx K.o,rfl⟩
     | true=>
      rw[V] at E;have A6:A4=0:=Zu V;subst A6;clear V;have K:Qg (bc=!A5.isEmpty):=Qf (by rw[E.o]; cases A5 <;> simp);go_wp2_with fail;go_meet
      case rel=>exact⟨Zx K.o,rfl⟩
 case rest=>
  obtain⟨rfl,rfl⟩:=hcut;have C:Qg (PM w (w.alloc (.cells #[Yi A1,data,.slice ea ne ec,Yu t1,Yu t2,.slice pa n pc,A2,Yi A4,A5] 59))):=Qf (ba w _);clear E hq;by_cases O:A1=1
  ·subst O;cases G:decide (0<ne) with
   | true=>
    have D:0<ne:=Zu G;have B:Qg (R=1):=Qf (by rw[F.o]; simp[D]);clear F;go_wp2;go_ret;exact⟨Zw B.o,C.o⟩
   | false=>
    have D:ne=0:=Zu G;subst D;clear G;cases bc with
    | true=>
     have B:Qg (R=1):=Qf (by rw[F.o]; simp[]);clear F;go_wp2;go_ret;exact⟨Zw B.o,C.o⟩
    | false=>
     have B:Qg (R=0):=Qf (by rw[F.o]; simp[]);clear F;go_wp2;go_ret;exact⟨Zw B.o,C.o⟩
  ·have B2:(A1==1)=false:=Zu O;by_cases S:A1=4
   ·subst S;cases G:decide (0<ne) with
    | true=>
     have D:0<ne:=Zu G;have B:Qg (R=1):=Qf (by rw[F.o]; simp[D]);clear F;go_wp2;go_ret;exact⟨Zw B.o,C.o⟩
    | false=>
     have D:ne=0:=Zu G;subst D;clear G;cases bc with
     | true=>
      have B:Qg (R=1):=Qf (by rw[F.o]; simp[]);clear F;go_wp2;go_ret;exact⟨Zw B.o,C.o⟩
     | false=>
      have B:Qg (R=0):=Qf (by rw[F.o]; simp[]);clear F;go_wp2;go_ret;exact⟨Zw B.o,C.o⟩
   ·have B5:(A1==4)=false:=Zu S;by_cases P:A1=2
    ·subst P;cases J:data.isEmpty with
     | false=>
      have B:Qg (R=1):=Qf (by rw[F.o]; simp[J]);clear F;go_wp2;go_ret;exact⟨Zw B.o,C.o⟩
     | true=>
      cases bc with
      | true=>
       have B:Qg (R=1):=Qf (by rw[F.o]; simp[]);clear F;go_wp2;go_ret;exact⟨Zw B.o,C.o⟩
      | false=>
       have B:Qg (R=re):=Qf (by rw[F.o]; simp[J]);clear F;go_wp2_with fail;refine(HE.o _ C.o).mono ?_;rintro e w' ⟨rfl,Z⟩;have M:=Qf Z;clear Z;go_wp2;go_ret;exact⟨Zw B.o,(XT C.o M.o)⟩
    ·have B3:(A1==2)=false:=Zu P;by_cases Q:A1=3
     ·subst Q;cases J:data.isEmpty with
      | false=>
       have B:Qg (R=1):=Qf (by rw[F.o]; simp[J]);clear F;go_wp2;go_ret;exact⟨Zw B.o,C.o⟩
      | true=>
       cases G:decide (0<ne) with
       | true=>
        have D:0<ne:=Zu G;have B:Qg (R=1):=Qf (by rw[F.o]; simp[D]);clear F;go_wp2;go_ret;exact⟨Zw B.o,C.o⟩
       | false=>
        have D:ne=0:=Zu G;subst D;clear G;have B:Qg (R=rc):=Qf (by rw[F.o]; simp[J]);clear F;go_wp2_with fail;refine(U.o _ C.o).mono ?_;rintro e w' ⟨rfl,Z⟩;have M:=Qf Z;clear Z;go_wp2;go_ret;exact⟨Zw B.o,(XT C.o M.o)⟩
     ·have B4:(A1==3)=false:=Zu Q;have B:Qg (R=9):=Qf (by rw[F.o]; simp[O,S,P,Q]);clear F;go_wp2;go_ret;exact⟨Zw B.o,C.o⟩
open Go.RowKit Go.Shelf
structure WR (w w0:World) (b:Nat) (l:Qb) (bad:Bool) (wr:World):Prop where
 cell:∃v,wr.heap[b]? = some (.cells #[v,.bool bad] 187 (0,0))/\wr.ownsRow w 5 1 v l.length (Lib.byteCells l)/\v.ownBlock≠some b
 bel:PM w wr
 kept:Sd b w0 wr
 le:(w:Nat)<=b
theorem DK(h:w.ownsRow B 5 1 v n xs):∀g,v.ownBlock=some g->∃c fz,w.heap[g]? = some (.cells c 5 fz):=Lib.ownsRowF_kind (World.ownsRowF_of h)
theorem wV{X:World}(h:Sd b w W)(C:PM W X):Sd b w X:=fun k o D A E=>by
 have B:=h k o D A E;exact(C.block k (XA.1 B).1).trans B
theorem WR.below(h:WR w w0 b l bad wr)(A:PM wr x):WR w w0 b l bad x:=by
 obtain⟨⟨v,B,C,E⟩,D,F,G⟩:=h;refine⟨⟨v,(A.block b (XA.1 B).1).trans B,C.kept (row:=none) ⟨A.os,A.tape,A.output,A.size,fun k H _=>A.block k H⟩ ?_,E⟩,(XT D A),wV F A,G⟩;cases C:v.ownBlock with
 | none=>exact .inl rfl
 | some k=>exact .inr Zs
theorem WR.block(h:WR w w0 b l bad wr){t:TypeId}(B:w0.heap[k]? = some (.cells cs t fz))(A:k≠b)(C:t≠5):wr.heap[k]? = some (.cells cs t fz):=
 h.kept k _ B (fun e=>A (XP e)) (fun c f e=>by cases e; exact C rfl)
theorem WR.put{w w0 wr x:World}{b:Nat}{l l':Qb}{bad:Bool}{v v':Value}(h:WR w w0 b l bad wr)(H:wr.heap[b]? = some (.cells #[v,.bool bad] 187 (0,0)))(G:wr.ownsRow w 5 1 v l.length (Lib.byteCells l))(E:v.ownBlock≠some b)
  (D:wr.grownBy x v.ownBlock) (C:x.ownsRow w 5 1 v' l'.length (Lib.byteCells l')):WR w w0 b l' bad (x.setCell b v'):=by
 have I:b<(wr:Nat):=(XA.1 H).1;have B:x.heap[b]? = some (.cells #[v,.bool bad] 187 (0,0)):=(D.block b I (fun e=>E e.symm)).trans H;have A:v'.ownBlock≠some b:=fun e=>by
  obtain⟨c,fz,F⟩:=DK C b e;rw[B] at F;cases F
 refine⟨⟨v',?_,C.kept (dN _ _ _ _) (.inr A),A⟩,(h.bel.grown D h.bel.size (fun k J=>(G.lt k J).1)).setCell h.le _,(h.kept.grown D (DK G)).setCell b rfl _,h.le⟩;simp[World.setCell,XQ,B]
theorem WR.mark(h:WR w w0 b l bad wr)(bad':Bool):WR w w0 b l bad' (wr.setCell ⟨b,1,none⟩ (.bool bad')):=by
 obtain⟨⟨v,C,D,A⟩,E,F,B⟩:=h;refine⟨⟨v,?_,D.kept (dN _ _ _ _) (.inr A),A⟩,E.setCell B _,F.setCell ⟨b,1,none⟩ rfl _,B⟩;simp[World.setCell,XQ,C]
theorem oL(n:Int)(B:0<=n)(C:n<=1099511627776)(w:World):Qh 127 #[Yi n] w (Xz (.tuple #[(Cw.enc n.toNat),Yi 0]) w):=by
 have h:=FI n w;have:GM n=(Cw.enc n.toNat,0):=by unfold GM; rw[if_pos ((Cw.inR_iff n).2 ⟨B,C⟩)]
 rw[this] at h;exact h
theorem gU(h:WR w w0 b l bad wr)(n:Int)(h0:0<=n)(h1:n<=1099511627776)(hl:(l.length:Int)<=70000000000000):
  Qh 137 #[.pointer b,Yi n] wr fun e w'=>e=.returned (.tuple #[])/\Qg (WR w w0 b (l++Cw.enc n.toNat) bad w')/\Qg (Sd b wr w'):=by
 have HP:=Qf (fun W=>oL n h0 h1 W);have A2:=aG n.toNat;generalize Cw.enc n.toNat=E at HP A2 ⊢;obtain⟨i0,hi,Z,A0,A1⟩:=XR QC;obtain⟨S,T,U⟩:=Yk Z A0 A1;clear Z A0 A1 h0 h1;have HW:=Qf h;have HK:Qg (WR w wr b l bad wr):=Qf ⟨h.cell,h.bel,Lib.OthersKept.refl _ _ _,h.le⟩;clear h;go_enter func137,ntmps137;go_wp2_with fail;refine(HP.o _).mono ?_;rintro e x1 ⟨rfl,Q⟩;obtain⟨H,M⟩:=Yj (HW.o.below Q) (HK.o.below Q);clear Q HW HK;obtain⟨v,R,P,X⟩:=H.o.cell;have c0:x1.cell? b=some v:=Zc R;have c1:x1.cell? ⟨b,1,none⟩=some (.bool bad):=Zc R;have f0:x1.frozen? b=false:=YK R 0;have f1:x1.frozen? ⟨b,1,none⟩=false:=YK R 1;obtain⟨G,D,B⟩:=Yk R P X;have Y:(w:Nat)<=(x1:Nat):=H.o.bel.size;clear R P X;have V:(E:ByteArray).size=E.length:=bH E;have L:=Qf V;clear V;cases bad with
 | true=>
  have C:Qg ((x1.setCell ⟨b,1,none⟩ (.bool true)).heap[b]? = some (.cells #[v,.bool true] 187 (0,0))):=Qf (by simp[World.setCell,XQ,G.o]);go_wp2_with (at_builtin; refine Lib.wpList_append_own_string _ rfl _ _ 116 9 rfl (w:Nat) 5 i0 underlying116 underlying9 hi S.o T.o U.o _ _ _ rfl (D.o.kept (dN _ _ _ _) (.inr B.o)) ⟨E.toArray⟩ rfl ?_ ?_ ?_ ?_)
  ·rw[L.o]; unfold maxLen; omega
  ·rw[L.o]; omega
  ·simpa using Y
  ·intro v' x3 O N _;rw[PY,<-byteCells_append,<-af] at O;have K:=Qf O;obtain⟨ao,A3,rfl,_⟩:=aB O;have F:x3.heap[b]? = some (.cells #[v,.bool true] 187 (0,0)):=(N.block b (by simpa using(XA.1 G.o).1) (fun e=>B.o e.symm)).trans C.o;have d0:x3.cell? b=some v:=Zc F;have d1:x3.frozen? b=false:=YK F 0;obtain⟨I,J⟩:=Yj ((H.o.mark true).put C.o (D.o.kept (dN _ _ _ _) (.inr B.o)) B.o N K.o) ((M.o.mark true).put C.o (D.o.kept (dN _ _ _ _) (.inr B.o)) B.o N K.o);rw[af] at I J;clear O N F G D C H M;go_wp2;go_end0;exact⟨rfl,I,Qf J.o.kept⟩
 | false=>
  have C:Qg ((x1.setCell ⟨b,1,none⟩ (.bool false)).heap[b]? = some (.cells #[v,.bool false] 187 (0,0))):=Qf (by simp[World.setCell,XQ,G.o]);go_wp2_with (at_builtin; refine Lib.wpList_append_own_string _ rfl _ _ 116 9 rfl (w:Nat) 5 i0 underlying116 underlying9 hi S.o T.o U.o _ _ _ rfl (D.o.kept (dN _ _ _ _) (.inr B.o)) ⟨E.toArray⟩ rfl ?_ ?_ ?_ ?_)
  ·rw[L.o]; unfold maxLen; omega
  ·rw[L.o]; omega
  ·simpa using Y
  ·intro v' x3 O N _;rw[PY,<-byteCells_append,<-af] at O;have K:=Qf O;obtain⟨ao,A3,rfl,_⟩:=aB O;have F:x3.heap[b]? = some (.cells #[v,.bool false] 187 (0,0)):=(N.block b (by simpa using(XA.1 G.o).1) (fun e=>B.o e.symm)).trans C.o;have d0:x3.cell? b=some v:=Zc F;have d1:x3.frozen? b=false:=YK F 0;obtain⟨I,J⟩:=Yj ((H.o.mark false).put C.o (D.o.kept (dN _ _ _ _) (.inr B.o)) B.o N K.o) ((M.o.mark false).put C.o (D.o.kept (dN _ _ _ _) (.inr B.o)) B.o N K.o);rw[af] at I J;clear O N F G D C H M;go_wp2;go_end0;exact⟨rfl,I,Qf J.o.kept⟩
theorem wM(T:Qb)(h:T.length<=65536)(w:World):Qh 128 #[T] w (Xz (.tuple #[(fF T),Yi 0]) w):=by
 have B:=nG ⟨T.toArray⟩ w (Zy bH);have:putT T=(fF T,0):=if_pos h;simp only[this] at B;exact B
theorem jV(h:WR w w0 b l bad wr)(s:Qb)(h1:s.length<=65536)(hl:(l.length:Int)<=70000000000000):
  Qh 138 #[.pointer b,s] wr fun e w'=>e=.returned (.tuple #[])/\Qg (WR w w0 b (l++fF s) bad w')/\Qg (Sd b wr w'):=by
 have HP:=Qf (fun W=>wM s h1 W);have A2:(fF s).length<=65546:=by have:=aG s.length; rw[fF,af]; omega
 generalize fF s=E at HP A2 ⊢;obtain⟨i0,hi,Z,A0,A1⟩:=XR QC;obtain⟨S,T,U⟩:=Yk Z A0 A1;clear Z A0 A1 h1;have HW:=Qf h;have HK:Qg (WR w wr b l bad wr):=Qf ⟨h.cell,h.bel,Lib.OthersKept.refl _ _ _,h.le⟩;clear h;go_enter func138,ntmps138;go_wp2_with fail;refine(HP.o _).mono ?_;rintro e x1 ⟨rfl,Q⟩;obtain⟨H,M⟩:=Yj (HW.o.below Q) (HK.o.below Q);clear Q HW HK;obtain⟨v,R,P,X⟩:=H.o.cell;have c0:x1.cell? b=some v:=Zc R;have c1:x1.cell? ⟨b,1,none⟩=some (.bool bad):=Zc R;have f0:x1.frozen? b=false:=YK R 0;have f1:x1.frozen? ⟨b,1,none⟩=false:=YK R 1;obtain⟨G,D,B⟩:=Yk R P X;have Y:(w:Nat)<=(x1:Nat):=H.o.bel.size;clear R P X;have V:(E:ByteArray).size=E.length:=bH E;have L:=Qf V;clear V;cases bad with
 | true=>
  have C:Qg ((x1.setCell ⟨b,1,none⟩ (.bool true)).heap[b]? = some (.cells #[v,.bool true] 187 (0,0))):=Qf (by simp[World.setCell,XQ,G.o]);go_wp2_with (at_builtin; refine Lib.wpList_append_own_string _ rfl _ _ 116 9 rfl (w:Nat) 5 i0 underlying116 underlying9 hi S.o T.o U.o _ _ _ rfl (D.o.kept (dN _ _ _ _) (.inr B.o)) ⟨E.toArray⟩ rfl ?_ ?_ ?_ ?_)
  ·rw[L.o]; unfold maxLen; omega
  ·rw[L.o]; omega
  ·simpa using Y
  ·intro v' x3 O N _;rw[PY,<-byteCells_append,<-af] at O;have K:=Qf O;obtain⟨ao,A3,rfl,_⟩:=aB O;have F:x3.heap[b]? = some (.cells #[v,.bool true] 187 (0,0)):=(N.block b (by simpa using(XA.1 G.o).1) (fun e=>B.o e.symm)).trans C.o;have d0:x3.cell? b=some v:=Zc F;have d1:x3.frozen? b=false:=YK F 0;obtain⟨I,J⟩:=Yj ((H.o.mark true).put C.o (D.o.kept (dN _ _ _ _) (.inr B.o)) B.o N K.o) ((M.o.mark true).put C.o (D.o.kept (dN _ _ _ _) (.inr B.o)) B.o N K.o);rw[af] at I J;clear O N F G D C H M;go_wp2;go_end0;exact⟨rfl,I,Qf J.o.kept⟩
 | false=>
  have C:Qg ((x1.setCell ⟨b,1,none⟩ (.bool false)).heap[b]? = some (.cells #[v,.bool false] 187 (0,0))):=Qf (by simp[World.setCell,XQ,G.o]);go_wp2_with (at_builtin; refine Lib.wpList_append_own_string _ rfl _ _ 116 9 rfl (w:Nat) 5 i0 underlying116 underlying9 hi S.o T.o U.o _ _ _ rfl (D.o.kept (dN _ _ _ _) (.inr B.o)) ⟨E.toArray⟩ rfl ?_ ?_ ?_ ?_)
  ·rw[L.o]; unfold maxLen; omega
  ·rw[L.o]; omega
  ·simpa using Y
  ·intro v' x3 O N _;rw[PY,<-byteCells_append,<-af] at O;have K:=Qf O;obtain⟨ao,A3,rfl,_⟩:=aB O;have F:x3.heap[b]? = some (.cells #[v,.bool false] 187 (0,0)):=(N.block b (by simpa using(XA.1 G.o).1) (fun e=>B.o e.symm)).trans C.o;have d0:x3.cell? b=some v:=Zc F;have d1:x3.frozen? b=false:=YK F 0;obtain⟨I,J⟩:=Yj ((H.o.mark false).put C.o (D.o.kept (dN _ _ _ _) (.inr B.o)) B.o N K.o) ((M.o.mark false).put C.o (D.o.kept (dN _ _ _ _) (.inr B.o)) B.o N K.o);rw[af] at I J;clear O N F G D C H M;go_wp2;go_end0;exact⟨rfl,I,Qf J.o.kept⟩
theorem Cq(T:Qb)(h:65536<T.length)(C:(T.length:Int)<=9223372036854775807)(w:World):Qh 128 #[T] w (Xz (.tuple #[Ye,Yi 4]) w):=by
 have B:=nG ⟨T.toArray⟩ w (Zy bH);have:putT T=([],4):=if_neg Zo;simp only[this] at B;exact B
theorem BP(h:WR w w0 b l false wr)(s:Qb)(h1:65536<s.length)(hs:(s.length:Int)<=9223372036854775807)(hl:(l.length:Int)<=70000000000000):
  Qh 138 #[.pointer b,s] wr fun e w'=>e=.returned (.tuple #[])/\Qg (WR w w0 b l true w'):=by
 have HP:=Qf (fun W=>Cq s h1 hs W);obtain⟨E,K⟩:∃E:Qb,E=[]:=⟨_,rfl⟩;have A9:E.length<=65546:=Zn K;have HE:=Qf K;rw[show(⟨#[]⟩:ByteArray)=⟨E.toArray⟩ by rw[K]] at HP;clear K;obtain⟨i0,hi,S,T,U⟩:=XR QC;obtain⟨Z,A0,A1⟩:=Yk S T U;clear S T U h1 hs;have HW:=Qf h;have HK:Qg (WR w wr b l false wr):=Qf ⟨h.cell,h.bel,Lib.OthersKept.refl _ _ _,h.le⟩;clear h;go_enter func138,ntmps138;go_wp2_with fail;refine(HP.o _).mono ?_;rintro e x1 ⟨rfl,I⟩;obtain⟨F,O⟩:=Yj (HW.o.below I) (HK.o.below I);clear I HW HK;obtain⟨v,L,G,R⟩:=F.o.cell;have c0:x1.cell? b=some v:=Zc L;have c1:x1.cell? ⟨b,1,none⟩=some (.bool false):=Zc L;have f0:x1.frozen? b=false:=YK L 0;have f1:x1.frozen? ⟨b,1,none⟩=false:=YK L 1;obtain⟨H,C,B⟩:=Yk L G R;have A2:(w:Nat)<=(x1:Nat):=F.o.bel.size;clear L G R;have Q:(E:ByteArray).size=E.length:=bH E;have M:=Qf Q;clear Q;have D:Qg ((x1.setCell ⟨b,1,none⟩ (.bool true)).heap[b]? = some (.cells #[v,.bool true] 187 (0,0))):=Qf (by simp[World.setCell,XQ,H.o]);go_wp2_with (at_builtin; refine Lib.wpList_append_own_string _ rfl _ _ 116 9 rfl (w:Nat) 5 i0 underlying116 underlying9 hi Z.o A0.o A1.o _ _ _ rfl (C.o.kept (dN _ _ _ _) (.inr B.o)) ⟨E.toArray⟩ rfl ?_ ?_ ?_ ?_)
 ·rw[M.o]; unfold maxLen; omega
 ·rw[M.o]; omega
 ·simpa using A2
 ·intro v' x3 X V _;rw[PY,<-byteCells_append,<-af] at X;have P:=Qf X;obtain⟨ao,A3,rfl,_⟩:=aB X;have J:x3.heap[b]? = some (.cells #[v,.bool true] 187 (0,0)):=(V.block b (by simpa using(XA.1 H.o).1) (fun e=>B.o e.symm)).trans D.o;have d0:x3.cell? b=some v:=Zc J;have d1:x3.frozen? b=false:=YK J 0;obtain⟨N,Y⟩:=Yj ((F.o.mark true).put D.o (C.o.kept (dN _ _ _ _) (.inr B.o)) B.o V P.o) ((O.o.mark true).put D.o (C.o.kept (dN _ _ _ _) (.inr B.o)) B.o V P.o);rw[af] at N Y;clear X V J H C D F O;go_wp2;go_end0;refine⟨rfl,Qf ?_⟩;have h9:=N.o;have K:=HE.o;subst K;rw[bG] at h9;exact h9
theorem Bh(x:Int)(A:0<=x)(B:x<256):Lib.byteCells [UInt8.ofNat x.toNat]=[Yb x]:=by
 simp[Lib.byteCells];omega
def bU(x y:Int):Nat->Qb
 | 0=>[]
 | 1=>be 8 x
 | _=>be 8 x++be 8 y
theorem yR(x y:Int)(k:Nat):(bU x y k).length<=16:=by
 match k with
 | 0=>simp[bU]
 | 1=>simp[bU,bY]
 | _+2=>simp[bU,bY]
theorem jX(h:WR w w0 b l bad wr)(x y:Int)(hx:0<=x)(hy:0<=y)(hl:(l.length:Int)<=70000000000000):
  Qh 139 #[.pointer b,.agg #[Yu x,Yu y]] wr fun e w'=>e=.returned (.tuple #[])/\Qg (WR w w0 b (l++beD (x,y)) bad w')/\Qg (Sd b wr w'):=by
 obtain⟨i0,hi,X,Y,Z⟩:=XR QC;obtain⟨A6,A7,A8⟩:=Yk X Y Z;clear X Y Z;have HW:=Qf h;have HK:Qg (WR w wr b l bad wr):=Qf ⟨h.cell,h.bel,Lib.OthersKept.refl _ _ _,h.le⟩;clear h;obtain⟨ws,rfl⟩:∃ws:World,ws=wr:=⟨_,rfl⟩;go_enter func139,ntmps139;go_wp2;go_loopw [8] (fun i wr=>∃k:Nat,k<=2/\i=Yi k/\Qg (WR w w0 b (l++bU x y k) bad wr)/\Qg (WR w ws b (l++bU x y k) bad wr)) (fun i _=>2-(intOf i).toNat)
 case atStart=>exact⟨0,Zo,rfl,Qf (by simpa[bU] using HW.o.below (ba ws _)),Qf (by simpa[bU] using HK.o.below (ba ws _))⟩
 case round=>
  obtain⟨k,hk,rfl,L,H⟩:=hrel;obtain⟨wo,rfl⟩:∃wo:World,wo=wr:=⟨_,rfl⟩;by_cases C7:k<2
  ·obtain⟨n,hn,C8,HN⟩:∃n:Int,(∀W,(Instr.index 54 (.agg #[Yu x,Yu y]) (Yi (k:Int))).run prog W=.ok (Yu n) W)/\0<=n/\Qg (bU x y (k+1)=bU x y k++be 8 n):=by
    rcases(show k=0\/k=1 by omega) with rfl | rfl
    ·exact⟨x,fun W=>Zk,hx,Qf (by simp[bU])⟩
    ·exact⟨y,fun W=>Zk,hy,Qf rfl⟩
   have B4:=yR x y k;obtain⟨L0,F⟩:=Qe (l++bU x y k);have B8:(L0.length:Int)<=70000000000100:=by rw[F,af]; omega
   have HE:Qg (l++bU x y (k+1)=L0++be 8 n):=Qf (by rw[HN.out,F]; simp);rw[<-F] at L H;clear F HN B4;have dk:decide ((k:Int)<2)=true:=Zt;go_wp2;go_loopw [6] (fun s wr=>∃(j:Nat) (p:Qb),j<=8/\s=Yi (8*(j:Int)-8)/\p.length+j=8/\Qg (p++be j n=be 8 n)/\Qg (WR w w0 b (L0++p) bad wr)/\Qg (WR w ws b (L0++p) bad wr)) (fun s _=>(intOf s+8).toNat)
   case atStart=>exact⟨8,[],Zo,rfl,Zs,Qf rfl,by rw[bG]; exact L,by rw[bG]; exact H⟩
   case round=>
    obtain⟨j,p,hj,rfl,hp,HP,C,E⟩:=hrel;cases j with
    | zero=>
     have A5:Qg (L0++p=l++bU x y (k+1)):=Qf (by rw[HE.o,<-HP.out]; simp[be]);rw[A5.o] at C E;go_wp2;go_roundw
     case rel=>exact⟨k+1,Zo,Zg,C,E⟩
     case measure=>exact Yq
    | succ i=>
     have B3:8*((i+1:Nat):Int)-8=8*(i:Int):=Zo;rw[B3];obtain⟨v,hv,G,V⟩:=C.out.cell;have c0:wr.cell? b=some v:=Zc hv;have A1:=fun z=>bP c0 z
     obtain⟨z,hz⟩:=Qe (n/2^(8*i));have C9:n/2^(8*(i:Int)).toNat=z:=by
      rw[hz];congr 2
     obtain⟨c,hc⟩:=Qe (z%256);have C4:IntKind.u8.wrap z=c:=by rw[hc]; simp[IntKind.wrap,IntKind.bits,IntKind.signed]
     have B1:0<=c:=Zo;have B2:c<256:=Zo;have A4:Qg ((p++[UInt8.ofNat c.toNat])++be i n=be 8 n):=Qf (by rw[<-HP.out,be,<-hz,<-hc,ay]; rfl);obtain⟨HV,HO,I⟩:=Yk hv G V;have R:(L0++p).length=L0.length+p.length:=af;have A9:((L0++p).length:Int)<=70000000000200:=Zy R;have D0:=C.out.bel.size;have T:b<(wr:Nat):=(XA.1 hv).1;clear hc hz hv G V HP R;obtain⟨L1,M⟩:=Qe (L0++p);have A2:Qg (L0++(p++[UInt8.ofNat c.toNat])=L1++[UInt8.ofNat c.toNat]):=Qf (by rw[M,ay]);rw[<-M] at C E HO A9;clear M;have C6:i<=7:=Zo;have C2:(0:Int)<=8*(i:Int):=Zo;have C3:8*(i:Int)<=64:=Zo;go_wp2_with fail;go_region_law
      (first
      | (refine step_append_lies _ Zr (.tmp 19) (.tmp 24) _ Zr (w:Nat) 5 i0 _ 1 1 underlying116 hi A6.o A7.o A8.o rfl Zo _ L1.length (Lib.byteCells L1) Zr (HO.o.alloc _).drew ⟨wr,0,none⟩ 1 1 [.int .u8 c] Zr Zr (World.news_of_block (cs:=#[.int .u8 c]) (t:=5) (fr:=(0,0)) (heap_alloc_new wr _)) (by simp[Value.oneCell']) Zo Zm Zo Zt _ rfl ?_; intro g A0 x3 D B S U; (have O:x3.heap[b]? = some (.cells #[v,.bool bad] 187 (0,0)):=(B.block b Zt (fun e=>I.o e.symm)).trans ((Below.heap_alloc _ _ _ T).trans HV.o)); (have d0:x3.cell? ⟨b,0,none⟩=some v:=Zc O); (have d1:x3.frozen? ⟨b,0,none⟩=false:=YK O 0))
      | fail)
     all_goals
      have N:PM wr (wr.alloc (.cells #[Yb c] 5)).drew:=(ba wr _).drew;have J:Qg (x3.ownsRow w 5 1 (.slice g (L1.length+1) A0) (L1++[UInt8.ofNat c.toNat]).length (Lib.byteCells (L1++[UInt8.ofNat c.toNat]))):=Qf (by
       rw[byteCells_append,Bh c B1 B2,af];exact D)
      have K:Qg ((wr.alloc (.cells #[Yb c] 5)).drew.heap[b]? = some (.cells #[v,.bool bad] 187 (0,0))):=Qf ((Below.heap_alloc _ _ _ T).trans HV.o);obtain⟨P,Q⟩:=Yj ((C.out.below N).put K.o (HO.o.alloc _).drew I.o B J.o) ((E.out.below N).put K.o (HO.o.alloc _).drew I.o B J.o);rw[<-A2.o] at P Q;clear D B S U N J K O;go_wp2;go_roundw
      case rel=>exact⟨i,p++[UInt8.ofNat c.toNat],Zo,rfl,Zt,A4,P,Q⟩
      case measure=>exact Yq
  ·obtain rfl:k=2:=Zo;go_wp2;go_end0;exact⟨rfl,L,Qf H.out.kept⟩
theorem Gu(l:Qb):(l.map fun c=>(c.toNat:Int)).map (fun c=>UInt8.ofNat c.toNat)=l:=by
 rw[List.map_map]
 conv=>rhs; rw[<-List.map_id l]
 apply rO;intro c _;simp
theorem Az:∀(ns:List Int) (r:ByteArray),(ns.foldl (fun r n=>r.push (UInt8.ofNat n.toNat)) r).data.toList=r.data.toList++ns.map fun c=>UInt8.ofNat c.toNat
 | [],r=>Zs
 | n::ns,r=>by
  rw[fE,Az ns,eX];simp[ByteArray.push]
theorem pF(h:W.ownsRow B 5 1 v l.length (Lib.byteCells l))(D:l≠[]):(convert 116 9 v).run prog W=.ok (.string ⟨l.toArray⟩) W:=by
 obtain⟨g,F,rfl,_,_⟩:=h.form (bJ.2 D);rw[run_convert_bytes_string W 116 9 5 (some ⟨g,0,none⟩) l.length F underlying116 underlying5 underlying9];have e:Lib.byteCells l=(l.map fun c=>(c.toNat:Int)).map (Value.int .u8):=by simp[Lib.byteCells]
 have C:=run_loadCells_list (P:=prog) W ⟨g,0,none⟩ ((l.map fun c=>(c.toNat:Int)).map (Value.int .u8)) (fun j u E=>h.cells (g:=g) rfl j u (e▸E));rw[fC,fC] at C;rw[run_bytesToString W ⟨g,0,none⟩ l.length F (l.map fun c=>(c.toNat:Int)) C];congr 2;refine QG ?_;rw[Az,Gu];rfl
theorem L9(o:Ob):gZ o≠[]:=by
 unfold gZ;intro h;have:=List.append_eq_nil_iff.1 h;exact xu _ this.1
theorem AU(es:List Ent)(k:Nat)(h:k<es.length):(es.take (k+1)).flatMap ru=(es.take k).flatMap ru++ru es[k]:=by
 rw[ai h,bg];simp
theorem ET(ds:Qd)(k:Nat)(h:k<ds.length):(ds.take (k+1)).flatMap beD=(ds.take k).flatMap beD++beD ds[k]:=by
 rw[ai h,bg];simp
theorem uN(e:Ent)(h:e.name.length<=24):(ru e).length<=60:=by
 have A:=aG e.name.length;have B:=aG (vG e.dir);rw[ru,fF,af,af,af,bX];omega
theorem qZ:∀(es:List Ent),(∀e∈es,e.name.length<=24)->(es.flatMap ru).length<=60*es.length
 | [],_=>Zs
 | e::es,h=>by
  have B:=uN e (h e (P9 ..));have C:=qZ es (fun x A=>h x (pM _ A));rw[bR,af,az];omega
theorem nS:∀(ds:Qd),(ds.flatMap beD).length=16*ds.length
 | []=>rfl
 | d::ds=>by
  rw[bR,af,bX,nS ds,az];omega
structure Dw (w:World) (o:Ob) (ea:Qa) (ec:Nat) (pa:Qa) (pc:Nat):Prop where
 ents:BI (w:Nat) w ea o.ents
 pars:dE w w pa o.pars
 pcap:o.pars.length<=pc
 elen:(o.ents.length:Int)<=9223372036854775807
 enam:∀e∈o.ents,(e.name.length:Int)<=9223372036854775807
 edig:∀e∈o.ents,0<=e.d.1/\0<=e.d.2
 plen:(o.pars.length:Int)<=9223372036854775807
 pdig:∀d∈o.pars,0<=d.1/\0<=d.2
 tdig:0<=o.tree.1/\0<=o.tree.2
 dlen:(o.data.length:Int)<=9223372036854775807
 alen:(o.author.length:Int)<=9223372036854775807
 mlen:(o.msg.length:Int)<=9223372036854775807
theorem Dw.below{o:Ob}(h:Dw w o ea ec pa pc)(A:PM w W):Dw W o ea ec pa pc:=
 ⟨(h.ents.below A nr).mono A.size,(h.pars.below A nr).mono A.size,h.pcap,h.elen,h.enam,h.edig,h.plen,h.pdig,h.tdig,h.dlen,h.alen,h.mlen⟩
theorem ME{o:Ob}(h:dz o=0)(A:o.kind=2):o.ents.length<=200/\∀e∈o.ents,jA e.name=true:=by
 unfold dz at h;rw[if_neg Zo,if_pos A] at h;split at h
 ·cases h
 ·unfold mK at h;split at h
  ·cases h
  ·exact⟨Zo,l9 h⟩
theorem MC{o:Ob}(h:dz o=0)(A:o.kind=3):dS o=0:=by
 unfold dz at h;rw[if_neg Zo,if_neg Zo,if_pos A] at h;split at h
 ·cases h
 ·exact h
theorem rz{o:Ob}(h:dS o=0):o.pars.length<=8/\jA o.author=true/\0<=o.time/\o.time<=1099511627776/\o.msg.length<=200:=by
 unfold dS at h;split at h
 ·cases h
 ·split at h
  ·cases h
  ·split at h
   ·rename_i A; exact absurd h A
   ·split at h
    ·cases h
    ·split at h
     ·cases h
     ·split at h
      ·cases h
      ·rename_i A C B D E;exact⟨Zo,Zu B,Zo,Zo,Zo⟩
theorem iP(o:Ob)(ea:Qa)(ec:Nat)(pa:Qa)(pc:Nat)(w:World)(h:Dw w o ea ec pa pc):
  Qh 80 #[o.val ea ec pa pc] w (Xz (.tuple #[.string ⟨(aR o).1.toArray⟩,Yi (aR o).2]) w):=by
 obtain⟨R,E,D5⟩:∃R E,aR o=(R,E):=⟨_,_,rfl⟩;rw[D5];have HC:Qg (∀W,PM w W->Qh 136 #[o.val ea ec pa pc] W (Xz (Yi (dz o)) W)):=Qf (fun W hW=>by
  have h2:=h.below hW;have:=h2.elen;have:=h2.plen;have:=h2.dlen;exact JL o ea ec pa pc W h2.ents h2.pars h2.pcap Zo h2.enam Zo Zo h2.alen h2.mlen)
 obtain⟨BO,B9⟩:=Qe (gZ o);have A2:Qg (BO≠[]):=Qf (B9▸L9 o);have Y:(R,E)=if dz o≠0 then([],dz o) else if 65536<BO.length then([],4) else(BO,0):=by rw[<-D5,B9]; rfl
 obtain⟨y,hy⟩:=Qe (dz o);rw[<-hy] at HC Y;obtain⟨B4,X,HY⟩:=Yk B9 h hy;clear D5 B9 h hy;obtain⟨E0,data,C5,⟨t1,t2⟩,C9,B8,F7,G4⟩:=o;obtain⟨ne,L⟩:=Qe C5.length;obtain⟨n,hn⟩:=Qe C9.length;change Qg (∀W,PM w W->Qh 136 #[.agg #[Yi E0,data,.slice ea C5.length ec,Yu t1,Yu t2,.slice pa C9.length pc,B8,Yi F7,G4]] W (Xz (Yi y) W)) at HC;change Qh 80 #[.agg #[Yi E0,data,.slice ea C5.length ec,Yu t1,Yu t2,.slice pa C9.length pc,B8,Yi F7,G4]] w _;rw[<-L,<-hn] at HC ⊢;obtain⟨B6,A9⟩:=Yj L hn;clear L hn;by_cases C4:y=0
 ·subst C4;rw[if_neg Zs] at Y;have F:=Qf Y;clear Y;have B3:Qg (PM w (w.alloc (.cells #[Yi E0,data,.slice ea ne ec,Yu t1,Yu t2,.slice pa n pc,B8,Yi F7,G4] 59))):=Qf (ba w _);have C2:=eP HY.o.symm;simp only at C2;have F0:=X.o.dlen;simp only at F0;go_enter func80,ntmps80;go_wp2_with fail;refine(HC.o _ B3.o).mono ?_;rintro e x1 ⟨rfl,A5⟩;have T:=A5.block (w:Nat) Zs;rw[YL w _] at T;obtain⟨E1,A6⟩:=Yj T (XT B3.o A5);have G5:(w:Nat)<(x1:Nat):=(XA.1 T).1;have c0:x1.cell? w=some (Yi E0):=Zc T;have H3:=fun z=>bP c0 z
  clear A5 T B3 HC;go_wp2_with fail;obtain⟨w0,C3⟩:=Qe (x1.alloc (.cells #[(),.bool false] 187));have E4:Qg (WR w w0 (x1:Nat) [] false w0):=Qf (by
   rw[C3];exact⟨⟨.slice none 0 0,YL _ _,XE _ _ _ _,by simp[Value.ownBlock]⟩,A6.o.alloc A6.o.size _,Lib.OthersKept.refl _ _ _,A6.o.size⟩)
  have I:Qg (w0.heap[(w:Nat)]? = some (.cells #[Yi E0,data,.slice ea ne ec,Yu t1,Yu t2,.slice pa n pc,B8,Yi F7,G4] 59 (0,0))):=Qf (by rw[C3,Below.heap_alloc _ _ _ G5]; exact E1.o);rw[<-C3];clear C3 c0 H3 E1;refine(gU E4.o E0 Zo Zo Zs).mono ?_;rintro e x2 ⟨rfl,G,_⟩;rw[aY] at G;have O:=G.out.block I.o Zo Zd;have d0:x2.cell? w=some (Yi E0):=Zc O;have d1:x2.cell? ⟨w,1,none⟩=some (.string ⟨data.toArray⟩):=Zc O;have d2:x2.cell? ⟨w,2,none⟩=some (.slice ea ne ec):=Zc O;have d3:x2.cell? ⟨w,3,none⟩=some (Yu t1):=Zc O;have d4:x2.cell? ⟨w,4,none⟩=some (Yu t2):=Zc O;have H4:=aG E0.toNat;clear O;by_cases C1:E0=2
  ·subst C1;obtain⟨B2,A1⟩:=ME HY.o.symm rfl;have E3:=Qf A1;simp only at B2;rw[<-B6.o] at B2;have M:Qg (BO=(Cw.enc 2++Cw.enc ne)++C5.flatMap ru):=Qf (by rw[B4.o]; unfold gZ; rw[if_pos rfl,B6.o,ay]; rfl);have F8:=aG ne;clear A1 C2;go_wp2_with fail;refine(gU G.out (ne:Int) Zo Zo Zo).mono ?_;rintro e x3 ⟨rfl,B,_⟩;rw[aj] at B;obtain⟨P2,P⟩:=Qe (Cw.enc 2++Cw.enc ne);have E6:P2.length<=20:=by rw[P,af]; have:=aG 2; omega
   have D2:Qg (WR w w0 (x1:Nat) P2 false x3):=Qf (P▸B.out);rw[<-P] at M;have U:=B.out.block I.o Zo Zd;have e2:x3.cell? ⟨w,2,none⟩=some (.slice ea ne ec):=Zc U;clear U d0 d1 d2 d3 d4 B P G;go_wp2;go_loopw [39] (fun i wr=>∃k:Nat,k<=ne/\i=Yi k/\Qg (WR w w0 (x1:Nat) (P2++(C5.take k).flatMap ru) false wr)) (fun i _=>ne-(intOf i).toNat)
   case atStart=>exact⟨0,Zo,rfl,Qf (Zu D2.o)⟩
   case round=>
    obtain⟨k,hk,rfl,D⟩:=hrel;by_cases D8:k<ne
    ·have h1:k<C5.length:=B6.o▸D8;obtain⟨b0,o0,rfl,G0,g0,g1,g2,g3⟩:=(X.o.ents.below D.out.bel nr) k h1;simp only at g0 g1 g2 g3;have HT:=Qf (AU C5 k h1);have F4:=di (E3.o _ (ak h1));have K:=X.o.edig _ (ak h1);have D4:((P2++(C5.take k).flatMap ru).length:Int)<=100000:=by
      rw[af];have:=qZ (C5.take k) (fun e he=>(di (E3.o e (dK he))).2);rw[aA] at this;omega
     generalize C5[k]=en at g0 g1 g2 g3 HT F4 K;obtain⟨nm,G6,q1,q2⟩:=en;simp only at g0 g1 g2 g3 F4 K;have A3:Qg (P2++(C5.take (k+1)).flatMap ru=(((P2++(C5.take k).flatMap ru)++fF nm)++Cw.enc (vG G6))++beD (q1,q2)):=Qf (by rw[HT.o]; simp[ru]);generalize P2++(C5.take k).flatMap ru=LK at D D4 A3;have H2:(x1:Nat)<(wr:Nat):=by
      obtain⟨v,V,_⟩:=D.out.cell;exact(XA.1 V).1
     clear HT;go_wp2_with fail;obtain⟨A4,C8⟩:=Yj (D.out.below ((bf wr).alloc nr (.cells #[nm,.bool G6,Yu q1,Yu q2] 164))) (YL wr (.cells #[nm,.bool G6,Yu q1,Yu q2] 164));generalize wr.alloc (.cells #[nm,.bool G6,Yu q1,Yu q2] 164)=wa at A4 C8 ⊢;refine(jV A4.o nm Zo Zo).mono ?_;rintro e x4 ⟨rfl,B7,E2⟩;have D6:=E2.out _ _ C8.o (fun e=>Zh (XP e)) (fun c f e=>by cases e);have B5:=Qf D6;have r1:x4.cell? ⟨wr,1,none⟩=some (.bool G6):=Zc D6;clear D6 A4 C8 E2 g0 g1 g2 g3;have H6:(fF nm).length<=40:=by have:=aG nm.length; rw[fF,af]; omega
     have G9:((LK++fF nm).length:Int)<=200000:=Zy af;cases G6 with
     | true=>
      go_wp2_with fail;refine(gU B7.out 1 Zo Zo Zo).mono ?_;rintro e x5 ⟨rfl,B1,A8⟩;have Z:=A8.out _ _ B5.o (fun e=>Zh (XP e)) (fun c f e=>by cases e);have s2:x5.cell? ⟨wr,2,none⟩=some (Yu q1):=Zc Z;have s3:x5.cell? ⟨wr,3,none⟩=some (Yu q2):=Zc Z;clear Z A8 B5 r1 B7;have G1:=aG 1;have Q:Qg (WR w w0 (x1:Nat) ((LK++fF nm)++Cw.enc (vG true)) false x5):=B1;go_wp2_with fail;refine(jX Q.o q1 q2 K.1 K.2 (by rw[af]; have:=aG (vG true); omega)).mono ?_;rintro e x6 ⟨rfl,H,_⟩;rw[<-A3.o] at H;clear s2 s3 B1 Q;go_wp2;go_roundw
      case rel=>exact⟨k+1,Zo,Zg,H⟩
      case measure=>exact Yq
     | false=>
      go_wp2_with fail;refine(gU B7.out 0 Zo Zo Zo).mono ?_;rintro e x5 ⟨rfl,B1,A8⟩;have Z:=A8.out _ _ B5.o (fun e=>Zh (XP e)) (fun c f e=>by cases e);have s2:x5.cell? ⟨wr,2,none⟩=some (Yu q1):=Zc Z;have s3:x5.cell? ⟨wr,3,none⟩=some (Yu q2):=Zc Z;clear Z A8 B5 r1 B7;have G1:=aG 0;have Q:Qg (WR w w0 (x1:Nat) ((LK++fF nm)++Cw.enc (vG false)) false x5):=B1;go_wp2_with fail;refine(jX Q.o q1 q2 K.1 K.2 (by rw[af]; have:=aG (vG false); omega)).mono ?_;rintro e x6 ⟨rfl,H,_⟩;rw[<-A3.o] at H;clear s2 s3 B1 Q;go_wp2;go_roundw
      case rel=>exact⟨k+1,Zo,Zg,H⟩
      case measure=>exact Yq
    ·have A7:Qg (P2++(C5.take k).flatMap ru=BO):=Qf (by rw[M.o,ag (by rw[<-B6.o]; omega)]);rw[A7.o] at D;clear A7 e2;obtain⟨v,V,C,L⟩:=D.out.cell;have B0:=Qf C;have c0:wr.cell? x1=some v:=Zc V;have c1:wr.cell? ⟨x1,1,none⟩=some (.bool false):=Zc V;obtain⟨g,H1,rfl,_,_⟩:=C.form (bJ.2 A2.o);have N:=Qf D.out.bel;clear V C L;by_cases E5:(65536:Int)<BO.length
     ·have J:Qg (R=[]/\E=4):=Qf (by have:=F.o; rw[if_pos Zo] at this; simpa using this);clear F;go_wp2;go_ret2;rw[J.o.1,J.o.2];exact⟨rfl,N.o⟩
     ·have J:Qg (R=BO/\E=0):=Qf (by have:=F.o; rw[if_neg Zo] at this; simpa using this);have E9:=pF B0.o A2.o;clear F;go_wp2;go_ret2;rw[J.o.1,J.o.2];exact⟨rfl,N.o⟩
  ·by_cases D7:E0=3
   ·subst D7;obtain⟨F3,C7,F5,F6,G3⟩:=rz (MC HY.o.symm rfl);have F9:=di C7;simp only at F3 F5 F6 G3 F9;rw[<-A9.o] at F3;have D9:=X.o.tdig;simp only at D9;have M:Qg (BO=((((Cw.enc 3++beD (t1,t2))++Cw.enc n)++C9.flatMap beD)++fF B8)++Cw.enc F7.toNat++fF G4):=Qf (by rw[B4.o]; unfold gZ; rw[if_neg Zs,if_pos rfl,A9.o]; simp);have F8:=aG n;have H0:=aG F7.toNat;have G8:(fF B8).length<=40:=by have:=aG B8.length; rw[fF,af]; omega
    have E7:=bX (t1,t2);clear C1 C2 C7;go_wp2_with fail;refine(jX G.out t1 t2 D9.1 D9.2 Zo).mono ?_;rintro e x3 ⟨rfl,B,_⟩;have U:=B.out.block I.o Zo Zd;have e5:x3.cell? ⟨w,5,none⟩=some (.slice pa n pc):=Zc U;clear U d0 d1 d2 d3 d4 G;have F1:=aG 3;have G2:((Cw.enc (3:Int).toNat++beD (t1,t2)).length:Int)<=100:=by rw[af,E7]; show(((Cw.enc 3).length+16:Nat):Int)<=100; omega
    go_wp2_with fail;refine(gU B.out (n:Int) Zo Zo Zo).mono ?_;rintro e x4 ⟨rfl,A0,_⟩;rw[aj] at A0;obtain⟨P2,P⟩:=Qe ((Cw.enc 3++beD (t1,t2))++Cw.enc n);have E6:P2.length<=50:=by rw[P,af,af]; omega
    have D3:Qg (WR w w0 (x1:Nat) P2 false x4):=Qf (P▸A0.out);rw[<-P] at M;have C6:=A0.out.block I.o Zo Zd;have e5:x4.cell? ⟨w,5,none⟩=some (.slice pa n pc):=Zc C6;clear C6 A0 P B G2 E7 F1;go_wp2;go_loopw [64] (fun i wr=>∃k:Nat,k<=n/\i=Yi k/\Qg (WR w w0 (x1:Nat) (P2++(C9.take k).flatMap beD) false wr)) (fun i _=>n-(intOf i).toNat)
    case atStart=>exact⟨0,Zo,rfl,Qf (Zu D3.o)⟩
    case round=>
     obtain⟨k,hk,rfl,D⟩:=hrel;by_cases D8:k<n
     ·have h1:k<C9.length:=A9.o▸D8;obtain⟨b0,o0,rfl,G0,g0,g1⟩:=(X.o.pars.below D.out.bel nr) k h1;simp only at g0 g1;have HT:=Qf (ET C9 k h1);have K:=X.o.pdig _ (ak h1);have D4:((P2++(C9.take k).flatMap beD).length:Int)<=100000:=by
       rw[af,nS,aA];omega
      generalize C9[k]=dk at g0 g1 HT K;obtain⟨q1,q2⟩:=dk;simp only at g0 g1 K;have A3:Qg (P2++(C9.take (k+1)).flatMap beD=(P2++(C9.take k).flatMap beD)++beD (q1,q2)):=Qf (Zn HT.o);generalize P2++(C9.take k).flatMap beD=LK at D D4 A3;clear HT;go_wp2_with fail;have A4:=Qf (D.out.below ((bf wr).alloc nr (.cells #[Yu q1,Yu q2] 54)));refine(jX A4.o q1 q2 K.1 K.2 Zo).mono ?_;rintro e x6 ⟨rfl,H,_⟩;rw[<-A3.o] at H;clear A4 g0 g1;go_wp2;go_roundw
      case rel=>exact⟨k+1,Zo,Zg,H⟩
      case measure=>exact Yq
     ·obtain⟨P3,C0⟩:=Qe (P2++C9.flatMap beD);have A7:Qg (P2++(C9.take k).flatMap beD=P3):=Qf (by rw[C0,ag (by rw[<-A9.o]; omega)]);have G7:P3.length<=200:=by rw[C0,af,nS,<-A9.o]; omega
      rw[A7.o] at D;rw[<-C0] at M;have S:=D.out.block I.o Zo Zd;have f6:wr.cell? ⟨w,6,none⟩=some (.string ⟨B8.toArray⟩):=Zc S;clear A7 e5 C0 S;go_wp2_with fail;refine(jV D.out B8 Zo Zo).mono ?_;rintro e x6 ⟨rfl,H,_⟩;have S:=H.out.block I.o Zo Zd;have f7:x6.cell? ⟨w,7,none⟩=some (Yi F7):=Zc S;clear S f6 D;go_wp2_with fail;refine(gU H.out F7 F5 F6 (Zy af)).mono ?_;rintro e x7 ⟨rfl,D0,_⟩;have S:=D0.out.block I.o Zo Zd;have f8:x7.cell? ⟨w,8,none⟩=some (.string ⟨G4.toArray⟩):=Zc S;clear S f7 H;go_wp2_with fail;refine(jV D0.out G4 Zo (by rw[af,af]; omega)).mono ?_;rintro e x8 ⟨rfl,D1,_⟩;rw[<-M.o] at D1;clear f8 D0;obtain⟨v,V,C,L⟩:=D1.out.cell;have B0:=Qf C;have c0:x8.cell? x1=some v:=Zc V;have c1:x8.cell? ⟨x1,1,none⟩=some (.bool false):=Zc V;obtain⟨g,H1,rfl,_,_⟩:=C.form (bJ.2 A2.o);have N:=Qf D1.out.bel;clear V C L;by_cases E5:(65536:Int)<BO.length
      ·have J:Qg (R=[]/\E=4):=Qf (by have:=F.o; rw[if_pos Zo] at this; simpa using this);clear F;go_wp2;go_ret2;rw[J.o.1,J.o.2];exact⟨rfl,N.o⟩
      ·have J:Qg (R=BO/\E=0):=Qf (by have:=F.o; rw[if_neg Zo] at this; simpa using this);have E9:=pF B0.o A2.o;clear F;go_wp2;go_ret2;rw[J.o.1,J.o.2];exact⟨rfl,N.o⟩
   ·have M:Qg (BO=Cw.enc E0.toNat++fF data):=Qf (by rw[B4.o]; unfold gZ; rw[if_neg C1,if_neg D7]);have F2:E0=1\/E0=4:=Zo;clear C1 D7 C2;by_cases E8:data.length<=65536
    ·rcases F2 with rfl | rfl
     all_goals
      go_wp2_with fail;refine(jV G.out data E8 Zo).mono ?_;rintro e x3 ⟨rfl,B,_⟩;rw[<-M.o] at B;clear d0 d1 d2 d3 d4;obtain⟨v,V,C,L⟩:=B.out.cell;have B0:=Qf C;have c0:x3.cell? x1=some v:=Zc V;have c1:x3.cell? ⟨x1,1,none⟩=some (.bool false):=Zc V;obtain⟨g,H1,rfl,_,_⟩:=C.form (bJ.2 A2.o);have N:=Qf B.out.bel;clear V C L;by_cases E5:(65536:Int)<BO.length
      ·have J:Qg (R=[]/\E=4):=Qf (by have:=F.o; rw[if_pos Zo] at this; simpa using this);clear F;go_wp2;go_ret2;rw[J.o.1,J.o.2];exact⟨rfl,N.o⟩
      ·have J:Qg (R=BO/\E=0):=Qf (by have:=F.o; rw[if_neg Zo] at this; simpa using this);have E9:=pF B0.o A2.o;clear F;go_wp2;go_ret2;rw[J.o.1,J.o.2];exact⟨rfl,N.o⟩
    ·have J:Qg (R=[]/\E=4):=Qf (by
      have:=F.o;rw[if_pos (by rw[M.o,af,fF,af]; omega)] at this;simpa using this)
     clear F M;rcases F2 with rfl | rfl
     all_goals
      go_wp2_with fail;refine(BP G.out data Zo F0 Zo).mono ?_;rintro e x3 ⟨rfl,B⟩;clear d0 d1 d2 d3 d4;obtain⟨v,V,C,L⟩:=B.out.cell;have c0:x3.cell? x1=some v:=Zc V;have c1:x3.cell? ⟨x1,1,none⟩=some (.bool true):=Zc V;have N:=Qf B.out.bel;clear V C L;go_wp2;go_ret2;rw[J.o.1,J.o.2];exact⟨rfl,N.o⟩
 ·have J:Qg (R=[]/\E=y):=Qf (by rw[if_pos C4] at Y; simpa using Y);have H7:(y !=0)=true:=Zu C4;clear C4 Y X HY B4;go_enter func80,ntmps80;go_wp2_with fail;refine(HC.o _ (ba w _)).mono ?_;rintro e x1 ⟨rfl,A5⟩;have A6:=Qf A5;clear A5;go_wp2;go_ret2;rw[J.o.1,J.o.2];exact⟨rfl,(ba w _).trans (A6.o.mono Zs)⟩
abbrev RS:=Qb×Bool
def dO(r:RS):Int×RS:=((Cw.getI r.1).1,(r.1.drop (Cw.getI r.1).2.1.toNat,r.2||(Cw.getI r.1).2.2 !=0))
def iN(r:RS):Qb×RS:=((Cw.getT r.1).1,(r.1.drop (Cw.getT r.1).2.1.toNat,r.2||(Cw.getT r.1).2.2 !=0))
def iH(r:RS):(Int×Int)×RS:=if r.1.length<16 then((0,0),(r.1,true)) else((mJ (r.1.take 8),mJ ((r.1.drop 8).take 8)),(r.1.drop 16,r.2))
def RD(b:Nat)(r:RS)(W:World):Prop:=W.heap[b]? = some (.cells #[.string ⟨r.1.toArray⟩,.bool r.2] 160 (0,0))
theorem gH{n:Int}(h:Cw.getI l=(n,u,er)):0<=n/\n<=1099511627776/\0<=u/\u<=l.length:=by
 by_cases C:er=0
 ·subst C;have:=bM h;omega
 ·have D:(Cw.getGo 6 0 0 1 l).2.2≠0:=by
   have:Cw.getGo 6 0 0 1 l=(n,u,er):=h;rw[this]; exact C
  have A:Cw.getGo 6 0 0 1 l=(n,u,er):=h;rcases Aq 6 0 0 1 l D with B | B
  ·rw[B] at A; simp only[XC] at A; omega
  ·rw[B] at A; simp only[XC] at A; omega
theorem lZ{x:Qb}(h:Cw.getT l=(x,u,er)):0<=u/\u<=l.length/\x.length<=65536:=by
 obtain⟨n,k,E,B,C⟩:=jM l;have D:=gH B;rcases C with⟨_,A⟩ | ⟨_,_,A⟩ | ⟨_,_,_,A⟩ | ⟨_,_,_,A⟩
 ·rw[h] at A; simp only[XC] at A; rw[A.1,A.2.1]; simp
 ·rw[h] at A; simp only[XC] at A; rw[A.1,A.2.1]; simp
 ·rw[h] at A; simp only[XC] at A; rw[A.1,A.2.1]; simp
 ·rw[h] at A; simp only[XC] at A; rw[A.1,A.2.1]; simp only[aA,ah]; omega
theorem wH{bad':Bool}(h:RD b (l,bad) W):RD b (l',bad') ((W.setCell ⟨b,1,none⟩ (.bool bad')).setCell b (.string ⟨l'.toArray⟩)):=by
 unfold RD at h ⊢;simp[World.setCell,XQ,h]
theorem iV(b:Nat)(r:RS)(w:World)(h:RD b r w)(I:(r.1.length:Int)<=140737488355328):
  Qh 113 #[.pointer b] w fun e w'=>e=.returned (Yi (dO r).1)/\Qg (RD b (dO r).2 w')/\Qg (w.grownBy w' (some b)):=by
 obtain⟨l,L⟩:=r;obtain⟨n,u,er,C⟩:∃n u er,Cw.getI l=(n,u,er):=⟨_,_,_,rfl⟩;have B:=Qf (fun X=>dQ (s:=⟨l.toArray⟩) (n:=n) (k:=u) (er:=er) (Zu C) X);have J:=gH C;have E:dO (l,L)=(n,(l.drop u.toNat,L||er !=0)):=by unfold dO; rw[C]
 obtain⟨u0,rfl⟩:∃u0:Nat,u=(u0:Int):=⟨u.toNat,Zo⟩;rw[aj] at E;have H:u0<=l.length:=Zo;have G:=fun W=>jY l u0 H W
 have F:(l:ByteArray).extract u0 l.length=⟨(l.drop u0).toArray⟩:=by rw[dw,ag Zs]
 rw[E];generalize l.drop u0=l' at G F ⊢;have D:=Qf h;have c0:w.cell? b=some (.string ⟨l.toArray⟩):=Zc h;have c1:w.cell? ⟨b,1,none⟩=some (.bool L):=Zc h;have f0:w.frozen? b=false:=YK h 0;have f1:w.frozen? ⟨b,1,none⟩=false:=YK h 1;simp only at I;clear C E h;cases L with
 | true=>
  go_enter func113,ntmps113;go_wp2_with fail;refine(B.o _).mono ?_;rintro e w' ⟨rfl,rfl⟩;go_wp2;go_ret;exact⟨rfl,Qf (wH D.o),Qf (bu (dN _ _ _ _) (dN _ _ _ _))⟩
 | false=>
  cases K:(er !=0) with
  | true=>
   go_enter func113,ntmps113;go_wp2_with fail;refine(B.o _).mono ?_;rintro e w' ⟨rfl,rfl⟩;go_wp2;go_ret;exact⟨rfl,Qf (wH D.o),Qf (bu (dN _ _ _ _) (dN _ _ _ _))⟩
  | false=>
   go_enter func113,ntmps113;go_wp2_with fail;refine(B.o _).mono ?_;rintro e w' ⟨rfl,rfl⟩;go_wp2;go_ret;exact⟨rfl,Qf (wH D.o),Qf (bu (dN _ _ _ _) (dN _ _ _ _))⟩
theorem iU(b:Nat)(r:RS)(w:World)(h:RD b r w)(I:(r.1.length:Int)<=140737488355328):
  Qh 114 #[.pointer b] w fun e w'=>e=.returned (.string ⟨(iN r).1.toArray⟩)/\Qg (RD b (iN r).2 w')/\Qg (w.grownBy w' (some b)):=by
 obtain⟨l,L⟩:=r;obtain⟨n,u,er,C⟩:∃n u er,Cw.getT l=(n,u,er):=⟨_,_,_,rfl⟩;have B:Qg (∀X,Qh 126 #[l] X fun e w'=>e=.returned (.tuple #[n,Yi u,Yi er])/\X=w'):=Qf (fun X=>by
  have:=kD ⟨l.toArray⟩ X (by rw[bH]; exact I);rw[show(l:ByteArray).data.toList=l by simp,C] at this;exact this)
 have J:=lZ C;have E:iN (l,L)=(n,(l.drop u.toNat,L||er !=0)):=by unfold iN; rw[C]
 obtain⟨u0,rfl⟩:∃u0:Nat,u=(u0:Int):=⟨u.toNat,Zo⟩;rw[aj] at E;have H:u0<=l.length:=Zo;have G:=fun W=>jY l u0 H W
 have F:(l:ByteArray).extract u0 l.length=⟨(l.drop u0).toArray⟩:=by rw[dw,ag Zs]
 rw[E];generalize l.drop u0=l' at G F ⊢;have D:=Qf h;have c0:w.cell? b=some (.string ⟨l.toArray⟩):=Zc h;have c1:w.cell? ⟨b,1,none⟩=some (.bool L):=Zc h;have f0:w.frozen? b=false:=YK h 0;have f1:w.frozen? ⟨b,1,none⟩=false:=YK h 1;simp only at I;clear C E h;cases L with
 | true=>
  go_enter func114,ntmps114;go_wp2_with fail;refine(B.o _).mono ?_;rintro e w' ⟨rfl,rfl⟩;go_wp2;go_ret;exact⟨rfl,Qf (wH D.o),Qf (bu (dN _ _ _ _) (dN _ _ _ _))⟩
 | false=>
  cases K:(er !=0) with
  | true=>
   go_enter func114,ntmps114;go_wp2_with fail;refine(B.o _).mono ?_;rintro e w' ⟨rfl,rfl⟩;go_wp2;go_ret;exact⟨rfl,Qf (wH D.o),Qf (bu (dN _ _ _ _) (dN _ _ _ _))⟩
  | false=>
   go_enter func114,ntmps114;go_wp2_with fail;refine(B.o _).mono ?_;rintro e w' ⟨rfl,rfl⟩;go_wp2;go_ret;exact⟨rfl,Qf (wH D.o),Qf (bu (dN _ _ _ _) (dN _ _ _ _))⟩
def sJ(l:Qb)(k:Nat):Int×Int:=(mJ ((l.take 8).take k),mJ (((l.drop 8).take 8).take (k-8)))
theorem uV(l:Qb):sJ l 0=(0,0):=by simp[sJ,mJ]
theorem uW(l:Qb):sJ l 16=(mJ (l.take 8),mJ ((l.drop 8).take 8)):=by
 simp[sJ,List.take_take]
theorem C8(l:Qb)(k:Nat)(C:16<=l.length)(B:k<8):sJ l (k+1)=(mI (sJ l k).1 (l[k]'Zo),(sJ l k).2):=by
 have A:k<(l.take 8).length:=Zy aA;have e1:mJ ((l.take 8).take (k+1))=mI (mJ ((l.take 8).take k)) ((l.take 8)[k]):=gY mI 0 (l.take 8) k A;have e2:k+1-8=0:=Zo;have e3:k-8=0:=Zo;simp only[sJ,e1,e2,e3,List.getElem_take]
theorem C9(l:Qb)(k:Nat)(D:16<=l.length)(C:8<=k)(B:k<16):sJ l (k+1)=((sJ l k).1,mI (sJ l k).2 (l[k]'Zo)):=by
 have A:k-8<((l.drop 8).take 8).length:=by rw[aA,ah]; omega
 have e1:mJ (((l.drop 8).take 8).take (k-8+1))=mI (mJ (((l.drop 8).take 8).take (k-8))) (((l.drop 8).take 8)[k-8]):=gY mI 0 _ _ A;have e2:k+1-8=k-8+1:=Zo;have e3:(l.take 8).take (k+1)=(l.take 8).take k:=by
  rw[List.take_take,List.take_take,Nat.min_eq_right Zo,Nat.min_eq_right Zo]
 simp only[sJ,e1,e2,e3,List.getElem_take,eF];congr 3;congr 1;omega
theorem fH{t:TypeId}(h:W.heap[b]? = some (.cells cs t fz))(j:Nat)(v:Value):(W.setCell ⟨b,j,none⟩ v).heap[b]? = some (.cells (cs.setIfInBounds j v) t fz):=by
 simp[World.setCell,XQ,h]
theorem nC(b:Nat)(r:RS)(w:World)(h:RD b r w)(hl:(r.1.length:Int)<=140737488355328):
  Qh 117 #[.pointer b] w fun e w'=>e=.returned (.agg #[Yu (iH r).1.1,Yu (iH r).1.2])/\Qg (RD b (iH r).2 w')/\Qg (w.grownBy w' (some b)):=by
 obtain⟨l,A0⟩:=r;have B:b<(w:Nat):=(XA.1 h).1;simp only at hl;have S:=Qf h;have c0:w.cell? b=some (.string ⟨l.toArray⟩):=Zc h;have f0:w.frozen? b=false:=YK h 0;have f1:w.frozen? ⟨b,1,none⟩=false:=YK h 1;have c1:w.cell? ⟨b,1,none⟩=some (.bool A0):=Zc h;clear h;by_cases Y:(l.length:Int)<16
 ·have K:Qg (iH (l,A0)=((0,0),(l,true))):=Qf (by unfold iH; rw[if_pos Zp]);rw[K.o];go_enter func117,ntmps117;go_wp2;refine XB (v:=.agg #[Yu 0,Yu 0]) (by simp[results,results117,go_sem]) rfl ⟨rfl,Qf ?_,Qf ?_⟩
  ·have hs:b<(w.setCell ⟨b,1,none⟩ (.bool true)).heap.size:=Zu B;unfold RD;rw[Below.heap_alloc _ _ _ Zt,Below.heap_alloc _ _ _ hs];have:=S.o;unfold RD at this;simp[World.setCell,XQ,this]
  ·exact bu (bu (dN _ _ _ _) (XZ _ _ _)) (XZ _ _ _)
 ·have T:(16:Int)<=l.length:=Zo;have K:Qg (iH (l,A0)=(sJ l 16,(l.drop 16,A0))):=Qf (by unfold iH; rw[if_neg Zp,uW]);rw[K.o];go_enter func117,ntmps117;go_wp2;go_loopw [15] (fun i wr=>∃(k:Nat) (x y:Int),k<=16/\i=Yi k/\Qg (PM w wr)/\Qg (wr.heap[(w:Nat)]? = some (.cells #[Yu 0,Yu 0] 54 (0,0)))/\Qg (wr.heap[(w:Nat)+1]? = some (.cells #[Yu x,Yu y] 54 (0,0)))/\Qg (sJ l k=(x,y))) (fun i _=>16-(intOf i).toNat)
  case atStart=>
   refine⟨0,0,0,Zo,rfl,Qf ((ba w _).alloc Zs _),Qf ?_,Qf ?_,Qf (uV l)⟩
   ·rw[Below.heap_alloc _ _ _ Zs]; exact YL _ _
   ·have:=YL (w.alloc (.cells #[Yu 0,Yu 0] 54)) (.cells #[Yu 0,Yu 0] 54)
    rwa[XU] at this
  case round=>
   obtain⟨k,x,y,U,rfl,E,G,F,I⟩:=hrel;have g0:wr.cell? b=some (.string ⟨l.toArray⟩):=(E.out.cell (p:=⟨b,0,none⟩) B).trans c0;have g1:wr.cell? ⟨(w:Nat)+1,0,none⟩=some (Yu x):=Zc F.out;have g2:wr.cell? ⟨(w:Nat)+1,1,none⟩=some (Yu y):=Zc F.out;have z1:wr.frozen? ⟨(w:Nat)+1,0,none⟩=false:=YK F.out 0;have z2:wr.frozen? ⟨(w:Nat)+1,1,none⟩=false:=YK F.out 1;by_cases O:k<16
   ·have Z:k<l.length:=Zo;by_cases N:k<8
    ·have J:Qg (sJ l (k+1)=(mI x l[k],y)):=Qf (by rw[C8 l k Zo N,I.out]);have P:(k:Int).tdiv 8=0:=by rw[iG Zo]; omega
     have Q:(k:Int)/8=0:=Zo;have dk:decide ((k:Int)<16)=true:=Zt;go_wp2;go_region;go_wp2;go_roundw
     case rel=>
      refine⟨k+1,_,_,Zo,Zg,Qf (E.out.setCell (p:=⟨(w:Nat)+1,0,none⟩) Zs _).drew,Qf ?_,Qf ?_,Qf J.o⟩
      ·exact(Below.heap_setCell _ _ _ _ Zs).trans G.out
      ·exact fH F.out _ _
     case measure=>exact Yq
    ·have J:Qg (sJ l (k+1)=(x,mI y l[k])):=Qf (by rw[C9 l k Zo Zo O,I.out]);have P:(k:Int).tdiv 8=1:=by rw[iG Zo]; omega
     have Q:(k:Int)/8=1:=Zo;have dk:decide ((k:Int)<16)=true:=Zt;go_wp2;go_region;go_wp2;go_roundw
     case rel=>
      refine⟨k+1,_,_,Zo,Zg,Qf (E.out.setCell (p:=⟨(w:Nat)+1,1,none⟩) Zs _).drew,Qf ?_,Qf ?_,Qf J.o⟩
      ·exact(Below.heap_setCell _ _ _ _ Zs).trans G.out
      ·exact fH F.out _ _
     case measure=>exact Yq
   ·obtain rfl:k=16:=Zo;have g3:wr.frozen? b=false:=(E.out.frozen (p:=⟨b,0,none⟩) B).trans f0;have y0:wr.cell? w=some (Yu 0):=Zc G.out;have y1:wr.cell? ⟨w,1,none⟩=some (Yu 0):=Zc G.out;have y2:wr.frozen? w=false:=YK G.out 0;have y3:wr.frozen? ⟨w,1,none⟩=false:=YK G.out 1;have C:(w:Nat)≠b:=Zo;have V:(w:Nat)+1≠b:=Zo;have M:(l:ByteArray).extract 16 l.length=⟨(l.drop 16).toArray⟩:=by rw[dw,ag Zs]
    have R:=fun W=>jY l 16 Zo W
    obtain⟨l',D⟩:∃l',l'=l.drop 16:=⟨_,rfl⟩;rw[<-D] at M R;have X:=Qf D;clear D;go_wp2;refine XB (v:=.agg #[Yu x,Yu y]) (by simp[results,results117,go_sem,y0,y1]) rfl ⟨Zx I.out,Qf ?_,Qf ?_⟩
    ·rw[<-X.o];have L:=(E.out.block b B).trans S.o;exact(Below.heap_setCell _ _ _ _ (fun e=>C e.symm)).trans ((Below.heap_setCell _ _ _ _ (fun e=>C e.symm)).trans (fH L _ _))
    ·have H:=E.out;exact⟨H.os,H.tape,H.output,Zu H.size,fun k U hr=>(Below.heap_setCell _ _ _ _ Zt).trans ((Below.heap_setCell _ _ _ _ Zt).trans ((Below.heap_setCell _ _ _ _ (fun e=>hr (by rw[e]))).trans (H.block k U)))⟩
def nW(r:RS):Ent×RS:=
 (⟨(iN r).1,(dO (iN r).2).1==1,(iH ((dO (iN r).2).2.1,(dO (iN r).2).2.2||decide (1<(dO (iN r).2).1))).1⟩,(iH ((dO (iN r).2).2.1,(dO (iN r).2).2.2||decide (1<(dO (iN r).2).1))).2)
theorem RD.alloc{r:RS}(h:RD b r W)(o:Obj):RD b r (W.alloc o):=(Below.heap_alloc _ _ _ (XA.1 h).1).trans h
theorem RD.lt{r:RS}(h:RD b r W):b<(W:Nat):=(XA.1 h).1
theorem xO(r:RS):(iN r).2.1.length<=r.1.length:=by unfold iN; simp
theorem oI(r:RS):(dO r).2.1.length<=r.1.length:=by unfold dO; simp
theorem Em(h:w.grownBy x r)(C:(w:Nat)<=c)(j:Nat)(v:Value):w.grownBy (x.setCell ⟨c,j,none⟩ v) r:=
 ⟨h.os,h.tape,h.output,Zu h.size,fun k A B=>(Below.heap_setCell _ _ _ _ Zt).trans (h.block k A B)⟩
theorem fM(h:w.grownBy x (some b))(j:Nat)(v:Value):w.grownBy (x.setCell ⟨b,j,none⟩ v) (some b):=bu h (dN _ _ _ _)
theorem qY(h:w.grownBy x r)(o:Obj):w.grownBy (x.alloc o) r:=bu h (XZ _ _ _)
theorem O5(w:World)(r:Option Nat):w.grownBy w r:=⟨rfl,rfl,rfl,nr,fun _ _ _=>rfl⟩
theorem RD.set{r:RS}(h:RD b r W)(A:c≠b)(j:Nat)(v:Value):RD b r (W.setCell ⟨c,j,none⟩ v):=(Below.heap_setCell _ _ _ _ Zt).trans h
theorem Fy(b:Nat)(r:RS)(w:World)(h:RD b r w)(hl:(r.1.length:Int)<=140737488355328):
  Qh 116 #[.pointer b] w fun e w'=>e=.returned (.agg #[.string ⟨(nW r).1.name.toArray⟩,.bool (nW r).1.dir,Yu (nW r).1.d.1,Yu (nW r).1.d.2])/\Qg (RD b (nW r).2 w')/\Qg (w.grownBy w' (some b)):=by
 have U:=xO r;have G:=oI (iN r).2;have A2:=h.lt;have H:Qg (nW r=(⟨(iN r).1,(dO (iN r).2).1==1,(iH ((dO (iN r).2).2.1,(dO (iN r).2).2.2||decide (1<(dO (iN r).2).1))).1⟩,(iH ((dO (iN r).2).2.1,(dO (iN r).2).2.2||decide (1<(dO (iN r).2).1))).2)):=Qf rfl;have Z:=Qf (fun W T=>iU b r W T hl);generalize iN r=s1 at H Z U G;obtain⟨s,r1⟩:=s1;simp only at H Z U G;have Y:=Qf (fun W T=>iV b r1 W T Zo);generalize dO r1=s2 at H Y G;obtain⟨n,r2⟩:=s2;simp only at H Y G;obtain⟨l2,A1⟩:=r2;simp only at H G;have Q:=Qf (fun W T=>nC b (l2,A1||decide (1<n)) W T Zp);generalize iH (l2,A1||decide (1<n))=s3 at H Q;obtain⟨⟨d1,d2⟩,r3⟩:=s3;simp only at H Q;rw[H.o];have HH:=Qf h;clear h H;go_enter func116,ntmps116;go_wp2_with fail;refine(Z.o _ (HH.o.alloc _)).mono ?_;rintro e x1 ⟨rfl,R,J⟩;go_wp2_with fail;refine(Y.o _ (R.out.alloc _)).mono ?_;rintro e x2 ⟨rfl,L,F⟩;have A0:(w:Nat)<(x1:Nat):=by have:=J.out.size; simp at this; omega
 have P:=L.out;have K:x2.heap[(x1:Nat)]? = some (.cells #[s,.bool false,Yu 0,Yu 0] 164 (0,0)):=(F.out.block _ Zs (fun e=>by have:=XP e; have:=R.out.lt; omega)).trans (YL _ _);have c1:x2.cell? ⟨b,1,none⟩=some (.bool A1):=Zc P;have f1:x2.frozen? ⟨b,1,none⟩=false:=YK P 1;have k1:x2.cell? ⟨x1,1,none⟩=some (.bool false):=Zc K;have k2:x2.frozen? ⟨x1,1,none⟩=false:=YK K 1;have E:(x1:Nat)≠b:=Zo;have I:=Qf K;have S:Qg (x2.heap[(w:Nat)]? = some (.cells #[Ye,.bool false,Yu 0,Yu 0] 164 (0,0))):=Qf ((F.out.block _ Zt (fun e=>Zh (XP e))).trans ((Below.heap_alloc _ _ _ A0).trans ((J.out.block _ Zs (fun e=>Zh (XP e))).trans (YL _ _))));clear P K;cases A1 with
 | true=>
  have M:Qg (RD b (l2,true) (x2.setCell ⟨b,1,none⟩ (.bool true))):=Qf (fH L.out 1 _);have N:Qg (RD b (l2,true) ((x2.setCell ⟨b,1,none⟩ (.bool true)).setCell ⟨x1,1,none⟩ (.bool (n==1)))):=Qf ((Below.heap_setCell _ _ _ _ Zt).trans M.o);go_wp2_with fail;have X:=Q.o _ N.o;refine X.mono ?_;clear X;rintro e x3 ⟨rfl,O,D⟩;have C:x3.heap[(x1:Nat)]? = some (.cells #[s,.bool (n==1),Yu 0,Yu 0] 164 (0,0)):=(D.out.block _ (Zu ((XA.1 I.o).1)) (fun e=>E (XP e))).trans (fH ((Below.heap_setCell _ _ _ _ (Zu E)).trans I.o) 1 _);have m0:x3.cell? x1=some (.string ⟨s.toArray⟩):=Zc C;have m1:x3.cell? ⟨x1,1,none⟩=some (.bool (n==1)):=Zc C;have m2:x3.cell? ⟨x1,2,none⟩=some (Yu 0):=Zc C;have m3:x3.cell? ⟨x1,3,none⟩=some (Yu 0):=Zc C;have p2:x3.frozen? ⟨x1,2,none⟩=false:=YK C 2;have p3:x3.frozen? ⟨x1,3,none⟩=false:=YK C 3;have B:x3.heap[(w:Nat)]? = some (.cells #[Ye,.bool false,Yu 0,Yu 0] 164 (0,0)):=(D.out.block _ (by have:=F.out.size; simp at this; simp; omega) (fun e=>Zh (XP e))).trans ((Below.heap_setCell _ _ _ _ Zt).trans ((Below.heap_setCell _ _ _ _ Zt).trans S.o));have o0:x3.cell? w=some (.string ⟨#[]⟩):=Zc B;have o1:x3.cell? ⟨w,1,none⟩=some (.bool false):=Zc B;have o2:x3.cell? ⟨w,2,none⟩=some (Yu 0):=Zc B;have o3:x3.cell? ⟨w,3,none⟩=some (Yu 0):=Zc B;have q0:x3.frozen? w=false:=YK B 0;have q1:x3.frozen? ⟨w,1,none⟩=false:=YK B 1;have q2:x3.frozen? ⟨w,2,none⟩=false:=YK B 2;have q3:x3.frozen? ⟨w,3,none⟩=false:=YK B 3;have V:(x1:Nat)≠(w:Nat):=Zo;clear C B c1 f1 k1 k2;go_wp2;refine XB (v:=.agg #[s,.bool (n==1),Yu d1,Yu d2]) (by simp[results,results116,go_sem,o0,o1,o2,o3]) rfl ⟨rfl,Qf ?_,Qf ?_⟩
  ·exact(((((O.out.set Zo _ _).set Zo _ _).set Zo _ _).set Zo _ _).set Zo _ _).set Zo _ _
  ·exact Em (Em (Em (Em (Em (Em (bu (Em (fM (bu (qY (bu (qY (O5 w _) _) J.out) _) F.out) _ _) Zo _ _) D.out) Zo _ _) Zo _ _) Zo _ _) Zo _ _) Zo _ _) Zo _ _
 | false=>
  simp only[Bool.false_or] at Q;have M:Qg (RD b (l2,decide (1<n)) (x2.setCell ⟨b,1,none⟩ (.bool (decide (1<n))))):=Qf (fH L.out 1 _);have N:Qg (RD b (l2,decide (1<n)) ((x2.setCell ⟨b,1,none⟩ (.bool (decide (1<n)))).setCell ⟨x1,1,none⟩ (.bool (n==1)))):=Qf ((Below.heap_setCell _ _ _ _ Zt).trans M.o);go_wp2_with fail;have X:=Q.o _ N.o;refine X.mono ?_;clear X;rintro e x3 ⟨rfl,O,D⟩;have C:x3.heap[(x1:Nat)]? = some (.cells #[s,.bool (n==1),Yu 0,Yu 0] 164 (0,0)):=(D.out.block _ (Zu ((XA.1 I.o).1)) (fun e=>E (XP e))).trans (fH ((Below.heap_setCell _ _ _ _ (Zu E)).trans I.o) 1 _);have m0:x3.cell? x1=some (.string ⟨s.toArray⟩):=Zc C;have m1:x3.cell? ⟨x1,1,none⟩=some (.bool (n==1)):=Zc C;have m2:x3.cell? ⟨x1,2,none⟩=some (Yu 0):=Zc C;have m3:x3.cell? ⟨x1,3,none⟩=some (Yu 0):=Zc C;have p2:x3.frozen? ⟨x1,2,none⟩=false:=YK C 2;have p3:x3.frozen? ⟨x1,3,none⟩=false:=YK C 3;have B:x3.heap[(w:Nat)]? = some (.cells #[Ye,.bool false,Yu 0,Yu 0] 164 (0,0)):=(D.out.block _ (by have:=F.out.size; simp at this; simp; omega) (fun e=>Zh (XP e))).trans ((Below.heap_setCell _ _ _ _ Zt).trans ((Below.heap_setCell _ _ _ _ Zt).trans S.o));have o0:x3.cell? w=some (.string ⟨#[]⟩):=Zc B;have o1:x3.cell? ⟨w,1,none⟩=some (.bool false):=Zc B;have o2:x3.cell? ⟨w,2,none⟩=some (Yu 0):=Zc B;have o3:x3.cell? ⟨w,3,none⟩=some (Yu 0):=Zc B;have q0:x3.frozen? w=false:=YK B 0;have q1:x3.frozen? ⟨w,1,none⟩=false:=YK B 1;have q2:x3.frozen? ⟨w,2,none⟩=false:=YK B 2;have q3:x3.frozen? ⟨w,3,none⟩=false:=YK B 3;have V:(x1:Nat)≠(w:Nat):=Zo;clear C B c1 f1 k1 k2;go_wp2;refine XB (v:=.agg #[s,.bool (n==1),Yu d1,Yu d2]) (by simp[results,results116,go_sem,o0,o1,o2,o3]) rfl ⟨rfl,Qf ?_,Qf ?_⟩
  ·exact(((((O.out.set Zo _ _).set Zo _ _).set Zo _ _).set Zo _ _).set Zo _ _).set Zo _ _
  ·exact Em (Em (Em (Em (Em (Em (bu (Em (fM (bu (qY (bu (qY (O5 w _) _) J.out) _) F.out) _ _) Zo _ _) D.out) Zo _ _) Zo _ _) Zo _ _) Zo _ _) Zo _ _) Zo _ _
def dH{α:Type}(get:RS->α×RS):Nat->RS->List α×RS
 | 0,r=>([],r)
 | n+1,r=>if r.2=true then([],r) else((get r).1::(dH get n (get r).2).1,(dH get n (get r).2).2)
def pY(most:Int)(r:RS):Int×RS:=((dO r).1,((dO r).2.1,(dO r).2.2||decide (most<(dO r).1)))
def fU{α:Type}(get:RS->α×RS)(most:Int)(r:RS):List α×RS:=dH get (pY most r).1.toNat (pY most r).2
def obZ:Ob:=⟨0,[],[],(0,0),[],[],0,[]⟩
def FE(r:RS):Ob×RS:=
 (⟨3,[],[],(iH r).1,(fU iH 8 (iH r).2).1,(iN (fU iH 8 (iH r).2).2).1,(dO (iN (fU iH 8 (iH r).2).2).2).1,(iN (dO (iN (fU iH 8 (iH r).2).2).2).2).1⟩,
  (iN (dO (iN (fU iH 8 (iH r).2).2).2).2).2)
def kX(s:Qb):Ob×RS:=
 if(dO (s,false)).1=1\/(dO (s,false)).1=4 then({ obZ with kind:=(dO (s,false)).1,data:=(iN (dO (s,false)).2).1 },(iN (dO (s,false)).2).2)
 else if(dO (s,false)).1=2 then({ obZ with kind:=2,ents:=(fU nW 200 (dO (s,false)).2).1 },(fU nW 200 (dO (s,false)).2).2)
 else if(dO (s,false)).1=3 then FE (dO (s,false)).2
 else({ obZ with kind:=(dO (s,false)).1 },(dO (s,false)).2)
def bI(s:Qb):Ob×Int:=if(kX s).2.2=true\/(kX s).2.1≠[]\/(aR (kX s).1).2≠0 then(obZ,13) else((kX s).1,0)
def Ku(x:Int):Prop:=0<=x/\x<18446744073709551616
def OkD(d:Int×Int):Prop:=Ku d.1/\Ku d.2
def OkO(o:Ob):Prop:=OkD o.tree/\(∀d∈o.pars,OkD d)/\∀e∈o.ents,OkD e.d
theorem jI{b:Bool}{n:Int}(h:dO (l,b)=(n,(l',false))):b=false/\l=Cw.enc n.toNat++l'/\0<=n/\n<=1099511627776:=by
 obtain⟨m,u,er,A⟩:∃m u er,Cw.getI l=(m,u,er):=⟨_,_,_,rfl⟩;unfold dO at h;simp only[A,XC,Bool.or_eq_false_iff,bne_eq_false_iff_eq] at h;obtain⟨rfl,rfl,rfl,rfl⟩:=h;have C:=bM A;obtain⟨B,D,E⟩:=Cw.getI_canon A;refine⟨rfl,?_,B,C.2.1⟩;rw[D,aj]
 conv=>lhs; rw[<-aQ (Cw.enc m.toNat).length l]
 rw[E]
theorem rU(h:n<=1099511627776)(l:Qb):dO (Cw.enc n++l,false)=((n:Int),(l,false)):=by
 unfold dO;rw[Cw.getI_enc n h l];simp
theorem oH{b:Bool}{x:Qb}(h:iN (l,b)=(x,(l',false))):b=false/\l=fF x++l'/\x.length<=65536:=by
 obtain⟨m,u,er,A⟩:∃m u er,Cw.getT l=(m,u,er):=⟨_,_,_,rfl⟩;unfold iN at h;simp only[A,XC,Bool.or_eq_false_iff,bne_eq_false_iff_eq] at h;obtain⟨rfl,rfl,rfl,rfl⟩:=h;obtain⟨D,E,C,B⟩:=lY A;refine⟨rfl,?_,C⟩;unfold fF
 conv=>lhs; rw[<-aQ u.toNat l]
 rw[B]
theorem rT{x:Qb}(h:x.length<=65536)(l:Qb):iN (fF x++l,false)=(x,(l,false)):=by
 unfold iN fF;rw[yx h l];simp only[aj,qL];simp
theorem tV{b:Bool}(h:iH (l,b)=(d,(l',false))):b=false/\l=beD d++l'/\OkD d:=by
 unfold iH at h;simp only at h;split at h
 ·simp at h
 ·rename_i C;simp only[XC] at h;obtain⟨rfl,rfl,rfl⟩:=h;have A:(l.take 8).length=8:=Zy aA;have B:((l.drop 8).take 8).length=8:=by rw[aA,ah]; omega
  refine⟨rfl,?_,gu _ Zo,gu _ Zo⟩;unfold beD;simp only;rw[MF _ A,MF _ B,show l.drop 16=(l.drop 8).drop 8 by rw[eY],ay,aQ,aQ]
theorem xQ(h:OkD d)(l:Qb):iH (beD d++l,false)=(d,(l,false)):=by
 obtain⟨d1,d2⟩:=d;unfold iH;have A:(be 8 d1).length=8:=bY 8 d1;have C:(be 8 d2).length=8:=bY 8 d2;have B:=bX (d1,d2);rw[if_neg (by simp only[af,B]; omega)];have e1:(beD (d1,d2)++l).take 8=be 8 d1:=by unfold beD; rw[ay]; exact OG A _
 have e2:(beD (d1,d2)++l).drop 8=be 8 d2++l:=by unfold beD; rw[ay]; exact Pj A _
 have e3:(beD (d1,d2)++l).drop 16=l:=Pj B _;simp only[e1,e2,e3,OG C];rw[Jg d1 h.1.1 h.1.2,Jg d2 h.2.1 h.2.2]
theorem Ia{b:Bool}{e:Ent}(h:nW (l,b)=(e,(l',false))):b=false/\l=ru e++l'/\OkD e.d:=by
 unfold nW at h;obtain⟨s,l1,b1,hs⟩:∃s l1 b1,iN (l,b)=(s,(l1,b1)):=⟨_,_,_,rfl⟩;obtain⟨n,l2,b2,C⟩:∃n l2 b2,dO (l1,b1)=(n,(l2,b2)):=⟨_,_,_,rfl⟩;simp only[hs,C] at h;obtain⟨d,l3,b3,B⟩:∃d l3 b3,iH (l2,b2||decide (1<n))=(d,(l3,b3)):=⟨_,_,_,rfl⟩;simp only[B,XC] at h;obtain⟨rfl,rfl,rfl⟩:=h;obtain⟨A,rfl,F⟩:=tV B;simp only[Bool.or_eq_false_iff,XL] at A;obtain⟨rfl,E⟩:=A;obtain⟨rfl,rfl,G,_⟩:=jI C;obtain⟨rfl,rfl,_⟩:=oH hs;refine⟨rfl,?_,F⟩;have:vG (n==1)=n.toNat:=by
  unfold vG;by_cases D:n=1
  ·subst D; rfl
  ·have:n=0:=Zo;subst this; rfl
 simp[ru,this,ay]
theorem KH{e:Ent}(A:e.name.length<=65536)(h:OkD e.d)(l:Qb):nW (ru e++l,false)=(e,(l,false)):=by
 obtain⟨nm,B,d⟩:=e;unfold nW ru;simp only at A h ⊢;rw[ay,rT A];simp only;rw[ay,rU (by cases B <;> simp[vG])];simp only;have e1:(false||decide (1<((vG B:Nat):Int)))=false:=by cases B <;> simp[vG]
 have e2:(((vG B:Nat):Int)==1)=B:=by cases B <;> rfl
 rw[e1,xQ h,e2]
theorem wK{α:Type}{get:RS->α×RS}{enc:α->Qb}{ok:α->Prop}(B:∀{l l':Qb} {b:Bool} {x:α},get (l,b)=(x,(l',false))->b=false/\l=enc x++l'/\ok x):
  ∀(n:Nat) {l l':Qb} {b:Bool} {xs:List α},dH get n (l,b)=(xs,(l',false))->b=false/\l=xs.flatMap enc++l'/\xs.length=n/\∀x∈xs,ok x
 | 0,l,l',b,xs,h=>by
  simp only[dH,XC] at h;obtain⟨rfl,rfl,rfl⟩:=h;simp
 | n+1,l,l',b,xs,h=>by
  rw[dH] at h;cases b with
  | true=>simp at h
  | false=>
   simp only[Bool.false_eq_true,if_false] at h;obtain⟨x,l1,b1,C⟩:∃x l1 b1,get (l,false)=(x,(l1,b1)):=⟨_,_,_,rfl⟩;obtain⟨ys,l2,b2,A⟩:∃ys l2 b2,dH get n (l1,b1)=(ys,(l2,b2)):=⟨_,_,_,rfl⟩;simp only[C,A,XC] at h;obtain⟨rfl,rfl,rfl⟩:=h;obtain⟨rfl,rfl,D,E⟩:=wK B n A;obtain⟨_,rfl,F⟩:=B C;refine⟨rfl,Zs,Zj D,fun y A=>?_⟩;rcases XG.1 A with rfl | A
   ·exact F
   ·exact E y A
theorem tT{α:Type}{get:RS->α×RS}{enc:α->Qb}:∀(xs:List α) (l:Qb),(∀x∈xs,∀l',get (enc x++l',false)=(x,(l',false)))->dH get xs.length (xs.flatMap enc++l,false)=(xs,(l,false))
 | [],l,_=>by simp[dH]
 | x::xs,l,A=>by
  rw[az,dH,if_neg Zs,bR,ay,A x Zs];simp only;rw[tT xs l (fun y B=>A y (Zj B))]
theorem wJ{α:Type}{get:RS->α×RS}{enc:α->Qb}{ok:α->Prop}(C:∀{l l':Qb} {b:Bool} {x:α},get (l,b)=(x,(l',false))->b=false/\l=enc x++l'/\ok x)
  {most:Int} {l l':Qb} {b:Bool} {xs:List α} (h:fU get most (l,b)=(xs,(l',false))):b=false/\l=Cw.enc xs.length++(xs.flatMap enc++l')/\(xs.length:Int)<=most/\∀x∈xs,ok x:=by
 unfold fU pY at h;obtain⟨n,l1,b1,B⟩:∃n l1 b1,dO (l,b)=(n,(l1,b1)):=⟨_,_,_,rfl⟩;simp only[B] at h;obtain⟨A,rfl,D,E⟩:=wK C _ h;simp only[Bool.or_eq_false_iff,XL] at A;obtain⟨rfl,G⟩:=A;obtain⟨rfl,rfl,F,_⟩:=jI B;exact⟨rfl,Zx D,Zo,E⟩
theorem zJ{α:Type}{get:RS->α×RS}{enc:α->Qb}{most:Int}(xs:List α)(l:Qb)(C:(xs.length:Int)<=most)(B:most<=1000000)(A:∀x∈xs,∀l',get (enc x++l',false)=(x,(l',false))):
  fU get most (Cw.enc xs.length++(xs.flatMap enc++l),false)=(xs,(l,false)):=by
 unfold fU pY;rw[rU Zo];simp only[aj,Bool.false_or];rw[show decide (most<(xs.length:Int))=false by simp; omega,tT xs l A]
theorem FC{o:Ob}(h:kX s=(o,(l',false)))(N:1<=o.kind/\o.kind<=4):s=gZ o++l'/\OkO o:=by
 have L:OkD (0,0):=⟨⟨Zd,Zd⟩,Zd,Zd⟩;unfold kX at h;obtain⟨k,l1,b1,G⟩:∃k l1 b1,dO (s,false)=(k,(l1,b1)):=⟨_,_,_,rfl⟩;simp only[G] at h;by_cases K:k=1\/k=4
 ·rw[if_pos K] at h;obtain⟨x,l2,b2,F⟩:∃x l2 b2,iN (l1,b1)=(x,(l2,b2)):=⟨_,_,_,rfl⟩;simp only[F,XC] at h;obtain⟨rfl,rfl,rfl⟩:=h;obtain⟨rfl,rfl,_⟩:=oH F;obtain⟨_,rfl,_,_⟩:=jI G;refine⟨?_,L,by simp[obZ],by simp[obZ]⟩;unfold gZ;simp only[obZ];rw[if_neg Zo,if_neg Zo,ay]
 ·rw[if_neg K] at h;by_cases H:k=2
  ·rw[if_pos H] at h;subst H;obtain⟨xs,l2,b2,F⟩:∃xs l2 b2,fU nW 200 (l1,b1)=(xs,(l2,b2)):=⟨_,_,_,rfl⟩;simp only[F,XC] at h;obtain⟨rfl,rfl,rfl⟩:=h;obtain⟨rfl,rfl,_,J⟩:=wJ (ok:=fun e=>OkD e.d) (fun h=>Ia h) F;obtain⟨_,rfl,_,_⟩:=jI G;refine⟨?_,L,by simp[obZ],J⟩;unfold gZ;simp[ay]
  ·rw[if_neg H] at h;by_cases I:k=3
   ·rw[if_pos I] at h;subst I;unfold FE at h;obtain⟨t,l2,b2,A⟩:∃t l2 b2,iH (l1,b1)=(t,(l2,b2)):=⟨_,_,_,rfl⟩;obtain⟨ps,l3,b3,B⟩:∃t P O,fU iH 8 (l2,b2)=(t,(P,O)):=⟨_,_,_,rfl⟩;obtain⟨au,l4,b4,C⟩:∃t P O,iN (l3,b3)=(t,(P,O)):=⟨_,_,_,rfl⟩;obtain⟨ti,l5,b5,D⟩:∃t P O,dO (l4,b4)=(t,(P,O)):=⟨_,_,_,rfl⟩;obtain⟨ms,l6,b6,E⟩:∃t P O,iN (l5,b5)=(t,(P,O)):=⟨_,_,_,rfl⟩;simp only[A,B,C,D,E,XC] at h;obtain⟨rfl,rfl,rfl⟩:=h;obtain⟨rfl,rfl,_⟩:=oH E;obtain⟨rfl,rfl,_,_⟩:=jI D;obtain⟨rfl,rfl,_⟩:=oH C;obtain⟨rfl,rfl,_,J⟩:=wJ (ok:=OkD) (fun h=>tV h) B;obtain⟨rfl,rfl,M⟩:=tV A;obtain⟨_,rfl,_,_⟩:=jI G;refine⟨?_,M,J,Zs⟩;unfold gZ;simp[ay]
   ·rw[if_neg I] at h;simp only[XC] at h;obtain⟨rfl,rfl,rfl⟩:=h;simp only at N;omega
theorem xg{o:Ob}(h:¬Kj o=true):o.tree=(0,0)/\o.pars=[]/\o.author=[]/\o.time=0/\o.msg=[]:=by
 simp only[Kj,Bool.or_eq_true,Bool.not_eq_true',XL,XJ,not_or,Classical.not_not] at h;obtain⟨⟨⟨⟨A,C⟩,D⟩,B⟩,E⟩:=h;exact⟨A,aU Zo,aU Zo,B,aU Zo⟩
theorem uh{a b:Int}{p:Prop}[Decidable p](h:(if p then a else b)=0)(A:a≠0):¬p/\b=0:=by
 split at h
 ·exact absurd h A
 ·exact⟨‹_›,h⟩
theorem kJ{o:Ob}(h:dS o=0):(o.pars.length:Int)<=8/\jA o.author=true/\0<=o.time/\o.time<=1099511627776/\o.msg.length<=200/\o.tree≠(0,0)/\kQ [] o.pars=0:=by
 unfold dS at h;obtain⟨B,h⟩:=uh h Zd;obtain⟨D,h⟩:=uh h Zd;split at h
 ·rename_i A; exact absurd h A
 ·rename_i A;obtain⟨C,h⟩:=uh h Zd;obtain⟨E,h⟩:=uh h Zd;obtain⟨F,h⟩:=uh h Zd;exact⟨Zo,Zu C,Zo,Zo,Zo,B,Zu A⟩
theorem mh{o:Ob}(h:dz o=0)(C:o.kind=1\/o.kind=4):o={ obZ with kind:=o.kind,data:=o.data }:=by
 unfold dz at h;rw[if_pos C] at h;obtain⟨A,_⟩:=uh h Zd;obtain⟨D,B⟩:=not_or.1 A;obtain⟨a,b,c,d,e⟩:=xg B;have f:o.ents=[]:=aU Zo;cases o;simp only at a b c d e f;subst a b c d e f;rfl
theorem jO{o:Ob}(h:dz o=0)(A:o.kind=2):o={ obZ with kind:=2,ents:=o.ents }/\mK o.ents=0:=by
 unfold dz at h;rw[if_neg Zo,if_pos A] at h;obtain⟨B,C⟩:=uh h Zd;obtain⟨E,D⟩:=not_or.1 B;obtain⟨a,b,c,d,e⟩:=xg D;have f:o.data=[]:=aU Zo;cases o;simp only at a b c d e f A;subst a b c d e f A;exact⟨rfl,C⟩
theorem iC{o:Ob}(h:dz o=0)(A:o.kind=3):o=⟨3,[],[],o.tree,o.pars,o.author,o.time,o.msg⟩/\dS o=0:=by
 unfold dz at h;rw[if_neg Zo,if_neg Zo,if_pos A] at h;obtain⟨B,C⟩:=uh h Zd;obtain⟨E,D⟩:=not_or.1 B;have f:o.data=[]:=aU Zo;have g:o.ents=[]:=aU Zo;cases o;simp only at f g A;subst f g A;exact⟨rfl,C⟩
theorem nL{l:List Ent}(h:mK l=0):l.length<=200/\kF none l=0:=by
 unfold mK at h;obtain⟨B,A⟩:=uh h Zd;exact⟨Zo,A⟩
theorem Hy{o:Ob}(h:dz o=0)(G:OkO o)(H:o.data.length<=65536)(l:Qb):kX (gZ o++l)=(o,(l,false)):=by
 have J:=eP h;unfold kX gZ;rw[ay,rU Zo];have e:((o.kind.toNat:Nat):Int)=o.kind:=Zo;simp only[e];by_cases C:o.kind=1\/o.kind=4
 ·rw[if_pos C,if_neg Zo,if_neg Zo,rT H];simp only;rw[<-mh h C]
 ·rw[if_neg C];by_cases A:o.kind=2
  ·rw[if_pos A,if_pos A,ay];obtain⟨F,E⟩:=jO h A;obtain⟨K,I⟩:=nL E;rw[zJ o.ents l Zo Zo (fun x B l'=>KH (Zh (di (l9 I x B))) (G.2.2 x B) l')];simp only;rw[<-F]
  ·rw[if_neg A,if_neg A];have D:o.kind=3:=Zo;rw[if_pos D,if_pos D];obtain⟨F,E⟩:=iC h D;obtain⟨c1,c2,c3,c4,c5,_⟩:=kJ E;have L:=di c2;unfold FE;simp only[ay];rw[xQ G.1];simp only;rw[zJ o.pars _ c1 Zo (fun x B l'=>xQ (G.2.1 x B) l')];simp only;rw[rT Zo];simp only;rw[rU Zo];simp only;rw[rT Zo];simp only;rw[show((o.time.toNat:Nat):Int)=o.time by omega,<-F]
theorem fA{o:Ob}(h:aR o=(s,0)):dz o=0/\s=gZ o/\(gZ o).length<=65536:=by
 unfold aR at h;split at h
 ·rename_i A;simp only[XC] at h;exact absurd h.2 A
 ·rename_i A;split at h
  ·simp at h
  ·simp only[XC,and_true] at h;exact⟨Zu A,h.symm,Zo⟩
theorem kG{o:Ob}(h:(aR o).2=0):aR o=(gZ o,0):=by
 have:aR o=((aR o).1,0):=by rw[<-h]
 have A:=fA this;rw[<-A.2.1]; exact this
theorem kI{o:Ob}(h:bI s=(o,0)):aR o=(s,0)/\OkO o:=by
 unfold bI at h;split at h
 ·simp at h
 ·rename_i B;simp only[not_or,Bool.not_eq_true,Classical.not_not,XC,and_true] at h B;obtain⟨D,E,F⟩:=B;have A:=kG F;have C:=fA A;have H:kX s=(o,([],false)):=by
   rw[<-h,<-D,<-E]
  rw[h] at A C;obtain⟨hs,G⟩:=FC H (eP C.1);rw[bG] at hs;rw[hs];exact⟨A,G⟩
theorem Bl{o:Ob}(h:dz o=0):o.data.length<=(gZ o).length:=by
 have C:=eP h;by_cases B:o.kind=1\/o.kind=4
 ·unfold gZ;rw[if_neg Zo,if_neg Zo];simp[fF];omega
 ·by_cases A:o.kind=2
  ·rw[(jO h A).1]; simp[obZ]
  ·rw[(iC h Zo).1]; simp
theorem Gm{o:Ob}(h:aR o=(s,0))(C:OkO o):bI s=(o,0):=by
 obtain⟨A,rfl,D⟩:=fA h;have B:=Hy A C (Zh (Bl A)) [];rw[bG] at B;unfold bI;rw[B];simp only;rw[if_neg];simp[h]
theorem A7(s:Qb):bI s=(obZ,13)\/∃o,bI s=(o,0):=by
 unfold bI;split
 ·exact .inl rfl
 ·exact .inr ⟨_,rfl⟩
theorem oJ(r:RS):(iH r).2.1.length<=r.1.length:=by unfold iH; split <;> simp
theorem DX(r:RS):(nW r).2.1.length<=r.1.length:=by
 unfold nW;exact aC (oJ _) (aC (oI _) (xO _))
theorem tQ(m:Int)(r:RS):(pY m r).2.1.length<=r.1.length:=oI r
theorem wI(r:RS):0<=(dO r).1/\(dO r).1<=1099511627776:=by
 obtain⟨n,u,er,A⟩:∃n u er,Cw.getI r.1=(n,u,er):=⟨_,_,_,rfl⟩;have:=gH A;unfold dO;rw[A];exact⟨this.1,this.2.1⟩
def bT(es:List Ent):List Value:=es.flatMap fun e=>[.string ⟨e.name.toArray⟩,.bool e.dir,Yu e.d.1,Yu e.d.2]
theorem kH(a b:List Ent):bT (a++b)=bT a++bT b:=by simp[bT]
theorem pE(a:List Ent):(bT a).length=a.length*4:=by
 induction a with
 | nil=>rfl
 | cons x a ih=>simp[bT] at ih ⊢; omega
theorem uP:∀(es:List Ent) (i:Nat) (h:i<es.length),(bT es)[i*4]? = some (.string ⟨es[i].name.toArray⟩)/\(bT es)[i*4+1]? = some (.bool es[i].dir)/\(bT es)[i*4+2]? = some (Yu es[i].d.1)/\(bT es)[i*4+3]? = some (Yu es[i].d.2)
 | [],i,h=>by simp at h
 | d::ds,0,h=>by simp[bT]
 | d::ds,i+1,h=>by
  have A:i<ds.length:=Zu h;have e:bT (d::ds)=[.string ⟨d.name.toArray⟩,.bool d.dir,Yu d.d.1,Yu d.d.2]++bT ds:=by simp[bT]
  have g:∀j,(bT (d::ds))[(i+1)*4+j]? = (bT ds)[i*4+j]?:=fun j=>by
   rw[e,YE Zt];congr 1;simp;omega
  have:=uP ds i A;simp only[bK];exact⟨(g 0).trans this.1,(g 1).trans this.2.1,(g 2).trans this.2.2.1,(g 3).trans this.2.2.2⟩
theorem qU{cap:Nat}{es:List Ent}(h:w.ownsRow base 164 4 (.slice a es.length cap) es.length (bT es)):BI (w:Nat) w a es:=by
 intro i C;rcases h.2 with⟨A,D⟩ | ⟨g,E,F,A,_,B,_⟩
 ·omega
 ·cases A
  obtain⟨c0,c1,c2,c3⟩:=uP es i C;refine⟨g,0,rfl,(XA.1 B).1,?_,?_,?_,?_⟩
  ·have:=h.cells (g:=g) rfl _ _ c0; rwa[XD] at this
  ·have:=h.cells (g:=g) rfl _ _ c1; rwa[XD,<-aP] at this
  ·have:=h.cells (g:=g) rfl _ _ c2; rwa[XD,<-aP] at this
  ·have:=h.cells (g:=g) rfl _ _ c3; rwa[XD,<-aP] at this
theorem IX:(prog.info? 164).map (fun i=>(i.zero,i.size,i.bytes))=some (some (.agg #[Ye,.bool false,Yu 0,Yu 0]),4,40):=Zk
def GR(w:World)(b:Nat)(T:TypeId)(k n:Nat)(cells:List Value)(r:RS)(e:Ending)(w':World):Prop:=
 ∃a c,e=.returned (.slice a n c)/\n<=c/\Qg (RD b r w')/\Qg (w'.ownsRow w T k (.slice a n c) n cells)/\Qg (w.grownBy w' (some b))
theorem GR.fin{α:Type}{T:TypeId}{cells:List α->List Value}{R:List α×RS}{xs:List α}{q:RS}(D:R=(xs,q))(E:xs.length<=c)(A:Qg (RD b q wr))(B:Qg (wr.ownsRow w T k (.slice a xs.length c) xs.length (cells xs)))(C:Qg (w.grownBy wr (some b))):GR w b T k R.1.length (cells R.1) R.2 (.returned (.slice a xs.length c)) wr:=by
 subst D; exact⟨a,c,rfl,E,A,B,C⟩
def NM(q:Bool)(n most:Int):Prop:=q=true\/n<=most
def LR{α:Type}(get:RS->α×RS)(R:List α×RS)(m:Nat)(xs:List α)(r:RS):Prop:=R=(xs++(dH get m r).1,(dH get m r).2)
theorem LR.start{α:Type}(get:RS->α×RS)(m:Nat)(r:RS):LR get (dH get m r) m [] r:=rfl
theorem LR.next{α:Type}{get:RS->α×RS}{R:List α×RS}{xs:List α}{r:RS}(h:LR get R (m+1) xs r)(A:r.2=false):LR get R m (xs++[(get r).1]) (get r).2:=by
 unfold LR at h ⊢;rw[h,dH,if_neg (Zj A)];simp
theorem LR.stop{α:Type}{get:RS->α×RS}{R:List α×RS}{xs:List α}{r:RS}(h:LR get R m xs r)(A:m=0\/r.2=true):R=(xs,r):=by
 unfold LR at h;rcases A with rfl | A
 ·simpa[dH] using h
 ·cases m with
  | zero=>simpa[dH] using h
  | succ m=>rw[dH,if_pos A] at h; simpa using h
theorem Fv(b:Nat)(most:Int)(r:RS)(w:World)(h:RD b r w)(hl:(r.1.length:Int)<=140737488355328)(D5:0<=most)(D6:most<=1000):
  Qh 115 #[.pointer b,Yi most,.func (.func 116) #[.pointer b] #[]] w (GR w b 164 4 (fU nW most r).1.length (bT (fU nW most r).1) (fU nW most r).2):=by
 have Z:=tQ most r;have D3:=h.lt;obtain⟨i0,hi,B9,C0,C1⟩:=XR IX;obtain⟨B4,B5,B6⟩:=Yk B9 C0 C1;clear B9 C0 C1;have HN:=Qf (iV b r w h hl);have hr:=wI r;have H:Qg (LR nW (fU nW most r) (dO r).1.toNat [] ((dO r).2.1,(dO r).2.2||decide (most<(dO r).1))):=Qf (LR.start _ _ _);have HG:=Qf (fun q W hW hq=>Fy b q W hW hq);generalize fU nW most r=R at H ⊢;unfold pY at Z;simp only at Z;generalize dO r=s1 at HN H Z hr;obtain⟨n,l1,B1⟩:=s1;simp only at HN H Z hr;obtain⟨D7,D8⟩:=hr;obtain⟨n,rfl⟩:∃m:Nat,n=(m:Int):=⟨n.toNat,Zo⟩;rw[aj] at H;clear h;obtain⟨q0,A0⟩:=Qe (B1||decide (most<(n:Int)));have X:Qg (NM q0 n most):=Qf (by
  rw[A0];by_cases h:most<(n:Int)
  ·left; simp[h]
  ·right; omega)
 rw[<-A0] at H;go_enter func115,ntmps115;go_wp2_with fail;have hx:=HN.o;refine hx.mono ?_;clear hx;rintro e x1 ⟨rfl,Y,A3⟩;have A7:=Y.out;have c1:x1.cell? ⟨b,1,none⟩=some (.bool B1):=Zc A7;have f1:x1.frozen? ⟨b,1,none⟩=false:=YK A7 1;clear A7;have G:Qg (RD b (l1,q0) (x1.setCell ⟨b,1,none⟩ (.bool q0))):=Qf (fH Y.out 1 _);have C:Qg (w.grownBy (x1.setCell ⟨b,1,none⟩ (.bool q0)) (some b)):=Qf (fM A3.out _ _);have HQ:=Qf A0;clear A0;cases B1 with
 | true=>
  obtain rfl:q0=true:=HQ.o;clear HQ;go_wp2;go_loopw [8,9] (fun v i wr=>∃(m:Nat) (xs:List Ent) (q:RS) (k:Nat),i=Yi k/\k+m=n/\k=xs.length/\(k:Int)<=1000/\(q.1.length:Int)<=140737488355328/\Qg (RD b q wr)/\Qg (wr.ownsRow w 164 4 v xs.length (bT xs))/\Qg (w.grownBy wr (some b))/\Qg (LR nW R m xs q)/\Qg (NM q.2 n most)) (fun _ i _=>n-(intOf i).toNat)
  case atStart=>exact⟨n,[],_,0,rfl,Zo,rfl,Zo,Zp,G,Qf (XE _ _ _ _),C,H,X⟩
  case round=>
   clear Y G A3 C H X HN c1 f1;obtain⟨m,xs,⟨l,bd⟩,k,rfl,Q,S,C5,T,N,I,D,V,HM⟩:=hrel;simp only at T HM;obtain⟨L,K⟩:=Yj S Q;have C6:k<=n:=Zo;obtain⟨C3,C8⟩:b<(wr:Nat)/\(w:Nat)<=(wr:Nat):=⟨N.out.lt,D.out.size⟩;have P:=N.out;have c1:wr.cell? ⟨b,1,none⟩=some (.bool bd):=Zc P;obtain⟨av,cv,rfl,J⟩:=aB I.out;clear P S Q;by_cases C7:k<n
   ·have d1:decide ((k:Int)<(n:Int))=true:=Zt;have d2:decide (k<n)=true:=Zt;cases bd with
    | true=>
     have HF:Qg (R=(xs,(l,true))):=Qf (V.out.stop (.inr rfl));go_wp2;go_ret;exact GR.fin HF.o J N I D
    | false=>
     have B0:(n:Int)<=most:=by
      rcases HM.out with h | h
      ·cases h
      ·exact h
     obtain⟨m',rfl⟩:∃m',m=m'+1:=⟨m-1,Zh K.o⟩;obtain⟨M,U⟩:=Yj (V.out.next rfl) (HG.o (l,false) wr N.out T);have F:=DX (l,false);simp only at F;generalize nW (l,false)=g1 at M U F;obtain⟨⟨nm,A8,A1,A2⟩,q2⟩:=g1;simp only at M U F;clear V;go_wp2_with fail;have hx:=U.o;refine hx.mono ?_;clear hx U;rintro e x2 ⟨rfl,G,C⟩;have O:=Qf (I.out.kept C.o (by
      by_cases hv:(Value.slice av xs.length cv).ownBlock=none
      ·exact .inl hv
      ·right;intro hh;have:=I.out.lt b hh
       omega))
     have B7:=C.o.size;go_wp2_with (at_builtin; refine wpList_append_own _ rfl _ _ 57 rfl (w:Nat) 164 i0 (.agg #[Ye,.bool false,Yu 0,Yu 0]) 4 40 underlying57 hi B4.o B5.o B6.o rfl Zd _ _ _ rfl (O.o.alloc _) ⟨x2,0,none⟩ 1 1 [.string ⟨nm.toArray⟩,.bool A8,Yu A1,Yu A2] rfl rfl ?_ ?_ ?_ ?_ ?_ ?_)
     ·exact World.news_of_block (heap_alloc_new x2 _)
     ·intro u hu; simp at hu; rcases hu with rfl | rfl | rfl | rfl <;> rfl
     ·unfold maxLen; have:=L.o; omega
     ·have:=L.o; omega
     ·simp; omega
     ·intro v' x3 E B _;have A5:Qg (x3.ownsRow w 164 4 v' (xs++[(⟨nm,A8,(A1,A2)⟩:Ent)]).length (bT (xs++[(⟨nm,A8,(A1,A2)⟩:Ent)]))):=Qf (by rw[kH,af]; exact E);have A9:(Value.slice av xs.length cv).ownBlock≠some b:=fun hh=>by
       have:=I.out.lt b hh;omega
      have A6:Qg (RD b q2 x3):=Qf (((B.block b Zt (fun e=>A9 e.symm)).trans (Below.heap_alloc _ _ _ Zo)).trans G.o);have A4:Qg (w.grownBy x3 (some b)):=Qf (by
       have a1:=bu D.out C.o;have a2:=qY a1 (.cells #[nm,.bool A8,Yu A1,Yu A2] 164);exact⟨B.os.trans a2.os,B.tape.trans a2.tape,B.output.trans a2.output,aC a2.size B.size,fun j hj hr=>(B.block j Zt (fun e=>Zh (I.out.lt j e.symm))).trans (a2.block j hj hr)⟩)
      clear E B O G C D I N;go_wp2;go_roundw
      case rel=>exact⟨m',xs++[(⟨nm,A8,(A1,A2)⟩:Ent)],q2,k+1,Zg,Zh K.o,by have:=L.o; simp; omega,Zo,Zo,A6,A5,A4,M,Qf (.inr B0)⟩
      case measure=>exact Yq
   ·have d1:decide ((k:Int)<(n:Int))=false:=Zt;have d2:decide (k<n)=false:=Zt;have HF:Qg (R=(xs,(l,bd))):=Qf (V.out.stop (.inl (Zh K.o)));go_wp2;go_ret;exact GR.fin HF.o J N I D
 | false=>
  obtain rfl:q0=decide (most<(n:Int)):=Zw HQ.o;clear HQ;go_wp2;go_loopw [8,9] (fun v i wr=>∃(m:Nat) (xs:List Ent) (q:RS) (k:Nat),i=Yi k/\k+m=n/\k=xs.length/\(k:Int)<=1000/\(q.1.length:Int)<=140737488355328/\Qg (RD b q wr)/\Qg (wr.ownsRow w 164 4 v xs.length (bT xs))/\Qg (w.grownBy wr (some b))/\Qg (LR nW R m xs q)/\Qg (NM q.2 n most)) (fun _ i _=>n-(intOf i).toNat)
  case atStart=>exact⟨n,[],_,0,rfl,Zo,rfl,Zo,Zp,G,Qf (XE _ _ _ _),C,H,X⟩
  case round=>
   clear Y G A3 C H X HN c1 f1;obtain⟨m,xs,⟨l,bd⟩,k,rfl,Q,S,C5,T,N,I,D,V,HM⟩:=hrel;simp only at T HM;obtain⟨L,K⟩:=Yj S Q;have C6:k<=n:=Zo;obtain⟨C3,C8⟩:b<(wr:Nat)/\(w:Nat)<=(wr:Nat):=⟨N.out.lt,D.out.size⟩;have P:=N.out;have c1:wr.cell? ⟨b,1,none⟩=some (.bool bd):=Zc P;obtain⟨av,cv,rfl,J⟩:=aB I.out;clear P S Q;by_cases C7:k<n
   ·have d1:decide ((k:Int)<(n:Int))=true:=Zt;have d2:decide (k<n)=true:=Zt;cases bd with
    | true=>
     have HF:Qg (R=(xs,(l,true))):=Qf (V.out.stop (.inr rfl));go_wp2;go_ret;exact GR.fin HF.o J N I D
    | false=>
     have B0:(n:Int)<=most:=by
      rcases HM.out with h | h
      ·cases h
      ·exact h
     obtain⟨m',rfl⟩:∃m',m=m'+1:=⟨m-1,Zh K.o⟩;obtain⟨M,U⟩:=Yj (V.out.next rfl) (HG.o (l,false) wr N.out T);have F:=DX (l,false);simp only at F;generalize nW (l,false)=g1 at M U F;obtain⟨⟨nm,A8,A1,A2⟩,q2⟩:=g1;simp only at M U F;clear V;go_wp2_with fail;have hx:=U.o;refine hx.mono ?_;clear hx U;rintro e x2 ⟨rfl,G,C⟩;have O:=Qf (I.out.kept C.o (by
      by_cases hv:(Value.slice av xs.length cv).ownBlock=none
      ·exact .inl hv
      ·right;intro hh;have:=I.out.lt b hh
       omega))
     have B7:=C.o.size;go_wp2_with (at_builtin; refine wpList_append_own _ rfl _ _ 57 rfl (w:Nat) 164 i0 (.agg #[Ye,.bool false,Yu 0,Yu 0]) 4 40 underlying57 hi B4.o B5.o B6.o rfl Zd _ _ _ rfl (O.o.alloc _) ⟨x2,0,none⟩ 1 1 [.string ⟨nm.toArray⟩,.bool A8,Yu A1,Yu A2] rfl rfl ?_ ?_ ?_ ?_ ?_ ?_)
     ·exact World.news_of_block (heap_alloc_new x2 _)
     ·intro u hu; simp at hu; rcases hu with rfl | rfl | rfl | rfl <;> rfl
     ·unfold maxLen; have:=L.o; omega
     ·have:=L.o; omega
     ·simp; omega
     ·intro v' x3 E B _;have A5:Qg (x3.ownsRow w 164 4 v' (xs++[(⟨nm,A8,(A1,A2)⟩:Ent)]).length (bT (xs++[(⟨nm,A8,(A1,A2)⟩:Ent)]))):=Qf (by rw[kH,af]; exact E);have A9:(Value.slice av xs.length cv).ownBlock≠some b:=fun hh=>by
       have:=I.out.lt b hh;omega
      have A6:Qg (RD b q2 x3):=Qf (((B.block b Zt (fun e=>A9 e.symm)).trans (Below.heap_alloc _ _ _ Zo)).trans G.o);have A4:Qg (w.grownBy x3 (some b)):=Qf (by
       have a1:=bu D.out C.o;have a2:=qY a1 (.cells #[nm,.bool A8,Yu A1,Yu A2] 164);exact⟨B.os.trans a2.os,B.tape.trans a2.tape,B.output.trans a2.output,aC a2.size B.size,fun j hj hr=>(B.block j Zt (fun e=>Zh (I.out.lt j e.symm))).trans (a2.block j hj hr)⟩)
      clear E B O G C D I N;go_wp2;go_roundw
      case rel=>exact⟨m',xs++[(⟨nm,A8,(A1,A2)⟩:Ent)],q2,k+1,Zg,Zh K.o,by have:=L.o; simp; omega,Zo,Zo,A6,A5,A4,M,Qf (.inr B0)⟩
      case measure=>exact Yq
   ·have d1:decide ((k:Int)<(n:Int))=false:=Zt;have d2:decide (k<n)=false:=Zt;have HF:Qg (R=(xs,(l,bd))):=Qf (V.out.stop (.inl (Zh K.o)));go_wp2;go_ret;exact GR.fin HF.o J N I D
theorem Fx(b:Nat)(most:Int)(r:RS)(w:World)(h:RD b r w)(hl:(r.1.length:Int)<=140737488355328)(D5:0<=most)(D6:most<=1000):
  Qh 118 #[.pointer b,Yi most,.func (.func 117) #[.pointer b] #[]] w (GR w b 54 2 (fU iH most r).1.length (aW (fU iH most r).1) (fU iH most r).2):=by
 have Z:=tQ most r;have D3:=h.lt;obtain⟨i0,hi,B9,C0,C1⟩:=XR ul;obtain⟨B4,B5,B6⟩:=Yk B9 C0 C1;clear B9 C0 C1;have HN:=Qf (iV b r w h hl);have hr:=wI r;have H:Qg (LR iH (fU iH most r) (dO r).1.toNat [] ((dO r).2.1,(dO r).2.2||decide (most<(dO r).1))):=Qf (LR.start _ _ _);have HG:=Qf (fun q W hW hq=>nC b q W hW hq);generalize fU iH most r=R at H ⊢;unfold pY at Z;simp only at Z;generalize dO r=s1 at HN H Z hr;obtain⟨n,l1,A8⟩:=s1;simp only at HN H Z hr;obtain⟨D7,D8⟩:=hr;obtain⟨n,rfl⟩:∃m:Nat,n=(m:Int):=⟨n.toNat,Zo⟩;rw[aj] at H;clear h;obtain⟨q0,A0⟩:=Qe (A8||decide (most<(n:Int)));have X:Qg (NM q0 n most):=Qf (by
  rw[A0];by_cases h:most<(n:Int)
  ·left; simp[h]
  ·right; omega)
 rw[<-A0] at H;go_enter func118,ntmps118;go_wp2_with fail;have hx:=HN.o;refine hx.mono ?_;clear hx;rintro e x1 ⟨rfl,Y,A3⟩;have A7:=Y.out;have c1:x1.cell? ⟨b,1,none⟩=some (.bool A8):=Zc A7;have f1:x1.frozen? ⟨b,1,none⟩=false:=YK A7 1;clear A7;have G:Qg (RD b (l1,q0) (x1.setCell ⟨b,1,none⟩ (.bool q0))):=Qf (fH Y.out 1 _);have C:Qg (w.grownBy (x1.setCell ⟨b,1,none⟩ (.bool q0)) (some b)):=Qf (fM A3.out _ _);have HQ:=Qf A0;clear A0;cases A8 with
 | true=>
  obtain rfl:q0=true:=HQ.o;clear HQ;go_wp2;go_loopw [8,9] (fun v i wr=>∃(m:Nat) (xs:Qd) (q:RS) (k:Nat),i=Yi k/\k+m=n/\k=xs.length/\(k:Int)<=1000/\(q.1.length:Int)<=140737488355328/\Qg (RD b q wr)/\Qg (wr.ownsRow w 54 2 v xs.length (aW xs))/\Qg (w.grownBy wr (some b))/\Qg (LR iH R m xs q)/\Qg (NM q.2 n most)) (fun _ i _=>n-(intOf i).toNat)
  case atStart=>exact⟨n,[],_,0,rfl,Zo,rfl,Zo,Zp,G,Qf (XE _ _ _ _),C,H,X⟩
  case round=>
   clear Y G A3 C H X HN c1 f1;obtain⟨m,xs,⟨l,bd⟩,k,rfl,Q,S,C5,T,N,I,D,V,HM⟩:=hrel;simp only at T HM;obtain⟨L,K⟩:=Yj S Q;have C6:k<=n:=Zo;obtain⟨C3,C8⟩:b<(wr:Nat)/\(w:Nat)<=(wr:Nat):=⟨N.out.lt,D.out.size⟩;have P:=N.out;have c1:wr.cell? ⟨b,1,none⟩=some (.bool bd):=Zc P;obtain⟨av,cv,rfl,J⟩:=aB I.out;clear P S Q;by_cases C7:k<n
   ·have d1:decide ((k:Int)<(n:Int))=true:=Zt;have d2:decide (k<n)=true:=Zt;cases bd with
    | true=>
     have HF:Qg (R=(xs,(l,true))):=Qf (V.out.stop (.inr rfl));go_wp2;go_ret;exact GR.fin HF.o J N I D
    | false=>
     have B0:(n:Int)<=most:=by
      rcases HM.out with h | h
      ·cases h
      ·exact h
     obtain⟨m',rfl⟩:∃m',m=m'+1:=⟨m-1,Zh K.o⟩;obtain⟨M,U⟩:=Yj (V.out.next rfl) (HG.o (l,false) wr N.out T);have F:=oJ (l,false);simp only at F;generalize iH (l,false)=g1 at M U F;obtain⟨⟨A1,A2⟩,q2⟩:=g1;simp only at M U F;clear V;go_wp2_with fail;have hx:=U.o;refine hx.mono ?_;clear hx U;rintro e x2 ⟨rfl,G,C⟩;have O:=Qf (I.out.kept C.o (by
      by_cases hv:(Value.slice av xs.length cv).ownBlock=none
      ·exact .inl hv
      ·right;intro hh;have:=I.out.lt b hh
       omega))
     have B7:=C.o.size;go_wp2_with (at_builtin; refine wpList_append_own _ rfl _ _ 24 rfl (w:Nat) 54 i0 (.agg #[Yu 0,Yu 0]) 2 16 underlying24 hi B4.o B5.o B6.o rfl Zd _ _ _ rfl (O.o.alloc _) ⟨x2,0,none⟩ 1 1 [Yu A1,Yu A2] rfl rfl ?_ ?_ ?_ ?_ ?_ ?_)
     ·exact World.news_of_block (heap_alloc_new x2 _)
     ·intro u hu; simp at hu; rcases hu with rfl | rfl <;> rfl
     ·unfold maxLen; have:=L.o; omega
     ·have:=L.o; omega
     ·simp; omega
     ·intro v' x3 E B _;have A5:Qg (x3.ownsRow w 54 2 v' (xs++[(A1,A2)]).length (aW (xs++[(A1,A2)]))):=Qf (by rw[gK,af]; exact E);have A9:(Value.slice av xs.length cv).ownBlock≠some b:=fun hh=>by
       have:=I.out.lt b hh;omega
      have A6:Qg (RD b q2 x3):=Qf (((B.block b Zt (fun e=>A9 e.symm)).trans (Below.heap_alloc _ _ _ Zo)).trans G.o);have A4:Qg (w.grownBy x3 (some b)):=Qf (by
       have a1:=bu D.out C.o;have a2:=qY a1 (.cells #[Yu A1,Yu A2] 54);exact⟨B.os.trans a2.os,B.tape.trans a2.tape,B.output.trans a2.output,aC a2.size B.size,fun j hj hr=>(B.block j Zt (fun e=>Zh (I.out.lt j e.symm))).trans (a2.block j hj hr)⟩)
      clear E B O G C D I N;go_wp2;go_roundw
      case rel=>exact⟨m',xs++[(A1,A2)],q2,k+1,Zg,Zh K.o,by have:=L.o; simp; omega,Zo,Zo,A6,A5,A4,M,Qf (.inr B0)⟩
      case measure=>exact Yq
   ·have d1:decide ((k:Int)<(n:Int))=false:=Zt;have d2:decide (k<n)=false:=Zt;have HF:Qg (R=(xs,(l,bd))):=Qf (V.out.stop (.inl (Zh K.o)));go_wp2;go_ret;exact GR.fin HF.o J N I D
 | false=>
  obtain rfl:q0=decide (most<(n:Int)):=Zw HQ.o;clear HQ;go_wp2;go_loopw [8,9] (fun v i wr=>∃(m:Nat) (xs:Qd) (q:RS) (k:Nat),i=Yi k/\k+m=n/\k=xs.length/\(k:Int)<=1000/\(q.1.length:Int)<=140737488355328/\Qg (RD b q wr)/\Qg (wr.ownsRow w 54 2 v xs.length (aW xs))/\Qg (w.grownBy wr (some b))/\Qg (LR iH R m xs q)/\Qg (NM q.2 n most)) (fun _ i _=>n-(intOf i).toNat)
  case atStart=>exact⟨n,[],_,0,rfl,Zo,rfl,Zo,Zp,G,Qf (XE _ _ _ _),C,H,X⟩
  case round=>
   clear Y G A3 C H X HN c1 f1;obtain⟨m,xs,⟨l,bd⟩,k,rfl,Q,S,C5,T,N,I,D,V,HM⟩:=hrel;simp only at T HM;obtain⟨L,K⟩:=Yj S Q;have C6:k<=n:=Zo;obtain⟨C3,C8⟩:b<(wr:Nat)/\(w:Nat)<=(wr:Nat):=⟨N.out.lt,D.out.size⟩;have P:=N.out;have c1:wr.cell? ⟨b,1,none⟩=some (.bool bd):=Zc P;obtain⟨av,cv,rfl,J⟩:=aB I.out;clear P S Q;by_cases C7:k<n
   ·have d1:decide ((k:Int)<(n:Int))=true:=Zt;have d2:decide (k<n)=true:=Zt;cases bd with
    | true=>
     have HF:Qg (R=(xs,(l,true))):=Qf (V.out.stop (.inr rfl));go_wp2;go_ret;exact GR.fin HF.o J N I D
    | false=>
     have B0:(n:Int)<=most:=by
      rcases HM.out with h | h
      ·cases h
      ·exact h
     obtain⟨m',rfl⟩:∃m',m=m'+1:=⟨m-1,Zh K.o⟩;obtain⟨M,U⟩:=Yj (V.out.next rfl) (HG.o (l,false) wr N.out T);have F:=oJ (l,false);simp only at F;generalize iH (l,false)=g1 at M U F;obtain⟨⟨A1,A2⟩,q2⟩:=g1;simp only at M U F;clear V;go_wp2_with fail;have hx:=U.o;refine hx.mono ?_;clear hx U;rintro e x2 ⟨rfl,G,C⟩;have O:=Qf (I.out.kept C.o (by
      by_cases hv:(Value.slice av xs.length cv).ownBlock=none
      ·exact .inl hv
      ·right;intro hh;have:=I.out.lt b hh
       omega))
     have B7:=C.o.size;go_wp2_with (at_builtin; refine wpList_append_own _ rfl _ _ 24 rfl (w:Nat) 54 i0 (.agg #[Yu 0,Yu 0]) 2 16 underlying24 hi B4.o B5.o B6.o rfl Zd _ _ _ rfl (O.o.alloc _) ⟨x2,0,none⟩ 1 1 [Yu A1,Yu A2] rfl rfl ?_ ?_ ?_ ?_ ?_ ?_)
     ·exact World.news_of_block (heap_alloc_new x2 _)
     ·intro u hu; simp at hu; rcases hu with rfl | rfl <;> rfl
     ·unfold maxLen; have:=L.o; omega
     ·have:=L.o; omega
     ·simp; omega
     ·intro v' x3 E B _;have A5:Qg (x3.ownsRow w 54 2 v' (xs++[(A1,A2)]).length (aW (xs++[(A1,A2)]))):=Qf (by rw[gK,af]; exact E);have A9:(Value.slice av xs.length cv).ownBlock≠some b:=fun hh=>by
       have:=I.out.lt b hh;omega
      have A6:Qg (RD b q2 x3):=Qf (((B.block b Zt (fun e=>A9 e.symm)).trans (Below.heap_alloc _ _ _ Zo)).trans G.o);have A4:Qg (w.grownBy x3 (some b)):=Qf (by
       have a1:=bu D.out C.o;have a2:=qY a1 (.cells #[Yu A1,Yu A2] 54);exact⟨B.os.trans a2.os,B.tape.trans a2.tape,B.output.trans a2.output,aC a2.size B.size,fun j hj hr=>(B.block j Zt (fun e=>Zh (I.out.lt j e.symm))).trans (a2.block j hj hr)⟩)
      clear E B O G C D I N;go_wp2;go_roundw
      case rel=>exact⟨m',xs++[(A1,A2)],q2,k+1,Zg,Zh K.o,by have:=L.o; simp; omega,Zo,Zo,A6,A5,A4,M,Qf (.inr B0)⟩
      case measure=>exact Yq
   ·have d1:decide ((k:Int)<(n:Int))=false:=Zt;have d2:decide (k<n)=false:=Zt;have HF:Qg (R=(xs,(l,bd))):=Qf (V.out.stop (.inl (Zh K.o)));go_wp2;go_ret;exact GR.fin HF.o J N I D
theorem wQ(o:Ob)(ea:Qa)(ec:Nat)(pa:Qa)(pc:Nat)(w:World)(h:Dw w o ea ec pa pc):
  Qh 119 #[o.val ea ec pa pc] w (Xz (Yi (aR o).2) w):=by
 have B:=Qf (fun W (F:PM w W)=>iP o ea ec pa pc W (h.below F));generalize aR o=r at B ⊢;obtain⟨T,er⟩:=r;simp only at B ⊢;obtain⟨I,data,H,⟨t1,t2⟩,J,G,K,L⟩:=o;simp only[Ob.val] at B ⊢;clear h;generalize H.length=ne at B ⊢;generalize J.length=np at B ⊢;go_enter func119,ntmps119;go_wp2_with fail;have D:=B.o _ ((bf w).alloc nr (.cells #[Yi I,data,.slice ea ne ec,Yu t1,Yu t2,.slice pa np pc,G,Yi K,L] 59));refine D.mono ?_;clear D B;rintro e w1 ⟨rfl,C⟩;have E:=Qf C;clear C;go_wp2;go_ret;exact⟨rfl,(ba w _).trans (E.o.mono Zs)⟩
theorem xP(r:RS):(iN r).1.length<=65536:=by
 obtain⟨n,u,er,A⟩:∃n u er,Cw.getT r.1=(n,u,er):=⟨_,_,_,rfl⟩;have:=lZ A;unfold iN;rw[A];exact this.2.2
theorem Ci(r:RS):0<=(iH r).1.1/\0<=(iH r).1.2:=by
 unfold iH;split
 ·simp
 ·exact⟨(gu _ (Zy aA)).1,(gu _ (Zy aA)).1⟩
theorem jJ{α:Type}{get:RS->α×RS}{P:α->Prop}(h:∀r,P (get r).1):∀(n:Nat) (r:RS),(dH get n r).1.length<=n/\∀x∈(dH get n r).1,P x
 | 0,r=>by simp[dH]
 | n+1,r=>by
  rw[dH];split
  ·simp
  ·have:=jJ h n (get r).2;refine⟨by simp only[az]; omega,fun x A=>?_⟩;rcases XG.1 A with rfl | A
   ·exact h r
   ·exact this.2 x A
theorem zK{α:Type}{get:RS->α×RS}{P:α->Prop}(h:∀r,P (get r).1)(most:Int)(B:0<=most)(r:RS):((fU get most r).1.length:Int)<=most/\∀x∈(fU get most r).1,P x:=by
 unfold fU;refine⟨?_,(jJ h _ _).2⟩;have C:=(jJ h (pY most r).1.toNat (pY most r).2).1;by_cases A:(pY most r).2.2=true
 ·cases D:(pY most r).1.toNat with
  | zero=>simp[dH]; exact B
  | succ n=>rw[dH,if_pos A]; simpa using B
 ·have:¬most<(pY most r).1:=by
   intro h;apply A;unfold pY at h ⊢;simp only at h ⊢;simp[h]
  omega
structure ObB (o:Ob):Prop where
 elen:(o.ents.length:Int)<=1000
 enam:∀e∈o.ents,(e.name.length:Int)<=65536
 edig:∀e∈o.ents,0<=e.d.1/\0<=e.d.2
 plen:(o.pars.length:Int)<=1000
 pdig:∀d∈o.pars,0<=d.1/\0<=d.2
 tdig:0<=o.tree.1/\0<=o.tree.2
 dlen:o.data.length<=65536
 alen:(o.author.length:Int)<=65536
 mlen:(o.msg.length:Int)<=65536
theorem Hz(s:Qb):ObB (kX s).1:=by
 unfold kX;split
 ·exact⟨by simp[obZ],by simp[obZ],by simp[obZ],by simp[obZ],by simp[obZ],by simp[obZ],xP _,by simp[obZ],by simp[obZ]⟩
 ·split
  ·have h:=zK (get:=nW) (P:=fun e=>(e.name.length:Int)<=65536/\0<=e.d.1/\0<=e.d.2) (fun r=>⟨by have:=xP r; unfold nW; simp only; omega,Ci _⟩) 200 Zo (dO (s,false)).2;exact⟨Zp,fun e A=>(h.2 e A).1,fun e A=>(h.2 e A).2,by simp[obZ],by simp[obZ],by simp[obZ],by simp[obZ],by simp[obZ],by simp[obZ]⟩
  ·split
   ·unfold FE;have h:=zK (get:=iH) (P:=fun d=>0<=d.1/\0<=d.2) Ci 8 Zo (iH (dO (s,false)).2).2;refine⟨Zs,Zs,Zs,Zp,h.2,Ci _,Zs,?_,?_⟩
    ·exact Int.ofNat_le.2 (xP _)
    ·exact Int.ofNat_le.2 (xP _)
   ·exact⟨by simp[obZ],by simp[obZ],by simp[obZ],by simp[obZ],by simp[obZ],by simp[obZ],by simp[obZ],by simp[obZ],by simp[obZ]⟩
theorem ObB.inW{o:Ob}(h:ObB o)(A:BI (W:Nat) W ea o.ents)(B:dE W W pa o.pars)(C:o.pars.length<=pc):Dw W o ea ec pa pc:=
 ⟨A,B,C,Zh h.elen,fun e D=>Zh (h.enam e D),h.edig,Zh h.plen,h.pdig,h.tdig,Zh h.dlen,Zh h.alen,Zh h.mlen⟩
theorem Ip:ObB obZ:=⟨by simp[obZ],by simp[obZ],by simp[obZ],by simp[obZ],by simp[obZ],by simp[obZ],by simp[obZ],by simp[obZ],by simp[obZ]⟩
abbrev Ob.arr(o:Ob)(ea:Qa)(ec:Nat)(pa:Qa)(pc:Nat):Array Value:=
 #[Yi o.kind,o.data,.slice ea o.ents.length ec,Yu o.tree.1,Yu o.tree.2,.slice pa o.pars.length pc,o.author,Yi o.time,o.msg]
def BK(b:Nat)(cs:Array Value)(t:TypeId)(W:World):Prop:=W.heap[b]? = some (.cells cs t (0,0))
theorem BK.lt{t:TypeId}(h:BK b cs t W):b<(W:Nat):=(XA.1 h).1
theorem BK.grow{t:TypeId}(h:BK b cs t W)(A:W.grownBy W' r)(B:∀k,r=some k->k≠b):BK b cs t W':=(A.block b h.lt (fun e=>B b e.symm rfl)).trans h
theorem BK.grow1{t:TypeId}(h:BK b cs t W)(A:W.grownBy W' (some c))(B:c≠b):BK b cs t W':=h.grow A (fun k e=>by cases e; exact B)
theorem BK.below{t:TypeId}(h:BK b cs t W)(A:PM W W'):BK b cs t W':=(A.block b h.lt).trans h
theorem BK.set{t:TypeId}(h:BK b cs t W)(j:Nat)(v:Value):BK b (cs.setIfInBounds j v) t (W.setCell ⟨b,j,none⟩ v):=fH h j v
theorem BK.other{t:TypeId}(h:BK b cs t W)(A:c≠b)(j:Nat)(v:Value):BK b cs t (W.setCell ⟨c,j,none⟩ v):=(Below.heap_setCell _ _ _ _ Zt).trans h
theorem BK.alloc{t:TypeId}(h:BK b cs t W)(o:Obj):BK b cs t (W.alloc o):=(Below.heap_alloc _ _ _ h.lt).trans h
theorem BK.new(W:World)(cs:Array Value)(t:TypeId):BK W cs t (W.alloc (.cells cs t)):=YL _ _
theorem BK.new2(W:World)(o:Obj)(cs:Array Value)(t:TypeId):BK ((W:Nat)+1) cs t ((W.alloc o).alloc (.cells cs t)):=by
 have:=BK.new (W.alloc o) cs t
 rwa[show(W.alloc o).heap.size=(W:Nat)+1 by simp] at this
theorem BK.cell{t:TypeId}(h:BK b cs t W)(j:Nat):W.cell? ⟨b,j,none⟩=cs[j]?:=Lib.cell_of_heap h j
theorem BK.frozen{t:TypeId}(h:BK b cs t W)(j:Nat):W.frozen? ⟨b,j,none⟩=false:=YK h j
theorem kr(A:n=ds.length)(h:W.ownsRow base 54 2 (.slice a n c) n (aW ds)):dE W W a ds:=by subst A; exact iy h
theorem bD{e:TypeId}(h:W.ownsRow base e z v n xs)(A:W.grownBy W' (some b))(D:b<base):W'.ownsRow base e z v n xs:=
 h.kept A (by
  by_cases C:v.ownBlock=none
  ·exact .inl C
  ·right;intro B;have:=h.lt b B
   omega)
structure dZ (base:Nat) (W:World) (o:Ob) (ea:Qa) (ec:Nat) (pa:Qa) (pc:Nat):Prop where
 bb:ObB o
 eo:W.ownsRow base 164 4 (.slice ea o.ents.length ec) o.ents.length (bT o.ents)
 po:W.ownsRow base 54 2 (.slice pa o.pars.length pc) o.pars.length (aW o.pars)
theorem Ij{e:TypeId}(h:W.ownsRow base e z (.slice a n c) n xs):n<=c:=by
 obtain⟨a',c',A,B⟩:=aB h;cases A; exact B
theorem mP{e:TypeId}(h:W.ownsRow base e z v n xs)(D:base'<=base):W.ownsRow base' e z v n xs:=by
 refine⟨h.1,?_⟩;rcases h.2 with A | ⟨g,E,F,A,C,B⟩
 ·exact .inl A
 ·exact .inr ⟨g,E,F,A,Zo,B⟩
theorem PO{e:TypeId}(h:W.ownsRow base e z v n xs)(E:PM W W'):W'.ownsRow base e z v n xs:=by
 refine⟨h.1,?_⟩;rcases h.2 with A | ⟨g,F,G,A,C,B,D⟩
 ·exact .inl A
 ·exact .inr ⟨g,F,G,A,C,(E.block g (XA.1 B).1).trans B,D⟩
theorem dZ.inn{o:Ob}(h:dZ base W o ea ec pa pc):Dw W o ea ec pa pc:=h.bb.inW (qU h.eo) (iy h.po) (Ij h.po)
theorem dZ.below{o:Ob}(h:dZ base W o ea ec pa pc)(A:PM W W'):dZ base W' o ea ec pa pc:=⟨h.bb,PO h.eo A,PO h.po A⟩
theorem dZ.kept{o:Ob}(h:dZ base W o ea ec pa pc)(B:W.grownBy W' (some b))(A:b<base):dZ base W' o ea ec pa pc:=⟨h.bb,bD h.eo B A,bD h.po B A⟩
theorem dZ.le{o:Ob}(h:dZ base W o ea ec pa pc)(A:base'<=base):dZ base' W o ea ec pa pc:=⟨h.bb,mP h.eo A,mP h.po A⟩
theorem dZ.zero(base:Nat)(W:World):dZ base W obZ none 0 none 0:=⟨Ip,XE _ _ _ _,XE _ _ _ _⟩
structure DecSt (w:World) (ob:Nat) (o:Ob) (r:RS) (W:World) (ea:Qa) (ec:Nat) (pa:Qa) (pc:Nat):Prop where
 rd:RD ((w:Nat)+1) r W
 obj:BK ob (o.arr ea ec pa pc) 59 W
 inn:dZ ((w:Nat)+2) W o ea ec pa pc
 res:BK w #[Yi 0,Ye,(),Yu 0,Yu 0,(),Ye,Yi 0,Ye] 59 W
 bel:PM w W
def Ox(w:World)(ob:Nat)(o:Ob)(r:RS)(W:World):Prop:=∃ea ec pa pc,DecSt w ob o r W ea ec pa pc
theorem bE{y:World}(h:PM w x)(B:x.grownBy y (some b))(A:(w:Nat)<=b):PM w y:=h.grown B h.size (fun k e=>by cases e; exact A)
def Kq(w:World)(o:Ob)(er:Int)(e:Ending)(w':World):Prop:=∃ea ec pa pc,e=.returned (.tuple #[o.val ea ec pa pc,Yi er])/\dZ (w:Nat) w' o ea ec pa pc/\PM w w'
theorem zL{α:Type}(get:RS->α×RS)(h:∀r,(get r).2.1.length<=r.1.length):∀(n:Nat) (r:RS),(dH get n r).2.1.length<=r.1.length
 | 0,r=>by simp[dH]
 | n+1,r=>by
  rw[dH];split
  ·simp
  ·exact aC (zL get h n _) (h r)
theorem H9{α:Type}(get:RS->α×RS)(h:∀r,(get r).2.1.length<=r.1.length)(m:Int)(r:RS):(fU get m r).2.1.length<=r.1.length:=aC (zL get h _ _) (tQ m r)
theorem mf(s:Qb)(w:World)(hs:(s.length:Int)<=140737488355328):
  Qh 61 #[s] w (Kq w (bI s).1 (bI s).2):=by
 obtain⟨HN,Y⟩:=Yj (fun b W S=>iV b (s,false) W S hs) (Hz s);have B2:=oI (s,false);have K:Qg (kX s=if(dO (s,false)).1=1\/(dO (s,false)).1=4 then({ obZ with kind:=(dO (s,false)).1,data:=(iN (dO (s,false)).2).1 },(iN (dO (s,false)).2).2) else if(dO (s,false)).1=2 then({ obZ with kind:=2,ents:=(fU nW 200 (dO (s,false)).2).1 },(fU nW 200 (dO (s,false)).2).2) else if(dO (s,false)).1=3 then FE (dO (s,false)).2 else({ obZ with kind:=(dO (s,false)).1 },(dO (s,false)).2)):=Qf rfl;have J:Qg (bI s=if(kX s).2.2=true\/(kX s).2.1≠[]\/(aR (kX s).1).2≠0 then(obZ,13) else((kX s).1,0)):=Qf rfl;generalize bI s=D at J ⊢;generalize kX s=RO at K J Y;generalize dO (s,false)=s1 at HN K B2;obtain⟨k,r1⟩:=s1;simp only at HN K B2;obtain⟨OB,q⟩:=RO;simp only at J Y;have B9:(r1.1.length:Int)<=140737488355328:=Zo;clear B2;go_enter func61,ntmps61;go_wp2_with fail;have I:=HN.o ((w:Nat)+1) ((w.alloc (.cells #[Yi 0,Ye,(),Yu 0,Yu 0,(),Ye,Yi 0,Ye] 59)).alloc (.cells #[s,.bool false] 160)) (BK.new2 w _ #[s,.bool false] 160);refine I.mono ?_;clear I;rintro e x1 ⟨rfl,N,B7⟩;have G4:(w:Nat)+2<=(x1:Nat):=Zu B7.out.size;have H:Qg (BK w #[Yi 0,Ye,(),Yu 0,Yu 0,(),Ye,Yi 0,Ye] 59 x1):=Qf (((BK.new w #[Yi 0,Ye,(),Yu 0,Yu 0,(),Ye,Yi 0,Ye] 59).alloc _).grow1 B7.out Zo);have M:Qg (PM w x1):=Qf (bE ((ba w _).alloc Zs _) B7.out Zo);clear HN B7;go_upto_block 0 with(fail)
 go_cut [] from 12 to 64 (fun wx=>Ox w (x1:Nat) OB q wx)
 case rest=>
  clear Y K M H N;obtain⟨ea,ec,pa,pc,hS⟩:=hcut;have F:=Qf hS;clear hS;obtain⟨l,bd⟩:=q;have F7:=F.o.bel.size;have G6:=F.o.obj.lt;have B8:wc.cell? ⟨(w:Nat)+1,0,none⟩=some (.string ⟨l.toArray⟩):=by rw[BK.cell F.o.rd]; rfl
  have C5:wc.cell? ⟨(w:Nat)+1,1,none⟩=some (.bool bd):=by rw[BK.cell F.o.rd]; rfl
  simp only at J;cases bd with
  | true=>
   have R:Qg (D=(obZ,13)):=Qf (by rw[J.o,if_pos (.inl rfl)]);clear J;have r0:wc.cell? w=some (Yi 0):=Zw F.o.res.cell;have g0:wc.frozen? w=false:=F.o.res.frozen 0;have r1:wc.cell? ⟨w,1,none⟩=some (.string ⟨#[]⟩):=Zw F.o.res.cell;have g1:wc.frozen? ⟨w,1,none⟩=false:=F.o.res.frozen 1;have r2:wc.cell? ⟨w,2,none⟩=some (.slice none 0 0):=Zw F.o.res.cell;have g2:wc.frozen? ⟨w,2,none⟩=false:=F.o.res.frozen 2;have r3:wc.cell? ⟨w,3,none⟩=some (Yu 0):=Zw F.o.res.cell;have g3:wc.frozen? ⟨w,3,none⟩=false:=F.o.res.frozen 3;have r4:wc.cell? ⟨w,4,none⟩=some (Yu 0):=Zw F.o.res.cell;have g4:wc.frozen? ⟨w,4,none⟩=false:=F.o.res.frozen 4;have r5:wc.cell? ⟨w,5,none⟩=some (.slice none 0 0):=Zw F.o.res.cell;have g5:wc.frozen? ⟨w,5,none⟩=false:=F.o.res.frozen 5;have r6:wc.cell? ⟨w,6,none⟩=some (.string ⟨#[]⟩):=Zw F.o.res.cell;have g6:wc.frozen? ⟨w,6,none⟩=false:=F.o.res.frozen 6;have r7:wc.cell? ⟨w,7,none⟩=some (Yi 0):=Zw F.o.res.cell;have g7:wc.frozen? ⟨w,7,none⟩=false:=F.o.res.frozen 7;have r8:wc.cell? ⟨w,8,none⟩=some (.string ⟨#[]⟩):=Zw F.o.res.cell;have g8:wc.frozen? ⟨w,8,none⟩=false:=F.o.res.frozen 8;go_wp2;refine XB (v:=.tuple #[obZ.val none 0 none 0,Yi 13]) (by simp[results,results61,go_sem,obZ,r0,r1,r2,r3,r4,r5,r6,r7,r8]) rfl ?_;rw[R.o];exact⟨none,0,none,0,rfl,dZ.zero _ _,((((((((F.o.bel.setCell Zs _).setCell Zs _).setCell Zs _).setCell Zs _).setCell Zs _).setCell Zs _).setCell Zs _).setCell Zs _).setCell Zs _⟩
  | false=>
   cases l with
   | cons c0 l0=>
    have R:Qg (D=(obZ,13)):=Qf (by rw[J.o,if_pos (.inr (.inl Zs))]);clear J;have r0:wc.cell? w=some (Yi 0):=Zw F.o.res.cell;have g0:wc.frozen? w=false:=F.o.res.frozen 0;have r1:wc.cell? ⟨w,1,none⟩=some (.string ⟨#[]⟩):=Zw F.o.res.cell;have g1:wc.frozen? ⟨w,1,none⟩=false:=F.o.res.frozen 1;have r2:wc.cell? ⟨w,2,none⟩=some (.slice none 0 0):=Zw F.o.res.cell;have g2:wc.frozen? ⟨w,2,none⟩=false:=F.o.res.frozen 2;have r3:wc.cell? ⟨w,3,none⟩=some (Yu 0):=Zw F.o.res.cell;have g3:wc.frozen? ⟨w,3,none⟩=false:=F.o.res.frozen 3;have r4:wc.cell? ⟨w,4,none⟩=some (Yu 0):=Zw F.o.res.cell;have g4:wc.frozen? ⟨w,4,none⟩=false:=F.o.res.frozen 4;have r5:wc.cell? ⟨w,5,none⟩=some (.slice none 0 0):=Zw F.o.res.cell;have g5:wc.frozen? ⟨w,5,none⟩=false:=F.o.res.frozen 5;have r6:wc.cell? ⟨w,6,none⟩=some (.string ⟨#[]⟩):=Zw F.o.res.cell;have g6:wc.frozen? ⟨w,6,none⟩=false:=F.o.res.frozen 6;have r7:wc.cell? ⟨w,7,none⟩=some (Yi 0):=Zw F.o.res.cell;have g7:wc.frozen? ⟨w,7,none⟩=false:=F.o.res.frozen 7;have r8:wc.cell? ⟨w,8,none⟩=some (.string ⟨#[]⟩):=Zw F.o.res.cell;have g8:wc.frozen? ⟨w,8,none⟩=false:=F.o.res.frozen 8;go_wp2;refine XB (v:=.tuple #[obZ.val none 0 none 0,Yi 13]) (by simp[results,results61,go_sem,obZ,r0,r1,r2,r3,r4,r5,r6,r7,r8]) rfl ?_;rw[R.o];exact⟨none,0,none,0,rfl,dZ.zero _ _,((((((((F.o.bel.setCell Zs _).setCell Zs _).setCell Zs _).setCell Zs _).setCell Zs _).setCell Zs _).setCell Zs _).setCell Zs _).setCell Zs _⟩
   | nil=>
    have L:=Qf (wQ OB ea ec pa pc wc F.o.inn.inn);have o0:wc.cell? x1=some (Yi OB.kind):=Zw F.o.obj.cell;have o1:wc.cell? ⟨x1,1,none⟩=some (.string ⟨OB.data.toArray⟩):=Zw F.o.obj.cell;have o2:wc.cell? ⟨x1,2,none⟩=some (.slice ea OB.ents.length ec):=Zw F.o.obj.cell;have o3:wc.cell? ⟨x1,3,none⟩=some (Yu OB.tree.1):=Zw F.o.obj.cell;have o4:wc.cell? ⟨x1,4,none⟩=some (Yu OB.tree.2):=Zw F.o.obj.cell;have o5:wc.cell? ⟨x1,5,none⟩=some (.slice pa OB.pars.length pc):=Zw F.o.obj.cell;have o6:wc.cell? ⟨x1,6,none⟩=some (.string ⟨OB.author.toArray⟩):=Zw F.o.obj.cell;have o7:wc.cell? ⟨x1,7,none⟩=some (Yi OB.time):=Zw F.o.obj.cell;have o8:wc.cell? ⟨x1,8,none⟩=some (.string ⟨OB.msg.toArray⟩):=Zw F.o.obj.cell;generalize (aR OB).2=er at J L;by_cases he:er=0
    ·subst he;have R:Qg (D=(OB,0)):=Qf (by rw[J.o,if_neg Zs]);clear J;go_wp2_with fail;have I:=L.o;refine I.mono ?_;clear I L o0 o1 o2 o3 o4 o5 o6 o7 o8 B8 C5;rintro e w1 ⟨rfl,hb⟩;obtain⟨Y,C,Q⟩:=Yk hb (F.o.res.below hb) (F.o.obj.below hb);have G4:=hb.size;clear hb;have r0:w1.cell? w=some (Yi 0):=Zw C.o.cell;have g0:w1.frozen? w=false:=C.o.frozen 0;have r1:w1.cell? ⟨w,1,none⟩=some (.string ⟨#[]⟩):=Zw C.o.cell;have g1:w1.frozen? ⟨w,1,none⟩=false:=C.o.frozen 1;have r2:w1.cell? ⟨w,2,none⟩=some (.slice none 0 0):=Zw C.o.cell;have g2:w1.frozen? ⟨w,2,none⟩=false:=C.o.frozen 2;have r3:w1.cell? ⟨w,3,none⟩=some (Yu 0):=Zw C.o.cell;have g3:w1.frozen? ⟨w,3,none⟩=false:=C.o.frozen 3;have r4:w1.cell? ⟨w,4,none⟩=some (Yu 0):=Zw C.o.cell;have g4:w1.frozen? ⟨w,4,none⟩=false:=C.o.frozen 4;have r5:w1.cell? ⟨w,5,none⟩=some (.slice none 0 0):=Zw C.o.cell;have g5:w1.frozen? ⟨w,5,none⟩=false:=C.o.frozen 5;have r6:w1.cell? ⟨w,6,none⟩=some (.string ⟨#[]⟩):=Zw C.o.cell;have g6:w1.frozen? ⟨w,6,none⟩=false:=C.o.frozen 6;have r7:w1.cell? ⟨w,7,none⟩=some (Yi 0):=Zw C.o.cell;have g7:w1.frozen? ⟨w,7,none⟩=false:=C.o.frozen 7;have r8:w1.cell? ⟨w,8,none⟩=some (.string ⟨#[]⟩):=Zw C.o.cell;have g8:w1.frozen? ⟨w,8,none⟩=false:=C.o.frozen 8;have o0:w1.cell? x1=some (Yi OB.kind):=Zw Q.o.cell;have o1:w1.cell? ⟨x1,1,none⟩=some (.string ⟨OB.data.toArray⟩):=Zw Q.o.cell;have o2:w1.cell? ⟨x1,2,none⟩=some (.slice ea OB.ents.length ec):=Zw Q.o.cell;have o3:w1.cell? ⟨x1,3,none⟩=some (Yu OB.tree.1):=Zw Q.o.cell;have o4:w1.cell? ⟨x1,4,none⟩=some (Yu OB.tree.2):=Zw Q.o.cell;have o5:w1.cell? ⟨x1,5,none⟩=some (.slice pa OB.pars.length pc):=Zw Q.o.cell;have o6:w1.cell? ⟨x1,6,none⟩=some (.string ⟨OB.author.toArray⟩):=Zw Q.o.cell;have o7:w1.cell? ⟨x1,7,none⟩=some (Yi OB.time):=Zw Q.o.cell;have o8:w1.cell? ⟨x1,8,none⟩=some (.string ⟨OB.msg.toArray⟩):=Zw Q.o.cell;have G3:(x1:Nat)≠(w:Nat):=Zo;go_wp2;refine XB (v:=.tuple #[OB.val ea ec pa pc,Yi 0]) (by simp[results,results61,go_sem,r0,r1,r2,r3,r4,r5,r6,r7,r8]) rfl ?_;rw[R.o];have G2:PM w w1:=F.o.bel.trans (Y.o.mono F7);exact⟨ea,ec,pa,pc,rfl,((F.o.inn.below Y.o).kept (fM (fM (fM (fM (fM (fM (fM (fM (dN _ _ _ _) _ _) _ _) _ _) _ _) _ _) _ _) _ _) _ _) Zo).le Zo,((((((((G2.setCell Zs _).setCell Zs _).setCell Zs _).setCell Zs _).setCell Zs _).setCell Zs _).setCell Zs _).setCell Zs _).setCell Zs _⟩
    ·have G3:(er !=0)=true:=Zu he;have R:Qg (D=(obZ,13)):=Qf (by rw[J.o,if_pos (.inr (.inr he))]);clear J he;go_wp2_with fail;have I:=L.o;refine I.mono ?_;clear I L o0 o1 o2 o3 o4 o5 o6 o7 o8 B8 C5;rintro e w1 ⟨rfl,hb⟩;obtain⟨Y,C⟩:=Yj hb (F.o.res.below hb);clear hb;have r0:w1.cell? w=some (Yi 0):=Zw C.o.cell;have g0:w1.frozen? w=false:=C.o.frozen 0;have r1:w1.cell? ⟨w,1,none⟩=some (.string ⟨#[]⟩):=Zw C.o.cell;have g1:w1.frozen? ⟨w,1,none⟩=false:=C.o.frozen 1;have r2:w1.cell? ⟨w,2,none⟩=some (.slice none 0 0):=Zw C.o.cell;have g2:w1.frozen? ⟨w,2,none⟩=false:=C.o.frozen 2;have r3:w1.cell? ⟨w,3,none⟩=some (Yu 0):=Zw C.o.cell;have g3:w1.frozen? ⟨w,3,none⟩=false:=C.o.frozen 3;have r4:w1.cell? ⟨w,4,none⟩=some (Yu 0):=Zw C.o.cell;have g4:w1.frozen? ⟨w,4,none⟩=false:=C.o.frozen 4;have r5:w1.cell? ⟨w,5,none⟩=some (.slice none 0 0):=Zw C.o.cell;have g5:w1.frozen? ⟨w,5,none⟩=false:=C.o.frozen 5;have r6:w1.cell? ⟨w,6,none⟩=some (.string ⟨#[]⟩):=Zw C.o.cell;have g6:w1.frozen? ⟨w,6,none⟩=false:=C.o.frozen 6;have r7:w1.cell? ⟨w,7,none⟩=some (Yi 0):=Zw C.o.cell;have g7:w1.frozen? ⟨w,7,none⟩=false:=C.o.frozen 7;have r8:w1.cell? ⟨w,8,none⟩=some (.string ⟨#[]⟩):=Zw C.o.cell;have g8:w1.frozen? ⟨w,8,none⟩=false:=C.o.frozen 8;go_wp2;refine XB (v:=.tuple #[obZ.val none 0 none 0,Yi 13]) (by simp[results,results61,go_sem,obZ,r0,r1,r2,r3,r4,r5,r6,r7,r8]) rfl ?_;rw[R.o];exact⟨none,0,none,0,rfl,dZ.zero _ _,(((((((((F.o.bel.trans (Y.o.mono F7)).setCell Zs _).setCell Zs _).setCell Zs _).setCell Zs _).setCell Zs _).setCell Zs _).setCell Zs _).setCell Zs _).setCell Zs _⟩
 case first=>
  have P:Qg (BK x1 #[Yi k,Ye,(),Yu 0,Yu 0,(),Ye,Yi 0,Ye] 59 (x1.alloc (.cells #[Yi k,Ye,(),Yu 0,Yu 0,(),Ye,Yi 0,Ye] 59))):=Qf (BK.new _ _ _);clear J;by_cases h1:k=1
  ·subst h1;have B:=Qf (by have:=K.o; rw[if_pos Zo] at this; exact this);clear K;have L:=Qf (fun W S=>iU ((w:Nat)+1) r1 W S B9);generalize iN r1=s2 at L B;obtain⟨dt,q2⟩:=s2;simp only at L B;go_wp2_with fail;have I:=L.o _ (N.out.alloc (.cells #[Yi 1,Ye,(),Yu 0,Yu 0,(),Ye,Yi 0,Ye] 59));refine I.mono ?_;clear I L;rintro e x2 ⟨rfl,O,G⟩;have E:Qg (BK x1 #[Yi 1,Ye,(),Yu 0,Yu 0,(),Ye,Yi 0,Ye] 59 x2):=Qf (P.o.grow1 G.out Zo);have C4:(x1:Nat)+1<=(x2:Nat):=Zu G.out.size;have c1:x2.cell? ⟨x1,1,none⟩=some (.string ⟨#[]⟩):=Zw E.o.cell;have f1:x2.frozen? ⟨x1,1,none⟩=false:=E.o.frozen 1;have R:Qg (Ox w (x1:Nat) OB q (x2.setCell ⟨x1,1,none⟩ (.string ⟨dt.toArray⟩))):=Qf (by
    obtain⟨rfl,rfl⟩:=Prod.mk.inj B.o;refine⟨none,0,none,0,O.out.set Zo _ _,E.o.set 1 _,⟨Y.o,XE _ _ _ _,XE _ _ _ _⟩,((H.o.alloc _).grow1 G.out Zo).other Zo _ _,?_⟩;exact(bE (M.o.alloc Zo _) G.out Zo).setCell Zt _)
   clear N O P E B G M H;go_wp2_with fail;go_meet
   case rel=>exact R.o
  ·by_cases h4:k=4
   ·subst h4;have B:=Qf (by have:=K.o; rw[if_pos Zo] at this; exact this);clear K h1;have L:=Qf (fun W S=>iU ((w:Nat)+1) r1 W S B9);generalize iN r1=s2 at L B;obtain⟨dt,q2⟩:=s2;simp only at L B;go_wp2_with fail;have I:=L.o _ (N.out.alloc (.cells #[Yi 4,Ye,(),Yu 0,Yu 0,(),Ye,Yi 0,Ye] 59));refine I.mono ?_;clear I L;rintro e x2 ⟨rfl,O,G⟩;have E:Qg (BK x1 #[Yi 4,Ye,(),Yu 0,Yu 0,(),Ye,Yi 0,Ye] 59 x2):=Qf (P.o.grow1 G.out Zo);have C4:(x1:Nat)+1<=(x2:Nat):=Zu G.out.size;have c1:x2.cell? ⟨x1,1,none⟩=some (.string ⟨#[]⟩):=Zw E.o.cell;have f1:x2.frozen? ⟨x1,1,none⟩=false:=E.o.frozen 1;have R:Qg (Ox w (x1:Nat) OB q (x2.setCell ⟨x1,1,none⟩ (.string ⟨dt.toArray⟩))):=Qf (by
     obtain⟨rfl,rfl⟩:=Prod.mk.inj B.o;refine⟨none,0,none,0,O.out.set Zo _ _,E.o.set 1 _,⟨Y.o,XE _ _ _ _,XE _ _ _ _⟩,((H.o.alloc _).grow1 G.out Zo).other Zo _ _,?_⟩;exact(bE (M.o.alloc Zo _) G.out Zo).setCell Zt _)
    clear N O P E B G M H;go_wp2_with fail;go_meet
    case rel=>exact R.o
   ·by_cases h2:k=2
    ·subst h2;have B:=Qf (by have:=K.o; rw[if_neg Zo,if_pos rfl] at this; exact this);clear K h1 h4;have L:=Qf (fun W S=>Fv ((w:Nat)+1) 200 r1 W S B9 Zo Zo);generalize fU nW 200 r1=s2 at L B;obtain⟨es,q2⟩:=s2;simp only at L B;go_wp2_with fail;have I:=L.o _ (N.out.alloc (.cells #[Yi 2,Ye,(),Yu 0,Yu 0,(),Ye,Yi 0,Ye] 59));refine I.mono ?_;clear I L;rintro e x2 ⟨ea,ec,rfl,G7,O,D5,G⟩;have E:Qg (BK x1 #[Yi 2,Ye,(),Yu 0,Yu 0,(),Ye,Yi 0,Ye] 59 x2):=Qf (P.o.grow1 G.out Zo);have C4:(x1:Nat)+1<=(x2:Nat):=Zu G.out.size;have c2:x2.cell? ⟨x1,2,none⟩=some (.slice none 0 0):=Zw E.o.cell;have f2:x2.frozen? ⟨x1,2,none⟩=false:=E.o.frozen 2;have R:Qg (Ox w (x1:Nat) OB q (x2.setCell ⟨x1,2,none⟩ (.slice ea es.length ec))):=Qf (by
      obtain⟨rfl,rfl⟩:=Prod.mk.inj B.o;have hO:=bD D5.out (dN x2 (x1:Nat) 2 (.slice ea es.length ec)) Zs;refine⟨ea,ec,none,0,O.out.set Zo _ _,E.o.set 2 _,⟨Y.o,mP hO Zt,XE _ _ _ _⟩,((H.o.alloc _).grow1 G.out Zo).other Zo _ _,?_⟩;exact(bE (M.o.alloc Zo _) G.out Zo).setCell Zt _)
     clear N O P E B G M H D5;go_wp2_with fail;go_meet
     case rel=>exact R.o
    ·by_cases h3:k=3
     ·subst h3;have B:=Qf (by have:=K.o; rw[if_neg Zo,if_neg Zo,if_pos rfl] at this; exact this);clear K h1 h4 h2;have L:=Qf (fun W S=>nC ((w:Nat)+1) r1 W S B9);have F3:=oJ r1;unfold FE at B;generalize iH r1=s2 at L B F3;obtain⟨⟨t1,t2⟩,q2⟩:=s2;simp only at L B F3;have B3:=Qf (fun W S=>Fx ((w:Nat)+1) 8 q2 W S Zo Zo Zo);have F4:=H9 iH oJ 8 q2;generalize fU iH 8 q2=s3 at B3 B F4;obtain⟨ps,q3⟩:=s3;simp only at B3 B F4;have B4:=Qf (fun W S=>iU ((w:Nat)+1) q3 W S Zo);have F5:=xO q3;generalize iN q3=s4 at B4 B F5;obtain⟨au,q4⟩:=s4;simp only at B4 B F5;have B5:=Qf (fun W S=>iV ((w:Nat)+1) q4 W S Zo);have F6:=oI q4;generalize dO q4=s5 at B5 B F6;obtain⟨ti,q5⟩:=s5;simp only at B5 B F6;have B6:=Qf (fun W S=>iU ((w:Nat)+1) q5 W S Zo);generalize iN q5=s6 at B6 B;obtain⟨ms,q6⟩:=s6;simp only at B6 B;go_wp2_with fail;have I:=L.o _ (N.out.alloc (.cells #[Yi 3,Ye,(),Yu 0,Yu 0,(),Ye,Yi 0,Ye] 59));refine I.mono ?_;clear I L;rintro e x2 ⟨rfl,O,G⟩;have E:Qg (BK x1 #[Yi 3,Ye,(),Yu 0,Yu 0,(),Ye,Yi 0,Ye] 59 x2):=Qf (P.o.grow1 G.out Zo);have C4:(x1:Nat)+1<=(x2:Nat):=Zu G.out.size;have A3:Qg (BK w #[Yi 0,Ye,(),Yu 0,Yu 0,(),Ye,Yi 0,Ye] 59 x2):=Qf ((H.o.alloc _).grow1 G.out Zo);have C6:Qg (PM w x2):=Qf (bE (M.o.alloc Zo _) G.out Zo);clear N P G M H;have c3:x2.cell? ⟨x1,3,none⟩=some (Yu 0):=Zw E.o.cell;have f3:x2.frozen? ⟨x1,3,none⟩=false:=E.o.frozen 3;have c4:x2.cell? ⟨x1,4,none⟩=some (Yu 0):=Zw E.o.cell;have f4:x2.frozen? ⟨x1,4,none⟩=false:=E.o.frozen 4;have E9:Qg (RD ((w:Nat)+1) q2 ((x2.setCell ⟨x1,3,none⟩ (Yu t1)).setCell ⟨x1,4,none⟩ (Yu t2))):=Qf ((O.out.set Zo _ _).set Zo _ _);have D3:Qg (BK x1 #[Yi 3,Ye,(),Yu t1,Yu t2,(),Ye,Yi 0,Ye] 59 ((x2.setCell ⟨x1,3,none⟩ (Yu t1)).setCell ⟨x1,4,none⟩ (Yu t2))):=Qf ((E.o.set 3 _).set 4 _);have B0:Qg (BK w #[Yi 0,Ye,(),Yu 0,Yu 0,(),Ye,Yi 0,Ye] 59 ((x2.setCell ⟨x1,3,none⟩ (Yu t1)).setCell ⟨x1,4,none⟩ (Yu t2))):=Qf ((A3.o.other Zo _ _).other Zo _ _);have C2:Qg (PM w ((x2.setCell ⟨x1,3,none⟩ (Yu t1)).setCell ⟨x1,4,none⟩ (Yu t2))):=Qf ((C6.o.setCell Zt _).setCell Zt _);clear O E A3 C6;go_wp2_with fail;have I:=B3.o _ E9.o;refine I.mono ?_;clear I B3 c3 f3 c4 f4;rintro e x3 ⟨pa,pc,rfl,G8,E3,D6,A2⟩;have G9:(x2:Nat)<=(x3:Nat):=Zu A2.out.size;have T:Qg (BK x1 #[Yi 3,Ye,(),Yu t1,Yu t2,(),Ye,Yi 0,Ye] 59 x3):=Qf (D3.o.grow1 A2.out Zo);obtain⟨A4,C7⟩:=Yj (B0.o.grow1 A2.out Zo) (bE C2.o A2.out Zo);clear E9 D3 B0 C2 A2;have c5:x3.cell? ⟨x1,5,none⟩=some (.slice none 0 0):=Zw T.o.cell;have f5:x3.frozen? ⟨x1,5,none⟩=false:=T.o.frozen 5;have F0:=Qf (E3.out.set (c:=(x1:Nat)) Zo 5 (.slice pa ps.length pc));have D4:Qg (BK x1 #[Yi 3,Ye,(),Yu t1,Yu t2,.slice pa ps.length pc,Ye,Yi 0,Ye] 59 (x3.setCell ⟨x1,5,none⟩ (.slice pa ps.length pc))):=Qf (T.o.set 5 _);obtain⟨B1,C3,E2⟩:=Yk (A4.o.other (c:=(x1:Nat)) Zo 5 (.slice pa ps.length pc)) (C7.o.setCell (p:=⟨x1,5,none⟩) Zt (.slice pa ps.length pc)) (bD D6.out (dN x3 (x1:Nat) 5 (.slice pa ps.length pc)) Zt);clear E3 T A4 C7 D6;go_wp2_with fail;have I:=B4.o _ F0.o;refine I.mono ?_;clear I B4 c5 f5;rintro e x4 ⟨rfl,E4,Z⟩;have H0:(x3:Nat)<=(x4:Nat):=Zu Z.out.size;have U:Qg (BK x1 #[Yi 3,Ye,(),Yu t1,Yu t2,.slice pa ps.length pc,Ye,Yi 0,Ye] 59 x4):=Qf (D4.o.grow1 Z.out Zo);obtain⟨A5,C8,D7⟩:=Yk (B1.o.grow1 Z.out Zo) (bE C3.o Z.out Zo) (bD E2.o Z.out Zt);clear F0 D4 B1 C3 E2 Z;have c6:x4.cell? ⟨x1,6,none⟩=some (.string ⟨#[]⟩):=Zw U.o.cell;have f6:x4.frozen? ⟨x1,6,none⟩=false:=U.o.frozen 6;have E7:=Qf (E4.out.set (c:=(x1:Nat)) Zo 6 (.string ⟨au.toArray⟩));have D1:Qg (BK x1 #[Yi 3,Ye,(),Yu t1,Yu t2,.slice pa ps.length pc,au,Yi 0,Ye] 59 (x4.setCell ⟨x1,6,none⟩ (.string ⟨au.toArray⟩))):=Qf (U.o.set 6 _);obtain⟨A8,C0,E0⟩:=Yk (A5.o.other (c:=(x1:Nat)) Zo 6 (.string ⟨au.toArray⟩)) (C8.o.setCell (p:=⟨x1,6,none⟩) Zt (.string ⟨au.toArray⟩)) (bD D7.o (dN x4 (x1:Nat) 6 (.string ⟨au.toArray⟩)) Zt);clear E4 U A5 C8 D7;go_wp2_with fail;have I:=B5.o _ E7.o;refine I.mono ?_;clear I B5 c6 f6;rintro e x5 ⟨rfl,E5,A0⟩;have H1:(x4:Nat)<=(x5:Nat):=Zu A0.out.size;have V:Qg (BK x1 #[Yi 3,Ye,(),Yu t1,Yu t2,.slice pa ps.length pc,au,Yi 0,Ye] 59 x5):=Qf (D1.o.grow1 A0.out Zo);obtain⟨A6,C9,D8⟩:=Yk (A8.o.grow1 A0.out Zo) (bE C0.o A0.out Zo) (bD E0.o A0.out Zt);clear E7 D1 A8 C0 E0 A0;have c7:x5.cell? ⟨x1,7,none⟩=some (Yi 0):=Zw V.o.cell;have f7:x5.frozen? ⟨x1,7,none⟩=false:=V.o.frozen 7;have E8:=Qf (E5.out.set (c:=(x1:Nat)) Zo 7 (Yi ti));have D2:Qg (BK x1 #[Yi 3,Ye,(),Yu t1,Yu t2,.slice pa ps.length pc,au,Yi ti,Ye] 59 (x5.setCell ⟨x1,7,none⟩ (Yi ti))):=Qf (V.o.set 7 _);obtain⟨A9,C1,E1⟩:=Yk (A6.o.other (c:=(x1:Nat)) Zo 7 (Yi ti)) (C9.o.setCell (p:=⟨x1,7,none⟩) Zt (Yi ti)) (bD D8.o (dN x5 (x1:Nat) 7 (Yi ti)) Zt);clear E5 V A6 C9 D8;go_wp2_with fail;have I:=B6.o _ E8.o;refine I.mono ?_;clear I B6 c7 f7;rintro e x6 ⟨rfl,E6,A1⟩;have H2:(x5:Nat)<=(x6:Nat):=Zu A1.out.size;have X:Qg (BK x1 #[Yi 3,Ye,(),Yu t1,Yu t2,.slice pa ps.length pc,au,Yi ti,Ye] 59 x6):=Qf (D2.o.grow1 A1.out Zo);obtain⟨A7,D0,D9⟩:=Yk (A9.o.grow1 A1.out Zo) (bE C1.o A1.out Zo) (bD E1.o A1.out Zt);clear E8 D2 A9 C1 E1 A1;have c8:x6.cell? ⟨x1,8,none⟩=some (.string ⟨#[]⟩):=Zw X.o.cell;have f8:x6.frozen? ⟨x1,8,none⟩=false:=X.o.frozen 8;have R:Qg (Ox w (x1:Nat) OB q (x6.setCell ⟨x1,8,none⟩ (.string ⟨ms.toArray⟩))):=Qf (by
       obtain⟨rfl,rfl⟩:=Prod.mk.inj B.o;have hO:=bD D9.o (dN x6 (x1:Nat) 8 (.string ⟨ms.toArray⟩)) Zt;exact⟨none,0,pa,pc,E6.out.set Zo _ _,X.o.set 8 _,⟨Y.o,XE _ _ _ _,mP hO Zt⟩,A7.o.other Zo _ _,D0.o.setCell Zt _⟩)
      clear E6 X A7 D0 D9 B;go_wp2_with fail;go_meet
      case rel=>exact R.o
     ·have B:=Qf (by have:=K.o; rw[if_neg Zo,if_neg h2,if_neg h3] at this; exact this);have e1:(k==1)=false:=Zu h1;have e4:(k==4)=false:=Zu h4;have e2:(k==2)=false:=Zu h2;have e3:(k==3)=false:=Zu h3;clear K h1 h4 h2 h3;have R:Qg (Ox w (x1:Nat) OB q (x1.alloc (.cells #[Yi k,Ye,(),Yu 0,Yu 0,(),Ye,Yi 0,Ye] 59))):=Qf (by
       obtain⟨rfl,rfl⟩:=Prod.mk.inj B.o;exact⟨none,0,none,0,N.out.alloc _,P.o,⟨Y.o,XE _ _ _ _,XE _ _ _ _⟩,H.o.alloc _,M.o.alloc Zo _⟩)
      clear N P B M H;go_wp2_with fail;go_meet
      case rel=>exact R.o
