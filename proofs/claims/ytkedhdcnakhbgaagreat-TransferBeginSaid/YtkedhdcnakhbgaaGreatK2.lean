/- Joined texts: ObPl, ObNm, ObCk, ObCm, ObCo, ObCh, ObWr, ObWd, ObEn. -/
import Derived.Test.YtkedhdcnakhbgaaGreatK1
import Derived.Lib.AppendStr
/- What the object layer computes,in plain terms: no program in sight. -/
set_option linter.unusedSimpArgs false
set_option maxRecDepth 100000
set_option maxHeartbeats 16000000
namespace Go.Proofs.YtkedhdcnakhbgaaGreat
variable {bad:Bool}{d:Int×Int}{B B' b k:Nat}{a:Qa}{L l:Qb}{ds:Qd}{v:Value}{W w w0 wr:World}
structure Ent where
 name:Qb
 dir:Bool
 d:Int×Int
deriving DecidableEq
structure Ob where
 kind:Int
 data:Qb
 ents:List Ent
 tree:Int×Int
 pars:Qd
 author:Qb
 time:Int
 msg:Qb
deriving DecidableEq
def dI(c:UInt8):Bool:=(decide (97<=c.toNat)&&decide (c.toNat<=122))||(decide (65<=c.toNat)&&decide (c.toNat<=90))||(decide (48<=c.toNat)&&decide (c.toNat<=57))||c==46||c==95||c==45
def jA(s:Qb):Bool:=decide (1<=s.length)&&decide (s.length<=24)&&!(s==[46])&&!(s==[46,46])&&s.all dI
theorem di{s:Qb}(h:jA s=true):1<=s.length/\s.length<=24:=by
 simp only[jA,Bool.and_eq_true,decide_eq_true_eq] at h;exact⟨h.1.1.1.1,h.1.1.1.2⟩
def leB(a b:Qb):Bool:=Op.bytesLess a b||a==b
def xR:Option (Qb)->Qb->Bool
 | none,_=>false
 | some q,n=>leB n q
def kF:Option (Qb)->List Ent->Int
 | _,[]=>0
 | p,e::r=>if jA e.name=false then 6 else if xR p e.name=true then 10 else if e.d=(0,0) then 1 else kF (some e.name) r
def mK(l:List Ent):Int:=if 200<l.length then 4 else kF none l
def kQ:Qd->Qd->Int
 | _,[]=>0
 | seen,d::r=>if d=(0,0) then 1 else if d∈seen then 7 else kQ (seen++[d]) r
def dS(o:Ob):Int:=
 if o.tree=(0,0) then 1 else if 8<o.pars.length then 4 else if kQ [] o.pars≠0 then kQ [] o.pars
 else if jA o.author=false then 6 else if o.time<0\/1099511627776<o.time then 2 else if 200<o.msg.length then 4 else 0
def Kj(o:Ob):Bool:=!decide (o.tree=(0,0))||decide (0<o.pars.length)||decide (0<o.author.length)||!decide (o.time=0)||decide (0<o.msg.length)
def dz(o:Ob):Int:=
 if o.kind=1\/o.kind=4 then(if 0<o.ents.length\/Kj o=true then 1 else 0)
 else if o.kind=2 then(if 0<o.data.length\/Kj o=true then 1 else mK o.ents)
 else if o.kind=3 then(if 0<o.data.length\/0<o.ents.length then 1 else dS o)
 else 9
def fF(s:Qb):Qb:=Cw.enc s.length++s
def vG(b:Bool):Nat:=if b then 1 else 0
def beD(d:Int×Int):Qb:=be 8 d.1++be 8 d.2
def ru(e:Ent):Qb:=fF e.name++(Cw.enc (vG e.dir)++beD e.d)
def gZ(o:Ob):Qb:=
 Cw.enc o.kind.toNat ++
  (if o.kind=2 then Cw.enc o.ents.length++o.ents.flatMap ru
   else if o.kind=3 then beD o.tree++(Cw.enc o.pars.length++(o.pars.flatMap beD++(fF o.author++(Cw.enc o.time.toNat++fF o.msg))))
   else fF o.data)
def aR(o:Ob):Qb×Int:=if dz o≠0 then([],dz o) else if 65536<(gZ o).length then([],4) else(gZ o,0)
theorem bX(d:Int×Int):(beD d).length=16:=by simp[beD,bY]
theorem eP{o:Ob}(h:dz o=0):1<=o.kind/\o.kind<=4:=by
 unfold dz at h;split at h
 ·omega
 ·split at h
  ·omega
  ·split at h
   ·omega
   ·omega
theorem l9:∀{l:List Ent} {p:Option (Qb)},kF p l=0->∀e∈l,jA e.name=true
 | [],_,_,e,A=>by simp at A
 | x::l,p,h,e,A=>by
  rw[kF] at h;split at h
  ·cases h
  ·rename_i B
   split at h
   ·cases h
   ·split at h
    ·cases h
    ·rcases List.mem_cons.1 A with rfl | A
     ·simpa using B
     ·exact l9 h e A
open Go.RowKit
set_option linter.unusedVariables false
theorem FZ(c:UInt8)(w:World):Qh 239 #[.int .u8 (c.toNat:Int)] w fun e w'=>e=.returned (.bool (dI c))/\w=w':=by
 have B:Qg (∀b:Bool,(b=true↔((97<=(c.toNat:Int)/\(c.toNat:Int)<=122)\/(65<=(c.toNat:Int)/\(c.toNat:Int)<=90)\/(48<=(c.toNat:Int)/\(c.toNat:Int)<=57)\/(c.toNat:Int)=46\/(c.toNat:Int)=95\/(c.toNat:Int)=45))->b=dI c):=Qf (fun b C=>by
  rw[Bool.eq_iff_iff,C];have e:∀k:UInt8,(c==k)=true↔(c.toNat:Int)=k.toNat:=fun k=>by
   rw[beq_iff_eq,<-UInt8.toNat_inj]; omega
  simp only[dI,Bool.or_eq_true,Bool.and_eq_true,decide_eq_true_eq,e];simp
  omega)
 generalize (c.toNat:Int)=x at B ⊢;generalize dI c=R at B ⊢;by_cases D:97<=x <;> by_cases E:x<=122 <;> by_cases F:65<=x <;> by_cases G:x<=90 <;> by_cases H:48<=x <;> by_cases I:x<=57
 all_goals first
  | (exfalso; omega)
  | skip
 all_goals
  go_enter Tryz.func239,Tryz.ntmps239;go_wp2_with fail
  all_goals
   go_ret;exact⟨cK (B.o _ (by first | (simp; omega) | (simp; done))),rfl⟩
theorem EU(h:k<L.length)(A:(L.take k).all dI=true):(L.take (k+1)).all dI=dI L[k]:=by
 rw[ai h,List.all_append,A]; simp
theorem JX(h:k<L.length)(A:dI L[k]=false):L.all dI=false:=by
 rw[List.all_eq_false];exact⟨L[k],ak h,by simp[A]⟩
theorem zh(L:Qb)(w:World)(hs:(L.length:Int)<=9223372036854775807):Qh 219 #[.string ⟨L.toArray⟩] w fun e w'=>e=.returned (.bool (jA L))/\w=w':=by
 obtain⟨R,H⟩:=Qe (jA L);rw[<-H];unfold jA at H;have C:=Qf H;clear H;by_cases I:(L.length:Int)<1
 ·have B:Qg (R=false):=Qf (by rw[C.o,decide_eq_false (by omega)]; rfl)
  go_enter Tryz.func219,Tryz.ntmps219;go_wp2_with fail;go_ret;exact⟨by rw[B.o]; rfl,rfl⟩
 ·by_cases J:(24:Int)<L.length
  ·have B:Qg (R=false):=Qf (by rw[C.o,decide_eq_false (show ¬L.length<=24 by omega)]; simp)
   go_enter Tryz.func219,Tryz.ntmps219;go_wp2_with fail;go_ret;exact⟨by rw[B.o]; rfl,rfl⟩
  ·have d1:decide ((L.length:Int)<1)=false:=by simp; omega
   have d2:decide ((24:Int)<(L.length:Int))=false:=by simp; omega
   have M:1<=(L.length:Int):=by omega
   have N:(L.length:Int)<=24:=by omega
   cases e1:(L==[46]) with
   | true=>
    have B:Qg (R=false):=Qf (by rw[C.o,e1]; simp);clear I J;go_enter Tryz.func219,Tryz.ntmps219;go_wp2_with fail;go_ret;exact⟨by rw[B.o]; rfl,rfl⟩
   | false=>
    cases e2:(L==[46,46]) with
    | true=>
     have B:Qg (R=false):=Qf (by rw[C.o,e2]; simp);clear I J;go_enter Tryz.func219,Tryz.ntmps219;go_wp2_with fail;go_ret;exact⟨by rw[B.o]; rfl,rfl⟩
    | false=>
     have B:Qg (R=L.all dI):=Qf (by rw[C.o,e1,e2,decide_eq_true (by omega),decide_eq_true (by omega)]; simp);clear I J C;go_enter Tryz.func219,Tryz.ntmps219;go_wp2_with fail;go_loop [22] (fun i=>∃k:Nat,k<=L.length/\i=.int .i64 k/\Qg ((L.take k).all dI=true)) (fun i=>L.length-(intOf i).toNat)
     case atStart=>exact⟨0,by omega,rfl,Qf (by simp)⟩
     case round=>
      obtain⟨k,O,rfl,K⟩:=hrel;by_cases F:k<L.length
      ·have G:=Qf (fun W=>FZ L[k] W)
       cases D:dI L[k] with
       | true=>
        rw[D] at G;have E:Qg ((L.take (k+1)).all dI=true):=Qf (by rw[EU F K.out,D]);clear D;go_wp2_with fail;refine(G.o _).mono ?_;rintro e w' ⟨rfl,rfl⟩;go_wp2_with fail;go_round
        case rel=>exact⟨k+1,by omega,by go_num,E⟩
        case measure=>simp[intOf]; omega
       | false=>
        rw[D] at G;have E:Qg (R=false):=Qf (by rw[B.o]; exact JX F D);clear D;go_wp2_with fail;refine(G.o _).mono ?_;rintro e w' ⟨rfl,rfl⟩;go_wp2_with fail;go_ret;exact⟨by rw[E.o]; rfl,rfl⟩
      ·have E:Qg (R=true):=Qf (by rw[B.o,<-K.out,ag (by omega)])
       go_wp2_with fail;go_ret;exact⟨by rw[E.o]; rfl,rfl⟩
def BI(B:Nat)(W:World)(a:Qa)(es:List Ent):Prop:=
 ∀i (h:i<es.length),∃b off,a=some ⟨b,off,none⟩/\b<B/\W.cell? ⟨b,off+i*4,none⟩=some (.string ⟨es[i].name.toArray⟩)/\W.cell? ⟨b,off+i*4+1,none⟩=some (.bool es[i].dir)/\W.cell? ⟨b,off+i*4+2,none⟩=some (.int .u64 es[i].d.1)/\W.cell? ⟨b,off+i*4+3,none⟩=some (.int .u64 es[i].d.2)
theorem BI.below{W':World}{es:List Ent}(h:BI B W a es)(A:Below B' W W')(J:B<=B'):BI B W' a es:=by
 intro i I;obtain⟨b,off,H,C,D,E,F,G⟩:=h i I;exact⟨b,off,H,C,(A.cell (p:=⟨b,off+i*4,none⟩) (by simp; omega)).trans D,(A.cell (p:=⟨b,off+i*4+1,none⟩) (by simp; omega)).trans E,(A.cell (p:=⟨b,off+i*4+2,none⟩) (by simp; omega)).trans F,(A.cell (p:=⟨b,off+i*4+3,none⟩) (by simp; omega)).trans G⟩
theorem BI.mono{es:List Ent}(h:BI B W a es)(F:B<=B'):BI B' W a es:=by
 intro i D;obtain⟨b,off,C,E,A⟩:=h i D;exact⟨b,off,C,by omega,A⟩
theorem BI.nil(B:Nat)(W:World)(a:Qa):BI B W a []:=fun i h=>by simp at h
def kP(es:List Ent):Nat->Option (Qb)
 | 0=>none
 | k+1=>(es[k]?).map (·.name)
def ER(es:List Ent)(k:Nat):Prop:=kF none es=kF (kP es k) (es.drop k)
theorem ER.start(es:List Ent):ER es 0:=rfl
theorem ER.step{es:List Ent}(h:ER es k)(A:k<es.length):kF none es=if jA es[k].name=false then 6 else if xR (kP es k) es[k].name=true then 10 else if es[k].d=(0,0) then 1 else kF (kP es (k+1)) (es.drop (k+1)):=by
 unfold ER at h;have e:kP es (k+1)=some es[k].name:=by rw[kP,List.getElem?_eq_getElem A]; rfl
 rw[h,aN A,kF,e]
theorem ER.fin{es:List Ent}(h:ER es k)(A:es.length<=k):kF none es=0:=by
 unfold ER at h;rw[h,dV A];cases kP es k <;> rfl
theorem rH(a:Qa)(es:List Ent)(c:Nat)(w:World)(V:BI w.heap.size w a es)(hn:(es.length:Int)<=9223372036854775807)(Z:∀e∈es,(e.name.length:Int)<=9223372036854775807):
  Qh 182 #[.slice a es.length c] w fun e w'=>e=.returned (.int .i64 (mK es))/\PM w w':=by
 obtain⟨R,O⟩:=Qe (mK es);rw[<-O];obtain⟨n,P⟩:=Qe es.length;unfold mK at O;rw[<-P] at O hn ⊢;have HN:=Qf P;have T:=Qf V;have A3:=Qf Z;clear P V Z;by_cases A9:(200:Int)<n
 ·have N:Qg (R=4):=Qf (by rw[O,if_pos (by omega)])
  clear O;go_enter Tryz.func182,Tryz.ntmps182;go_wp2_with fail;go_ret;exact⟨by rw[N.o]; rfl,bf _⟩
 ·have N:Qg (R=kF none es):=Qf (by rw[O,if_neg (by omega)])
  clear O;go_enter Tryz.func182,Tryz.ntmps182;go_wp2_with fail;go_loopw [10] (fun i wr=>∃k:Nat,k<=n/\i=.int .i64 k/\Qg (PM w wr)/\Qg (ER es k)) (fun i _=>n-(intOf i).toNat)
  case atStart=>exact⟨0,by omega,rfl,Qf (bf _),Qf (ER.start es)⟩
  case round=>
   obtain⟨k,hk,rfl,J,HE⟩:=hrel;have H:=J.out.size;by_cases A7:k<n
   ·have h1:k<es.length:=by rw[<-HN.o]; exact A7
    obtain⟨b0,o0,rfl,B0,c0,c1,c2,c3⟩:=(T.o.below J.out nr) k h1;have I:=Qf (HE.out.step h1);have hl:=A3.o _ (ak h1);generalize es[k]=en at c0 c1 c2 c3 I hl;obtain⟨E,dir,d1,d2⟩:=en;simp only at c0 c1 c2 c3 I hl;have K:=Qf (fun W=>zh E W hl);cases S:jA E with
    | false=>
     rw[S] at K;have G:Qg (R=6):=Qf (by rw[N.o,I.o,S,if_pos rfl]);clear S I HE;go_wp2_with fail;refine(K.o _).mono ?_;rintro e w' ⟨rfl,rfl⟩;go_wp2_with fail;go_ret;exact⟨by rw[G.o]; rfl,J.out.alloc H _⟩
    | true=>
     rw[S] at K;have C:Qg (R=if xR (kP es k) E=true then 10 else if((d1,d2):Int×Int)=(0,0) then 1 else kF (kP es (k+1)) (es.drop (k+1))):=Qf (by rw[N.o,I.o,S,if_neg (by simp)]);clear S I HE;have hq:=fun W=>jD d1 d2 0 0 W
     by_cases Y:k=0
     ·have g0:decide ((0:Int)<(k:Int))=false:=by simp; omega
      have g1:decide (0<k)=false:=by simp; omega
      have B:Qg (R=if((d1,d2):Int×Int)=(0,0) then 1 else kF (kP es (k+1)) (es.drop (k+1))):=Qf (by rw[C.o,Y]; rfl);clear C Y;cases D:(d1==0&&d2==0) with
      | true=>
       rw[D] at hq;have G:Qg (R=1):=Qf (by
        rw[B.o,if_pos];simp only[Bool.and_eq_true,beq_iff_eq] at D;rw[D.1,D.2])
       clear D B;go_wp2_with fail;refine(K.o _).mono ?_;rintro e w' ⟨rfl,rfl⟩;go_wp2_with fail;go_quiet (fail);go_wp2_with fail;go_ret;exact⟨by rw[G.o]; rfl,below_drewN (J.out.alloc H _) _⟩
      | false=>
       rw[D] at hq;have G:Qg (ER es (k+1)):=Qf (by
        unfold ER;rw[<-N.o,B.o,if_neg];intro h;simp only[Prod.mk.injEq] at h;simp[h.1,h.2] at D)
       clear D B;go_wp2_with fail;refine(K.o _).mono ?_;rintro e w' ⟨rfl,rfl⟩;go_wp2_with fail;go_quiet (fail);go_wp2_with fail;go_roundw
       case rel=>exact⟨k+1,by omega,by go_num,Qf (below_drewN (J.out.alloc H _) _),G⟩
       case measure=>simp[intOf]; omega
     ·have g0:decide ((0:Int)<(k:Int))=true:=by simp; omega
      have g1:decide (0<k)=true:=by simp; omega
      obtain⟨j,hj⟩:∃j,k=j+1:=⟨k-1,by omega⟩;have X:j<es.length:=by omega
      obtain⟨b1,o1,A5,L,q0,_,_,_⟩:=(T.o.below J.out nr) j X;cases A5;have M:(k:Int)-1=(j:Int):=by omega
      have B2:IntKind.i64.wrap ((k:Int)-1)=(j:Int):=by rw[M]; exact wrap_i64 (by omega) (by omega)
      have B1:(j:Int)<(n:Int):=by omega
      have F:Qg (kP es k=some es[j].name):=Qf (by rw[hj,kP,List.getElem?_eq_getElem X]; rfl);generalize es[j].name=Q at q0 F;have q0':=fun x=>bP q0 x
      cases L:Op.bytesLess E Q with
      | true=>
        have G:Qg (R=10):=Qf (by rw[C.o,F.o,if_pos]; simp[xR,leB,L]);clear C F hj M;go_wp2_with fail;refine(K.o _).mono ?_;rintro e w' ⟨rfl,rfl⟩;go_wp2_with fail;go_quiet (fail);go_wp2_with fail;go_ret;exact⟨by rw[G.o]; rfl,below_drewN (J.out.alloc H _) _⟩
      | false=>
       cases U:(E==Q) with
       | true=>
        have G:Qg (R=10):=Qf (by rw[C.o,F.o,if_pos]; simp[xR,leB,L,U]);clear C F hj M;go_wp2_with fail;refine(K.o _).mono ?_;rintro e w' ⟨rfl,rfl⟩;go_wp2_with fail;go_quiet (fail);go_wp2_with fail;go_ret;exact⟨by rw[G.o]; rfl,below_drewN (J.out.alloc H _) _⟩
       | false=>
        have B:Qg (R=if((d1,d2):Int×Int)=(0,0) then 1 else kF (kP es (k+1)) (es.drop (k+1))):=Qf (by rw[C.o,F.o,if_neg]; simp[xR,leB,L,U]);clear C F hj M;cases D:(d1==0&&d2==0) with
        | true=>
         rw[D] at hq;have G:Qg (R=1):=Qf (by
          rw[B.o,if_pos];simp only[Bool.and_eq_true,beq_iff_eq] at D;rw[D.1,D.2])
         clear D B;go_wp2_with fail;refine(K.o _).mono ?_;rintro e w' ⟨rfl,rfl⟩;go_wp2_with fail;go_quiet (fail);go_wp2_with fail;go_ret;exact⟨by rw[G.o]; rfl,below_drewN (J.out.alloc H _) _⟩
        | false=>
         rw[D] at hq;have G:Qg (ER es (k+1)):=Qf (by
          unfold ER;rw[<-N.o,B.o,if_neg];intro h;simp only[Prod.mk.injEq] at h;simp[h.1,h.2] at D)
         clear D B;go_wp2_with fail;refine(K.o _).mono ?_;rintro e w' ⟨rfl,rfl⟩;go_wp2_with fail;go_quiet (fail);go_wp2_with fail;go_roundw
         case rel=>exact⟨k+1,by omega,by go_num,Qf (below_drewN (J.out.alloc H _) _),G⟩
         case measure=>simp[intOf]; omega
   ·have G:Qg (R=0):=Qf (by rw[N.o]; exact HE.out.fin (by rw[<-HN.o]; omega))
    go_wp2_with fail;go_ret;exact⟨by rw[G.o]; rfl,J.out⟩
def Ld(ds:Qd)(d:Int×Int):Int:=if d∈ds then ds.idxOf d else -1
theorem Lc(h:k<ds.length)(A:ds[k]=d)(C:d∉ds.take k):Ld ds d=k:=by
 have B:d∈ds:=by rw[<-A]; exact ak h
 unfold Ld;rw[if_pos B];congr 1;have e:ds=ds.take k++(d::ds.drop (k+1)):=by rw[<-A,List.getElem_cons_drop,aQ]
 rw[e,List.idxOf_append,if_neg C,List.idxOf_cons_self,aA];omega
theorem I1(h:d∉ds):Ld ds d=-1:=if_neg h
theorem kw(h:k<ds.length)(C:d∉ds.take k)(B:ds[k]≠d):d∉ds.take (k+1):=by
 rw[ai h,aD,aH];rintro(A | A)
 ·exact C A
 ·exact B A.symm
theorem F8(a:Qa)(ds:Qd)(c:Nat)(x y:Int)(w:World)(F:dE w.heap.size w a ds)(Q:(ds.length:Int)<=9223372036854775807):
  Qh 240 #[.slice a ds.length c,.agg #[.int .u64 x,.int .u64 y]] w fun e w'=>e=.returned (.int .i64 (Ld ds (x,y)))/\PM w w':=by
 obtain⟨R,J⟩:=Qe (Ld ds (x,y));rw[<-J];obtain⟨n,C⟩:=Qe ds.length;rw[<-C] at Q ⊢;have M:=Qf J;have L:=Qf C;have O:=Qf F;clear C J F;go_enter Tryz.func240,Tryz.ntmps240;go_wp2_with fail;go_loopw [8] (fun i wr=>∃k q:Nat,k<=n/\i=.int .i64 k/\wr=(w.alloc (.cells #[.int .u64 x,.int .u64 y] 54)).drewN q/\Qg ((x,y)∉ds.take k)) (fun i _=>n-(intOf i).toNat)
 case atStart=>exact⟨0,0,by omega,rfl,rfl,Qf (by simp)⟩
 case round=>
  obtain⟨k,q,S,rfl,rfl,E⟩:=hrel;by_cases K:k<n
  ·have I:k<ds.length:=by rw[<-L.o]; exact K
   obtain⟨b1,o1,rfl,P,c1,c2⟩:=O.o k I;have c1':=fun z=>bP c1 z
   have c2':=fun z=>bP c2 z
   have G:=Qf (fun(h:ds[k]=(x,y))=>Lc I h E.out);have H:=Qf (fun(h:ds[k]≠(x,y))=>kw I E.out h);generalize ds[k]=dk at c1 c2 c1' c2' G H;obtain⟨u,v⟩:=dk;simp only at c1 c2 c1' c2';have N:=fun W=>jD x y u v W
   cases B:(x==u&&y==v) with
   | true=>
    rw[B] at N;have D:Qg (R=k):=Qf (by
     simp only[Bool.and_eq_true,beq_iff_eq] at B;rw[M.o];exact G.o (by rw[B.1,B.2]))
    clear B G H E;go_wp2_with fail;go_quiet (fail);go_wp2_with fail;go_ret;exact⟨by rw[D.o]; rfl,below_drewN (below_drewN (ba w _) _) _⟩
   | false=>
    rw[B] at N;have D:Qg ((x,y)∉ds.take (k+1)):=Qf (H.o (by
     intro h;simp only[Prod.mk.injEq] at h;simp[h.1,h.2] at B))
    clear B G H E;go_wp2_with fail;go_quiet (fail);go_wp2_with fail;go_roundw
    case rel=>exact⟨k+1,_,by omega,by go_num,by first | rfl | (simp only[World.drewN_drewN]; rfl),D⟩
    case measure=>simp[intOf]; omega
  ·have D:Qg (R=-1):=Qf (by
    rw[M.o];apply I1;have:=E.out
    rwa[ag (by rw[<-L.o]; omega)] at this)
   go_wp2_with fail;go_ret;exact⟨by rw[D.o]; rfl,below_drewN (ba w _) _⟩
theorem yL(a:Qa)(ds:Qd)(c:Nat)(x y:Int)(w:World)(B:dE w.heap.size w a ds)(H:(ds.length:Int)<=9223372036854775807):
  Qh 220 #[.slice a ds.length c,.agg #[.int .u64 x,.int .u64 y]] w fun e w'=>e=.returned (.bool (decide ((x,y)∈ds)))/\PM w w':=by
 obtain⟨R,D⟩:=Qe (decide ((x,y)∈ds));rw[<-D];have C:Qg (∀W,PM w W->Qh 240 #[.slice a ds.length c,.agg #[.int .u64 x,.int .u64 y]] W fun e w'=>e=.returned (.int .i64 (Ld ds (x,y)))/\PM W w'):=Qf (fun W F=>F8 a ds c x y W ((B.below F nr).mono F.size) H);have E:decide (0<=Ld ds (x,y))=R:=by
  rw[D];unfold Ld;by_cases h:(x,y)∈ds
  ·rw[if_pos h]; simp[h]
  ·rw[if_neg h]; simp[h]
 generalize Ld ds (x,y)=r at C E;generalize ds.length=n at C H ⊢;clear D B;have J:=Qf E;clear E;go_enter Tryz.func220,Tryz.ntmps220;go_wp2_with fail;refine(C.o _ (ba w _)).mono ?_;rintro e w' ⟨rfl,G⟩;have I:=Qf G;clear G;go_wp2_with fail;go_ret;exact⟨by rw[<-J.o]; rfl,(ba w _).trans (I.o.mono (by simp))⟩
theorem DJ(W:World):(sizeOf (Tryz.prog.elem 24)).run Tryz.prog W=.ok 2 W:=by
 obtain⟨i,B,_,C,_⟩:=info_parts ul;rw[show Tryz.prog.elem 24=54 by kernel_rfl];simp[sizeOf,typeInfo,B,C]
theorem Pi(h:dE B W a ds)(f:Nat):dE B W a (ds.take f):=by
 intro i F;have A:i<ds.length:=by simp at F; omega
 obtain⟨b,off,E,C,D⟩:=h i A;refine⟨b,off,E,C,?_⟩;rw[List.getElem_take];exact D
theorem dadd0(h:dE B W a ds):dE B W (a.map (·.add (0*2))) ds:=by
 intro i D;obtain⟨b,off,rfl,A,C⟩:=h i D;exact⟨b,off,by simp[Go.WideShapes.add_plain],A,C⟩
theorem Js(a:Qa)(n c f:Nat)(h:f<=c):∃(A1:Qa) (c1:Nat),(∀B W ds,dE B W a ds->dE B W A1 (ds.take f))/\∀W,(Instr.slice 24 (.slice a n c) none (some (.int .i64 f)) none).run Tryz.prog W=.ok (.slice A1 f c1) W:=by
 refine⟨if c=0 then a else a.map (·.add (0*2)),c,fun B W ps C=>?_,fun W=>?_⟩
 ·split
  ·exact Pi C f
  ·exact dadd0 (Pi C f)
 ·rw[run_slice_h (P:=Tryz.prog) W 24 a n c (by kernel_rfl) .i64 f (by omega) (by omega),DJ]
  simp[sliced,Result.andThen]
abbrev Ob.val(o:Ob)(ea:Qa)(ec:Nat)(pa:Qa)(pc:Nat):Value:=
 .agg #[.int .i64 o.kind,.string ⟨o.data.toArray⟩,.slice ea o.ents.length ec,.int .u64 o.tree.1,.int .u64 o.tree.2,.slice pa o.pars.length pc,.string ⟨o.author.toArray⟩,.int .i64 o.time,.string ⟨o.msg.toArray⟩]
def PR(ds:Qd)(k:Nat):Prop:=kQ [] ds=kQ (ds.take k) (ds.drop k)
theorem PR.start(ds:Qd):PR ds 0:=by unfold PR; simp
theorem PR.step(h:PR ds k)(A:k<ds.length):kQ [] ds=if ds[k]=(0,0) then 1 else if ds[k]∈ds.take k then 7 else kQ (ds.take (k+1)) (ds.drop (k+1)):=by
 unfold PR at h;rw[h,aN A,kQ,ai A]
theorem PR.fin(h:PR ds k)(A:ds.length<=k):kQ [] ds=0:=by
 unfold PR at h;rw[h,dV A];rfl
theorem vw(o:Ob)(ea:Qa)(ec:Nat)(pa:Qa)(pc:Nat)(w:World)(hd:dE w.heap.size w pa o.pars)(A7:o.pars.length<=pc)(hn:(o.pars.length:Int)<=9223372036854775807)(A6:(o.author.length:Int)<=9223372036854775807)(B2:(o.msg.length:Int)<=9223372036854775807):
  Qh 183 #[o.val ea ec pa pc] w fun e w'=>e=.returned (.int .i64 (dS o))/\PM w w':=by
 obtain⟨R,K⟩:=Qe (dS o);rw[<-K];unfold dS at K;obtain⟨kind,data,ents,⟨t1,t2⟩,pars,author,time,msg⟩:=o;simp only at hd A7 hn A6 B2 K;change Qh 183 #[.agg #[.int .i64 kind,.string ⟨data.toArray⟩,.slice ea ents.length ec,.int .u64 t1,.int .u64 t2,.slice pa pars.length pc,.string ⟨author.toArray⟩,.int .i64 time,.string ⟨msg.toArray⟩]] w _;generalize ents.length=ne;obtain⟨n,Z⟩:=Qe pars.length;rw[<-Z] at A7 hn K ⊢;have HN:=Qf Z;have HD:=Qf hd;clear Z hd;have hq:=fun W=>jD t1 t2 0 0 W
 cases E:(t1==0&&t2==0) with
 | true=>
  rw[E] at hq;have S:Qg (R=1):=Qf (by
   simp only[Bool.and_eq_true,beq_iff_eq] at E;rw[K,E.1,E.2,if_pos rfl])
  clear E K;go_enter Tryz.func183,Tryz.ntmps183;go_wp2_with fail;go_ret;exact⟨by rw[S.o]; rfl,ba w _⟩
 | false=>
  rw[E] at hq;rw[if_neg (by
   intro h;simp only[Prod.mk.injEq] at h;simp[h.1,h.2] at E)] at K
  clear E;by_cases h8:(8:Int)<n
  ·have S:Qg (R=4):=Qf (by rw[K,if_pos (by omega)])
   clear K;go_enter Tryz.func183,Tryz.ntmps183;go_wp2_with fail;go_ret;exact⟨by rw[S.o]; rfl,ba w _⟩
  ·rw[if_neg (by omega)] at K
   have S:=Qf K;clear K;have I:=Qf (fun W=>zh author W A6);go_enter Tryz.func183,Tryz.ntmps183;go_wp2_with fail;go_loopw [16] (fun i wr=>∃k:Nat,k<=n/\i=.int .i64 k/\Qg (PM w wr)/\Qg (PR pars k)/\w.heap.size<wr.heap.size/\Qg (wr.heap[w.heap.size]? = some (.cells #[.int .i64 kind,.string ⟨data.toArray⟩,.slice ea ne ec,.int .u64 t1,.int .u64 t2,.slice pa n pc,.string ⟨author.toArray⟩,.int .i64 time,.string ⟨msg.toArray⟩] 59 (0,0)))) (fun i _=>n-(intOf i).toNat)
   case atStart=>exact⟨0,by omega,rfl,Qf (ba w _),Qf (PR.start pars),by simp,Qf (World.alloc_heap_new w _)⟩
   case round=>
    obtain⟨k,hk,rfl,G,HP,J,HX⟩:=hrel;by_cases B1:k<n
    ·have h1:k<pars.length:=by rw[<-HN.o]; exact B1
     obtain⟨b0,o0,B3,C3,c0,c1⟩:=(HD.o.below G.out nr) k h1;subst B3;have M:=Qf (HP.out.step h1);obtain⟨A1,cc1,X,C4⟩:=Js (some ⟨b0,o0,none⟩) n pc k (by omega);have A3:Qg (∀x y W,PM wr W->Qh 220 #[.slice A1 k cc1,.agg #[.int .u64 x,.int .u64 y]] W fun e w'=>e=.returned (.bool (decide ((x,y)∈pars.take k)))/\PM W w'):=Qf (fun x y W hW=>by
      have h2:=X _ _ _ (HD.o.below G.out nr);have h3:=yL A1 (pars.take k) cc1 x y W (((h2.mono G.out.size).below hW nr).mono hW.size) (by rw[aA]; omega)
      rwa[aA,mM (by omega)] at h3)
     generalize pars[k]=dk at c0 c1 M;obtain⟨x,y⟩:=dk;simp only at c0 c1;have A8:=fun W=>jD x y 0 0 W
     have e5:wr.cell? ⟨w.heap.size,5,none⟩=some (.slice (some ⟨b0,o0,none⟩) n pc):=by rw[Lib.cell_of_heap HX.out]; rfl
     cases E:(x==0&&y==0) with
     | true=>
      rw[E] at A8;have C:Qg (R=1):=Qf (by
       simp only[Bool.and_eq_true,beq_iff_eq] at E;have:kQ [] pars=1:=by rw[M.o,E.1,E.2,if_pos rfl]
       rw[S.o,this,if_pos (by decide)])
      clear E M X;go_wp2_with fail;go_ret;exact⟨by rw[C.o]; rfl,G.out.alloc (by omega) _⟩
     | false=>
      rw[E] at A8;have H:Qg (kQ [] pars=if(x,y)∈pars.take k then 7 else kQ (pars.take (k+1)) (pars.drop (k+1))):=Qf (by
       rw[M.o,if_neg (by
        intro h;simp only[Prod.mk.injEq] at h;simp[h.1,h.2] at E)])
      clear E M X;have N:=Qf (A3.o x y);clear A3;cases Y:decide ((x,y)∈pars.take k) with
      | true=>
       have C:Qg (R=7):=Qf (by
        have:kQ [] pars=7:=by rw[H.o,if_pos (by simpa using Y)]
        rw[S.o,this,if_pos (by decide)])
       have L:Qg (∀W,PM wr W->Qh 220 #[.slice A1 k cc1,.agg #[.int .u64 x,.int .u64 y]] W fun e w'=>e=.returned (.bool true)/\PM W w'):=Qf (by
        have:=N.o
        rwa[Y] at this)
       clear Y N H;go_wp2_with fail;have B:Qg (PM wr (wr.alloc (.cells #[.int .u64 x,.int .u64 y] 54))):=Qf (ba wr _);have g0:(wr.alloc (.cells #[.int .u64 x,.int .u64 y] 54)).cell? ⟨wr.heap.size,0,none⟩=some (.int .u64 x):=by simp
       have g1:(wr.alloc (.cells #[.int .u64 x,.int .u64 y] 54)).cell? ⟨wr.heap.size,1,none⟩=some (.int .u64 y):=by simp
       have g5:=bP e5 (.cells #[.int .u64 x,.int .u64 y] 54);have F:Qg ((wr.alloc (.cells #[.int .u64 x,.int .u64 y] 54)).heap[w.heap.size]? = some (.cells #[.int .i64 kind,.string ⟨data.toArray⟩,.slice ea ne ec,.int .u64 t1,.int .u64 t2,.slice (some ⟨b0,o0,none⟩) n pc,.string ⟨author.toArray⟩,.int .i64 time,.string ⟨msg.toArray⟩] 59 (0,0))):=Qf ((Below.heap_alloc _ _ _ J).trans HX.out);generalize wr.alloc (.cells #[.int .u64 x,.int .u64 y] 54)=x9 at B g0 g1 g5 F ⊢;have f0:=cell_regrown g0;have f1:=cell_regrown g1;have f5:=cell_regrown g5;have U:=Qf (fun d os=>Calls.regrown_of (w:=x9) (d:=d) (os:=os) (L.o _ (B.o.trans ((below_regrown x9 d os).mono B.o.size))));refine wp_region_quiet_below (by kernel_rfl) (by kernel_rfl) ?_
       repeat (any_goals (first | go_big_quiet_step (with_reducible exact U.o _ _) | quiet_step (with_reducible exact U.o _ _)))
       refine wpQuiet_nil ?_;intro w2 D;have V:Qg (PM w w2):=Qf ((G.out.trans (B.o.mono G.out.size)).trans ((aX D).mono (aC G.out.size B.o.size)));have A5:=Qf (((aX D).block w.heap.size (aO J B.o.size)).trans F.o);have T:w.heap.size<w2.heap.size:=aO J (aC B.o.size (aX D).size);clear D U f0 f1 f5 g0 g1 g5 L F;go_wp2_with fail;go_ret;exact⟨by rw[C.o]; rfl,V.o⟩
      | false=>
       have C:Qg (PR pars (k+1)):=Qf (by
        unfold PR;rw[H.o,if_neg (by simpa using Y)])
       have L:Qg (∀W,PM wr W->Qh 220 #[.slice A1 k cc1,.agg #[.int .u64 x,.int .u64 y]] W fun e w'=>e=.returned (.bool false)/\PM W w'):=Qf (by
        have:=N.o
        rwa[Y] at this)
       clear Y N H;go_wp2_with fail;have B:Qg (PM wr (wr.alloc (.cells #[.int .u64 x,.int .u64 y] 54))):=Qf (ba wr _);have g0:(wr.alloc (.cells #[.int .u64 x,.int .u64 y] 54)).cell? ⟨wr.heap.size,0,none⟩=some (.int .u64 x):=by simp
       have g1:(wr.alloc (.cells #[.int .u64 x,.int .u64 y] 54)).cell? ⟨wr.heap.size,1,none⟩=some (.int .u64 y):=by simp
       have g5:=bP e5 (.cells #[.int .u64 x,.int .u64 y] 54);have F:Qg ((wr.alloc (.cells #[.int .u64 x,.int .u64 y] 54)).heap[w.heap.size]? = some (.cells #[.int .i64 kind,.string ⟨data.toArray⟩,.slice ea ne ec,.int .u64 t1,.int .u64 t2,.slice (some ⟨b0,o0,none⟩) n pc,.string ⟨author.toArray⟩,.int .i64 time,.string ⟨msg.toArray⟩] 59 (0,0))):=Qf ((Below.heap_alloc _ _ _ J).trans HX.out);generalize wr.alloc (.cells #[.int .u64 x,.int .u64 y] 54)=x9 at B g0 g1 g5 F ⊢;have f0:=cell_regrown g0;have f1:=cell_regrown g1;have f5:=cell_regrown g5;have U:=Qf (fun d os=>Calls.regrown_of (w:=x9) (d:=d) (os:=os) (L.o _ (B.o.trans ((below_regrown x9 d os).mono B.o.size))));refine wp_region_quiet_below (by kernel_rfl) (by kernel_rfl) ?_
       repeat (any_goals (first | go_big_quiet_step (with_reducible exact U.o _ _) | quiet_step (with_reducible exact U.o _ _)))
       refine wpQuiet_nil ?_;intro w2 D;have V:Qg (PM w w2):=Qf ((G.out.trans (B.o.mono G.out.size)).trans ((aX D).mono (aC G.out.size B.o.size)));have A5:=Qf (((aX D).block w.heap.size (aO J B.o.size)).trans F.o);have T:w.heap.size<w2.heap.size:=aO J (aC B.o.size (aX D).size);clear D U f0 f1 f5 g0 g1 g5 L F;go_wp2_with fail;go_roundw
       case rel=>exact⟨k+1,by omega,by go_num,V,C,T,A5⟩
       case measure=>simp[intOf]; omega
    ·have A4:=Qf (HP.out.fin (by rw[<-HN.o]; omega))
     have O:Qg (R=if jA author=false then 6 else if time<0\/1099511627776<time then 2 else if 200<msg.length then 4 else 0):=Qf (by rw[S.o,A4.o,if_neg (by simp)]);have e6:wr.cell? ⟨w.heap.size,6,none⟩=some (.string ⟨author.toArray⟩):=by rw[Lib.cell_of_heap HX.out]; rfl
     have e7:wr.cell? ⟨w.heap.size,7,none⟩=some (.int .i64 time):=by rw[Lib.cell_of_heap HX.out]; rfl
     have e8:wr.cell? ⟨w.heap.size,8,none⟩=some (.string ⟨msg.toArray⟩):=by rw[Lib.cell_of_heap HX.out]; rfl
     clear S A4 HP;cases hv:jA author with
     | false=>
      rw[hv] at I;have C:Qg (R=6):=Qf (by rw[O.o,hv,if_pos rfl]);clear hv O;go_wp2_with fail;refine(I.o _).mono ?_;rintro e w' ⟨rfl,rfl⟩;go_wp2_with fail;go_ret;exact⟨by rw[C.o]; rfl,G.out⟩
     | true=>
      rw[hv] at I;have P:Qg (R=if time<0\/1099511627776<time then 2 else if 200<msg.length then 4 else 0):=Qf (by rw[O.o,hv,if_neg (by simp)]);clear hv O;by_cases ht:time<0\/1099511627776<time
      ·have C:Qg (R=2):=Qf (by rw[P.o,if_pos ht])
       clear P;go_wp2_with fail;refine(I.o _).mono ?_;rintro e w' ⟨rfl,rfl⟩;go_wp2_with fail
       all_goals first
        | (exfalso; omega)
        | (go_ret; exact⟨by rw[C.o]; rfl,G.out⟩)
      ·have Q:Qg (R=if 200<msg.length then 4 else 0):=Qf (by rw[P.o,if_neg ht])
       have t1':decide (time<0)=false:=by simp; omega
       have t2':decide (1099511627776<time)=false:=by simp; omega
       clear P ht;by_cases Y:(200:Int)<msg.length
       ·have C:Qg (R=4):=Qf (by rw[Q.o,if_pos (by omega)])
        clear Q;go_wp2_with fail;refine(I.o _).mono ?_;rintro e w' ⟨rfl,rfl⟩;go_wp2_with fail;go_ret;exact⟨by rw[C.o]; rfl,G.out⟩
       ·have C:Qg (R=0):=Qf (by rw[Q.o,if_neg (by omega)])
        clear Q;go_wp2_with fail;refine(I.o _).mono ?_;rintro e w' ⟨rfl,rfl⟩;go_wp2_with fail;go_ret;exact⟨by rw[C.o]; rfl,G.out⟩
theorem KT(x y:Int)(W:World):(binOp .neq 54 (.agg #[.int .u64 x,.int .u64 y]) (.agg #[.int .u64 0,.int .u64 0])).run Tryz.prog W=.ok (.bool (!(x==0&&y==0))) W:=nI x y 0 0 W
theorem I8(o:Ob):Kj o=(!(o.tree.1==0&&o.tree.2==0)||decide (0<o.pars.length)||!(o.author==[])||!(o.time==0)||!(o.msg==[])):=by
 obtain⟨kind,data,ents,⟨t1,t2⟩,pars,author,time,msg⟩:=o;unfold Kj;have e1:decide (((t1,t2):Int×Int)=(0,0))=(t1==0&&t2==0):=by
  rw[Bool.eq_iff_iff]; simp
 have e2:∀l:Qb,decide (0<l.length)=!(l==[]):=fun l=>by cases l <;> simp
 have e3:decide (time=0)=(time==0):=by rw[Bool.eq_iff_iff]; simp
 simp only[e1,e2,e3]
theorem JL(o:Ob)(ea:Qa)(ec:Nat)(pa:Qa)(pc:Nat)(w:World)(he:BI w.heap.size w ea o.ents)(hd:dE w.heap.size w pa o.pars)(T:o.pars.length<=pc)(N:(o.ents.length:Int)<=9223372036854775807)(L:∀e∈o.ents,(e.name.length:Int)<=9223372036854775807)(hn:(o.pars.length:Int)<=9223372036854775807)(A3:(o.data.length:Int)<=9223372036854775807)(Y:(o.author.length:Int)<=9223372036854775807)(A0:(o.msg.length:Int)<=9223372036854775807):
  Qh 136 #[o.val ea ec pa pc] w fun e w'=>e=.returned (.int .i64 (dz o))/\PM w w':=by
 have HE:Qg (∀W,PM w W->Qh 182 #[.slice ea o.ents.length ec] W fun e w'=>e=.returned (.int .i64 (mK o.ents))/\PM W w'):=Qf (fun W X=>rH ea o.ents ec W ((he.below X nr).mono X.size) N L);have U:Qg (∀W,PM w W->Qh 183 #[o.val ea ec pa pc] W fun e w'=>e=.returned (.int .i64 (dS o))/\PM W w'):=Qf (fun W X=>vw o ea ec pa pc W ((hd.below X nr).mono X.size) T hn Y A0);obtain⟨R,hR⟩:=Qe (dz o);rw[<-hR];obtain⟨bc,I⟩:=Qe (Kj o);have H:R=if o.kind=1\/o.kind=4 then(if 0<o.ents.length\/bc=true then 1 else 0) else if o.kind=2 then(if 0<o.data.length\/bc=true then 1 else mK o.ents) else if o.kind=3 then(if 0<o.data.length\/0<o.ents.length then 1 else dS o) else 9:=by rw[hR,I]; rfl
 rw[I8] at I;have e2:(0<o.data.length)=((!(o.data==[]))=true):=by cases o.data <;> simp
 simp only[e2] at H;generalize mK o.ents=re at HE H;generalize dS o=rc at U H;obtain⟨kind,data,ents,⟨t1,t2⟩,pars,author,time,msg⟩:=o;simp only at T N hn A3 Y A0 HE H I;change Qg (∀W,PM w W->Qh 183 #[.agg #[.int .i64 kind,.string ⟨data.toArray⟩,.slice ea ents.length ec,.int .u64 t1,.int .u64 t2,.slice pa pars.length pc,.string ⟨author.toArray⟩,.int .i64 time,.string ⟨msg.toArray⟩]] W fun e w'=>e=.returned (.int .i64 rc)/\PM W w') at U;change Qh 136 #[.agg #[.int .i64 kind,.string ⟨data.toArray⟩,.slice ea ents.length ec,.int .u64 t1,.int .u64 t2,.slice pa pars.length pc,.string ⟨author.toArray⟩,.int .i64 time,.string ⟨msg.toArray⟩]] w _;generalize ents.length=ne at HE U H N ⊢;generalize pars.length=n at U hn T I ⊢;have F:=Qf H;have E:=Qf I;clear H I hR he hd L e2;have hq:=fun W=>KT t1 t2 W
 go_enter Tryz.func136,Tryz.ntmps136;go_upto_region 3 with fail
 go_cut [5] from 13 to 37 (fun x wx=>x=.bool bc/\wx=w.alloc (.cells #[.int .i64 kind,.string ⟨data.toArray⟩,.slice ea ne ec,.int .u64 t1,.int .u64 t2,.slice pa n pc,.string ⟨author.toArray⟩,.int .i64 time,.string ⟨msg.toArray⟩] 59))
 case first=>
  cases h1:(t1==0&&t2==0) with
  | false=>
   rw[h1] at hq E;have K:Qg (bc=true):=Qf (by rw[E.o]; simp);go_wp2_with fail;go_meet
   case rel=>exact⟨by rw[K.o],rfl⟩
  | true=>
   rw[h1] at hq E;cases h2:decide (0<n) with
   | true=>
    rw[h2] at E;have K:Qg (bc=true):=Qf (by rw[E.o]; simp);go_wp2_with fail;go_meet
    case rel=>exact⟨by rw[K.o],rfl⟩
   | false=>
    rw[h2] at E;cases h3:(author==[]) with
    | false=>
     rw[h3] at E;have K:Qg (bc=true):=Qf (by rw[E.o]; simp);go_wp2_with fail;go_meet
     case rel=>exact⟨by rw[K.o],rfl⟩
    | true=>
     rw[h3] at E;cases V:(time==0) with
     | false=>
      rw[V] at E;have K:Qg (bc=true):=Qf (by rw[E.o]; simp);have B6:(time !=0)=true:=by simpa using V
      go_wp2_with fail;go_meet
      case rel=>exact⟨by rw[K.o],rfl⟩
     | true=>
      rw[V] at E;have A6:time=0:=by simpa using V
      subst A6;clear V;have K:Qg (bc=!msg.isEmpty):=Qf (by rw[E.o]; cases msg <;> simp);go_wp2_with fail;go_meet
      case rel=>exact⟨by rw[K.o],rfl⟩
 case rest=>
  obtain⟨rfl,rfl⟩:=hcut;have C:Qg (PM w (w.alloc (.cells #[.int .i64 kind,.string ⟨data.toArray⟩,.slice ea ne ec,.int .u64 t1,.int .u64 t2,.slice pa n pc,.string ⟨author.toArray⟩,.int .i64 time,.string ⟨msg.toArray⟩] 59))):=Qf (ba w _);clear E hq;by_cases O:kind=1
  ·subst O
   cases G:decide (0<ne) with
   | true=>
    have D:0<ne:=by simpa using G
    have B:Qg (R=1):=Qf (by rw[F.o]; simp[D]);clear F;go_wp2_with fail;go_ret;exact⟨by rw[B.o]; rfl,C.o⟩
   | false=>
    have D:ne=0:=by simpa using G
    subst D;clear G;cases bc with
    | true=>
     have B:Qg (R=1):=Qf (by rw[F.o]; simp[]);clear F;go_wp2_with fail;go_ret;exact⟨by rw[B.o]; rfl,C.o⟩
    | false=>
     have B:Qg (R=0):=Qf (by rw[F.o]; simp[]);clear F;go_wp2_with fail;go_ret;exact⟨by rw[B.o]; rfl,C.o⟩
  ·have B2:(kind==1)=false:=by simpa using O
   by_cases S:kind=4
   ·subst S
    cases G:decide (0<ne) with
    | true=>
     have D:0<ne:=by simpa using G
     have B:Qg (R=1):=Qf (by rw[F.o]; simp[D]);clear F;go_wp2_with fail;go_ret;exact⟨by rw[B.o]; rfl,C.o⟩
    | false=>
     have D:ne=0:=by simpa using G
     subst D;clear G;cases bc with
     | true=>
      have B:Qg (R=1):=Qf (by rw[F.o]; simp[]);clear F;go_wp2_with fail;go_ret;exact⟨by rw[B.o]; rfl,C.o⟩
     | false=>
      have B:Qg (R=0):=Qf (by rw[F.o]; simp[]);clear F;go_wp2_with fail;go_ret;exact⟨by rw[B.o]; rfl,C.o⟩
   ·have B5:(kind==4)=false:=by simpa using S
    by_cases P:kind=2
    ·subst P
     cases J:data.isEmpty with
     | false=>
      have B:Qg (R=1):=Qf (by rw[F.o]; simp[J]);clear F;go_wp2_with fail;go_ret;exact⟨by rw[B.o]; rfl,C.o⟩
     | true=>
      cases bc with
      | true=>
       have B:Qg (R=1):=Qf (by rw[F.o]; simp[]);clear F;go_wp2_with fail;go_ret;exact⟨by rw[B.o]; rfl,C.o⟩
      | false=>
       have B:Qg (R=re):=Qf (by rw[F.o]; simp[J]);clear F;go_wp2_with fail;refine(HE.o _ C.o).mono ?_;rintro e w' ⟨rfl,Z⟩;have M:=Qf Z;clear Z;go_wp2_with fail;go_ret;exact⟨by rw[B.o]; rfl,C.o.trans (M.o.mono C.o.size)⟩
    ·have B3:(kind==2)=false:=by simpa using P
     by_cases Q:kind=3
     ·subst Q
      cases J:data.isEmpty with
      | false=>
       have B:Qg (R=1):=Qf (by rw[F.o]; simp[J]);clear F;go_wp2_with fail;go_ret;exact⟨by rw[B.o]; rfl,C.o⟩
      | true=>
       cases G:decide (0<ne) with
       | true=>
        have D:0<ne:=by simpa using G
        have B:Qg (R=1):=Qf (by rw[F.o]; simp[D]);clear F;go_wp2_with fail;go_ret;exact⟨by rw[B.o]; rfl,C.o⟩
       | false=>
        have D:ne=0:=by simpa using G
        subst D;clear G;have B:Qg (R=rc):=Qf (by rw[F.o]; simp[J]);clear F;go_wp2_with fail;refine(U.o _ C.o).mono ?_;rintro e w' ⟨rfl,Z⟩;have M:=Qf Z;clear Z;go_wp2_with fail;go_ret;exact⟨by rw[B.o]; rfl,C.o.trans (M.o.mono C.o.size)⟩
     ·have B4:(kind==3)=false:=by simpa using Q
      have B:Qg (R=9):=Qf (by rw[F.o]; simp[O,S,P,Q]);clear F;go_wp2_with fail;go_ret;exact⟨by rw[B.o]; rfl,C.o⟩
open Go.RowKit Go.Shelf
structure WR (w w0:World) (b:Nat) (l:Qb) (bad:Bool) (wr:World):Prop where
 cell:∃v,wr.heap[b]? = some (.cells #[v,.bool bad] 187 (0,0))/\wr.ownsRow w.heap.size 5 1 v l.length (Lib.byteCells l)/\v.ownBlock≠some b
 bel:PM w wr
 kept:Kept b w0 wr
 le:w.heap.size<=b
theorem DK{n:Nat}{xs:List Value}(h:w.ownsRow B 5 1 v n xs):∀g,v.ownBlock=some g->∃c fz,w.heap[g]? = some (.cells c 5 fz):=Lib.ownsRowF_kind (World.ownsRowF_of h)
theorem wV{X:World}(h:Kept b w W)(C:PM W X):Kept b w X:=fun k o D A E=>by
 have B:=h k o D A E;exact(C.block k (Array.getElem?_eq_some_iff.1 B).1).trans B
theorem WR.below{x:World}(h:WR w w0 b l bad wr)(A:PM wr x):WR w w0 b l bad x:=by
 obtain⟨⟨v,B,C,E⟩,D,F,G⟩:=h;refine⟨⟨v,(A.block b (Array.getElem?_eq_some_iff.1 B).1).trans B,C.kept (row:=none) ⟨A.os,A.tape,A.output,A.size,fun k H _=>A.block k H⟩ ?_,E⟩,D.trans (A.mono D.size),wV F A,G⟩;cases C:v.ownBlock with
 | none=>exact .inl rfl
 | some k=>exact .inr (by simp)
theorem WR.block(h:WR w w0 b l bad wr){cs:Array Value}{t:TypeId}{fz:Nat×Nat}(B:w0.heap[k]? = some (.cells cs t fz))(A:k≠b)(C:t≠5):wr.heap[k]? = some (.cells cs t fz):=
 h.kept k _ B (fun e=>A (Option.some.inj e)) (fun c f e=>by cases e; exact C rfl)
theorem WR.put{w w0 wr x:World}{b:Nat}{l l':Qb}{bad:Bool}{v v':Value}(h:WR w w0 b l bad wr)(H:wr.heap[b]? = some (.cells #[v,.bool bad] 187 (0,0)))(G:wr.ownsRow w.heap.size 5 1 v l.length (Lib.byteCells l))(E:v.ownBlock≠some b)
  (D:wr.grownBy x v.ownBlock) (C:x.ownsRow w.heap.size 5 1 v' l'.length (Lib.byteCells l')):WR w w0 b l' bad (x.setCell ⟨b,0,none⟩ v'):=by
 have I:b<wr.heap.size:=(Array.getElem?_eq_some_iff.1 H).1;have B:x.heap[b]? = some (.cells #[v,.bool bad] 187 (0,0)):=(D.block b I (fun e=>E e.symm)).trans H;have A:v'.ownBlock≠some b:=fun e=>by
  obtain⟨c,fz,F⟩:=DK C b e;rw[B] at F;cases F
 refine⟨⟨v',?_,C.kept (dN _ _ _ _) (.inr A),A⟩,(h.bel.grown D h.bel.size (fun k J=>(G.lt k J).1)).setCell h.le _,(h.kept.grown D (DK G)).setCell ⟨b,0,none⟩ rfl _,h.le⟩;simp[World.setCell,Array.getElem?_modify,B]
theorem WR.mark(h:WR w w0 b l bad wr)(bad':Bool):WR w w0 b l bad' (wr.setCell ⟨b,1,none⟩ (.bool bad')):=by
 obtain⟨⟨v,C,D,A⟩,E,F,B⟩:=h;refine⟨⟨v,?_,D.kept (dN _ _ _ _) (.inr A),A⟩,E.setCell B _,F.setCell ⟨b,1,none⟩ rfl _,B⟩;simp[World.setCell,Array.getElem?_modify,C]
theorem oL(n:Int)(B:0<=n)(C:n<=1099511627776)(w:World):Qh 127 #[.int .i64 n] w fun e w'=>e=.returned (.tuple #[.string ⟨(Cw.enc n.toNat).toArray⟩,.int .i64 0])/\PM w w':=by
 have h:=FI n w;have:GM n=(Cw.enc n.toNat,0):=by unfold GM; rw[if_pos ((Cw.inR_iff n).2 ⟨B,C⟩)]
 rw[this] at h;exact h
theorem gU(h:WR w w0 b l bad wr)(n:Int)(h0:0<=n)(h1:n<=1099511627776)(hl:(l.length:Int)<=70000000000000):
  Qh 137 #[.pointer (some ⟨b,0,none⟩),.int .i64 n] wr fun e w'=>e=.returned (.tuple #[])/\Qg (WR w w0 b (l++Cw.enc n.toNat) bad w')/\Qg (Kept b wr w'):=by
 have HP:=Qf (fun W=>oL n h0 h1 W);have A2:=aG n.toNat;generalize Cw.enc n.toNat=E at HP A2 ⊢;obtain⟨i0,hi,Z,A0,A1⟩:=info_parts infoByte;have S:=Qf Z;have T:=Qf A0;have U:=Qf A1;clear Z A0 A1 h0 h1;have HW:=Qf h;have HK:Qg (WR w wr b l bad wr):=Qf ⟨h.cell,h.bel,Lib.OthersKept.refl _ _ _,h.le⟩;clear h;go_enter Tryz.func137,Tryz.ntmps137;go_wp2_with fail;refine(HP.o _).mono ?_;rintro e x1 ⟨rfl,Q⟩;have H:=Qf (HW.o.below Q);have M:=Qf (HK.o.below Q);clear Q HW HK;obtain⟨v,R,P,X⟩:=H.o.cell;have c0:x1.cell? ⟨b,0,none⟩=some v:=by rw[Lib.cell_of_heap R]; rfl
 have c1:x1.cell? ⟨b,1,none⟩=some (.bool bad):=by rw[Lib.cell_of_heap R]; rfl
 have f0:x1.frozen? ⟨b,0,none⟩=false:=Lib.frozen_of_heap R 0;have f1:x1.frozen? ⟨b,1,none⟩=false:=Lib.frozen_of_heap R 1;have G:=Qf R;have D:=Qf P;have B:=Qf X;have Y:w.heap.size<=x1.heap.size:=H.o.bel.size;clear R P X;have V:(⟨E.toArray⟩:ByteArray).size=E.length:=bH E;have L:=Qf V;clear V;cases bad with
 | true=>
  have C:Qg ((x1.setCell ⟨b,1,none⟩ (.bool true)).heap[b]? = some (.cells #[v,.bool true] 187 (0,0))):=Qf (by simp[World.setCell,Array.getElem?_modify,G.o]);go_wp2_with (at_builtin; refine Lib.wpList_append_own_string _ rfl _ _ 116 9 rfl w.heap.size 5 i0 Tryz.underlying116 Tryz.underlying9 hi S.o T.o U.o _ _ _ rfl (D.o.kept (dN _ _ _ _) (.inr B.o)) ⟨E.toArray⟩ rfl ?_ ?_ ?_ ?_)
  ·rw[L.o]; unfold maxLen; omega
  ·rw[L.o]; omega
  ·simpa using Y
  ·intro v' x3 O N _
   rw[strCells_eq,<-byteCells_append,<-af] at O;have K:=Qf O;obtain⟨ao,cap,rfl,_⟩:=aB O;have F:x3.heap[b]? = some (.cells #[v,.bool true] 187 (0,0)):=(N.block b (by simpa using(Array.getElem?_eq_some_iff.1 G.o).1) (fun e=>B.o e.symm)).trans C.o;have d0:x3.cell? ⟨b,0,none⟩=some v:=by rw[Lib.cell_of_heap F]; rfl
   have d1:x3.frozen? ⟨b,0,none⟩=false:=Lib.frozen_of_heap F 0;have I:=Qf ((H.o.mark true).put C.o (D.o.kept (dN _ _ _ _) (.inr B.o)) B.o N K.o);have J:=Qf ((M.o.mark true).put C.o (D.o.kept (dN _ _ _ _) (.inr B.o)) B.o N K.o);rw[af] at I J;clear O N F G D C H M;go_wp2_with fail;go_end0;exact⟨rfl,I,Qf J.o.kept⟩
 | false=>
  have C:Qg ((x1.setCell ⟨b,1,none⟩ (.bool false)).heap[b]? = some (.cells #[v,.bool false] 187 (0,0))):=Qf (by simp[World.setCell,Array.getElem?_modify,G.o]);go_wp2_with (at_builtin; refine Lib.wpList_append_own_string _ rfl _ _ 116 9 rfl w.heap.size 5 i0 Tryz.underlying116 Tryz.underlying9 hi S.o T.o U.o _ _ _ rfl (D.o.kept (dN _ _ _ _) (.inr B.o)) ⟨E.toArray⟩ rfl ?_ ?_ ?_ ?_)
  ·rw[L.o]; unfold maxLen; omega
  ·rw[L.o]; omega
  ·simpa using Y
  ·intro v' x3 O N _
   rw[strCells_eq,<-byteCells_append,<-af] at O;have K:=Qf O;obtain⟨ao,cap,rfl,_⟩:=aB O;have F:x3.heap[b]? = some (.cells #[v,.bool false] 187 (0,0)):=(N.block b (by simpa using(Array.getElem?_eq_some_iff.1 G.o).1) (fun e=>B.o e.symm)).trans C.o;have d0:x3.cell? ⟨b,0,none⟩=some v:=by rw[Lib.cell_of_heap F]; rfl
   have d1:x3.frozen? ⟨b,0,none⟩=false:=Lib.frozen_of_heap F 0;have I:=Qf ((H.o.mark false).put C.o (D.o.kept (dN _ _ _ _) (.inr B.o)) B.o N K.o);have J:=Qf ((M.o.mark false).put C.o (D.o.kept (dN _ _ _ _) (.inr B.o)) B.o N K.o);rw[af] at I J;clear O N F G D C H M;go_wp2_with fail;go_end0;exact⟨rfl,I,Qf J.o.kept⟩
theorem wM(T:Qb)(h:T.length<=65536)(w:World):Qh 128 #[.string ⟨T.toArray⟩] w fun e w'=>e=.returned (.tuple #[.string ⟨(fF T).toArray⟩,.int .i64 0])/\PM w w':=by
 have B:=nG ⟨T.toArray⟩ w (by rw[bH]; omega);have:putT T=(fF T,0):=if_pos h;simp only[this] at B;exact B
theorem jV(h:WR w w0 b l bad wr)(s:Qb)(h1:s.length<=65536)(hl:(l.length:Int)<=70000000000000):
  Qh 138 #[.pointer (some ⟨b,0,none⟩),.string ⟨s.toArray⟩] wr fun e w'=>e=.returned (.tuple #[])/\Qg (WR w w0 b (l++fF s) bad w')/\Qg (Kept b wr w'):=by
 have HP:=Qf (fun W=>wM s h1 W);have A2:(fF s).length<=65546:=by have:=aG s.length; rw[fF,af]; omega
 generalize fF s=E at HP A2 ⊢;obtain⟨i0,hi,Z,A0,A1⟩:=info_parts infoByte;have S:=Qf Z;have T:=Qf A0;have U:=Qf A1;clear Z A0 A1 h1;have HW:=Qf h;have HK:Qg (WR w wr b l bad wr):=Qf ⟨h.cell,h.bel,Lib.OthersKept.refl _ _ _,h.le⟩;clear h;go_enter Tryz.func138,Tryz.ntmps138;go_wp2_with fail;refine(HP.o _).mono ?_;rintro e x1 ⟨rfl,Q⟩;have H:=Qf (HW.o.below Q);have M:=Qf (HK.o.below Q);clear Q HW HK;obtain⟨v,R,P,X⟩:=H.o.cell;have c0:x1.cell? ⟨b,0,none⟩=some v:=by rw[Lib.cell_of_heap R]; rfl
 have c1:x1.cell? ⟨b,1,none⟩=some (.bool bad):=by rw[Lib.cell_of_heap R]; rfl
 have f0:x1.frozen? ⟨b,0,none⟩=false:=Lib.frozen_of_heap R 0;have f1:x1.frozen? ⟨b,1,none⟩=false:=Lib.frozen_of_heap R 1;have G:=Qf R;have D:=Qf P;have B:=Qf X;have Y:w.heap.size<=x1.heap.size:=H.o.bel.size;clear R P X;have V:(⟨E.toArray⟩:ByteArray).size=E.length:=bH E;have L:=Qf V;clear V;cases bad with
 | true=>
  have C:Qg ((x1.setCell ⟨b,1,none⟩ (.bool true)).heap[b]? = some (.cells #[v,.bool true] 187 (0,0))):=Qf (by simp[World.setCell,Array.getElem?_modify,G.o]);go_wp2_with (at_builtin; refine Lib.wpList_append_own_string _ rfl _ _ 116 9 rfl w.heap.size 5 i0 Tryz.underlying116 Tryz.underlying9 hi S.o T.o U.o _ _ _ rfl (D.o.kept (dN _ _ _ _) (.inr B.o)) ⟨E.toArray⟩ rfl ?_ ?_ ?_ ?_)
  ·rw[L.o]; unfold maxLen; omega
  ·rw[L.o]; omega
  ·simpa using Y
  ·intro v' x3 O N _
   rw[strCells_eq,<-byteCells_append,<-af] at O;have K:=Qf O;obtain⟨ao,cap,rfl,_⟩:=aB O;have F:x3.heap[b]? = some (.cells #[v,.bool true] 187 (0,0)):=(N.block b (by simpa using(Array.getElem?_eq_some_iff.1 G.o).1) (fun e=>B.o e.symm)).trans C.o;have d0:x3.cell? ⟨b,0,none⟩=some v:=by rw[Lib.cell_of_heap F]; rfl
   have d1:x3.frozen? ⟨b,0,none⟩=false:=Lib.frozen_of_heap F 0;have I:=Qf ((H.o.mark true).put C.o (D.o.kept (dN _ _ _ _) (.inr B.o)) B.o N K.o);have J:=Qf ((M.o.mark true).put C.o (D.o.kept (dN _ _ _ _) (.inr B.o)) B.o N K.o);rw[af] at I J;clear O N F G D C H M;go_wp2_with fail;go_end0;exact⟨rfl,I,Qf J.o.kept⟩
 | false=>
  have C:Qg ((x1.setCell ⟨b,1,none⟩ (.bool false)).heap[b]? = some (.cells #[v,.bool false] 187 (0,0))):=Qf (by simp[World.setCell,Array.getElem?_modify,G.o]);go_wp2_with (at_builtin; refine Lib.wpList_append_own_string _ rfl _ _ 116 9 rfl w.heap.size 5 i0 Tryz.underlying116 Tryz.underlying9 hi S.o T.o U.o _ _ _ rfl (D.o.kept (dN _ _ _ _) (.inr B.o)) ⟨E.toArray⟩ rfl ?_ ?_ ?_ ?_)
  ·rw[L.o]; unfold maxLen; omega
  ·rw[L.o]; omega
  ·simpa using Y
  ·intro v' x3 O N _
   rw[strCells_eq,<-byteCells_append,<-af] at O;have K:=Qf O;obtain⟨ao,cap,rfl,_⟩:=aB O;have F:x3.heap[b]? = some (.cells #[v,.bool false] 187 (0,0)):=(N.block b (by simpa using(Array.getElem?_eq_some_iff.1 G.o).1) (fun e=>B.o e.symm)).trans C.o;have d0:x3.cell? ⟨b,0,none⟩=some v:=by rw[Lib.cell_of_heap F]; rfl
   have d1:x3.frozen? ⟨b,0,none⟩=false:=Lib.frozen_of_heap F 0;have I:=Qf ((H.o.mark false).put C.o (D.o.kept (dN _ _ _ _) (.inr B.o)) B.o N K.o);have J:=Qf ((M.o.mark false).put C.o (D.o.kept (dN _ _ _ _) (.inr B.o)) B.o N K.o);rw[af] at I J;clear O N F G D C H M;go_wp2_with fail;go_end0;exact⟨rfl,I,Qf J.o.kept⟩
theorem Cq(T:Qb)(h:65536<T.length)(C:(T.length:Int)<=9223372036854775807)(w:World):Qh 128 #[.string ⟨T.toArray⟩] w fun e w'=>e=.returned (.tuple #[.string ⟨#[]⟩,.int .i64 4])/\PM w w':=by
 have B:=nG ⟨T.toArray⟩ w (by rw[bH]; omega);have:putT T=([],4):=if_neg (by omega);simp only[this] at B;exact B
theorem BP(h:WR w w0 b l false wr)(s:Qb)(h1:65536<s.length)(hs:(s.length:Int)<=9223372036854775807)(hl:(l.length:Int)<=70000000000000):
  Qh 138 #[.pointer (some ⟨b,0,none⟩),.string ⟨s.toArray⟩] wr fun e w'=>e=.returned (.tuple #[])/\Qg (WR w w0 b l true w'):=by
 have HP:=Qf (fun W=>Cq s h1 hs W);obtain⟨E,K⟩:∃E:Qb,E=[]:=⟨_,rfl⟩;have A9:E.length<=65546:=by rw[K]; simp
 have HE:=Qf K;rw[show(⟨#[]⟩:ByteArray)=⟨E.toArray⟩ by rw[K]] at HP;clear K;obtain⟨i0,hi,S,T,U⟩:=info_parts infoByte;have Z:=Qf S;have A0:=Qf T;have A1:=Qf U;clear S T U h1 hs;have HW:=Qf h;have HK:Qg (WR w wr b l false wr):=Qf ⟨h.cell,h.bel,Lib.OthersKept.refl _ _ _,h.le⟩;clear h;go_enter Tryz.func138,Tryz.ntmps138;go_wp2_with fail;refine(HP.o _).mono ?_;rintro e x1 ⟨rfl,I⟩;have F:=Qf (HW.o.below I);have O:=Qf (HK.o.below I);clear I HW HK;obtain⟨v,L,G,R⟩:=F.o.cell;have c0:x1.cell? ⟨b,0,none⟩=some v:=by rw[Lib.cell_of_heap L]; rfl
 have c1:x1.cell? ⟨b,1,none⟩=some (.bool false):=by rw[Lib.cell_of_heap L]; rfl
 have f0:x1.frozen? ⟨b,0,none⟩=false:=Lib.frozen_of_heap L 0;have f1:x1.frozen? ⟨b,1,none⟩=false:=Lib.frozen_of_heap L 1;have H:=Qf L;have C:=Qf G;have B:=Qf R;have A2:w.heap.size<=x1.heap.size:=F.o.bel.size;clear L G R;have Q:(⟨E.toArray⟩:ByteArray).size=E.length:=bH E;have M:=Qf Q;clear Q;have D:Qg ((x1.setCell ⟨b,1,none⟩ (.bool true)).heap[b]? = some (.cells #[v,.bool true] 187 (0,0))):=Qf (by simp[World.setCell,Array.getElem?_modify,H.o]);go_wp2_with (at_builtin; refine Lib.wpList_append_own_string _ rfl _ _ 116 9 rfl w.heap.size 5 i0 Tryz.underlying116 Tryz.underlying9 hi Z.o A0.o A1.o _ _ _ rfl (C.o.kept (dN _ _ _ _) (.inr B.o)) ⟨E.toArray⟩ rfl ?_ ?_ ?_ ?_)
 ·rw[M.o]; unfold maxLen; omega
 ·rw[M.o]; omega
 ·simpa using A2
 ·intro v' x3 X V _
  rw[strCells_eq,<-byteCells_append,<-af] at X;have P:=Qf X;obtain⟨ao,cap,rfl,_⟩:=aB X;have J:x3.heap[b]? = some (.cells #[v,.bool true] 187 (0,0)):=(V.block b (by simpa using(Array.getElem?_eq_some_iff.1 H.o).1) (fun e=>B.o e.symm)).trans D.o;have d0:x3.cell? ⟨b,0,none⟩=some v:=by rw[Lib.cell_of_heap J]; rfl
  have d1:x3.frozen? ⟨b,0,none⟩=false:=Lib.frozen_of_heap J 0;have N:=Qf ((F.o.mark true).put D.o (C.o.kept (dN _ _ _ _) (.inr B.o)) B.o V P.o);have Y:=Qf ((O.o.mark true).put D.o (C.o.kept (dN _ _ _ _) (.inr B.o)) B.o V P.o);rw[af] at N Y;clear X V J H C D F O;go_wp2_with fail;go_end0;refine⟨rfl,Qf ?_⟩;have h9:=N.o;have K:=HE.o;subst K;rw[bG] at h9;exact h9
theorem Bh(x:Int)(A:0<=x)(B:x<256):Lib.byteCells [UInt8.ofNat x.toNat]=[Value.int .u8 x]:=by
 simp[Lib.byteCells];omega
def bU(x y:Int):Nat->Qb
 | 0=>[]
 | 1=>be 8 x
 | _=>be 8 x++be 8 y
theorem yR(x y:Int)(k:Nat):(bU x y k).length<=16:=by
 match k with
 | 0=>simp[bU]
 | 1=>simp[bU,bY]
 | _+2=>simp[bU,bY]
theorem jX(h:WR w w0 b l bad wr)(x y:Int)(hx:0<=x)(hy:0<=y)(hl:(l.length:Int)<=70000000000000):
  Qh 139 #[.pointer (some ⟨b,0,none⟩),.agg #[.int .u64 x,.int .u64 y]] wr fun e w'=>e=.returned (.tuple #[])/\Qg (WR w w0 b (l++beD (x,y)) bad w')/\Qg (Kept b wr w'):=by
 obtain⟨i0,hi,X,Y,Z⟩:=info_parts infoByte;have A6:=Qf X;have A7:=Qf Y;have A8:=Qf Z;clear X Y Z;have HW:=Qf h;have HK:Qg (WR w wr b l bad wr):=Qf ⟨h.cell,h.bel,Lib.OthersKept.refl _ _ _,h.le⟩;clear h;obtain⟨ws,rfl⟩:∃ws:World,ws=wr:=⟨_,rfl⟩;go_enter Tryz.func139,Tryz.ntmps139;go_wp2_with fail;go_loopw [8] (fun i wr=>∃k:Nat,k<=2/\i=.int .i64 k/\Qg (WR w w0 b (l++bU x y k) bad wr)/\Qg (WR w ws b (l++bU x y k) bad wr)) (fun i _=>2-(intOf i).toNat)
 case atStart=>exact⟨0,by omega,rfl,Qf (by simpa[bU] using HW.o.below (ba ws _)),Qf (by simpa[bU] using HK.o.below (ba ws _))⟩
 case round=>
  obtain⟨k,hk,rfl,L,H⟩:=hrel;obtain⟨wo,rfl⟩:∃wo:World,wo=wr:=⟨_,rfl⟩;by_cases C7:k<2
  ·obtain⟨n,hn,C8,HN⟩:∃n:Int,(∀W,(Instr.index 54 (.agg #[.int .u64 x,.int .u64 y]) (.int .i64 (k:Int))).run Tryz.prog W=.ok (.int .u64 n) W)/\0<=n/\Qg (bU x y (k+1)=bU x y k++be 8 n):=by
    rcases(show k=0\/k=1 by omega) with rfl | rfl
    ·exact⟨x,fun W=>by kernel_rfl,hx,Qf (by simp[bU])⟩
    ·exact⟨y,fun W=>by kernel_rfl,hy,Qf rfl⟩
   have B4:=yR x y k;obtain⟨L0,F⟩:=Qe (l++bU x y k);have B8:(L0.length:Int)<=70000000000100:=by rw[F,af]; omega
   have HE:Qg (l++bU x y (k+1)=L0++be 8 n):=Qf (by rw[HN.out,F]; simp);rw[<-F] at L H;clear F HN B4;have dk:decide ((k:Int)<2)=true:=by simp; omega
   go_wp2_with fail;go_loopw [6] (fun s wr=>∃(j:Nat) (p:Qb),j<=8/\s=.int .i64 (8*(j:Int)-8)/\p.length+j=8/\Qg (p++be j n=be 8 n)/\Qg (WR w w0 b (L0++p) bad wr)/\Qg (WR w ws b (L0++p) bad wr)) (fun s _=>(intOf s+8).toNat)
   case atStart=>exact⟨8,[],by omega,rfl,by simp,Qf rfl,by rw[bG]; exact L,by rw[bG]; exact H⟩
   case round=>
    obtain⟨j,p,hj,rfl,hp,HP,C,E⟩:=hrel;cases j with
    | zero=>
     have A5:Qg (L0++p=l++bU x y (k+1)):=Qf (by rw[HE.o,<-HP.out]; simp[be]);rw[A5.o] at C E;go_wp2_with fail;go_roundw
     case rel=>exact⟨k+1,by omega,by go_num,C,E⟩
     case measure=>simp[intOf]; omega
    | succ i=>
     have B3:8*((i+1:Nat):Int)-8=8*(i:Int):=by omega
     rw[B3];obtain⟨v,hv,G,V⟩:=C.out.cell;have c0:wr.cell? ⟨b,0,none⟩=some v:=by rw[Lib.cell_of_heap hv]; rfl
     have c0':=fun z=>bP c0 z
     obtain⟨z,hz⟩:=Qe (n/2^(8*i));have C9:n/2^(8*(i:Int)).toNat=z:=by
      rw[hz];congr 2
     obtain⟨c,hc⟩:=Qe (z%256);have C4:IntKind.u8.wrap z=c:=by rw[hc]; simp[IntKind.wrap,IntKind.bits,IntKind.signed]
     have B1:0<=c:=by omega
     have B2:c<256:=by omega
     have A4:Qg ((p++[UInt8.ofNat c.toNat])++be i n=be 8 n):=Qf (by rw[<-HP.out,be,<-hz,<-hc,ay]; rfl);have HV:=Qf hv;have HO:=Qf G;have I:=Qf V;have R:(L0++p).length=L0.length+p.length:=af;have A9:((L0++p).length:Int)<=70000000000200:=by rw[R]; omega
     have D0:=C.out.bel.size;have T:b<wr.heap.size:=(Array.getElem?_eq_some_iff.1 hv).1;clear hc hz hv G V HP R;obtain⟨L1,M⟩:=Qe (L0++p);have A2:Qg (L0++(p++[UInt8.ofNat c.toNat])=L1++[UInt8.ofNat c.toNat]):=Qf (by rw[M,ay]);rw[<-M] at C E HO A9;clear M;have C6:i<=7:=by omega
     have C2:(0:Int)<=8*(i:Int):=by omega
     have C3:8*(i:Int)<=64:=by omega
     go_wp2_with fail;go_region_law
      (first
      | (refine step_append_lies _ (by rfl) (.tmp 19) (.tmp 24) _ (by rfl) w.heap.size 5 i0 _ 1 1 Tryz.underlying116 hi A6.o A7.o A8.o rfl (by omega) _ L1.length (Lib.byteCells L1) (by rfl) (HO.o.alloc _).drew ⟨wr.heap.size,0,none⟩ 1 1 [.int .u8 c] (by rfl) (by rfl) (World.news_of_block (cs:=#[.int .u8 c]) (t:=5) (fr:=(0,0)) (heap_alloc_new wr _)) (by simp[Value.oneCell']) (by omega) (by unfold maxLen; omega) (by omega) (by simp; omega) _ rfl ?_; intro g cap x3 D B S U; (have O:x3.heap[b]? = some (.cells #[v,.bool bad] 187 (0,0)):=(B.block b (by simp; omega) (fun e=>I.o e.symm)).trans ((Below.heap_alloc _ _ _ T).trans HV.o)); (have d0:x3.cell? ⟨b,0,none⟩=some v:=by rw[Lib.cell_of_heap O]; rfl); (have d1:x3.frozen? ⟨b,0,none⟩=false:=Lib.frozen_of_heap O 0))
      | fail)
     all_goals
      have N:PM wr (wr.alloc (.cells #[.int .u8 c] 5)).drew:=(ba wr _).drew;have J:Qg (x3.ownsRow w.heap.size 5 1 (.slice (some ⟨g,0,none⟩) (L1.length+1) cap) (L1++[UInt8.ofNat c.toNat]).length (Lib.byteCells (L1++[UInt8.ofNat c.toNat]))):=Qf (by
       rw[byteCells_append,Bh c B1 B2,af];exact D)
      have K:Qg ((wr.alloc (.cells #[.int .u8 c] 5)).drew.heap[b]? = some (.cells #[v,.bool bad] 187 (0,0))):=Qf ((Below.heap_alloc _ _ _ T).trans HV.o);have P:=Qf ((C.out.below N).put K.o (HO.o.alloc _).drew I.o B J.o);have Q:=Qf ((E.out.below N).put K.o (HO.o.alloc _).drew I.o B J.o);rw[<-A2.o] at P Q;clear D B S U N J K O;go_wp2_with fail;go_roundw
      case rel=>exact⟨i,p++[UInt8.ofNat c.toNat],by omega,rfl,by simp; omega,A4,P,Q⟩
      case measure=>simp[intOf]; omega
  ·obtain rfl:k=2:=by omega
   go_wp2_with fail;go_end0;exact⟨rfl,L,Qf H.out.kept⟩
theorem Gu(l:Qb):(l.map fun c=>(c.toNat:Int)).map (fun c=>UInt8.ofNat c.toNat)=l:=by
 rw[List.map_map]
 conv=>rhs; rw[<-List.map_id l]
 apply rO;intro c _;simp
theorem Az:∀(ns:List Int) (r:ByteArray),(ns.foldl (fun r n=>r.push (UInt8.ofNat n.toNat)) r).data.toList=r.data.toList++ns.map fun c=>UInt8.ofNat c.toNat
 | [],r=>by simp
 | n::ns,r=>by
  rw[fE,Az ns,eX];simp[ByteArray.push]
theorem pF(h:W.ownsRow B 5 1 v l.length (Lib.byteCells l))(D:l≠[]):(convert 116 9 v).run Tryz.prog W=.ok (.string ⟨l.toArray⟩) W:=by
 obtain⟨g,cap,rfl,_,_⟩:=h.form (bJ.2 D);rw[run_convert_bytes_string W 116 9 5 (some ⟨g,0,none⟩) l.length cap Tryz.underlying116 Tryz.underlying5 Tryz.underlying9];have e:Lib.byteCells l=(l.map fun c=>(c.toNat:Int)).map (Value.int .u8):=by simp[Lib.byteCells]
 have C:=run_loadCells_list (P:=Tryz.prog) W ⟨g,0,none⟩ ((l.map fun c=>(c.toNat:Int)).map (Value.int .u8)) (fun j u E=>h.cells (g:=g) rfl j u (by rw[e]; exact E));rw[fC,fC] at C;rw[run_bytesToString W ⟨g,0,none⟩ l.length cap (l.map fun c=>(c.toNat:Int)) C];congr 2;refine ba_eq ?_;rw[Az,Gu];rfl
theorem L9(o:Ob):gZ o≠[]:=by
 unfold gZ;intro h;have:=List.append_eq_nil_iff.1 h;exact xu _ this.1
theorem AU(es:List Ent)(k:Nat)(h:k<es.length):(es.take (k+1)).flatMap ru=(es.take k).flatMap ru++ru es[k]:=by
 rw[ai h,bg];simp
theorem ET(ds:Qd)(k:Nat)(h:k<ds.length):(ds.take (k+1)).flatMap beD=(ds.take k).flatMap beD++beD ds[k]:=by
 rw[ai h,bg];simp
theorem uN(e:Ent)(h:e.name.length<=24):(ru e).length<=60:=by
 have A:=aG e.name.length;have B:=aG (vG e.dir);rw[ru,fF,af,af,af,bX];omega
theorem qZ:∀(es:List Ent),(∀e∈es,e.name.length<=24)->(es.flatMap ru).length<=60*es.length
 | [],_=>by simp
 | e::es,h=>by
  have B:=uN e (h e (List.mem_cons_self ..));have C:=qZ es (fun x A=>h x (pM _ A));rw[bR,af,az];omega
theorem nS:∀(ds:Qd),(ds.flatMap beD).length=16*ds.length
 | []=>rfl
 | d::ds=>by
  rw[bR,af,bX,nS ds,az];omega
structure Dw (w:World) (o:Ob) (ea:Qa) (ec:Nat) (pa:Qa) (pc:Nat):Prop where
 ents:BI w.heap.size w ea o.ents
 pars:dE w.heap.size w pa o.pars
 pcap:o.pars.length<=pc
 elen:(o.ents.length:Int)<=9223372036854775807
 enam:∀e∈o.ents,(e.name.length:Int)<=9223372036854775807
 edig:∀e∈o.ents,0<=e.d.1/\0<=e.d.2
 plen:(o.pars.length:Int)<=9223372036854775807
 pdig:∀d∈o.pars,0<=d.1/\0<=d.2
 tdig:0<=o.tree.1/\0<=o.tree.2
 dlen:(o.data.length:Int)<=9223372036854775807
 alen:(o.author.length:Int)<=9223372036854775807
 mlen:(o.msg.length:Int)<=9223372036854775807
theorem Dw.below{o:Ob}{ea:Qa}{ec:Nat}{pa:Qa}{pc:Nat}(h:Dw w o ea ec pa pc)(A:PM w W):Dw W o ea ec pa pc:=
 ⟨(h.ents.below A nr).mono A.size,(h.pars.below A nr).mono A.size,h.pcap,h.elen,h.enam,h.edig,h.plen,h.pdig,h.tdig,h.dlen,h.alen,h.mlen⟩
theorem ME{o:Ob}(h:dz o=0)(A:o.kind=2):o.ents.length<=200/\∀e∈o.ents,jA e.name=true:=by
 unfold dz at h;rw[if_neg (by omega),if_pos A] at h;split at h
 ·cases h
 ·unfold mK at h
  split at h
  ·cases h
  ·exact⟨by omega,l9 h⟩
theorem MC{o:Ob}(h:dz o=0)(A:o.kind=3):dS o=0:=by
 unfold dz at h;rw[if_neg (by omega),if_neg (by omega),if_pos A] at h;split at h
 ·cases h
 ·exact h
theorem rz{o:Ob}(h:dS o=0):o.pars.length<=8/\jA o.author=true/\0<=o.time/\o.time<=1099511627776/\o.msg.length<=200:=by
 unfold dS at h;split at h
 ·cases h
 ·split at h
  ·cases h
  ·split at h
   ·rename_i A; exact absurd h A
   ·split at h
    ·cases h
    ·split at h
     ·cases h
     ·split at h
      ·cases h
      ·rename_i A C B D E
       exact⟨by omega,by simpa using B,by omega,by omega,by omega⟩
theorem iP(o:Ob)(ea:Qa)(ec:Nat)(pa:Qa)(pc:Nat)(w:World)(h:Dw w o ea ec pa pc):
  Qh 80 #[o.val ea ec pa pc] w fun e w'=>e=.returned (.tuple #[.string ⟨(aR o).1.toArray⟩,.int .i64 (aR o).2])/\PM w w':=by
 obtain⟨R,E,D5⟩:∃R E,aR o=(R,E):=⟨_,_,rfl⟩;rw[D5];have HC:Qg (∀W,PM w W->Qh 136 #[o.val ea ec pa pc] W fun e w'=>e=.returned (.int .i64 (dz o))/\PM W w'):=Qf (fun W hW=>by
  have h2:=h.below hW;have:=h2.elen;have:=h2.plen;have:=h2.dlen;exact JL o ea ec pa pc W h2.ents h2.pars h2.pcap (by omega) h2.enam (by omega) (by omega) h2.alen h2.mlen)
 obtain⟨BO,B9⟩:=Qe (gZ o);have A2:Qg (BO≠[]):=Qf (by rw[B9]; exact L9 o);have Y:(R,E)=if dz o≠0 then([],dz o) else if 65536<BO.length then([],4) else(BO,0):=by rw[<-D5,B9]; rfl
 obtain⟨y,hy⟩:=Qe (dz o);rw[<-hy] at HC Y;have B4:=Qf B9;have X:=Qf h;have HY:=Qf hy;clear D5 B9 h hy;obtain⟨kind,data,ents,⟨t1,t2⟩,pars,author,time,msg⟩:=o;obtain⟨ne,L⟩:=Qe ents.length;obtain⟨n,hn⟩:=Qe pars.length;change Qg (∀W,PM w W->Qh 136 #[.agg #[.int .i64 kind,.string ⟨data.toArray⟩,.slice ea ents.length ec,.int .u64 t1,.int .u64 t2,.slice pa pars.length pc,.string ⟨author.toArray⟩,.int .i64 time,.string ⟨msg.toArray⟩]] W fun e w'=>e=.returned (.int .i64 y)/\PM W w') at HC;change Qh 80 #[.agg #[.int .i64 kind,.string ⟨data.toArray⟩,.slice ea ents.length ec,.int .u64 t1,.int .u64 t2,.slice pa pars.length pc,.string ⟨author.toArray⟩,.int .i64 time,.string ⟨msg.toArray⟩]] w _;rw[<-L,<-hn] at HC ⊢;have B6:=Qf L;have A9:=Qf hn;clear L hn;by_cases C4:y=0
 ·subst C4
  rw[if_neg (by simp)] at Y;have F:=Qf Y;clear Y;have B3:Qg (PM w (w.alloc (.cells #[.int .i64 kind,.string ⟨data.toArray⟩,.slice ea ne ec,.int .u64 t1,.int .u64 t2,.slice pa n pc,.string ⟨author.toArray⟩,.int .i64 time,.string ⟨msg.toArray⟩] 59))):=Qf (ba w _);have C2:=eP HY.o.symm;simp only at C2;have F0:=X.o.dlen;simp only at F0;go_enter Tryz.func80,Tryz.ntmps80;go_wp2_with fail;refine(HC.o _ B3.o).mono ?_;rintro e x1 ⟨rfl,A5⟩;have T:=A5.block w.heap.size (by simp);rw[World.alloc_heap_new w _] at T;have E1:=Qf T;have A6:=Qf (B3.o.trans (A5.mono B3.o.size));have G5:w.heap.size<x1.heap.size:=(Array.getElem?_eq_some_iff.1 T).1;have c0:x1.cell? ⟨w.heap.size,0,none⟩=some (.int .i64 kind):=by rw[Lib.cell_of_heap T]; rfl
  have c0':=fun z=>bP c0 z
  clear A5 T B3 HC;go_wp2_with fail;obtain⟨w0,C3⟩:=Qe (x1.alloc (.cells #[.slice none 0 0,.bool false] 187));have E4:Qg (WR w w0 x1.heap.size [] false w0):=Qf (by
   rw[C3];exact⟨⟨.slice none 0 0,World.alloc_heap_new _ _,World.ownsRow_nil _ _ _ _,by simp[Value.ownBlock]⟩,A6.o.alloc A6.o.size _,Lib.OthersKept.refl _ _ _,A6.o.size⟩)
  have I:Qg (w0.heap[w.heap.size]? = some (.cells #[.int .i64 kind,.string ⟨data.toArray⟩,.slice ea ne ec,.int .u64 t1,.int .u64 t2,.slice pa n pc,.string ⟨author.toArray⟩,.int .i64 time,.string ⟨msg.toArray⟩] 59 (0,0))):=Qf (by rw[C3,Below.heap_alloc _ _ _ G5]; exact E1.o);rw[<-C3];clear C3 c0 c0' E1;refine(gU E4.o kind (by omega) (by omega) (by simp)).mono ?_;rintro e x2 ⟨rfl,G,_⟩;rw[aY] at G;have O:=G.out.block I.o (by omega) (by decide);have d0:x2.cell? ⟨w.heap.size,0,none⟩=some (.int .i64 kind):=by rw[Lib.cell_of_heap O]; rfl
  have d1:x2.cell? ⟨w.heap.size,1,none⟩=some (.string ⟨data.toArray⟩):=by rw[Lib.cell_of_heap O]; rfl
  have d2:x2.cell? ⟨w.heap.size,2,none⟩=some (.slice ea ne ec):=by rw[Lib.cell_of_heap O]; rfl
  have d3:x2.cell? ⟨w.heap.size,3,none⟩=some (.int .u64 t1):=by rw[Lib.cell_of_heap O]; rfl
  have d4:x2.cell? ⟨w.heap.size,4,none⟩=some (.int .u64 t2):=by rw[Lib.cell_of_heap O]; rfl
  have H4:=aG kind.toNat;clear O;by_cases C1:kind=2
  ·subst C1
   obtain⟨B2,A1⟩:=ME HY.o.symm rfl;have E3:=Qf A1;simp only at B2;rw[<-B6.o] at B2;have M:Qg (BO=(Cw.enc 2++Cw.enc ne)++ents.flatMap ru):=Qf (by rw[B4.o]; unfold gZ; rw[if_pos rfl,B6.o,ay]; rfl);have F8:=aG ne;clear A1 C2;go_wp2_with fail;refine(gU G.out (ne:Int) (by omega) (by omega) (by omega)).mono ?_;rintro e x3 ⟨rfl,B,_⟩;rw[aj] at B;obtain⟨P2,P⟩:=Qe (Cw.enc 2++Cw.enc ne);have E6:P2.length<=20:=by rw[P,af]; have:=aG 2; omega
   have D2:Qg (WR w w0 x1.heap.size P2 false x3):=Qf (by rw[P]; exact B.out);rw[<-P] at M;have U:=B.out.block I.o (by omega) (by decide);have e2:x3.cell? ⟨w.heap.size,2,none⟩=some (.slice ea ne ec):=by rw[Lib.cell_of_heap U]; rfl
   clear U d0 d1 d2 d3 d4 B P G;go_wp2_with fail;go_loopw [39] (fun i wr=>∃k:Nat,k<=ne/\i=.int .i64 k/\Qg (WR w w0 x1.heap.size (P2++(ents.take k).flatMap ru) false wr)) (fun i _=>ne-(intOf i).toNat)
   case atStart=>exact⟨0,by omega,rfl,Qf (by simpa using D2.o)⟩
   case round=>
    obtain⟨k,hk,rfl,D⟩:=hrel;by_cases D8:k<ne
    ·have h1:k<ents.length:=by rw[<-B6.o]; exact D8
     obtain⟨b0,o0,rfl,G0,g0,g1,g2,g3⟩:=(X.o.ents.below D.out.bel nr) k h1;simp only at g0 g1 g2 g3;have HT:=Qf (AU ents k h1);have F4:=di (E3.o _ (ak h1));have K:=X.o.edig _ (ak h1);have D4:((P2++(ents.take k).flatMap ru).length:Int)<=100000:=by
      rw[af];have:=qZ (ents.take k) (fun e he=>(di (E3.o e (dK he))).2);rw[aA] at this;omega
     generalize ents[k]=en at g0 g1 g2 g3 HT F4 K;obtain⟨nm,dir,q1,q2⟩:=en;simp only at g0 g1 g2 g3 F4 K;have A3:Qg (P2++(ents.take (k+1)).flatMap ru=(((P2++(ents.take k).flatMap ru)++fF nm)++Cw.enc (vG dir))++beD (q1,q2)):=Qf (by rw[HT.o]; simp[ru]);generalize P2++(ents.take k).flatMap ru=LK at D D4 A3;have H2:x1.heap.size<wr.heap.size:=by
      obtain⟨v,V,_⟩:=D.out.cell;exact(Array.getElem?_eq_some_iff.1 V).1
     clear HT;go_wp2_with fail;have A4:=Qf (D.out.below ((bf wr).alloc nr (.cells #[.string ⟨nm.toArray⟩,.bool dir,.int .u64 q1,.int .u64 q2] 164)));have C8:=Qf (World.alloc_heap_new wr (.cells #[.string ⟨nm.toArray⟩,.bool dir,.int .u64 q1,.int .u64 q2] 164));generalize wr.alloc (.cells #[.string ⟨nm.toArray⟩,.bool dir,.int .u64 q1,.int .u64 q2] 164)=wa at A4 C8 ⊢;refine(jV A4.o nm (by omega) (by omega)).mono ?_;rintro e x4 ⟨rfl,B7,E2⟩;have D6:=E2.out _ _ C8.o (fun e=>by have:=Option.some.inj e; omega) (fun c f e=>by cases e);have B5:=Qf D6;have r1:x4.cell? ⟨wr.heap.size,1,none⟩=some (.bool dir):=by rw[Lib.cell_of_heap D6]; rfl
     clear D6 A4 C8 E2 g0 g1 g2 g3;have H6:(fF nm).length<=40:=by have:=aG nm.length; rw[fF,af]; omega
     have G9:((LK++fF nm).length:Int)<=200000:=by rw[af]; omega
     cases dir with
     | true=>
      go_wp2_with fail;refine(gU B7.out 1 (by omega) (by omega) (by omega)).mono ?_;rintro e x5 ⟨rfl,B1,A8⟩;have Z:=A8.out _ _ B5.o (fun e=>by have:=Option.some.inj e; omega) (fun c f e=>by cases e);have s2:x5.cell? ⟨wr.heap.size,2,none⟩=some (.int .u64 q1):=by rw[Lib.cell_of_heap Z]; rfl
      have s3:x5.cell? ⟨wr.heap.size,3,none⟩=some (.int .u64 q2):=by rw[Lib.cell_of_heap Z]; rfl
      clear Z A8 B5 r1 B7;have G1:=aG 1;have Q:Qg (WR w w0 x1.heap.size ((LK++fF nm)++Cw.enc (vG true)) false x5):=B1;go_wp2_with fail;refine(jX Q.o q1 q2 K.1 K.2 (by rw[af]; have:=aG (vG true); omega)).mono ?_;rintro e x6 ⟨rfl,H,_⟩;rw[<-A3.o] at H;clear s2 s3 B1 Q;go_wp2_with fail;go_roundw
      case rel=>exact⟨k+1,by omega,by go_num,H⟩
      case measure=>simp[intOf]; omega
     | false=>
      go_wp2_with fail;refine(gU B7.out 0 (by omega) (by omega) (by omega)).mono ?_;rintro e x5 ⟨rfl,B1,A8⟩;have Z:=A8.out _ _ B5.o (fun e=>by have:=Option.some.inj e; omega) (fun c f e=>by cases e);have s2:x5.cell? ⟨wr.heap.size,2,none⟩=some (.int .u64 q1):=by rw[Lib.cell_of_heap Z]; rfl
      have s3:x5.cell? ⟨wr.heap.size,3,none⟩=some (.int .u64 q2):=by rw[Lib.cell_of_heap Z]; rfl
      clear Z A8 B5 r1 B7;have G1:=aG 0;have Q:Qg (WR w w0 x1.heap.size ((LK++fF nm)++Cw.enc (vG false)) false x5):=B1;go_wp2_with fail;refine(jX Q.o q1 q2 K.1 K.2 (by rw[af]; have:=aG (vG false); omega)).mono ?_;rintro e x6 ⟨rfl,H,_⟩;rw[<-A3.o] at H;clear s2 s3 B1 Q;go_wp2_with fail;go_roundw
      case rel=>exact⟨k+1,by omega,by go_num,H⟩
      case measure=>simp[intOf]; omega
    ·have A7:Qg (P2++(ents.take k).flatMap ru=BO):=Qf (by rw[M.o,ag (by rw[<-B6.o]; omega)])
     rw[A7.o] at D;clear A7 e2;obtain⟨v,V,C,L⟩:=D.out.cell;have B0:=Qf C;have c0:wr.cell? ⟨x1.heap.size,0,none⟩=some v:=by rw[Lib.cell_of_heap V]; rfl
     have c1:wr.cell? ⟨x1.heap.size,1,none⟩=some (.bool false):=by rw[Lib.cell_of_heap V]; rfl
     obtain⟨g,cap,rfl,_,_⟩:=C.form (bJ.2 A2.o);have N:=Qf D.out.bel;clear V C L;by_cases E5:(65536:Int)<BO.length
     ·have J:Qg (R=[]/\E=4):=Qf (by have:=F.o; rw[if_pos (by omega)] at this; simpa using this)
      clear F;go_wp2_with fail;go_ret2;rw[J.o.1,J.o.2];exact⟨rfl,N.o⟩
     ·have J:Qg (R=BO/\E=0):=Qf (by have:=F.o; rw[if_neg (by omega)] at this; simpa using this)
      have E9:=pF B0.o A2.o;clear F;go_wp2_with fail;go_ret2;rw[J.o.1,J.o.2];exact⟨rfl,N.o⟩
  ·by_cases D7:kind=3
   ·subst D7
    obtain⟨F3,C7,F5,F6,G3⟩:=rz (MC HY.o.symm rfl);have F9:=di C7;simp only at F3 F5 F6 G3 F9;rw[<-A9.o] at F3;have D9:=X.o.tdig;simp only at D9;have M:Qg (BO=((((Cw.enc 3++beD (t1,t2))++Cw.enc n)++pars.flatMap beD)++fF author)++Cw.enc time.toNat++fF msg):=Qf (by rw[B4.o]; unfold gZ; rw[if_neg (by simp),if_pos rfl,A9.o]; simp);have F8:=aG n;have H0:=aG time.toNat;have G8:(fF author).length<=40:=by have:=aG author.length; rw[fF,af]; omega
    have E7:=bX (t1,t2);clear C1 C2 C7;go_wp2_with fail;refine(jX G.out t1 t2 D9.1 D9.2 (by omega)).mono ?_;rintro e x3 ⟨rfl,B,_⟩;have U:=B.out.block I.o (by omega) (by decide);have e5:x3.cell? ⟨w.heap.size,5,none⟩=some (.slice pa n pc):=by rw[Lib.cell_of_heap U]; rfl
    clear U d0 d1 d2 d3 d4 G;have F1:=aG 3;have G2:((Cw.enc (3:Int).toNat++beD (t1,t2)).length:Int)<=100:=by rw[af,E7]; show(((Cw.enc 3).length+16:Nat):Int)<=100; omega
    go_wp2_with fail;refine(gU B.out (n:Int) (by omega) (by omega) (by omega)).mono ?_;rintro e x4 ⟨rfl,A0,_⟩;rw[aj] at A0;obtain⟨P2,P⟩:=Qe ((Cw.enc 3++beD (t1,t2))++Cw.enc n);have E6:P2.length<=50:=by rw[P,af,af]; omega
    have D3:Qg (WR w w0 x1.heap.size P2 false x4):=Qf (by rw[P]; exact A0.out);rw[<-P] at M;have C6:=A0.out.block I.o (by omega) (by decide);have e5:x4.cell? ⟨w.heap.size,5,none⟩=some (.slice pa n pc):=by rw[Lib.cell_of_heap C6]; rfl
    clear C6 A0 P B G2 E7 F1;go_wp2_with fail;go_loopw [64] (fun i wr=>∃k:Nat,k<=n/\i=.int .i64 k/\Qg (WR w w0 x1.heap.size (P2++(pars.take k).flatMap beD) false wr)) (fun i _=>n-(intOf i).toNat)
    case atStart=>exact⟨0,by omega,rfl,Qf (by simpa using D3.o)⟩
    case round=>
     obtain⟨k,hk,rfl,D⟩:=hrel;by_cases D8:k<n
     ·have h1:k<pars.length:=by rw[<-A9.o]; exact D8
      obtain⟨b0,o0,rfl,G0,g0,g1⟩:=(X.o.pars.below D.out.bel nr) k h1;simp only at g0 g1;have HT:=Qf (ET pars k h1);have K:=X.o.pdig _ (ak h1);have D4:((P2++(pars.take k).flatMap beD).length:Int)<=100000:=by
       rw[af,nS,aA];omega
      generalize pars[k]=dk at g0 g1 HT K;obtain⟨q1,q2⟩:=dk;simp only at g0 g1 K;have A3:Qg (P2++(pars.take (k+1)).flatMap beD=(P2++(pars.take k).flatMap beD)++beD (q1,q2)):=Qf (by rw[HT.o]; simp);generalize P2++(pars.take k).flatMap beD=LK at D D4 A3;clear HT;go_wp2_with fail;have A4:=Qf (D.out.below ((bf wr).alloc nr (.cells #[.int .u64 q1,.int .u64 q2] 54)));refine(jX A4.o q1 q2 K.1 K.2 (by omega)).mono ?_;rintro e x6 ⟨rfl,H,_⟩;rw[<-A3.o] at H;clear A4 g0 g1;go_wp2_with fail;go_roundw
      case rel=>exact⟨k+1,by omega,by go_num,H⟩
      case measure=>simp[intOf]; omega
     ·obtain⟨P3,C0⟩:=Qe (P2++pars.flatMap beD)
      have A7:Qg (P2++(pars.take k).flatMap beD=P3):=Qf (by rw[C0,ag (by rw[<-A9.o]; omega)]);have G7:P3.length<=200:=by rw[C0,af,nS,<-A9.o]; omega
      rw[A7.o] at D;rw[<-C0] at M;have S:=D.out.block I.o (by omega) (by decide);have f6:wr.cell? ⟨w.heap.size,6,none⟩=some (.string ⟨author.toArray⟩):=by rw[Lib.cell_of_heap S]; rfl
      clear A7 e5 C0 S;go_wp2_with fail;refine(jV D.out author (by omega) (by omega)).mono ?_;rintro e x6 ⟨rfl,H,_⟩;have S:=H.out.block I.o (by omega) (by decide);have f7:x6.cell? ⟨w.heap.size,7,none⟩=some (.int .i64 time):=by rw[Lib.cell_of_heap S]; rfl
      clear S f6 D;go_wp2_with fail;refine(gU H.out time F5 F6 (by rw[af]; omega)).mono ?_;rintro e x7 ⟨rfl,D0,_⟩;have S:=D0.out.block I.o (by omega) (by decide);have f8:x7.cell? ⟨w.heap.size,8,none⟩=some (.string ⟨msg.toArray⟩):=by rw[Lib.cell_of_heap S]; rfl
      clear S f7 H;go_wp2_with fail;refine(jV D0.out msg (by omega) (by rw[af,af]; omega)).mono ?_;rintro e x8 ⟨rfl,D1,_⟩;rw[<-M.o] at D1;clear f8 D0;obtain⟨v,V,C,L⟩:=D1.out.cell;have B0:=Qf C;have c0:x8.cell? ⟨x1.heap.size,0,none⟩=some v:=by rw[Lib.cell_of_heap V]; rfl
      have c1:x8.cell? ⟨x1.heap.size,1,none⟩=some (.bool false):=by rw[Lib.cell_of_heap V]; rfl
      obtain⟨g,cap,rfl,_,_⟩:=C.form (bJ.2 A2.o);have N:=Qf D1.out.bel;clear V C L;by_cases E5:(65536:Int)<BO.length
      ·have J:Qg (R=[]/\E=4):=Qf (by have:=F.o; rw[if_pos (by omega)] at this; simpa using this)
       clear F;go_wp2_with fail;go_ret2;rw[J.o.1,J.o.2];exact⟨rfl,N.o⟩
      ·have J:Qg (R=BO/\E=0):=Qf (by have:=F.o; rw[if_neg (by omega)] at this; simpa using this)
       have E9:=pF B0.o A2.o;clear F;go_wp2_with fail;go_ret2;rw[J.o.1,J.o.2];exact⟨rfl,N.o⟩
   ·have M:Qg (BO=Cw.enc kind.toNat++fF data):=Qf (by rw[B4.o]; unfold gZ; rw[if_neg C1,if_neg D7])
    have F2:kind=1\/kind=4:=by omega
    clear C1 D7 C2;by_cases E8:data.length<=65536
    ·rcases F2 with rfl | rfl
     all_goals
      go_wp2_with fail;refine(jV G.out data E8 (by omega)).mono ?_;rintro e x3 ⟨rfl,B,_⟩;rw[<-M.o] at B;clear d0 d1 d2 d3 d4;obtain⟨v,V,C,L⟩:=B.out.cell;have B0:=Qf C;have c0:x3.cell? ⟨x1.heap.size,0,none⟩=some v:=by rw[Lib.cell_of_heap V]; rfl
      have c1:x3.cell? ⟨x1.heap.size,1,none⟩=some (.bool false):=by rw[Lib.cell_of_heap V]; rfl
      obtain⟨g,cap,rfl,_,_⟩:=C.form (bJ.2 A2.o);have N:=Qf B.out.bel;clear V C L;by_cases E5:(65536:Int)<BO.length
      ·have J:Qg (R=[]/\E=4):=Qf (by have:=F.o; rw[if_pos (by omega)] at this; simpa using this)
       clear F;go_wp2_with fail;go_ret2;rw[J.o.1,J.o.2];exact⟨rfl,N.o⟩
      ·have J:Qg (R=BO/\E=0):=Qf (by have:=F.o; rw[if_neg (by omega)] at this; simpa using this)
       have E9:=pF B0.o A2.o;clear F;go_wp2_with fail;go_ret2;rw[J.o.1,J.o.2];exact⟨rfl,N.o⟩
    ·have J:Qg (R=[]/\E=4):=Qf (by
      have:=F.o;rw[if_pos (by rw[M.o,af,fF,af]; omega)] at this;simpa using this)
     clear F M;rcases F2 with rfl | rfl
     all_goals
      go_wp2_with fail;refine(BP G.out data (by omega) F0 (by omega)).mono ?_;rintro e x3 ⟨rfl,B⟩;clear d0 d1 d2 d3 d4;obtain⟨v,V,C,L⟩:=B.out.cell;have c0:x3.cell? ⟨x1.heap.size,0,none⟩=some v:=by rw[Lib.cell_of_heap V]; rfl
      have c1:x3.cell? ⟨x1.heap.size,1,none⟩=some (.bool true):=by rw[Lib.cell_of_heap V]; rfl
      have N:=Qf B.out.bel;clear V C L;go_wp2_with fail;go_ret2;rw[J.o.1,J.o.2];exact⟨rfl,N.o⟩
 ·have J:Qg (R=[]/\E=y):=Qf (by rw[if_pos C4] at Y; simpa using Y)
  have H7:(y !=0)=true:=by simpa using C4
  clear C4 Y X HY B4;go_enter Tryz.func80,Tryz.ntmps80;go_wp2_with fail;refine(HC.o _ (ba w _)).mono ?_;rintro e x1 ⟨rfl,A5⟩;have A6:=Qf A5;clear A5;go_wp2_with fail;go_ret2;rw[J.o.1,J.o.2];exact⟨rfl,(ba w _).trans (A6.o.mono (by simp))⟩
