/- Joined texts: PkQx, PkY, PkH, PkP, PkJ. -/
import Derived.Test.YtkedhdcnakhbgaaGreatP1
import Derived.Test.YtkedhdcnakhbgaaGreatK4
import Derived.Test.YtkedhdcnakhbgaaGreatK6
import Derived.Laws.MakeOwn
/- Differences on paper: the longest match,joined elements (what the texts behind need). -/
set_option linter.unusedSimpArgs false
set_option maxRecDepth 100000
set_option maxHeartbeats 16000000
namespace Go.Proofs.YtkedhdcnakhbgaaGreat
set_option linter.unusedVariables false
variable {o:Dop}{d:Int×Int}{l:List Dop}{i k n:Nat}{a b out s:Qb}
def lcp:Qb->Qb->Nat
 | x::a,y::b=>if x=y then lcp a b+1 else 0
 | _,_=>0
theorem Ee:∀(n:Nat) (a b:Qb),n<=lcp a b↔n<=a.length/\n<=b.length/\a.take n=b.take n
 | 0,a,b=>by simp
 | n+1,[],b=>by simp[lcp]
 | n+1,x::a,[]=>by simp[lcp]
 | n+1,x::a,y::b=>by
  rw[lcp];by_cases e:x=y
  ·subst e
   rw[if_pos rfl];have:=Ee n a b;simp only[az,jS,List.cons.injEq,true_and,Nat.add_le_add_iff_right];exact this
  ·rw[if_neg e]
   simp only[jS,List.cons.injEq];constructor
   ·intro h; omega
   ·rintro⟨_,_,h,_⟩; exact absurd h e
theorem IA(a b:Qb):lcp a b<=a.length/\lcp a b<=b.length:=by
 have:=(Ee (lcp a b) a b).1 nr;exact⟨this.1,this.2.1⟩
def ja(a y:Qb):Nat->Nat×Nat
 | 0=>(0,0)
 | m+1=>if(ja a y m).2<lcp (a.drop m) y then(m,lcp (a.drop m) y) else ja a y m
def iD(a y:Qb):Nat×Nat:=ja a y a.length
theorem lG(a y:Qb):∀m,(∀i,i<m->lcp (a.drop i) y<=(ja a y m).2)/\((ja a y m).2=0->(ja a y m).1=0)/\(0<(ja a y m).2->(ja a y m).1<m/\lcp (a.drop (ja a y m).1) y=(ja a y m).2/\∀i,i<(ja a y m).1->lcp (a.drop i) y<(ja a y m).2)
 | 0=>⟨fun i h=>by omega,fun _=>rfl,fun h=>by simp[ja] at h⟩
 | m+1=>by
  obtain⟨A,C,D⟩:=lG a y m;rw[ja];by_cases e:(ja a y m).2<lcp (a.drop m) y
  ·rw[if_pos e]
   refine⟨fun i B=>?_,fun h=>?_,fun _=>⟨by simp,rfl,fun i B=>?_⟩⟩
   ·by_cases ei:i=m
    ·subst ei; exact nr
    ·have:=A i (by omega)
     simp only; omega
   ·simp only at h; omega
   ·have:=A i B
    simp only; omega
  ·rw[if_neg e]
   refine⟨fun i B=>?_,C,fun h=>?_⟩
   ·by_cases ei:i=m
    ·subst ei; omega
    ·exact A i (by omega)
   ·obtain⟨g1,g2,g3⟩:=D h
    exact⟨by omega,g2,g3⟩
theorem ES(a y:Qb):(iD a y).2<=y.length/\(iD a y).1+(iD a y).2<=a.length:=by
 obtain⟨g1,g2,g3⟩:=lG a y a.length;unfold iD;by_cases h:0<(ja a y a.length).2
 ·obtain⟨k1,k2,k3⟩:=g3 h
  have:=IA (a.drop (ja a y a.length).1) y;rw[k2,ah] at this;omega
 ·have A:(ja a y a.length).2=0:=by omega
  rw[A,g2 A]; omega
def Ko(l:List Dop)(x:Dop):List Dop:=
 match l.getLast? with
 | none=>[x]
 | some y=>
  if x.len=0/\y.len=0 then l.dropLast++[⟨0,0,y.data++x.data⟩]
  else if 0<x.len/\0<y.len/\y.off+y.len=x.off then l.dropLast++[⟨y.off,y.len+x.len,[]⟩]
  else l++[x]
def eH(a b:Qb)(k:Nat):Dop:=if 4<=(iD a (b.drop k)).2 then⟨(iD a (b.drop k)).1,(iD a (b.drop k)).2,[]⟩ else⟨0,0,(b.drop k).take 1⟩
def uU(a b:Qb):Nat->Nat->List Dop->List Dop
 | 0,_,l=>l
 | f+1,k,l=>if k<b.length then uU a b f (k+bS (eH a b k)) (Ko l (eH a b k)) else l
def iM(a b:Qb):List Dop:=uU a b b.length 0 []
theorem lV(A:k<b.length):1<=bS (eH a b k)/\k+bS (eH a b k)<=b.length:=by
 have h:=(ES a (b.drop k)).1;rw[ah] at h;unfold eH;split
 ·unfold bS
  simp only;rw[if_pos (by omega)]; omega
 ·unfold bS
  simp only;rw[if_neg (by omega),aA,ah]; omega
def mR(o:Dop):Prop:=(0<o.len/\o.data=[])\/(o.len=0/\o.off=0/\o.data≠[])
theorem gI(h:mR o):cZ o=true↔0<o.len:=by
 unfold cZ;rcases h with⟨A,B⟩ | ⟨A,B,C⟩
 ·simp[A,B]
 ·simp[A]
theorem CU(h:mR o):wZ o=true↔o.len=0:=by
 unfold wZ;rcases h with⟨B,A⟩ | ⟨B,A,C⟩
 ·simp[A]; omega
 ·simp[B,A,C]
theorem Pd(h:¬(cZ o=false/\wZ o=false)):mR o:=by
 unfold cZ wZ at h;unfold mR;by_cases A:0<o.len <;> by_cases B:o.data=[] <;> by_cases C:o.off=0 <;> simp_all <;> omega
theorem Pf(h:mR o):¬(cZ o=false/\wZ o=false):=by
 rintro⟨A,B⟩;by_cases e:o.len=0
 ·rw[(CU h).2 e] at B; cases B
 ·rw[(gI h).2 (by omega)] at A; cases A
structure qJ (a out:Qb) (l:List Dop):Prop where
 fit:∀o∈l,mR o
 inr:∀o∈l,0<o.len->o.off+o.len<=a.length
 out:l.flatMap (oO a)=out
theorem qJ.nil(a:Qb):qJ a [] []:=⟨fun o h=>by simp at h,fun o h=>by simp at h,rfl⟩
theorem lU(h:mR o)(A:0<o.len):oO a o=(a.drop o.off).take o.len:=by unfold oO; rw[if_pos ((gI h).2 A)]
theorem qg(h:o.len=0):oO a o=o.data:=by unfold oO cZ; rw[if_neg (by simp[h])]
theorem Cu(h:mR o)(A:0<o.len->o.off+o.len<=a.length):(oO a o).length=bS o:=by
 unfold bS;by_cases e:0<o.len
 ·rw[lU h e,if_pos e,aA,ah]
  have:=A e;omega
 ·rw[qg (by omega),if_neg e]
theorem qJ.sum(h:qJ a out l):(l.map bS).sum=out.length:=by
 obtain⟨B,C,D⟩:=h;rw[<-D];clear D;induction l with
 | nil=>rfl
 | cons o l ih=>
  rw[eX,List.sum_cons,bR,af,Cu (B o (by simp)) (C o (by simp)),ih (fun x A=>B x (by simp[A])) (fun x A=>C x (by simp[A]))]
theorem xL(a:Qb)(i n m:Nat):(a.drop i).take n++(a.drop (i+n)).take m=(a.drop i).take (n+m):=by
 rw[List.take_add,eY]
theorem qJ.add{x:Dop}(h:qJ a out l)(G:mR x)(D:0<x.len->x.off+x.len<=a.length):qJ a (out++oO a x) (Ko l x):=by
 obtain⟨B,C,K⟩:=h;subst K;unfold Ko;rcases iI l with rfl | ⟨l',y,rfl⟩
 ·simp only[List.getLast?_nil,List.flatMap_nil,aY]
  exact⟨fun o A=>by rw[aH.1 A]; exact G,fun o A=>by rw[aH.1 A]; exact D,by simp⟩
 ·rw[iJ] at *
  simp only[List.getLast?_append,List.getLast?_singleton,Option.some_or,List.dropLast_concat];have J:=B y (by simp);have L:=C y (by simp);have E:∀o∈l',mR o:=fun o A=>B o (by simp[A])
  have F:∀o∈l',0<o.len->o.off+o.len<=a.length:=fun o A=>C o (by simp[A])
  have key:∀z:Dop,mR z->(0<z.len->z.off+z.len<=a.length)->oO a z=oO a y++oO a x->qJ a ((l'++[y]).flatMap (oO a)++oO a x) (l'++[z]):=fun z M I e=>by
   refine⟨fun o A=>?_,fun o A=>?_,?_⟩
   ·rcases aD.1 A with A | A
    ·exact E o A
    ·rw[aH.1 A]; exact M
   ·rcases aD.1 A with A | A
    ·exact F o A
    ·rw[aH.1 A]; exact I
   ·rw[bg,bg,ay]
    simp[e]
  by_cases c1:x.len=0/\y.len=0
  ·rw[if_pos c1]
   have H:y.data≠[]:=by
    rcases J with⟨g,_⟩ | ⟨_,_,g⟩
    ·omega
    ·exact g
   refine key _ (.inr ⟨rfl,rfl,by simp[H]⟩) (fun e=>by simp at e) ?_;rw[qg (o:=⟨0,0,y.data++x.data⟩) rfl,qg c1.1,qg c1.2]
  ·rw[if_neg c1]
   by_cases c2:0<x.len/\0<y.len/\y.off+y.len=x.off
   ·rw[if_pos c2]
    obtain⟨g1,g2,g3⟩:=c2;have g4:=D g1;refine key _ (.inl ⟨by simp only; omega,rfl⟩) (fun _=>by simp only; omega) ?_;rw[lU (o:=⟨y.off,y.len+x.len,[]⟩) (.inl ⟨by simp only; omega,rfl⟩) (by simp only; omega),lU J g2,lU G g1,<-g3,xL]
   ·rw[if_neg c2]
    refine⟨fun o A=>?_,fun o A=>?_,?_⟩
    ·rcases aD.1 A with A | A
     ·exact B o A
     ·rw[aH.1 A]; exact G
    ·rcases aD.1 A with A | A
     ·exact C o A
     ·rw[aH.1 A]; exact D
    ·rw[bg]; simp
theorem EH{n:Nat}:∀(l:List Dop) (p:Nat),(∀o∈l,mR o)->(∀o∈l,0<o.len->o.off+o.len<=n)->p+(l.map bS).sum<=65536->vQ n l p=0
 | [],p,_,_,_=>rfl
 | o::l,p,A,C,D=>by
  rw[eX,List.sum_cons] at D;rw[vQ,if_neg (Pf (A o (by simp))),if_neg (fun e=>by
   have:=C o (by simp) ((gI (A o (by simp))).1 e.1)
   omega),if_neg (by omega)]
  exact EH l _ (fun x B=>A x (by simp[B])) (fun x B=>C x (by simp[B])) (by omega)
theorem sF(h:mR o):1<=bS o:=by
 unfold bS;rcases h with⟨A,B⟩ | ⟨A,B,C⟩
 ·rw[if_pos A]; exact A
 ·rw[if_neg (by omega)]; exact bJ.2 C
theorem yO{n:Nat}:∀(l:List Dop) (p:Nat),vQ n l p=0->p<=65536->(∀o∈l,mR o/\bS o<=65536/\(0<o.len->o.off+o.len<=n))/\p+l.length<=65536
 | [],p,_,C=>⟨fun o h=>by simp at h,by simpa using C⟩
 | o::l,p,h,C=>by
  rw[vQ] at h;by_cases c1:cZ o=false/\wZ o=false
  ·rw[if_pos c1] at h; simp at h
  rw[if_neg c1] at h;by_cases c2:cZ o=true/\(n<o.len\/n<o.off+o.len)
  ·rw[if_pos c2] at h; simp at h
  rw[if_neg c2] at h;by_cases c3:65536<bS o+p
  ·rw[if_pos c3] at h; simp at h
  rw[if_neg c3] at h;have A:=Pd c1;have hs:=sF A;obtain⟨g1,g2⟩:=yO l _ h (by omega);refine⟨fun x B=>?_,by rw[az]; omega⟩;rcases List.mem_cons.1 B with rfl | B
  ·refine⟨A,by omega,fun e=>?_⟩
   by_cases e2:x.off+x.len<=n
   ·exact e2
   ·exact absurd ⟨(gI A).2 e,.inr (by omega)⟩ c2
  ·exact g1 x B
theorem zV(D:k<b.length):mR (eH a b k)/\(0<(eH a b k).len->(eH a b k).off+(eH a b k).len<=a.length)/\b.take k++oO a (eH a b k)=b.take (k+bS (eH a b k)):=by
 have h:=ES a (b.drop k);rw[ah] at h;unfold eH;split
 ·rename_i B
  have A:mR ⟨(iD a (b.drop k)).1,(iD a (b.drop k)).2,[]⟩:=.inl ⟨by simp only; omega,rfl⟩;refine⟨A,fun _=>h.2,?_⟩;rw[lU A (by simp only; omega)];unfold bS;simp only;rw[if_pos (by omega),List.take_add];congr 1;obtain⟨g1,g2,g3⟩:=lG a (b.drop k) a.length;obtain⟨k1,k2,k3⟩:=g3 (by unfold iD at B; omega);have k4:=((Ee _ _ _).1 (Nat.le_of_eq k2.symm)).2.2;unfold iD;exact k4
 ·have C:(b.drop k).take 1≠[]:=fun e=>by
   have:=congrArg List.length e;rw[aA,ah,aK] at this;omega
  refine⟨.inr ⟨rfl,rfl,C⟩,fun e=>by simp at e,?_⟩;rw[qg rfl];unfold bS;simp only;rw[if_neg (by omega),List.take_add];congr 1;rw[aA,ah];congr 1;omega
theorem uT{a b:Qb}:∀(f k:Nat) {l:List Dop},qJ a (b.take k) l->b.length<=k+f->qJ a b (uU a b f k l)
 | 0,k,l,h,F=>by rw[uU]; rwa[ag (by omega)] at h
 | f+1,k,l,h,F=>by
  rw[uU];split
  ·rename_i B
   obtain⟨C,D,E⟩:=zV (a:=a) B;have A:=h.add C D;rw[E] at A;have G:=(lV (a:=a) B).1;exact uT f _ A (by omega)
  ·rwa[ag (by omega)] at h
theorem uS(a b:Qb):qJ a b (iM a b):=uT _ _ (qJ.nil a) (by omega)
theorem xA(D:a.length<=n)(A:n<=65536)(C:b.length<=65536):bW (iM a b) n=0:=by
 have h:=uS a b;unfold bW;rw[if_neg (by omega)];exact EH _ _ h.fit (fun o B e=>by have:=h.inr o B e; omega) (by rw[h.sum]; omega)
theorem Ni(h:mR o)(B:o.len<=1099511627776)(C:o.off<=1099511627776)(A:o.data.length<=65536)(r:Qb):opS (mU o++r)=some (o,(mU o).length):=by
 obtain⟨off,len,data⟩:=o;simp only at B C A;unfold opS mU;simp only;rw[ay,Cw.getI_enc len B];simp only[aj,qL];rw[if_neg (by simp)];by_cases e:0<len
 ·rw[if_pos (by omega),if_pos ((gI h).2 e),Cw.getI_enc off C]
  simp only[aj];rw[if_neg (by simp),af];have:data=[]:=by
   rcases h with⟨_,g⟩ | ⟨g,_⟩
   ·exact g
   ·simp only at g; omega
  rw[this]
 ·have D:¬cZ ⟨off,len,data⟩=true:=fun c=>e ((gI h).1 c)
  rw[if_neg (by omega),if_neg D];have e1:(putT data).1=Cw.enc data.length++data:=by unfold putT; rw[if_pos A]
  rw[e1,yx A];simp only[aj];rw[if_neg (by simp)];have g:len=0/\off=0:=by
   rcases h with⟨g,_⟩ | ⟨g,g2,_⟩
   ·simp only at g; omega
   ·exact⟨g,g2⟩
  rw[g.1,g.2];simp
theorem zS:∀(l acc:List Dop) (r:Qb),(∀o∈l,mR o/\o.len<=1099511627776/\o.off<=1099511627776/\o.data.length<=65536)->jy l.length (l.flatMap mU++r) acc=some (acc++l,r)
 | [],acc,r,_=>by simp[jy]
 | o::l,acc,r,h=>by
  obtain⟨A,B,C,D⟩:=h o (by simp);rw[az,jy,bR,ay,Ni A B C D];simp only[qL];rw[zS l _ r (fun x E=>h x (by simp[E])),ay];rfl
theorem ED(A:bW l 65536=0):AV l=(Cw.enc l.length++l.flatMap mU,0)/\sK (AV l).1=(l,0):=by
 have B:AV l=(Cw.enc l.length++l.flatMap mU,0):=by unfold AV; rw[if_neg (by simp[A])]
 refine⟨B,?_⟩;rw[B];simp only;have h:=A;unfold bW at h;rw[if_neg (by omega)] at h;obtain⟨g1,g2⟩:=yO l 0 h (by omega);have hs:∀o∈l,mR o/\o.len<=1099511627776/\o.off<=1099511627776/\o.data.length<=65536:=fun o C=>by
  obtain⟨a1,a2,a3⟩:=g1 o C;unfold bS at a2;refine⟨a1,?_⟩;rcases a1 with⟨b1,b2⟩ | ⟨b1,b2,b3⟩
  ·rw[if_pos b1] at a2
   have:=a3 b1;rw[b2]; simp only[aK]; omega
  ·rw[if_neg (by omega)] at a2
   omega
 unfold sK;rw[Cw.getI_enc l.length (by omega)];simp only[aj,qL];rw[if_neg (by simp)];have:=zS l [] [] hs;rw[bG] at this;rw[this];simp[A]
def jnF(st:List Dop×Qb):List Dop:=if st.2=[] then st.1 else st.1++[⟨0,0,st.2⟩]
def jnC(l:List Dop)(o:Dop):List Dop:=
 match l.getLast? with
 | some y=>if cZ y=true/\y.off+y.len=o.off then l.dropLast++[⟨y.off,y.len+o.len,y.data⟩] else l++[o]
 | none=>l++[o]
def jnS(st:List Dop×Qb)(o:Dop):List Dop×Qb:=if wZ o=true then(st.1,st.2++o.data) else(jnC (jnF st) o,[])
def K6(l:List Dop):Prop:=∀y,l.getLast? = some y->cZ y=true
theorem IC:K6 []:=fun y h=>by simp at h
theorem OV{st:List Dop×Qb}(K:K6 st.1)(H:mR o):jnF (jnS st o)=Ko (jnF st) o/\K6 (jnS st o).1:=by
 obtain⟨l,x⟩:=st;simp only at K;by_cases D:o.len=0
 ·have ei:wZ o=true:=(CU H).2 D
  have od:o.data≠[]/\o=⟨0,0,o.data⟩:=by
   obtain⟨off,len,data⟩:=o;rcases H with⟨g,_⟩ | ⟨g1,g2,g3⟩
   ·simp only at g D; omega
   ·simp only at g1 g2 g3; subst g1; subst g2; exact⟨g3,rfl⟩
  unfold jnS;rw[if_pos ei];refine⟨?_,K⟩;unfold jnF;simp only;rw[if_neg (by simp[od.1])];by_cases I:x=[]
  ·subst I
   rw[if_pos rfl];unfold Ko;cases F:l.getLast? with
   | none=>
    rw[List.getLast?_eq_none_iff] at F;subst F;simp only[aY];rw[<-od.2]
   | some y=>
    have B:=K y F;have M:0<y.len:=by unfold cZ at B; simp at B; exact B.1
    simp only[aY];rw[if_neg (by omega),if_neg (by omega),<-od.2]
  ·rw[if_neg I]
   unfold Ko;simp only[List.getLast?_append,List.getLast?_singleton,Option.some_or,List.dropLast_concat];rw[if_pos (by simp[D])]
 ·have ei:¬wZ o=true:=fun e=>D ((CU H).1 e)
  have oc:0<o.len/\o.data=[]:=by
   rcases H with g | ⟨g1,_⟩
   ·exact g
   ·exact absurd g1 D
  have G:cZ o=true:=(gI H).2 oc.1;unfold jnS;rw[if_neg ei];have e1:jnF (jnC (jnF (l,x)) o,[])=jnC (jnF (l,x)) o:=by unfold jnF; rw[if_pos rfl]
  rw[e1];simp only;have C:∀y,(jnF (l,x)).getLast? = some y->(cZ y=true/\y.data=[]/\0<y.len)\/(cZ y=false/\y.len=0):=fun y B=>by
   unfold jnF at B;simp only at B;by_cases I:x=[]
   ·rw[if_pos I] at B
    have h:=K y B;have J:=h;unfold cZ at J;simp at J;exact .inl ⟨h,J.2,J.1⟩
   ·rw[if_neg I] at B
    simp only[List.getLast?_append,List.getLast?_singleton,Option.some_or] at B;cases B;exact .inr ⟨by simp[cZ],rfl⟩
  generalize jnF (l,x)=L at C;unfold jnC Ko;cases F:L.getLast? with
  | none=>
   rw[List.getLast?_eq_none_iff] at F;subst F;exact⟨rfl,fun y B=>by simp at B; rw[<-B]; exact G⟩
  | some y=>
   simp only;rcases C y F with⟨g1,g2,g3⟩ | ⟨g1,g2⟩
   ·by_cases A:y.off+y.len=o.off
    ·rw[if_pos ⟨g1,A⟩,if_neg (fun e=>D e.1),if_pos ⟨oc.1,g3,A⟩,g2]
     refine⟨rfl,fun z E=>?_⟩;simp only[List.getLast?_append,List.getLast?_singleton,Option.some_or] at E;cases E;unfold cZ;simp; omega
    ·rw[if_neg (fun e=>A e.2),if_neg (fun e=>D e.1),if_neg (fun e=>A e.2.2)]
     refine⟨rfl,fun z E=>?_⟩;simp only[List.getLast?_append,List.getLast?_singleton,Option.some_or] at E;cases E;exact G
   ·rw[if_neg (fun e=>by rw[g1] at e; cases e.1),if_neg (fun e=>D e.1),if_neg (fun e=>by omega)]
    refine⟨rfl,fun z E=>?_⟩;simp only[List.getLast?_append,List.getLast?_singleton,Option.some_or] at E;cases E;exact G
open Go.RowKit Go.Shelf
theorem xD(h:bW l a.length≠0):gP a l=([],bW l a.length):=by unfold gP; rw[if_pos h]
theorem Bz(h:bW l a.length=0):gP a l=(l.flatMap (oO a),0):=by unfold gP; rw[if_neg (by simp[h])]
structure DFit (a:Qb) (l:List Dop):Prop where
 fit:∀o∈l,mR o
 inr:∀o∈l,0<o.len->o.off+o.len<=a.length
 siz:∀k,((l.take k).flatMap (oO a)).length<=65536
 al:a.length<=65536
 ll:l.length<=65536
theorem JJ{n:Nat}:∀(l:List Dop) (p:Nat),vQ n l p=0->p<=65536->p+(l.map bS).sum<=65536
 | [],p,_,A=>by simpa using A
 | o::l,p,h,A=>by
  rw[vQ] at h;by_cases c1:cZ o=false/\wZ o=false
  ·rw[if_pos c1] at h; simp at h
  rw[if_neg c1] at h;by_cases c2:cZ o=true/\(n<o.len\/n<o.off+o.len)
  ·rw[if_pos c2] at h; simp at h
  rw[if_neg c2] at h;by_cases c3:65536<bS o+p
  ·rw[if_pos c3] at h; simp at h
  rw[if_neg c3] at h;have:=JJ l _ h (by omega);rw[eX,List.sum_cons];omega
theorem Dl(h:bW l n=0):n<=65536/\vQ n l 0=0:=by
 unfold bW at h;by_cases e:65536<n
 ·rw[if_pos e] at h; simp at h
 ·rw[if_neg e] at h; exact⟨by omega,h⟩
theorem Ju(h:bW l a.length=0):DFit a l:=by
 obtain⟨C,B⟩:=Dl h;obtain⟨g1,g2⟩:=yO l 0 B (by omega);have g3:=JJ l 0 B (by omega);refine⟨fun o A=>(g1 o A).1,fun o A=>(g1 o A).2.2,fun k=>?_,C,by omega⟩;have gd:qJ a ((l.take k).flatMap (oO a)) (l.take k):=⟨fun o A=>(g1 o (dK A)).1,fun o A=>(g1 o (dK A)).2.2,rfl⟩;rw[<-gd.sum];have hs:((l.take k).map bS).sum<=(l.map bS).sum:=by
  conv=>rhs; rw[<-aQ k l,dJ,List.sum_append]
  omega
 omega
theorem NH(h:DFit a l)(B:0<l.length):l.flatMap (oO a)≠[]:=by
 cases l with
 | nil=>simp at B
 | cons o l=>
  rw[bR];intro e;have A:=congrArg List.length (List.append_eq_nil_iff.1 e).1;rw[Cu (h.fit o (by simp)) (h.inr o (by simp)),aK] at A;have:=sF (h.fit o (by simp));omega
theorem Jf(h:k<l.length):(l.take (k+1)).flatMap (oO a)=(l.take k).flatMap (oO a)++oO a l[k]:=by
 rw[ai h,bg];simp
theorem Gq(A:Qb)(a:Qa)(l:List Dop)(c:Nat)(w:World)(hl:GIn jm 3 w.heap.size w a l)(hA:(A.length:Int)<=140737488355328)(D8:(l.length:Int)<=9223372036854775807)(hs:∀o∈l,o.data.length<=1099511627776/\o.len<=1099511627776/\o.off<=1099511627776):
  Qh 248 #[.string ⟨A.toArray⟩,.slice a l.length c] w fun e w'=>e=.returned (.tuple #[.string ⟨(gP A l).1.toArray⟩,.int .i64 (gP A l).2])/\PM w w':=by
 obtain⟨R,hR⟩:=Qe (gP A l);rw[<-hR];have E:Qg (bW l A.length≠0->R=([],bW l A.length)):=Qf (fun h=>hR.trans (xD h));have N:Qg (bW l A.length=0->R=(l.flatMap (oO A),0)):=Qf (fun h=>hR.trans (Bz h));have M:Qg (bW l A.length=0->DFit A l):=Qf Ju;have I:=Qf (qz a l c A.length w hl (by omega) D8 hs);have E2:=bH A;obtain⟨n,hn⟩:=Qe A.length;rw[<-hn] at I E2;obtain⟨m,hm⟩:=Qe l.length;rw[<-hm] at I ⊢;have HM:=Qf hm;have HL:=Qf hl;obtain⟨ce,A4⟩:=Qe (bW l A.length);rw[<-A4] at E N M;rw[hn,<-A4,<-hn] at I;have A1:=Qf hn;clear hR hl hs hm A4 hn;by_cases P:ce=0
 case neg=>
  have A7:(ce !=0)=true:=by simpa using P
  have HR:=Qf (E.o P);clear E N M P;go_enter Tryz.func248,Tryz.ntmps248;go_wp2_with fail
  refine I.o.mono ?_;rintro e u1 ⟨rfl,B⟩
  have D0:=Qf B;clear B I;go_wp2_with fail;go_ret2;rw[HR.o];exact⟨rfl,D0.o⟩
 case pos=>
 subst P;have HR:=Qf (N.o rfl);have Z:=Qf (M.o rfl);clear E N M;go_enter Tryz.func248,Tryz.ntmps248;go_wp2_with fail
 refine I.o.mono ?_;rintro e u1 ⟨rfl,B⟩
 obtain⟨b,K⟩:=Qe u1.heap.size;obtain⟨u2,U⟩:=Qe (u1.alloc (.cells #[.pointer none,.slice none 0 0] 118));have C0:PM u1 u2:=by rw[U]; exact ba _ _
 have A5:u2.heap[b]? = some (.cells #[.pointer none,.slice none 0 0] 118 (0,0)):=by rw[U,K]; exact World.alloc_heap_new _ _
 have D1:=Qf A5;have B3:=Qf (BW.start (B.trans (C0.mono B.size)) (by rw[K]; exact B.size) A5);have E4:Qg (w.heap.size<=b):=Qf (by rw[K]; exact B.size);have B5:=Qf U;have B2:=Qf K;clear B C0 A5 I U K;go_wp2_with fail;rw[<-B5.o,<-B2.o];clear B5 B2;go_loopw [19] (fun i wr=>∃k:Nat,k<=m/\i=.int .i64 (k:Int)/\Qg (BW w u2 b ((l.take k).flatMap (oO A)) wr)/\Qg (k=0->wr=u2)) (fun i _=>m-(intOf i).toNat)
 case atStart=>exact⟨0,by omega,rfl,B3,Qf (fun _=>rfl)⟩
 case round=>
  clear B3;obtain⟨k,hk,rfl,O,HZ⟩:=hrel;by_cases D9:k<m
  ·have D6:(k:Int)<(m:Int):=by omega
   have h1:k<l.length:=by rw[<-HM.o]; exact D9
   obtain⟨b0,of0,D3,D5,q0,q1,q2⟩:=xX (HL.o.ahead O.out.bel) h1;subst D3;have H:=Z.o.fit _ (ak h1);have Q:=Z.o.inr _ (ak h1);have S:=Z.o.siz (k+1);have HT:=Qf (Jf (a:=A) h1);rw[HT.o,af] at S;have C4:=Cu H Q;generalize l[k]=o at q0 q1 q2 H Q S HT C4;have D4:=Z.o.al;rw[<-A1.o] at D4;have F:Qg (0<o.len->oO A o=(A.drop o.off).take (o.off+o.len-o.off)/\cZ o=true/\o.off<=o.off+o.len/\o.off+o.len<=n):=Qf (fun h=>⟨by rw[lU H h,jR],(gI H).2 h,by omega,by rw[A1.o]; exact Q h⟩);have G:Qg (o.len=0->oO A o=o.data/\cZ o=false):=Qf (fun h=>⟨qg h,by
    cases hc:cZ o with
    | false=>rfl
    | true=>exact absurd ((gI H).1 hc) (by omega)⟩)
   obtain⟨T,hT⟩:=Qe ((l.take k).flatMap (oO A));rw[<-hT] at O HT S;obtain⟨D,hD⟩:=Qe (oO A o);rw[<-hD] at F G HT S;have Y:=Qf (fun W=>lW o W);obtain⟨cb,C1⟩:=Qe (cZ o);rw[<-C1] at Y F G;obtain⟨off,len,data⟩:=o;simp only[Dop.val] at *
   clear H Q C4 hT hD C1 D5;obtain⟨v0,L⟩:=Qe (wr.alloc (.cells #[.int .i64 (off:Int),.int .i64 (len:Int),.string ⟨data.toArray⟩] 246));have B9:PM wr v0:=by rw[L]; exact ba _ _
   have B7:=Qf (O.out.below B9);have B4:Qg (BK wr.heap.size #[.int .i64 (off:Int),.int .i64 (len:Int),.string ⟨data.toArray⟩] 246 v0):=Qf (by rw[L]; exact BK.new _ _ _);have I:=Qf (Y.o v0);rw[L] at I;have B6:=Qf L;clear L B9 O HZ Y;go_wp2_with fail
   refine I.o.mono ?_;rintro e v1 ⟨rfl,B⟩
   rw[<-B6.o] at B;have C:=Qf (B7.o.below B);have A0:=Qf (B4.o.below B);clear B I B6 B7 B4 q0 q1 q2;obtain⟨q0,q1,q2⟩:=BK.c3 A0.o;cases cb with
   | true=>
    by_cases A6:0<len
    ·obtain⟨e1,_,e2,e3⟩:=F.o A6
     have A8:IntKind.i64.wrap ((off:Int)+(len:Int))=((off+len:Nat):Int):=by rw[wrap_i64 (by omega) (by omega)]; omega
     have E1:=fun W=>DD A off (off+len) e2 (by rw[<-A1.o]; exact e3) W
     rw[<-e1] at E1;have E6:(⟨A.toArray⟩:ByteArray).extract off (off+len)=⟨D.toArray⟩:=by rw[dw,<-e1]
     have A3:=Qf (cz C.o D (by omega));clear F G e1 C A0;go_wp2_with fail
     refine A3.o.mono ?_;rintro e v2 ⟨rfl,J⟩
     rw[<-HT.o] at J;go_wp2_with fail;go_roundw
     case rel=>exact⟨k+1,by omega,by go_num,J,Qf (fun h=>by omega)⟩
     case measure=>simp[intOf] <;> omega
    ·exfalso
     have:=(G.o (by omega)).2;cases this
   | false=>
    by_cases A6:0<len
    ·exfalso
     have:=(F.o A6).2.1;cases this
    ·obtain⟨e1,_⟩:=G.o (by omega)
     subst e1;have A3:=Qf (cz C.o D (by omega));clear F G C A0;go_wp2_with fail
     refine A3.o.mono ?_;rintro e v2 ⟨rfl,J⟩
     rw[<-HT.o] at J;go_wp2_with fail;go_roundw
     case rel=>exact⟨k+1,by omega,by go_num,J,Qf (fun h=>by omega)⟩
     case measure=>simp[intOf] <;> omega
  ·obtain rfl:k=m:=by omega
   have D6:¬(k:Int)<(k:Int):=by omega
   have A2:Qg (l.take k=l):=Qf (ag (by rw[<-HM.o]; omega));rw[A2.o] at O;by_cases C2:k=0
   ·have A8:=HZ.out C2
    have V:l.flatMap (oO A)=[]:=by
     have:l=[]:=List.length_eq_zero_iff.1 (by rw[<-HM.o]; exact C2);rw[this]; rfl
    rw[V] at HR;have HB:=Qf O.out.bel;rw[A8] at HB ⊢;have HS:=Qf (Bo D1.o);clear O HZ A8 V Z HL A2;go_wp2_with fail
    refine HS.o.mono ?_;rintro e v1 ⟨rfl,B⟩
    have X:=Qf (HB.o.trans (B.mono HB.o.size));clear B HS;go_wp2_with fail;go_ret2;rw[HR.o];exact⟨rfl,X.o⟩
   ·have A7:=NH Z.o (by rw[<-HM.o]; omega)
    have HS:=Qf (vC O.out A7);obtain⟨T,hT⟩:=Qe (l.flatMap (oO A));rw[<-hT] at HS HR;clear O HZ A7 Z HL A2;go_wp2_with fail
    refine HS.o.mono ?_;rintro e v1 ⟨rfl,C⟩
    have X:=Qf C.o.bel;clear C HS hT;go_wp2_with fail;go_ret2;rw[HR.o];exact⟨rfl,X.o⟩
open Go.RowKit
structure Pe where
 d:Int×Int
 kind:Int
 base:Int×Int
 off:Nat
 len:Nat
def CS(l:Qb):Int×Int:=(mJ (l.take 8),mJ ((l.drop 8).take 8))
theorem Cx(l:Qb):OkD (CS l):=by
 obtain⟨A,B⟩:=gu (l.take 8) (by rw[aA]; omega);obtain⟨C,D⟩:=gu ((l.drop 8).take 8) (by rw[aA]; omega);exact⟨⟨A,B⟩,C,D⟩
def dY(b:Qb)(k:Nat):Option Pe:=
 if b.length<k+16 then none else
 if(Cw.getI (b.drop (k+16))).2.2≠0\/((Cw.getI (b.drop (k+16))).1≠0/\(Cw.getI (b.drop (k+16))).1≠1) then none else
 if(Cw.getI (b.drop (k+16))).1=1/\b.length<k+16+(Cw.getI (b.drop (k+16))).2.1.toNat+16 then none else
 if(Cw.getT (b.drop (k+16+(Cw.getI (b.drop (k+16))).2.1.toNat+if(Cw.getI (b.drop (k+16))).1=1 then 16 else 0))).2.2≠0 then none else
 some ⟨CS (b.drop k),(Cw.getI (b.drop (k+16))).1,if(Cw.getI (b.drop (k+16))).1=1 then CS (b.drop (k+16+(Cw.getI (b.drop (k+16))).2.1.toNat)) else(0,0),
  (k+16+(Cw.getI (b.drop (k+16))).2.1.toNat+if(Cw.getI (b.drop (k+16))).1=1 then 16 else 0)+(Cw.getT (b.drop (k+16+(Cw.getI (b.drop (k+16))).2.1.toNat+if(Cw.getI (b.drop (k+16))).1=1 then 16 else 0))).2.1.toNat-(Cw.getT (b.drop (k+16+(Cw.getI (b.drop (k+16))).2.1.toNat+if(Cw.getI (b.drop (k+16))).1=1 then 16 else 0))).1.length,
  (Cw.getT (b.drop (k+16+(Cw.getI (b.drop (k+16))).2.1.toNat+if(Cw.getI (b.drop (k+16))).1=1 then 16 else 0))).1.length⟩
def D8(b:Qb):Nat->Nat->List Pe->List Pe×Int
 | 0,k,l=>if k=b.length then(l,0) else([],13)
 | n+1,k,l=>match dY b k with
  | none=>([],13)
  | some e=>if e.d∈l.map (·.d) then([],13) else D8 b n (e.off+e.len) (l++[e])
def tY(b:Qb):List Pe×Int:=if(Cw.getI b).2.2≠0\/1000<(Cw.getI b).1 then([],13) else D8 b (Cw.getI b).1.toNat (Cw.getI b).2.1.toNat []
def bi(s:Qb):List Pe×Int:=
 if s.length<16 then([],12) else if iY (s.take (s.length-16))≠CS (s.drop (s.length-16)) then([],14) else tY (s.take (s.length-16))
def BX(b:Qb):Qb:=b++beD (iY b)
structure PeAt (b:Qb) (k:Nat) (e:Pe):Prop where
 lo:k+18<=e.off+e.len
 off:k+18<=e.off
 hi:e.off+e.len<=b.length
 kind:e.kind=0\/e.kind=1
 dok:OkD e.d
 bok:OkD e.base
 text:(b.drop e.off).take e.len=(Cw.getT (b.drop (k+16+(Cw.getI (b.drop (k+16))).2.1.toNat+if(Cw.getI (b.drop (k+16))).1=1 then 16 else 0))).1
 tl:e.len<=65536
theorem En{l x:Qb}{k:Int}(h:Cw.getT l=(x,k,0)):x.length+1<=k.toNat/\k.toNat<=l.length/\(l.drop (k.toNat-x.length)).take x.length=x:=by
 obtain⟨D,E,F,B⟩:=lY h;have C:=congrArg List.length B;rw[aA,af] at C;have G:0<(Cw.enc x.length).length:=bJ.2 (xu _);refine⟨by omega,by omega,?_⟩;have A:=congrArg (List.drop (Cw.enc x.length).length) B;rw[qL,List.drop_take] at A;rw[show k.toNat-x.length=(Cw.enc x.length).length by omega];rw[show k.toNat-(Cw.enc x.length).length=x.length by omega] at A;exact A
theorem iB{e:Pe}(h:dY b k=some e):PeAt b k e/\e.kind=(Cw.getI (b.drop (k+16))).1:=by
 unfold dY at h;by_cases F:b.length<k+16
 ·rw[if_pos F] at h; cases h
 rw[if_neg F] at h;obtain⟨kd,u,er,C⟩:∃kd u er,Cw.getI (b.drop (k+16))=(kd,u,er):=⟨_,_,_,rfl⟩;rw[C] at h;simp only at h;by_cases B:er≠0\/(kd≠0/\kd≠1)
 ·rw[if_pos B] at h; cases h
 rw[if_neg B] at h;have H:er=0:=by
  by_cases e:er=0
  ·exact e
  ·exact absurd (.inl e) B
 subst H;obtain⟨_,_,g3,g4,_⟩:=bM C;by_cases G:kd=1/\b.length<k+16+u.toNat+16
 ·rw[if_pos G] at h; cases h
 rw[if_neg G] at h;obtain⟨q,E⟩:∃q,q=k+16+u.toNat+if kd=1 then 16 else 0:=⟨_,rfl⟩
 have I:k+17<=q:=by rw[E]; omega
 rw[<-E] at h;obtain⟨x,v,er2,A⟩:∃x v er2,Cw.getT (b.drop q)=(x,v,er2):=⟨_,_,_,rfl⟩;rw[A] at h;simp only at h;by_cases D:er2≠0
 ·rw[if_pos D] at h; cases h
 rw[if_neg D] at h;obtain rfl:er2=0:=by
  by_cases e:er2=0
  ·exact e
  ·exact absurd e D
 obtain⟨t1,t2,t3⟩:=En A;have t4:=(lY A).2.2.1;rw[ah] at t2;cases h;refine⟨⟨by simp only; omega,by simp only; omega,by simp only; omega,?_,Cx _,?_,?_,t4⟩,by rw[C]⟩
 ·simp only
  by_cases e:kd=0
  ·exact .inl e
  ·by_cases e1:kd=1
   ·exact .inr e1
   ·exact absurd (.inr ⟨e,e1⟩) B
 ·simp only
  split
  ·exact Cx _
  ·exact⟨⟨by decide,by decide⟩,by decide,by decide⟩
 ·simp only
  rw[C];simp only;rw[<-E,A];simp only;rw[eY] at t3;rw[show q+v.toNat-x.length=q+(v.toNat-x.length) by omega];exact t3
structure kN (b:Qb) (l:List Pe):Prop where
 nd:(l.map (·.d)).Nodup
 at_:∀e∈l,∃k,dY b k=some e
 up:∀i (h:i+1<l.length),l[i].off+l[i].len<l[i+1].off
theorem kN.nil(b:Qb):kN b []:=⟨List.nodup_nil,fun e h=>by simp at h,fun i h=>by simp at h⟩
theorem kN.snoc{l:List Pe}{e:Pe}(h:kN b l)(J:∀h:0<l.length,k=l[l.length-1].off+l[l.length-1].len)(E:dY b k=some e)(K:e.d∉l.map (·.d)):kN b (l++[e]):=by
 refine⟨?_,fun x A=>?_,fun i I=>?_⟩
 ·rw[dJ,List.nodup_append]
  refine⟨h.nd,by simp,fun a C c D e2=>?_⟩;simp only[eX,List.map_nil,aH] at D;rw[e2,D] at C;exact K C
 ·rcases aD.1 A with A | A
  ·exact h.at_ x A
  ·rw[aH.1 A]; exact⟨k,E⟩
 ·rw[af,aI] at I
  by_cases B:i+1<l.length
  ·rw[sU (by omega),sU B]
   exact h.up i B
  ·have F:i+1=l.length:=by omega
   have G:=J (by omega);have L:=(iB E).1.off;rw[sU (by omega),qK (by omega)];simp only[F,Nat.sub_self,aS];have H:l.length-1=i:=by omega
   simp only[H] at G;omega
theorem Ig:∀(n:Nat) {b:Qb} {k:Nat} {acc l:List Pe},kN b acc->(∀h:0<acc.length,k=acc[acc.length-1].off+acc[acc.length-1].len)->D8 b n k acc=(l,0)->kN b l/\l.length=acc.length+n
 | 0,b,k,acc,l,h,C,e=>by
  rw[D8] at e;split at e
  ·cases e; exact⟨h,rfl⟩
  ·simp at e
 | n+1,b,k,acc,l,h,C,e=>by
  rw[D8] at e;cases A:dY b k with
  | none=>rw[A] at e; simp at e
  | some x=>
   rw[A] at e;simp only at e;by_cases B:x.d∈acc.map (·.d)
   ·rw[if_pos B] at e; simp at e
   ·rw[if_neg B] at e
    obtain⟨g1,g2⟩:=Ig n (h.snoc C A B) (fun _=>by simp) e;refine⟨g1,?_⟩;rw[g2,af,aI]; omega
theorem D7:∀(n:Nat) {b:Qb} {k:Nat} {acc:List Pe},(D8 b n k acc).2≠0->D8 b n k acc=([],13)
 | 0,b,k,acc,h=>by
  rw[D8] at h ⊢;split
  ·rename_i e; rw[if_pos e] at h; simp at h
  ·rfl
 | n+1,b,k,acc,h=>by
  rw[D8] at h ⊢;cases A:dY b k with
  | none=>rfl
  | some x=>
   rw[A] at h;simp only at h ⊢;split
   ·rfl
   ·rename_i B
    rw[if_neg B] at h;exact D7 n h
theorem uM{l:List Pe}(h:bi s=(l,0)):kN (s.take (s.length-16)) l/\l.length<=1000/\16<=s.length:=by
 unfold bi at h;split at h
 ·simp at h
 ·split at h
  ·simp at h
  ·unfold tY at h
   split at h
   ·simp at h
   ·rename_i B _ A
    obtain⟨g1,g2⟩:=Ig _ (kN.nil _) (fun h=>by simp at h) h;refine⟨g1,?_,by omega⟩;rw[g2];have C:¬(1000<(Cw.getI (s.take (s.length-16))).1):=fun e=>A (.inr e)
    simp only[aK];omega
theorem AQ(h:(bi s).2≠0):(bi s).1=[]:=by
 unfold bi at h ⊢;split
 ·rfl
 ·rename_i A
  rw[if_neg A] at h;split
  ·rfl
  ·rename_i B
   rw[if_neg B] at h;unfold tY at h ⊢;split
   ·rfl
   ·rename_i C
    rw[if_neg C] at h;rw[D7 _ h]
def iK(s:Qb)(src:Qb×Int)(e:Pe):Qb×Int:=
 if e.kind=1 then
  (if src.2≠0 then src else if(sK ((s.drop e.off).take e.len)).2≠0 then([],13) else
   if(gP src.1 (sK ((s.drop e.off).take e.len)).1).2≠0 then([],13) else rightS (gP src.1 (sK ((s.drop e.off).take e.len)).1).1 e.d)
 else rightS ((s.drop e.off).take e.len) e.d
where rightS (t:Qb) (d:Int×Int):Qb×Int:=if(bI t).2≠0 then([],13) else if iY t≠d then([],15) else(t,0)
def rE(l:List Pe)(d:Int×Int):Option Nat:=l.findIdx? fun e=>decide (e.d=d)
def De(xs:List Itm)(d:Int×Int):Qb×Int:=match xs.find? fun x=>decide (x.d=d) with
 | some x=>(x.data,0)
 | none=>([],8)
def wu(xs:List Itm)(l:List Pe)(prev:Nat->Qb×Int)(i:Nat)(d:Int×Int):Qb×Int:=
 match rE l d with
 | some j=>if j<i then prev j else De xs d
 | none=>De xs d
def NP(s:Qb)(xs:List Itm)(l:List Pe):Nat->Nat->Qb×Int
 | 0,_=>([],0)
 | f+1,i=>match l[i]? with
  | none=>([],8)
  | some e=>iK s (wu xs l (NP s xs l f) i e.base) e
def NK(s:Qb)(xs:List Itm)(l:List Pe)(i:Nat):Qb×Int:=NP s xs l (i+1) i
theorem JD{s:Qb}{xs:List Itm}{l:List Pe}:∀(f g i:Nat),i<f->i<g->NP s xs l f i=NP s xs l g i
 | 0,_,i,h,_=>by omega
 | _,0,i,_,h=>by omega
 | f+1,g+1,i,A,B=>by
  rw[NP,NP];cases C:l[i]? with
  | none=>rfl
  | some e=>
   simp only;congr 1;unfold wu;cases D:rE l e.base with
   | none=>rfl
   | some j=>
    simp only;split
    ·exact JD f g j (by omega) (by omega)
    ·rfl
theorem JB{xs:List Itm}{l:List Pe}(h:i<l.length):NK s xs l i=iK s (wu xs l (NK s xs l) i l[i].base) l[i]:=by
 unfold NK;rw[NP,List.getElem?_eq_getElem h];simp only;congr 1;unfold wu;cases A:rE l l[i].base with
 | none=>rfl
 | some j=>
  simp only;split
  ·exact JD _ _ _ (by omega) (by omega)
  ·rfl
theorem Ai{l:List Pe}(h:rE l d=some i):∃h:i<l.length,l[i].d=d/\∀j (A:j<i),l[j].d≠d:=by
 unfold rE at h;rw[List.findIdx?_eq_some_iff_getElem] at h;obtain⟨B,C,D⟩:=h;exact⟨B,by simpa using C,fun j A=>by simpa using D j A⟩
theorem IZ{l:List Pe}:rE l d=none↔∀e∈l,e.d≠d:=by
 unfold rE;rw[List.findIdx?_eq_none_iff];simp
theorem Ny{l:List Pe}(E:(l.map (·.d)).Nodup)(h:i<l.length):rE l l[i].d=some i:=by
 cases A:rE l l[i].d with
 | none=>exact absurd rfl (IZ.1 A _ (ak h))
 | some j=>
  obtain⟨D,B,_⟩:=Ai A;have C:(l.map (·.d))[j]'(by simpa using D)=(l.map (·.d))[i]'(by simpa using h):=by simpa using B
  rw[(List.getElem_inj E).1 C]
def byC(c:UInt8):List Value:=[.int .u8 c.toNat]
theorem layBy:Lay byC 1:=⟨by decide,fun o=>rfl,fun o v A=>by
 simp only[byC,List.mem_cons,List.not_mem_nil,or_false] at A;subst A; rfl⟩
theorem Jd(l:Qb):gcs byC l=Lib.byteCells l:=by
 unfold gcs byC Lib.byteCells;induction l with
 | nil=>rfl
 | cons a l ih=>rw[bR,ih]; rfl
theorem Dt{base:Nat}{W:World}{v:Value}{l:Qb}(J:n=l.length)(B:W.ownsRow base 5 1 v n (Lib.byteCells l))(c:Int)(H:0<=c)(K:c<256)(D:(n:Int)<=1000000)(C:base<=W.heap.size):
  ∃v' W',Qg ((Builtin.append_ #[116,116] 116 #[v,.slice (some ⟨W.heap.size,0,none⟩) 1 1]).run Tryz.prog (W.alloc (.cells #[.int .u8 c] 5))=.ok v' W')/\W'.ownsRow base 5 1 v' (n+1) (Lib.byteCells (l++[UInt8.ofNat c.toNat]))/\(W.alloc (.cells #[.int .u8 c] 5)).grownBy W' v.ownBlock/\(v'.ownBlock=v.ownBlock\/v'.ownBlock=some (W.heap.size+1)):=by
 obtain⟨i0,I,E,F,G⟩:=info_parts IV;rw[<-Jd] at B;have h:=jb layBy Tryz.underlying116 I E F G rfl J B (UInt8.ofNat c.toNat) D (by decide) C;rw[Jd] at h;have e:(byC (UInt8.ofNat c.toNat)).toArray=#[.int .u8 c]:=by
  unfold byC;rw[Cw.toNat_ofNat _ (by omega),Int.toNat_of_nonneg H]
 rwa[e] at h
theorem nP(x y:Int)(hx:0<=x/\x<=18446744073709551615)(hy:0<=y/\y<=18446744073709551615)(w:World):Qh 147 #[.agg #[.int .u64 x,.int .u64 y]] w fun e w'=>e=.returned (.string ⟨(beD (x,y)).toArray⟩)/\PM w w':=by
 obtain⟨i0,S,O,Q,R⟩:=info_parts IV;obtain⟨u0,E⟩:=Qe (w.alloc (.cells #[.int .u64 x,.int .u64 y] 54));have F:PM w u0:=by rw[E]; exact ba _ _
 obtain⟨u,H,I,hg⟩:=run_make_own (P:=Tryz.prog) u0 w.heap.size 116 5 i0 _ 1 Tryz.underlying116 S O Q .i64 .i64 16 (by rw[R]; decide) (by decide) F.size;have D:=Qf (F.grown hg F.size (fun k h=>by cases h));have B:=Qf I;obtain⟨Z,hZ⟩:=Qe (Value.slice (some ⟨u0.heap.size,0,none⟩) 0 16);rw[<-hZ] at B H;rw[E] at H;have J:(w.alloc (.cells #[.int .u64 x,.int .u64 y] 54)).cell? ⟨w.heap.size,0,none⟩=some (.int .u64 x):=by rw[(BK.new w _ _).cell]; rfl
 have G:u.cell? ⟨w.heap.size,0,none⟩=some (.int .u64 x)/\u.cell? ⟨w.heap.size,1,none⟩=some (.int .u64 y):=by
  have N:w.heap.size<u0.heap.size:=by rw[E]; simp
  have hk:BK w.heap.size #[.int .u64 x,.int .u64 y] 54 u:=by
   have:=hg.block w.heap.size N (by simp);unfold BK;rw[this,E];exact BK.new w _ _
  exact⟨by rw[hk.cell]; rfl,by rw[hk.cell]; rfl⟩
 obtain⟨G,B1⟩:=G;have B0:(Instr.makeSlice 116 (.int .i64 0) (.int .i64 16)).run Tryz.prog (w.alloc (.cells #[.int .u64 x,.int .u64 y] 54))=.ok Z u:=H;clear E F I hg O Q R S J hZ H;go_enter Tryz.func147,Tryz.ntmps147;go_wp2_with fail;go_loopw [9,3] (fun i v wr=>∃k:Nat,k<=2/\i=.int .i64 (k:Int)/\Qg (PM w wr)/\Qg (wr.ownsRow w.heap.size 5 1 v (8*k) (Lib.byteCells (bU x y k)))) (fun i _ _=>2-(intOf i).toNat)
 case atStart=>exact⟨0,by omega,rfl,D,Qf (by simpa[bU,Lib.byteCells] using B.o)⟩
 case round=>
  clear D B;obtain⟨k,hk,rfl,D,B⟩:=hrel;by_cases N:k<2
  ·obtain⟨n,hn,B3,U⟩:∃n:Int,(∀W,(Instr.index 54 (.agg #[.int .u64 x,.int .u64 y]) (.int .i64 (k:Int))).run Tryz.prog W=.ok (.int .u64 n) W)/\0<=n/\Qg (bU x y (k+1)=bU x y k++be 8 n/\(bU x y k).length=8*k):=by
    rcases(show k=0\/k=1 by omega) with rfl | rfl
    ·exact⟨x,fun W=>by kernel_rfl,hx.1,Qf ⟨by simp[bU],by simp[bU]⟩⟩
    ·exact⟨y,fun W=>by kernel_rfl,hy.1,Qf ⟨rfl,by simp[bU,bY]⟩⟩
   have A6:(k:Int)<2:=by omega
   have dk:decide ((k:Int)<2)=true:=by simpa using A6
   obtain⟨L0,L⟩:=Qe (bU x y k);rw[<-L] at B U;clear L;go_wp2_with fail;go_loopw [6,3] (fun s v wr=>∃(j:Nat) (p:Qb),j<=8/\s=.int .i64 (8*(j:Int)-8)/\p.length+j=8/\Qg (p++be j n=be 8 n)/\Qg (PM w wr)/\Qg (wr.ownsRow w.heap.size 5 1 v (8*k+p.length) (Lib.byteCells (L0++p)))) (fun s _ _=>(intOf s+8).toNat)
   case atStart=>exact⟨8,[],by omega,rfl,by simp,Qf rfl,D,by rw[bG]; exact B⟩
   case round=>
    clear D B;obtain⟨j,p,hj,rfl,hp,X,D,B⟩:=hrel;cases j with
    | zero=>
     have A0:Qg (L0++p=bU x y (k+1)):=Qf (by rw[U.out.1,<-X.out]; simp[be]);rw[A0.o,show 8*k+p.length=8*(k+1) by omega] at B;go_wp2_with fail;go_roundw
     case rel=>exact⟨k+1,by omega,by go_num,D,B⟩
     case measure=>simp[intOf] <;> omega
    | succ i=>
     have A4:8*((i+1:Nat):Int)-8=8*(i:Int):=by omega
     rw[A4];obtain⟨z,hz⟩:=Qe (n/2^(8*i));have B4:n/2^(8*(i:Int)).toNat=z:=by
      rw[hz];congr 2
     obtain⟨c,hc⟩:=Qe (z%256);have A2:IntKind.u8.wrap z=c:=by rw[hc]; simp[IntKind.wrap,IntKind.bits,IntKind.signed]
     have J:0<=c:=by omega
     have G:c<256:=by omega
     have Y:Qg ((p++[UInt8.ofNat c.toNat])++be i n=be 8 n):=Qf (by rw[<-X.out,be,<-hz,<-hc,ay]; rfl);obtain⟨va,vc,rfl,A7⟩:=aB B.o;obtain⟨v',W',K,C,M,_⟩:=Dt (by rw[af,U.out.2]) B.o c J G (by omega) D.o.size;have T:Qg (PM w W'):=Qf ((D.o.alloc D.o.size _).grown M (by have:=D.o.size; simp; omega) (fun i S=>by have:=(B.o.lt i S).1; omega));rw[ay] at C;have V:=Qf C;have B2:i<=7:=by omega
     clear hc hz X C M D B;go_wp2_with (at_builtin; refine Lib.wpList_append_run _ rfl _ _ _ _ rfl _ _ rfl rfl _ _ K.out ?_);go_roundw
     case rel=>exact⟨i,p++[UInt8.ofNat c.toNat],by omega,rfl,by simp; omega,Y,T,Qf (by rw[af,aI,<-aP]; exact V.o)⟩
     case measure=>simp[intOf] <;> omega
  ·obtain rfl:k=2:=by omega
   obtain⟨va,vc,rfl,A7⟩:=aB B.o;have A2:=pF (l:=beD (x,y)) (by rw[bX]; exact B.o) (by intro h; have:=bX (x,y); rw[h] at this; simp at this);go_wp2_with fail;go_ret;exact⟨rfl,D.o⟩
theorem lh(l:Qb)(w:World)(L:16<=l.length)(O:(l.length:Int)<=140737488355328):
  Qh 244 #[.string ⟨l.toArray⟩] w fun e w'=>e=.returned (.agg #[.int .u64 (CS l).1,.int .u64 (CS l).2])/\PM w w':=by
 have K:Qg (CS l=sJ l 16):=Qf (by unfold CS; rw[uW]);go_enter Tryz.func244,Tryz.ntmps244;go_wp2_with fail;go_loopw [5] (fun i wr=>∃(k:Nat) (x y:Int),k<=16/\i=.int .i64 k/\Qg (PM w wr)/\Qg (BK w.heap.size #[.int .u64 0,.int .u64 0] 54 wr)/\Qg (BK (w.heap.size+1) #[.int .u64 x,.int .u64 y] 54 wr)/\Qg (sJ l k=(x,y))) (fun i _=>16-(intOf i).toNat)
 case atStart=>exact⟨0,0,0,by omega,rfl,Qf ((ba w _).alloc (by simp) _),Qf ((BK.new _ _ _).alloc _),Qf (BK.new2 _ _ _ _),Qf (uV l)⟩
 case round=>
  obtain⟨k,x,y,N,rfl,D,C,B,E⟩:=hrel;have g1:wr.cell? ⟨w.heap.size+1,0,none⟩=some (.int .u64 x):=by rw[B.out.cell]; rfl
  have g2:wr.cell? ⟨w.heap.size+1,1,none⟩=some (.int .u64 y):=by rw[B.out.cell]; rfl
  have z1:wr.frozen? ⟨w.heap.size+1,0,none⟩=false:=B.out.frozen 0;have z2:wr.frozen? ⟨w.heap.size+1,1,none⟩=false:=B.out.frozen 1;by_cases H:k<16
  ·have M:k<l.length:=by omega
   by_cases G:k<8
   ·have F:Qg (sJ l (k+1)=(mI x l[k],y)):=Qf (by rw[C8 l k (by omega) G,E.out])
    have I:(k:Int).tdiv 8=0:=by rw[iG (by omega)]; omega
    have J:(k:Int)/8=0:=by omega
    have dk:decide ((k:Int)<16)=true:=by simp; omega
    go_wp2_with fail;go_region;go_wp2_with fail;go_roundw
    case rel=>exact⟨k+1,_,_,by omega,by go_num,Qf (D.out.setCell (p:=⟨w.heap.size+1,0,none⟩) (by simp) _).drew,Qf (C.out.other (by omega) _ _),Qf (B.out.set _ _),Qf F.o⟩
    case measure=>simp[intOf]; omega
   ·have F:Qg (sJ l (k+1)=(x,mI y l[k])):=Qf (by rw[C9 l k (by omega) (by omega) H,E.out])
    have I:(k:Int).tdiv 8=1:=by rw[iG (by omega)]; omega
    have J:(k:Int)/8=1:=by omega
    have dk:decide ((k:Int)<16)=true:=by simp; omega
    go_wp2_with fail;go_region;go_wp2_with fail;go_roundw
    case rel=>exact⟨k+1,_,_,by omega,by go_num,Qf (D.out.setCell (p:=⟨w.heap.size+1,1,none⟩) (by simp) _).drew,Qf (C.out.other (by omega) _ _),Qf (B.out.set _ _),Qf F.o⟩
    case measure=>simp[intOf]; omega
  ·obtain rfl:k=16:=by omega
   have y2:wr.frozen? ⟨w.heap.size,0,none⟩=false:=C.out.frozen 0;have y3:wr.frozen? ⟨w.heap.size,1,none⟩=false:=C.out.frozen 1;have y0:wr.cell? ⟨w.heap.size,0,none⟩=some (.int .u64 0):=by rw[C.out.cell]; rfl
   have y1:wr.cell? ⟨w.heap.size,1,none⟩=some (.int .u64 0):=by rw[C.out.cell]; rfl
   go_wp2_with fail;refine bodyPost_ret (v:=.agg #[.int .u64 x,.int .u64 y]) (by simp[results,Tryz.results244,go_sem,y0,y1]) rfl ⟨by rw[K.o,E.out],?_⟩;exact(D.out.setCell (by simp) _).setCell (by simp) _
