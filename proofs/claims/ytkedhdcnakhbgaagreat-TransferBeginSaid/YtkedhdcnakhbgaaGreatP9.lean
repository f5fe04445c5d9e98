/- Joined texts: PkQa, PkIa, PkIb, PkIc, PkQe, PkQf, PkQg, PkIh. -/
import Derived.Test.YtkedhdcnakhbgaaGreatP2
import Derived.Test.YtkedhdcnakhbgaaGreatP1
import Derived.Test.YtkedhdcnakhbgaaGreatK3
import Derived.Test.YtkedhdcnakhbgaaGreatP0
import Derived.Test.YtkedhdcnakhbgaaGreatK6
import Derived.Test.YtkedhdcnakhbgaaGreatK1
import Derived.Test.YtkedhdcnakhbgaaGreatP8
/- An index,on paper. -/
set_option linter.unusedSimpArgs false
set_option maxRecDepth 100000
set_option maxHeartbeats 16000000
namespace Go.Proofs.YtkedhdcnakhbgaaGreat
set_option linter.unusedVariables false
variable {cs:Array Value}{e:Int}{L R:List (Nat×UInt8×Nat)}{pre:List Dop}{xs xs':List Value}{B B' bb fb ib k n n' u v xb z z':Nat}{a b s y:Qb}{c:UInt8}{v':Value}{W W' w:World}
structure Nd where
 len:Nat
 link:Int
 fin:Nat
 edge:Int
structure Eg where
 c:UInt8
 tg:Nat
 nx:Int
def nd(N:List Nd)(v:Nat):Nd:=(N[v]?).getD ⟨0,0,0,-1⟩
theorem Nn{N:List Nd}(h:v<N.length):nd N v=N[v]:=by unfold nd; rw[List.getElem?_eq_getElem h]; rfl
def jG(E:List Eg):Int->List (Nat×UInt8×Nat)->Prop
 | e,[]=>e=-1
 | e,x::L=>e=((x.1:Nat):Int)/\∃nx,E[x.1]? = some ⟨x.2.1,x.2.2,nx⟩/\jG E nx L
theorem jG.idx{E:List Eg}:∀{L:List (Nat×UInt8×Nat)} {e:Int},jG E e L->∀x∈L,∃nx,E[x.1]? = some ⟨x.2.1,x.2.2,nx⟩
 | [],e,h,x,A=>by simp at A
 | y::L,e,⟨_,nx,B,C⟩,x,A=>by
  rcases List.mem_cons.1 A with rfl | A
  ·exact⟨nx,B⟩
  ·exact C.idx x A
abbrev jc:=Nat->List (Nat×UInt8×Nat)
structure Ixr (N:List Nd) (E:List Eg) (T:jc):Prop where
 ch:∀v,v<N.length->jG E (nd N v).edge (T v)
 elen:E.length<=256*N.length
def trU(T:Nat->List (Nat×UInt8×Nat))(v:Nat)(d:UInt8):Option Nat:=((T v).find? (fun x=>x.2.1==d)).map (·.2.2)
inductive Lw (c:UInt8) (nn:Nat) (NF:List Nd) (EF:List Eg):Int->List Nd->List Eg->Prop
 | stop:Lw c nn NF EF (-1) NF EF
 | step {k:Nat} {N:List Nd} {E:List Eg} {T:jc}:Ixr N E T->k<N.length/\N.length=nn+1/\E.length<=1000/\-1<=(nd N k).link/\(nd N k).link<(k:Int)->trU T k c=none->Lw c nn NF EF (nd N k).link (N.set k { nd N k with edge:=((E.length:Nat):Int) }) (E++[⟨c,nn,(nd N k).edge⟩])->Lw c nn NF EF ((k:Nat):Int) N E
def nsX:Nat->List Nd
 | 0=>[⟨0,-1,0,-1⟩]
 | 1=>[⟨0,-1,0,0⟩,⟨1,0,1,-1⟩]
 | _=>[⟨0,-1,0,2⟩,⟨1,0,1,1⟩,⟨2,0,2,-1⟩]
def esX:Nat->List Eg
 | 0=>[]
 | 1=>[⟨2,1,-1⟩]
 | _=>[⟨2,1,-1⟩,⟨0,2,-1⟩,⟨0,2,0⟩]
def lwX:Nat->UInt8
 | 0=>2
 | _=>0
theorem ixr_zero:Ixr [⟨0,-1,0,-1⟩,⟨1,0,1,-1⟩] [] (fun _=>[]):=⟨fun v A=>by
 rcases v with _ | _ | v
 ·rfl
 ·rfl
 ·simp at A
  omega,by decide⟩
theorem lw_zero:Lw 2 1 (nsX 1) (esX 1) ((0:Nat):Int) [⟨0,-1,0,-1⟩,⟨1,0,1,-1⟩] []:=.step (T:=fun _=>[]) ixr_zero (by decide) rfl .stop
def tsX:jc:=fun v=>if v=0 then[(0,2,1)] else[]
def tsY:jc:=fun v=>if v=0 then[(0,2,1)] else if v=1 then[(1,0,2)] else[]
def tsZ:jc:=fun v=>if v=0 then[(2,0,2),(0,2,1)] else if v=1 then[(1,0,2)] else[]
theorem ixr_one:Ixr [⟨0,-1,0,0⟩,⟨1,0,1,-1⟩,⟨2,0,2,-1⟩] [⟨2,1,-1⟩] tsX:=⟨fun v A=>by
 rcases v with _ | _ | _ | v
 ·exact⟨rfl,_,rfl,rfl⟩
 ·rfl
 ·rfl
 ·simp at A
  omega,by decide⟩
theorem ixr_two:Ixr [⟨0,-1,0,0⟩,⟨1,0,1,1⟩,⟨2,0,2,-1⟩] [⟨2,1,-1⟩,⟨0,2,-1⟩] tsY:=⟨fun v A=>by
 rcases v with _ | _ | _ | v
 ·exact⟨rfl,_,rfl,rfl⟩
 ·exact⟨rfl,_,rfl,rfl⟩
 ·rfl
 ·simp at A
  omega,by decide⟩
theorem ixr_end:Ixr (nsX 2) (esX 2) tsZ:=⟨fun v A=>by
 rcases v with _ | _ | _ | v
 ·exact⟨rfl,_,rfl,rfl,_,rfl,rfl⟩
 ·exact⟨rfl,_,rfl,rfl⟩
 ·rfl
 ·simp[nsX] at A
  omega,by decide⟩
theorem lw_one:Lw 0 2 (nsX 2) (esX 2) ((1:Nat):Int) [⟨0,-1,0,0⟩,⟨1,0,1,-1⟩,⟨2,0,2,-1⟩] [⟨2,1,-1⟩]:=.step (T:=tsX) ixr_one (by decide) rfl (.step (k:=0) (T:=tsY) ixr_two (by decide) rfl .stop)
open Go.RowKit Go.Shelf
def wT(x:Nd):List Value:=[.int .i64 (x.len:Int),.int .i64 x.link,.int .i64 (x.fin:Int),.int .i64 x.edge]
def BL(x:Eg):List Value:=[.int .u8 (x.c.toNat:Int),.int .i64 (x.tg:Int),.int .i64 x.nx]
theorem F4:Lay wT 4:=⟨by decide,fun _=>rfl,fun a v A=>by
 simp[wT] at A;rcases A with rfl | rfl | rfl | rfl <;> rfl⟩
theorem F6:Lay BL 3:=⟨by decide,fun _=>rfl,fun a v A=>by
 simp[BL] at A;rcases A with rfl | rfl | rfl <;> rfl⟩
structure J6 (B ib:Nat) (N:List Nd) (E:List Eg) (W:World):Prop where
 ex:∃na nc ea ec,BK ib #[.slice na N.length nc,.slice ea E.length ec] 254 W/\GIn wT 4 B W na N/\GIn BL 3 B W ea E
 lt:ib<B
theorem J6.below{N:List Nd}{E:List Eg}(h:J6 B ib N E W)(A:Below B' W W')(C:B<=B'):J6 B ib N E W':=by
 obtain⟨⟨na,nc,ea,ec,D,F,G⟩,H⟩:=h;exact⟨⟨na,nc,ea,ec,(A.block ib (by omega)).trans D,F.below A C,G.below A C⟩,H⟩
theorem J6.mono{N:List Nd}{E:List Eg}(h:J6 B ib N E W)(A:B<=B'):J6 B' ib N E W:=by
 obtain⟨⟨na,nc,ea,ec,C,D,F⟩,G⟩:=h;exact⟨⟨na,nc,ea,ec,C,D.mono A,F.mono A⟩,by omega⟩
theorem fu{a:Qa}{l:List Nd}(h:GIn wT 4 B W a l)(C:k<l.length):∃b off,a=some ⟨b,off,none⟩/\b<B/\W.cell? ⟨b,off+k*4,none⟩=some (.int .i64 ((nd l k).len:Int))/\W.cell? ⟨b,off+k*4+1,none⟩=some (.int .i64 (nd l k).link)/\W.cell? ⟨b,off+k*4+2,none⟩=some (.int .i64 ((nd l k).fin:Int))/\W.cell? ⟨b,off+k*4+3,none⟩=some (.int .i64 (nd l k).edge):=by
 obtain⟨b,off,D,E,A⟩:=h k C;rw[Nn C];exact⟨b,off,D,E,A 0 _ rfl,A 1 _ rfl,A 2 _ rfl,A 3 _ rfl⟩
theorem sI{a:Qa}{l:List Eg}(h:GIn BL 3 B W a l){x:Eg}(G:l[k]? = some x):∃b off,a=some ⟨b,off,none⟩/\b<B/\W.cell? ⟨b,off+k*3,none⟩=some (.int .u8 (x.c.toNat:Int))/\W.cell? ⟨b,off+k*3+1,none⟩=some (.int .i64 (x.tg:Int))/\W.cell? ⟨b,off+k*3+2,none⟩=some (.int .i64 x.nx):=by
 obtain⟨C,D⟩:=List.getElem?_eq_some_iff.1 G;obtain⟨b,off,E,F,A⟩:=h k C;rw[D] at A;exact⟨b,off,E,F,A 0 _ rfl,A 1 _ rfl,A 2 _ rfl⟩
def Kl(L:List (Nat×UInt8×Nat))(c:UInt8):Int:=match L.find? (fun x=>x.2.1==c) with
 | some x=>(x.1:Int)
 | none=>-1
structure Od (E:List Eg) (L:List (Nat×UInt8×Nat)) (c:UInt8) (R:List (Nat×UInt8×Nat)) (e:Int):Prop where
 ch:jG E e R
 fd:L.find? (fun x=>x.2.1==c)=R.find? (fun x=>x.2.1==c)
 le:R.length<=L.length
theorem Od.done{E:List Eg}(h:Od E L c [] e):e=-1/\Kl L c=-1:=⟨h.ch,by unfold Kl; rw[h.fd]; rfl⟩
theorem Od.at{E:List Eg}{x:Nat×UInt8×Nat}(h:Od E L c (x::R) e):e=(x.1:Int)/\(x.2.1=c->Kl L c=(x.1:Int))/\∃nx,E[x.1]? = some ⟨x.2.1,x.2.2,nx⟩/\(x.2.1≠c->Od E L c R nx):=by
 obtain⟨A,nx,B,C⟩:=h.ch;refine⟨A,fun e=>?_,nx,B,fun e=>⟨C,?_,?_⟩⟩
 ·unfold Kl
  rw[h.fd,List.find?_cons,e];simp
 ·rw[h.fd,List.find?_cons]
  have:(x.2.1==c)=false:=by simpa using e
  rw[this]
 ·have:=h.le; simp at this; omega
theorem jG.det{E:List Eg}:∀{R R':List (Nat×UInt8×Nat)} {e:Int},jG E e R->jG E e R'->R=R'
 | [],[],e,h,A=>rfl
 | [],y::R',e,h,A=>by have C:e=-1:=h; have B:=A.1; omega
 | x::R,[],e,h,A=>by have C:e=-1:=A; have B:=h.1; omega
 | x::R,y::R',e,h,A=>by
  obtain⟨C,nx,B,D⟩:=h;obtain⟨g1,ny,g2,g3⟩:=A;obtain⟨x1,x2,x3⟩:=x;obtain⟨y1,y2,y3⟩:=y;obtain rfl:x1=y1:=by simp only at C g1; omega
  simp only at B g2;rw[B] at g2;injection g2 with g2
  injection g2 with e1 e2 e3
  subst e1 e2 e3;rw[D.det g3]
noncomputable def Bf(E:List Eg)(e:Int):Nat:=by
 classical
 exact if h:∃R,jG E e R then h.choose.length else 0
theorem sO{E:List Eg}(h:jG E e R):Bf E e=R.length:=by
 unfold Bf;rw[dif_pos ⟨R,h⟩,(Exists.choose_spec ⟨R,h⟩:jG E e _).det h]
theorem um{N:List Nd}{E:List Eg}{T:jc}(h:J6 B ib N E w)(hx:Ixr N E T)(hN:(N.length:Int)<=1000000)(v:Nat)(hv:v<N.length)(c:UInt8):
  Qh 223 #[.pointer (some ⟨ib,0,none⟩),.int .i64 (v:Int),.int .u8 (c.toNat:Int)] w fun e w'=>e=.returned (.int .i64 (Kl (T v) c))/\w'=w:=by
 obtain⟨⟨na,nc,ea,ec,hb,hn,he⟩,_⟩:=h;obtain⟨nb,no,rfl,_,n0,n1,n2,n3⟩:=fu hn hv;have HE:=Qf he;have A0:=hx.elen;have X:(E.length:Int)<=256000000:=by omega
 have C:Qg (Od E (T v) c (T v) (nd N v).edge):=Qf ⟨hx.ch v hv,rfl,nr⟩;generalize T v=L at C ⊢;generalize (nd N v).edge=e0 at n3 C;obtain⟨x0,x1⟩:=BK.c2 hb;obtain⟨F,Y⟩:=Qe (Kl L c);have S:=Qf Y;rw[<-Y];obtain⟨m,hm⟩:=Qe E.length;have HM:=Qf hm;rw[<-hm] at x1 X;obtain⟨nn,Q⟩:=Qe N.length;rw[<-Q] at x0 hN hv;have B3:(v:Int)<(nn:Int):=by omega
 obtain⟨lc,H⟩:∃lc:Int,lc=(c.toNat:Int):=⟨_,rfl⟩;have K:=Qf H;rw[<-H];clear Y hm Q hb hn he hx A0 n0 n1 n2 H;go_enter Tryz.func223,Tryz.ntmps223;go_wp2_with fail;clear n3;go_loopw [7] (fun i wr=>∃(R:List (Nat×UInt8×Nat)) (ei:Int),i=.int .i64 ei/\Qg (Od E L c R ei)/\wr=w) (fun i _=>Bf E (intOf i))
 case atStart=>exact⟨L,e0,rfl,C,rfl⟩
 case round=>
  clear C;obtain⟨R,ei,rfl,I,rfl⟩:=hrel;cases R with
  | nil=>
   obtain⟨rfl,G⟩:=I.out.done;have W:=Qf (S.o.trans G);clear G I S;go_wp2_with fail;go_ret;rw[W.o];exact⟨rfl,rfl⟩
  | cons x R=>
   obtain⟨rfl,G,nx,O,U⟩:=I.out.at;obtain⟨eb,eo,Z,_,q0,q1,q2⟩:=sI HE.o O;have P:=(List.getElem?_eq_some_iff.1 O).1;have D:Qg (Bf E ((x.1:Nat):Int)=R.length+1):=Qf (by rw[sO I.out.ch]; rfl);obtain⟨j,d,tg⟩:=x;simp only at G O U q0 q1 q2 P D ⊢;rw[<-HM.o] at P;have B2:(j:Int)<(m:Int):=by omega
   have B1:(0:Int)<=(j:Int):=by omega
   subst Z;by_cases J:d=c
   ·have hq:((d.toNat:Int) !=lc)=false:=by rw[K.o,J]; simp
    have W:=Qf (S.o.trans (G J));generalize (d.toNat:Int)=ld at q0 hq;clear G O U I S D J;go_wp2_with fail;go_ret;rw[W.o];exact⟨rfl,rfl⟩
   ·have hq:((d.toNat:Int) !=lc)=true:=by
     rw[K.o];simp only[bne_iff_ne,ne_eq];intro e;exact J (UInt8.toNat_inj.1 (by exact_mod_cast e))
    have M:=Qf (U J);have V:Qg (Bf E nx=R.length):=Qf (sO M.o.ch);generalize (d.toNat:Int)=ld at q0 hq;clear G O U I J;go_wp2_with fail;go_roundw
    case rel=>exact⟨R,nx,rfl,M,trivial⟩
    case measure=>
     simp only[intOf];rw[D.o,V.o];omega
def Ky(T:jc)(v:Nat)(c:UInt8):Int:=match trU T v c with
 | some u=>(u:Int)
 | none=>-1
theorem uJ{T:jc}(h:trU T v c=none):Kl (T v) c=-1:=by
 unfold trU at h;unfold Kl;rw[Option.map_eq_none_iff] at h;rw[h]
theorem uI{T:jc}(h:trU T v c=some u):∃i:Nat,Kl (T v) c=(i:Int)/\(T v).find? (fun x=>x.2.1==c)=some (i,c,u):=by
 unfold trU at h;unfold Kl;rw[Option.map_eq_some_iff] at h;obtain⟨x,A,B⟩:=h;have C:x.2.1=c:=by simpa using List.find?_some A
 refine⟨x.1,by rw[A],by rw[A]; obtain⟨x1,x2,x3⟩:=x; simp only at B C; rw[B,C]⟩
theorem Ep{N:List Nd}{E:List Eg}{T:jc}{i:Nat}(B:Ixr N E T)(A:v<N.length)(h:(T v).find? (fun x=>x.2.1==c)=some (i,c,u)):∃nx,E[i]? = some ⟨c,u,nx⟩:=(B.ch v A).idx _ (List.mem_of_find?_eq_some h)
theorem Ad{N:List Nd}{E:List Eg}{T:jc}(h:J6 B ib N E w)(F:Ixr N E T)(O:(N.length:Int)<=1000000)(v:Nat)(M:v<N.length)(c:UInt8):
  Qh 191 #[.pointer (some ⟨ib,0,none⟩),.int .i64 (v:Int),.int .u8 (c.toNat:Int)] w fun e w'=>e=.returned (.int .i64 (Ky T v c))/\w'=w:=by
 have C:=Qf (um h F O v M c);obtain⟨⟨na,nc,ea,ec,H,L,I⟩,_⟩:=h;obtain⟨x0,x1⟩:=BK.c2 H;unfold Ky;cases D:trU T v c with
 | none=>
  rw[uJ D] at C;simp only;generalize (c.toNat:Int)=lc at C ⊢;clear H L I D F;go_enter Tryz.func191,Tryz.ntmps191;go_wp2_with fail
  refine C.o.mono ?_;rintro e w' ⟨rfl,rfl⟩
  go_wp2_with fail;go_ret;exact⟨rfl,rfl⟩
 | some u=>
  obtain⟨i,J,K⟩:=uI D;obtain⟨nx,G⟩:=Ep F M K;obtain⟨eb,eo,rfl,_,q0,q1,q2⟩:=sI I G;have R:=(List.getElem?_eq_some_iff.1 G).1;rw[J] at C;simp only;generalize (c.toNat:Int)=lc at C ⊢;generalize E.length=m at *
  have Q:(i:Int)<(m:Int):=by omega
  have P:¬(i:Int)<0:=by omega
  clear H L I D F q0 q2 J K G;go_enter Tryz.func191,Tryz.ntmps191;go_wp2_with fail
  refine C.o.mono ?_;rintro e w' ⟨rfl,rfl⟩
  go_wp2_with fail;go_ret;exact⟨rfl,rfl⟩
theorem kg{e:TypeId}{v:Value}(h:W.ownsRow B e z v n xs)(g:Nat)(A:v.ownBlock=some g):∃c,W.heap[g]? = some (.cells c e (0,0)):=by
 rcases h.2 with⟨rfl,_⟩ | ⟨k,c,cur,rfl,_,C,_⟩
 ·cases A
 ·have:k=g:=by simpa[Value.ownBlock] using A
  subst this;exact⟨cur,C⟩
theorem gV{b:Nat}{e t:TypeId}{v:Value}(h:W.ownsRow B e z v n xs)(D:BK b cs t W)(E:t≠e):v.ownBlock≠some b:=fun C=>by
 obtain⟨c,A⟩:=kg h b C;rw[show W.heap[b]? = _ from D] at A;injection A with A
 injection A with _ h2 _
 exact E h2
theorem M9{e e':TypeId}{v:Value}(h:W.ownsRow B e z v n xs)(C:W.ownsRow B' e' z' v' n' xs')(G:e≠e')(F:v.ownBlock=some k):v'.ownBlock≠some k:=fun D=>by
 obtain⟨c,E⟩:=kg h k F;obtain⟨c',A⟩:=kg C k D;rw[E] at A;injection A with A
 injection A with _ h2 _
 exact G h2
theorem oz{e e':TypeId}{v:Value}(h:W.ownsRow B e z v n xs)(A:W.ownsRow B' e' z' v' n' xs')(C:e≠e'):v.ownBlock=none\/v.ownBlock≠v'.ownBlock:=by
 cases D:v.ownBlock with
 | none=>exact .inl rfl
 | some k=>exact .inr (M9 h A C D).symm
structure IxB (B ib:Nat) (N:List Nd) (E:List Eg) (na:Qa) (nc:Nat) (ea:Qa) (ec:Nat) (W:World):Prop where
 box:BK ib #[.slice na N.length nc,.slice ea E.length ec] 254 W
 lo:B<=ib
 ns:W.ownsRow B 250 4 (.slice na N.length nc) N.length (gcs wT N)
 es:W.ownsRow B 293 3 (.slice ea E.length ec) E.length (gcs BL E)
def IxG(B ib:Nat)(N:List Nd)(E:List Eg)(W:World):Prop:=∃na nc ea ec,IxB B ib N E na nc ea ec W
section
variable {B ib:Nat} {N:List Nd} {E:List Eg} {na ea:Qa} {nc ec:Nat} {W:World}
theorem IxB.lt(h:IxB B ib N E na nc ea ec W):ib<W.heap.size:=h.box.lt
theorem IxB.in_(h:IxB B ib N E na nc ea ec W):J6 W.heap.size ib N E W:=⟨⟨na,nc,ea,ec,h.box,jw F4 rfl h.ns,jw F6 rfl h.es⟩,h.lt⟩
theorem IxG.in_(h:IxG B ib N E W):J6 W.heap.size ib N E W:=by obtain⟨_,_,_,_,h⟩:=h; exact h.in_
theorem IxB.below(h:IxB B ib N E na nc ea ec W)(A:PM W W'):IxB B ib N E na nc ea ec W':=⟨h.box.below A,h.lo,own_below h.ns A,own_below h.es A⟩
theorem IxB.gns(h:IxB B ib N E na nc ea ec W):GIn wT 4 W.heap.size W na N:=jw F4 rfl h.ns
theorem O1:(Tryz.prog.info? 250).map (fun i=>(i.zero,i.size,i.bytes))=some (some (.agg #[.int .i64 0,.int .i64 0,.int .i64 0,.int .i64 0]),4,32):=by kernel_rfl
theorem O3:(Tryz.prog.info? 293).map (fun i=>(i.zero,i.size,i.bytes))=some (some (.agg #[.int .u8 0,.int .i64 0,.int .i64 0]),3,24):=by kernel_rfl
theorem IxB.pushN(h:IxB B ib N E na nc ea ec W)(x:Nd)(P:(N.length:Int)<=1000000):∃na' nc' W',Qg ((Builtin.append_ #[251,251] 251 #[.slice na N.length nc,.slice (some ⟨W.heap.size,0,none⟩) 1 1]).run Tryz.prog (W.alloc (.cells (wT x).toArray 250))=.ok (.slice na' (N.length+1) nc') W')/\
  BK ib #[.slice na N.length nc,.slice ea E.length ec] 254 W'/\GIn BL 3 W'.heap.size W' ea E/\IxB B ib (N++[x]) E na' nc' ea ec (W'.setCell ⟨ib,0,none⟩ (.slice na' (N.length+1) nc'))/\Below B W (W'.setCell ⟨ib,0,none⟩ (.slice na' (N.length+1) nc')):=by
 obtain⟨i0,R,K,L,M⟩:=info_parts O1;have T:=h.lt;have H:=h.lo;obtain⟨v',W',I,C,J,_⟩:=jb F4 Tryz.underlying251 R K L M rfl rfl h.ns x P (by decide) (by omega);obtain⟨na',nc',rfl,_⟩:=aB C;have D:=(h.box.alloc (.cells (wT x).toArray 250)).grow J (fun k e S=>gV h.ns h.box (by decide) (by rw[e,S]));have F:=(h.es.alloc (.cells (wT x).toArray 250)).kept J (oz h.es h.ns (by decide));have G:=dN W' ib 0 (.slice na' (N.length+1) nc');have O:(N++[x]).length=N.length+1:=by simp
 refine⟨na',nc',W',I,D,jw F6 rfl F,⟨?_,H,?_,F.kept G (.inr (gV F D (by decide)))⟩,?_⟩
 ·rw[O]; exact D.set 0 _
 ·rw[O]; exact C.kept G (.inr (gV C D (by decide)))
 ·have Q:Below B W W':=((Below.refl B W).alloc (by omega) _).grown J (by simp; omega) (fun k e=>(h.ns.lt k e).1)
  exact Q.setCell H _
theorem IxB.pushE(h:IxB B ib N E na nc ea ec W)(x:Eg)(P:(E.length:Int)<=1000000):∃ea' ec' W',Qg ((Builtin.append_ #[252,252] 252 #[.slice ea E.length ec,.slice (some ⟨W.heap.size,0,none⟩) 1 1]).run Tryz.prog (W.alloc (.cells (BL x).toArray 293))=.ok (.slice ea' (E.length+1) ec') W')/\
  BK ib #[.slice na N.length nc,.slice ea E.length ec] 254 W'/\W'.ownsRow B 250 4 (.slice na N.length nc) N.length (gcs wT N)/\IxB B ib N (E++[x]) na nc ea' ec' (W'.setCell ⟨ib,1,none⟩ (.slice ea' (E.length+1) ec'))/\Below B W (W'.setCell ⟨ib,1,none⟩ (.slice ea' (E.length+1) ec')):=by
 obtain⟨i0,R,K,L,M⟩:=info_parts O3;have T:=h.lt;have H:=h.lo;obtain⟨v',W',I,C,J,_⟩:=jb F6 Tryz.underlying252 R K L M rfl rfl h.es x P (by decide) (by omega);obtain⟨ea',ec',rfl,_⟩:=aB C;have D:=(h.box.alloc (.cells (BL x).toArray 293)).grow J (fun k e S=>gV h.es h.box (by decide) (by rw[e,S]));have F:=(h.ns.alloc (.cells (BL x).toArray 293)).kept J (oz h.ns h.es (by decide));have G:=dN W' ib 1 (.slice ea' (E.length+1) ec');have O:(E++[x]).length=E.length+1:=by simp
 refine⟨ea',ec',W',I,D,F,⟨?_,H,F.kept G (.inr (gV F D (by decide))),?_⟩,?_⟩
 ·rw[O]; exact D.set 1 _
 ·rw[O]; exact C.kept G (.inr (gV C D (by decide)))
 ·have Q:Below B W W':=((Below.refl B W).alloc (by omega) _).grown J (by simp; omega) (fun k e=>(h.es.lt k e).1)
  exact Q.setCell H _
theorem Il{e:TypeId}{v:Value}(h:W.ownsRow B e z v n xs)(E:0<n):∃g c cur,v=.slice (some ⟨g,0,none⟩) n c/\n<=c/\B<=g/\g<W.heap.size/\BK g cur e W:=by
 rcases h.2 with⟨rfl,rfl⟩ | ⟨g,c,cur,rfl,C,A,D,_⟩
 ·omega
 ·exact⟨g,c,cur,rfl,D,C,(Array.getElem?_eq_some_iff.1 A).1,A⟩
theorem IxB.setN(h:IxB B ib N E na nc ea ec W)(A:v<N.length):∃g,na=some ⟨g,0,none⟩/\(∀j,W.frozen? ⟨g,j,none⟩=false)/\(∀j,j<4->W.cell? ⟨g,v*4+j,none⟩=(wT (nd N v))[j]?)/\
  ∀(x:Nd) (j:Nat) (u:Value),j<4->wT x=(wT (nd N v)).set j u->IxB B ib (N.set v x) E na nc ea ec (W.setCell ⟨g,v*4+j,none⟩ u)/\Below B W (W.setCell ⟨g,v*4+j,none⟩ u):=by
 obtain⟨g,c,cur,hs,L,J,K,C⟩:=Il h.ns (by omega);cases hs;refine⟨g,rfl,fun j=>C.frozen j,fun j F=>?_,fun x j u F I=>?_⟩
 ·have G:v*4+j<N.length*4:=by omega
  rw[h.ns.cellAt _ G,uF F4 N v A j F,Nn A]
 ·have D:=dN W g (v*4+j) u
  have H:g≠ib:=fun e=>gV h.ns h.box (by decide) (by rw[<-e]; rfl)
  rw[Nn A] at I;refine⟨⟨?_,h.lo,?_,h.es.kept D (oz h.es h.ns (by decide))⟩,(Below.refl B W).setCell J _⟩
  ·rw[aL]; exact h.box.other H _ _
  ·rw[aL]; exact xW F4 h.ns rfl A F u x I
end
theorem Ej{N:List Nd}{E:List Eg}(h:IxG B ib N E w)(hN:(N.length:Int)<=1000000)(hE:(E.length:Int)<=1000000)(v:Nat)(hv:v<N.length)(c:UInt8)(tg:Nat):
  Qh 241 #[.pointer (some ⟨ib,0,none⟩),.int .i64 (v:Int),.int .u8 (c.toNat:Int),.int .i64 (tg:Int)] w fun e w'=>e=.returned (.tuple #[])/\Qg (IxG B ib (N.set v { nd N v with edge:=((E.length:Nat):Int) }) (E++[⟨c,tg,(nd N v).edge⟩]) w')/\Below B w w':=by
 obtain⟨na,nc,ea,ec,h⟩:=h;have hd:IxB B ib N E na nc ea ec w.drew:=⟨h.box,h.lo,h.ns,h.es⟩;obtain⟨ea',ec',W1,C,I,A7,D,M⟩:=hd.pushE ⟨c,tg,(nd N v).edge⟩ hE;obtain⟨W2,J⟩:=Qe (W1.setCell ⟨ib,1,none⟩ (.slice ea' (E.length+1) ec'));rw[<-J] at D M;have P:IxB B ib N (E++[⟨c,tg,(nd N v).edge⟩]) na nc ea' ec' W2.drew:=⟨D.box,D.lo,D.ns,D.es⟩;obtain⟨g,B4,A3,A2,A9⟩:=P.setN (v:=v) (by exact hv);obtain⟨Y,Z⟩:=A9 { nd N v with edge:=((E.length:Nat):Int) } 3 (.int .i64 ((E.length:Nat):Int)) (by decide) rfl;have A0:Below B W2 W2.drew:=(bf _).drew;have F:Qg (IxG B ib (N.set v { nd N v with edge:=((E.length:Nat):Int) }) (E++[⟨c,tg,(nd N v).edge⟩]) (W2.drew.setCell ⟨g,v*4+3,none⟩ (.int .i64 ((E.length:Nat):Int)))/\Below B w (W2.drew.setCell ⟨g,v*4+3,none⟩ (.int .i64 ((E.length:Nat):Int)))):=Qf ⟨⟨_,_,_,_,Y⟩,(((Below.refl B w).drew.trans M).trans A0).trans Z⟩;subst B4
 -- what the loads read,in each of the worlds
 obtain⟨nn,L⟩:=Qe N.length;obtain⟨m,hm⟩:=Qe E.length;rw[<-hm] at C F J hE ⊢;have Q:=hd.box;have H:=P.box;have A6:(E++[(⟨c,tg,(nd N v).edge⟩:Eg)]).length=m+1:=by rw[hm]; simp
 rw[A6,<-L] at H;rw[<-hm,<-L] at Q I;rw[<-L] at hv hN;have C2:(v:Int)<(nn:Int):=by omega
 obtain⟨nb,no,O,_,n0,n1,n2,n3⟩:=fu hd.gns (k:=v) (by omega);cases O;obtain⟨nb,no,O,_,p0,p1,p2,p3⟩:=fu (jw F4 rfl A7) (k:=v) (by omega);cases O;have A1:=A2 3 (by decide);rw[show(wT (nd N v))[3]? = some (.int .i64 (nd N v).edge) from rfl] at A1;have B3:=A3 (v*4+3);generalize (nd N v).edge=e0 at *
 rw[aZ] at n3 p3;have HA:Qg (∀W,Below w.drew.heap.size w.drew W->W.cell? ⟨ib,0,none⟩=some (.slice (some ⟨g,0,none⟩) nn nc)/\W.cell? ⟨ib,1,none⟩=some (.slice ea m ec)/\W.cell? ⟨g,v*4+3,none⟩=some (.int .i64 e0)):=Qf (fun W hb=>by
  have h1:=Q.below hb;have B5:=World.block_lt_of_cell? _ _ n3;exact⟨h1.c2.1,h1.c2.2,(hb.cell B5).trans n3⟩)
 have U:Qg (W1.cell? ⟨ib,0,none⟩=some (.slice (some ⟨g,0,none⟩) nn nc)/\W1.cell? ⟨ib,1,none⟩=some (.slice ea m ec)/\W1.cell? ⟨g,v*4+3,none⟩=some (.int .i64 e0)):=Qf ⟨I.c2.1,I.c2.2,p3⟩;have A8:=HA.o w.drew (bf _);have R:=HA.o (w.drew.alloc (.cells (BL ⟨c,tg,e0⟩).toArray 293)) (ba _ _);have A5:=I.frozen 1;have X:W2.drew.cell? ⟨ib,0,none⟩=some (.slice (some ⟨g,0,none⟩) nn nc)/\W2.drew.cell? ⟨ib,1,none⟩=some (.slice ea' (m+1) ec'):=H.c2;have C3:IntKind.i64.wrap (((m:Int)+1)-1)=(m:Int):=by rw[wrap_i64 (by omega) (by omega)]; omega
 have C0:IntKind.i64.wrap (m:Int)=(m:Int):=wrap_i64 (by omega) (by omega);have V:=Qf J;simp only[BL] at C R;generalize (c.toNat:Int)=lc at *
 clear h hd I A7 D M P A9 Y Z A0 Q H A6 n0 n1 n2 p0 p1 p2 p3 A2 A3 hm L HA J;go_enter Tryz.func241,Tryz.ntmps241;go_wp2_with fail;refine iQ (S:=(fun W=>W.cell? ⟨ib,0,none⟩=some (.slice (some ⟨g,0,none⟩) nn nc)/\W.cell? ⟨ib,1,none⟩=some (.slice ea m ec)/\W.cell? ⟨g,v*4+3,none⟩=some (.int .i64 e0))) [20] (by kernel_rfl) A8 (fun hHeld=>?_);refine tl 0 ?_;refine tl 1 ?_;refine tl 2 ?_;refine tl 3 ?_;refine tl 4 ?_;refine tl 5 ?_;refine tl 6 ?_;refine tl 7 ?_;refine tl 8 ?_;refine tl 9 ?_;refine tl 10 ?_;refine tl 11 ?_;refine tl 12 ?_;refine tl 13 ?_;refine tl 14 ?_;refine tl 15 ?_;refine cu (i:=16) (by kernel_rfl) rfl (fun K G=>?_);go_simp;refine G.out _ _ ((fun _=>R)) (fun hHeld=>?_);clear G K;refine cu (i:=17) (by kernel_rfl) rfl (fun K G=>?_);refine bN (by rfl) (.tmp 12) (.tmp 24) _ _ (by rfl) _ _ (by rfl) (by rfl) _ _ C.out ?_;clear hHeld R;have T:=U.o;refine G.out _ _ ((fun _=>T)) (fun hHeld=>?_);clear G K;refine tl 18 ?_;refine tl 19 ?_;refine cu (i:=20) (by kernel_rfl) rfl (fun K G=>?_);have A4:=T.2.1;go_simp;refine G.out _ _ ((fun h=>absurd h (by decide))) (fun hHeld=>?_);clear G K;refine eQ (by kernel_rfl) ?_ _;rw[<-V.o];clear A8 T A4 U C V A5;go_wp2_with fail;refine iQ (S:=(fun W=>W.cell? ⟨ib,0,none⟩=some (.slice (some ⟨g,0,none⟩) nn nc)/\W.cell? ⟨ib,1,none⟩=some (.slice ea' (m+1) ec'))) [13] (by kernel_rfl) X (fun hHeld=>?_);refine tl 0 ?_;refine tl 1 ?_;refine tl 2 ?_;refine tl 3 ?_;refine tl 4 ?_;refine tl 5 ?_;refine tl 6 ?_;refine tl 7 ?_;refine tl 8 ?_;refine tl 9 ?_;refine tl 10 ?_;refine tl 11 ?_;refine tl 12 ?_;refine cu (i:=13) (by kernel_rfl) rfl (fun K G=>?_);go_simp;refine G.out _ _ ((fun h=>absurd h (by decide))) (fun hHeld=>?_);clear G K;refine eQ (by kernel_rfl) ?_ _;clear X A1 B3;go_wp2_with fail;go_end0;exact⟨rfl,Qf F.o.1,F.o.2⟩
theorem Lw.at{nn:Nat}{NF:List Nd}{EF:List Eg}{p:Int}{N:List Nd}{E:List Eg}(h:Lw c nn NF EF p N E):(p=-1/\N=NF/\E=EF)\/∃(k:Nat) (T:jc),p=(k:Int)/\Ixr N E T/\(k<N.length/\N.length=nn+1/\E.length<=1000/\-1<=(nd N k).link/\(nd N k).link<(k:Int))/\trU T k c=none/\Lw c nn NF EF (nd N k).link (N.set k { nd N k with edge:=((E.length:Nat):Int) }) (E++[⟨c,nn,(nd N k).edge⟩]):=by
 cases h with
 | stop=>exact .inl ⟨rfl,rfl,rfl⟩
 | step A B C D=>exact .inr ⟨_,_,rfl,A,B,C,D⟩
theorem iextend_w{sl:Nat}{N0 NF:List Nd}{E0 EF:List Eg}(hg:IxG B ib N0 E0 w)(hv:v<N0.length)(A6:(nd N0 v).len=sl)(C8:sl<=1000)(W:N0.length<=1000)(h:Lw c N0.length NF EF ((v:Nat):Int) (N0++[⟨sl+1,0,sl+1,-1⟩]) E0):
  Qh 221 #[.pointer (some ⟨ib,0,none⟩),.int .i64 (v:Int),.int .u8 (c.toNat:Int)] w fun e w'=>e=.returned (.int .i64 (N0.length:Int))/\Qg (IxG B ib NF EF w')/\Below B w w':=by
 obtain⟨na,nc,ea,ec,hb⟩:=hg;obtain⟨na',nc',W1,C,J,B7,I,A0⟩:=hb.pushN ⟨sl+1,0,sl+1,-1⟩ (by omega);obtain⟨pb,po,rfl,_,p0,p1,p2,p3⟩:=fu hb.gns (k:=v) hv;rw[A6] at p0;obtain⟨sl1,O⟩:∃sl1:Nat,sl1=sl+1:=⟨_,rfl⟩;obtain⟨nn,F⟩:=Qe N0.length;have H:=Qf h;rw[<-O] at C I H;rw[<-F] at C J H;have R:Qg (IxG B ib (N0++[⟨sl1,0,sl1,-1⟩]) E0 (W1.setCell ⟨ib,0,none⟩ (.slice na' (N0.length+1) nc'))):=Qf ⟨_,_,_,_,I⟩;have P:Qg (Below B w (W1.setCell ⟨ib,0,none⟩ (.slice na' (N0.length+1) nc'))):=Qf A0;rw[<-F] at R P hv W ⊢;have A2:(W1.setCell ⟨ib,0,none⟩ (.slice na' (nn+1) nc')).cell? ⟨ib,0,none⟩=some (.slice na' (nn+1) nc'):=by
  have h2:=I.box.c2.1;rw[show(N0++[(⟨sl1,0,sl1,-1⟩:Nd)]).length=nn+1 by rw[F]; simp,<-F] at h2;exact h2
 have D:=hb.box.c2;rw[<-F] at D;have D0:(v:Int)<(nn:Int):=by omega
 have D1:IntKind.i64.wrap ((sl:Int)+1)=(sl1:Int):=by rw[wrap_i64 (by omega) (by omega)]; omega
 have C9:(nn:Int)<=3000:=by omega
 have D2:IntKind.i64.wrap ((nn:Int)+1-1)=(nn:Int):=by rw[wrap_i64 (by omega) (by omega)]; omega
 have C4:IntKind.i64.wrap (nn:Int)=(nn:Int):=wrap_i64 (by omega) (by omega);obtain⟨lc,V⟩:∃lc:Int,lc=(c.toNat:Int):=⟨_,rfl⟩;have Y:=Qf V;rw[<-V];have A4:=J.c2.1;have A5:=J.frozen 0;have B5:=D.1;simp only[wT] at C;have hz:((0:Nat):Int)=0:=rfl;clear hb B7 I A0 J p1 p2 p3 A6 F O V D h;go_enter Tryz.func221,Tryz.ntmps221;go_wp2_with (at_builtin; refine Lib.wpList_append_run _ rfl _ _ _ _ rfl _ _ rfl rfl _ _ C.out ?_);clear C B5 A4 A5 p0;go_loopw [9] (fun i wr=>∃(p:Int) (N:List Nd) (E:List Eg),i=.int .i64 p/\Qg (Lw c nn NF EF p N E)/\Qg (IxG B ib N E wr)/\Qg (Below B w wr)) (fun i _=>(intOf i+1).toNat)
 case atStart=>exact⟨_,_,E0,rfl,H,R,P⟩
 clear A2 H R P;obtain⟨p,N,E,rfl,HP,HG,HB⟩:=hrel;rcases HP.out.at with⟨rfl,rfl,rfl⟩ | ⟨k,T,rfl,A3,⟨K,L,B8,B9,C0⟩,A9,A8⟩
 ·clear HP
  go_wp2_with fail;go_ret;exact⟨rfl,HG,HB.out⟩
 have C7:(k:Int)<(nn:Int)+1:=by omega
 have C6:(0:Int)<=(k:Int):=by omega
 have C2:¬(k:Int)<0:=by omega
 have Q:=Qf (um (HG.out.in_) A3 (by rw[L]; omega) k K c);rw[<-Y.o,uJ A9] at Q;have G:=Qf (Ej HG.out (by rw[L]; omega) (by omega) k K c nn);rw[<-Y.o] at G;have U:=Qf A8;have A7:nd (N.set k { nd N k with edge:=((E.length:Nat):Int) }) k={ nd N k with edge:=((E.length:Nat):Int) }:=by rw[Nn (by rw[aL]; exact K),List.getElem_set_self]
 have S:Qg ((nd (N.set k { nd N k with edge:=((E.length:Nat):Int) }) k).link=(nd N k).link):=Qf (by rw[A7]);have Z:Qg (k<(N.set k { nd N k with edge:=((E.length:Nat):Int) }).length):=Qf (by rw[aL]; exact K);have M:Qg ((N.set k { nd N k with edge:=((E.length:Nat):Int) }).length=nn+1):=Qf (by rw[aL,L]);generalize N.set k { nd N k with edge:=((E.length:Nat):Int) }=N' at U G S Z M;generalize (nd N k).link=lk at U S B9 C0;clear HP HG A7 A9 A8 A3 L B8;go_wp2_with fail
 refine Q.o.mono ?_;rintro e u ⟨rfl,rfl⟩
 go_wp2_with fail
 refine G.o.mono ?_;rintro e u ⟨rfl,X,A1⟩
 have B3:=Qf (HB.out.trans A1);obtain⟨ma,mc,fa,fc,D⟩:=X.out;obtain⟨xb,xo,rfl,_,x0,x1,x2,x3⟩:=fu D.gns (k:=k) Z.o;have B6:=D.box.c2.1;rw[S.o] at x1;rw[M.o] at B6;clear A1 HB D x0 x2 x3 Q G;go_wp2_with fail;go_roundw
 case rel=>exact⟨lk,_,_,rfl,U,X,B3⟩
 case measure=>
  simp only[intOf];omega
theorem Ng{g:Nat}{e:TypeId}(h:BK g cs e W)(C:B<=g)(A:cs.size=n*z)(D:n<=1000):W.ownsRow B e z (.slice (some ⟨g,0,none⟩) n n) n cs.toList:=
 ⟨by rw[Array.length_toList]; exact A,.inr ⟨g,n,cs,rfl,C,h,nr,by unfold maxLen; omega,A,by rw[<-A,<-Array.length_toList,rC]⟩⟩
def J5(s:Qb)(B ib:Nat)(W:World):Prop:=s=[2,0]/\J6 B ib (nsX 2) (esX 2) W
theorem J5.below(h:J5 s B ib W)(C:Below B' W W')(A:B<=B'):J5 s B ib W':=⟨h.1,h.2.below C A⟩
theorem J5.mono(h:J5 s B ib W)(A:B<=B'):J5 s B' ib W:=⟨h.1,h.2.mono A⟩
def pJ(s:Qb)(B ib:Nat)(W:World):Prop:=s=[2,0]/\IxG B ib (nsX 2) (esX 2) W
theorem pJ.of(h:pJ s B ib W):J5 s W.heap.size ib W:=⟨h.1,h.2.in_⟩
theorem pJ.grown{b:Nat}(h:pJ s B ib W)(C:W.grownBy W' (some b))(D:b<B):pJ s B ib W':=by
 obtain⟨E,na,nc,ea,ec,A⟩:=h;exact⟨E,na,nc,ea,ec,A.box.grow1 C (by have:=A.lo; omega),A.lo,bD A.ns C D,bD A.es C D⟩
theorem pJ.below(h:pJ s B ib W)(D:PM W W'):pJ s B ib W':=by
 obtain⟨A,na,nc,ea,ec,C⟩:=h;exact⟨A,na,nc,ea,ec,C.below D⟩
theorem iext_x(k:Nat)(C:k<2)(h:IxG B ib (nsX k) (esX k) w):Qh 221 #[.pointer (some ⟨ib,0,none⟩),.int .i64 (k:Int),.int .u8 ((lwX k).toNat:Int)] w fun e w'=>e=.returned (.int .i64 ((k+1:Nat):Int))/\Qg (IxG B ib (nsX (k+1)) (esX (k+1)) w')/\Below B w w':=by
 rcases k with _ | _ | k
 ·exact iextend_w (sl:=0) (v:=0) (c:=2) h (by decide) rfl (by decide) (by decide) lw_zero
 ·exact iextend_w (sl:=1) (v:=1) (c:=0) h (by decide) rfl (by decide) (by decide) lw_one
 ·omega
theorem zW(s:Qb)(w:World)(hs:s=[2,0]):Qh 186 #[.string ⟨s.toArray⟩] w fun e w'=>∃ib,e=.returned (.pointer (some ⟨ib,0,none⟩))/\Qg (pJ s w.heap.size ib w')/\PM w w'/\w.heap.size<=ib:=by
 obtain⟨w1,B⟩:=Qe ((w.alloc (.cells #[.int .i64 0,.int .i64 (-1),.int .i64 0,.int .i64 (-1)] 250)).alloc (.cells #[.slice (some ⟨w.heap.size,0,none⟩) 1 1,.slice none 0 0] 254));have R:BK w.heap.size #[.int .i64 0,.int .i64 (-1),.int .i64 0,.int .i64 (-1)] 250 w1:=by rw[B]; exact(BK.new _ _ _).alloc _
 have S:BK (w.heap.size+1) #[.slice (some ⟨w.heap.size,0,none⟩) 1 1,.slice none 0 0] 254 w1:=by rw[B]; exact BK.new2 _ _ _ _
 have E:Qg (PM w w1):=Qf (by rw[B]; exact(ba _ _).alloc (by simp) _);have C:Qg (IxG w.heap.size (w.heap.size+1) (nsX 0) (esX 0) w1):=Qf ⟨some ⟨w.heap.size,0,none⟩,1,none,0,⟨S,by omega,Ng (n:=1) R nr rfl (by omega),World.ownsRow_nil _ _ _ _⟩⟩;obtain⟨ib,D⟩:=Qe (w.heap.size+1);rw[<-D] at C;have F:Qg (ib=w.heap.size+1):=Qf D;obtain⟨n,I⟩:=Qe s.length;have J:n=2:=by rw[I,hs]; rfl
 have HN:Qg (n=s.length):=Qf I;have A1:(⟨s.toArray⟩:ByteArray).size=n:=by rw[bH,I]
 have A0:(n:Int)<=1000:=by omega
 have Q:=Qf B;have G:Qg (∀k:Nat,k<2->∀w,(Instr.index 9 (.string ⟨s.toArray⟩) (.int .i64 (k:Int))).run Tryz.prog w=.ok (.int .u8 ((lwX k).toNat:Int)) w):=Qf (fun k U w=>by
  obtain⟨d,_,_,X,Y⟩:=idx ⟨s.toArray⟩ k (by rw[bH,<-I,J]; exact U);rw[Y,X,hs];rcases k with _ | _ | k
  ·rfl
  ·rfl
  ·omega)
 have W:=Qf hs;subst J;clear B R S D I hs;go_enter Tryz.func186,Tryz.ntmps186;go_wp2_with fail;rw[<-F.o,<-Q.o];clear Q;go_loopw [4,12] (fun l i wr=>∃(k:Nat),k<=2/\l=.int .i64 (k:Int)/\i=.int .i64 (k:Int)/\Qg (IxG w.heap.size ib (nsX k) (esX k) wr)/\Qg (PM w wr)) (fun _ i _=>2-(intOf i).toNat)
 case atStart=>exact⟨0,by omega,rfl,rfl,C,E⟩
 clear C E;obtain⟨k,U,rfl,rfl,K,L⟩:=hrel;by_cases H:k<2
 ·have Z:(k:Int)<2:=by omega
  have P:=G.o k H;have N:=Qf (iext_x k H K.out);generalize ((lwX k).toNat:Int)=d at P N;go_wp2_with fail
  refine N.o.mono ?_;rintro e u ⟨rfl,O,T⟩
  have M:=Qf (L.out.trans T);clear T N K L;go_wp2_with fail;go_roundw
  case rel=>exact⟨k+1,by omega,rfl,by go_num,O,M⟩
  case measure=>simp[intOf] <;> omega
 ·obtain rfl:k=2:=by omega
  have V:Qg (pJ s w.heap.size ib wr):=Qf ⟨W.o,K.out⟩;clear K G;go_wp2_with fail;go_ret;exact⟨ib,rfl,V,L.out,by have:=F.o; omega⟩
structure LoSt (y:Qb) (k v:Nat):Prop where
 le:k<=y.length
 wd:(k=0/\v=0)\/(k=1/\v=1/\y.take 1=[2])\/(k=1/\v=2/\y.take 1=[0])\/(k=2/\v=2/\y.take 2=[2,0])
theorem LoSt.lt(h:LoSt y k v):v<(nsX 2).length:=by
 show v<3;have:=h.wd;omega
theorem trZ(c:UInt8):trU tsZ 0 c=(if c=0 then some 2 else if c=2 then some 1 else none)/\trU tsZ 1 c=(if c=0 then some 2 else none)/\trU tsZ 2 c=none:=by
 unfold trU tsZ;refine⟨?_,?_,rfl⟩
 ·by_cases A:c=0
  ·subst A; rfl
  ·by_cases B:c=2
   ·subst B; rfl
   ·have e0:((0:UInt8)==c)=false:=by simpa using fun e:(0:UInt8)=c=>A e.symm
    have e2:((2:UInt8)==c)=false:=by simpa using fun e:(2:UInt8)=c=>B e.symm
    simp[List.find?,e0,e2,A,B]
 ·by_cases A:c=0
  ·subst A; rfl
  ·have e0:((0:UInt8)==c)=false:=by simpa using fun e:(0:UInt8)=c=>A e.symm
   simp[List.find?,e0,A]
theorem LoSt.some(h:LoSt y k v)(C:y.take (k+1)=y.take k++[c])(A:trU tsZ v c=some u)(D:k+1<=y.length):LoSt y (k+1) u:=by
 obtain⟨z0,z1,z2⟩:=trZ c;refine⟨D,?_⟩;rcases h.wd with⟨rfl,rfl⟩ | ⟨rfl,rfl,B⟩ | ⟨rfl,rfl,B⟩ | ⟨rfl,rfl,B⟩
 ·rw[z0] at A
  split at A
  ·rename_i e; cases A; subst e; exact .inr (.inr (.inl ⟨rfl,rfl,C⟩))
  ·split at A
   ·rename_i e; cases A; subst e; exact .inr (.inl ⟨rfl,rfl,C⟩)
   ·cases A
 ·rw[z1] at A
  split at A
  ·rename_i e; cases A; subst e
   exact .inr (.inr (.inr ⟨rfl,rfl,by rw[C,B]; rfl⟩))
  ·cases A
 ·rw[z2] at A; cases A
 ·rw[z2] at A; cases A
theorem LoSt.best(h:LoSt y k v)(C:k=y.length\/∃c,y.take (k+1)=y.take k++[c]/\trU tsZ v c=none):iD [2,0] y=((nd (nsX 2) v).fin-k,k)/\k<=(nd (nsX 2) v).fin:=by
 have key:∀(c:UInt8) (r s:Qb),(c::r).take 1=s->s=[c]:=fun c r s e=>by rw[<-e]; rfl
 rcases h.wd with⟨rfl,rfl⟩ | ⟨rfl,rfl,A⟩ | ⟨rfl,rfl,A⟩ | ⟨rfl,rfl,A⟩
 ·refine⟨?_,Nat.zero_le _⟩
  rcases y with _ | ⟨x,r⟩
  ·rfl
  ·rcases C with C | ⟨c,D,B⟩
   ·cases C
   ·cases D
    rw[(trZ x).1] at B;have e0:¬x=0:=fun e=>by rw[if_pos e] at B; cases B
    have e2:¬x=2:=fun e=>by rw[if_neg e0,if_pos e] at B; cases B
    have f0:¬(0:UInt8)=x:=fun e=>e0 e.symm
    have f2:¬(2:UInt8)=x:=fun e=>e2 e.symm
    simp[iD,ja,lcp,f0,f2,nsX,nd]
 ·refine⟨?_,nr⟩
  rcases y with _ | ⟨x,r⟩
  ·cases A
  ·cases key _ _ _ A
   rcases r with _ | ⟨z,r⟩
   ·simp[iD,ja,lcp,nsX,nd]
   ·rcases C with C | ⟨c,D,B⟩
    ·simp at C
    ·have:c=z:=by
      simp at D;exact D.symm
     subst this;rw[(trZ c).2.1] at B;have e0:¬c=0:=fun e=>by rw[if_pos e] at B; cases B
     have f0:¬(0:UInt8)=c:=fun e=>e0 e.symm
     simp[iD,ja,lcp,f0,nsX,nd]
 ·refine⟨?_,by decide⟩
  rcases y with _ | ⟨x,r⟩
  ·cases A
  ·cases key _ _ _ A
   simp[iD,ja,lcp,nsX,nd]
 ·refine⟨?_,by decide⟩
  rcases y with _ | ⟨x,_ | ⟨z,r⟩⟩
  ·cases A
  ·cases A
  ·have e:[x,z]=[2,0]:=A
   cases e
   simp[iD,ja,lcp,nsX,nd]
theorem Cy(hx:J5 a w.heap.size ib w)(Q:w.cell? ⟨bb,0,none⟩=some (.string ⟨b.toArray⟩))(V:w.cell? ⟨xb,0,none⟩=some (.pointer (some ⟨ib,0,none⟩)))(ha:a.length<=1000)(B0:(b.length:Int)<=1000000)(at_:Nat)(A9:at_<=b.length):
  Qh 190 #[.int .i64 (at_:Int),.pointer (some ⟨bb,0,none⟩),.pointer (some ⟨xb,0,none⟩)] w fun e w'=>e=.returned (.tuple #[.int .i64 ((iD a (b.drop at_)).1:Int),.int .i64 ((iD a (b.drop at_)).2:Int)])/\PM w w':=by
 obtain⟨rfl,A1⟩:=hx;have B6:=ixr_end;have C3:(nsX 2).length=3:=rfl;obtain⟨n,T⟩:=Qe b.length;have HN:Qg (n=b.length):=Qf T;have D0:(⟨b.toArray⟩:ByteArray).size=n:=by rw[bH,T]
 rw[<-T] at A9 B0;have G:Qg (∀k,at_+k<n->∃(d:Int) (c:UInt8),d=(c.toNat:Int)/\(b.drop at_).take (k+1)=(b.drop at_).take k++[c]/\∀w,(Instr.index 9 (.string ⟨b.toArray⟩) (.int .i64 ((at_+k:Nat):Int))).run Tryz.prog w=.ok (.int .u8 d) w):=Qf (fun k hk=>by
  obtain⟨d,_,_,h3,h4⟩:=idx ⟨b.toArray⟩ (at_+k) (by rw[bH,<-T]; exact hk);have B3:k<(b.drop at_).length:=by rw[ah,<-T]; omega
  refine⟨d,(b.drop at_)[k],?_,ai B3,h4⟩;rw[h3,eF];have:at_+k<b.length:=by omega
  simp[List.getD,this])
 obtain⟨y,hy⟩:=Qe (b.drop at_);have A4:y.length=n-at_:=by rw[hy,ah,T]
 rw[<-hy] at G ⊢;have P:=Qf A4;have Z:Qg (LoSt y 0 0):=Qf ⟨Nat.zero_le _,.inl ⟨rfl,rfl⟩⟩;have O:=Qf A1;have HC:Qg (∀W,PM w W->W.cell? ⟨bb,0,none⟩=some (.string ⟨b.toArray⟩)/\W.cell? ⟨xb,0,none⟩=some (.pointer (some ⟨ib,0,none⟩))):=Qf (fun W hb=>⟨(hb.cell (World.block_lt_of_cell? _ _ Q)).trans Q,(hb.cell (World.block_lt_of_cell? _ _ V)).trans V⟩);have Y:=Qf (Below.refl w.heap.size w);have C4:(0:Int)<=(at_:Int):=by omega
 clear T hy A4 A1 Q V;go_enter Tryz.func190,Tryz.ntmps190;go_wp2_with fail;go_loopw [6,7] (fun vv l wr=>∃(k v:Nat),vv=.int .i64 (v:Int)/\l=.int .i64 (k:Int)/\Qg (LoSt y k v)/\Qg (PM w wr)) (fun _ l _=>n-(intOf l).toNat)
 case atStart=>exact⟨0,0,rfl,rfl,Z,Y⟩
 clear Z Y;obtain⟨k,v,rfl,rfl,E,X⟩:=hrel;have C8:at_+k<=n:=by have:=E.out.le; have:=P.o; omega
 obtain⟨p,hp⟩:=Qe (at_+k);have D3:IntKind.i64.wrap ((at_:Int)+(k:Int))=(p:Int):=by rw[wrap_i64 (by omega) (by omega)]; omega
 obtain⟨C5,C6⟩:=HC.o wr X.out;have B:Qg ((k=y.length\/∃c,y.take (k+1)=y.take k++[c]/\trU tsZ v c=none)->iD [2,0] y=((nd (nsX 2) v).fin-k,k)/\k<=(nd (nsX 2) v).fin/\(nd (nsX 2) v).fin<=1000):=Qf (fun h3=>by
  obtain⟨g3,g4⟩:=E.out.best h3;refine⟨g3,g4,?_⟩;rcases E.out.wd with⟨_,rfl⟩ | ⟨_,rfl,_⟩ | ⟨_,rfl,_⟩ | ⟨_,rfl,_⟩ <;> decide)
 have C1:Qg (v<(nsX 2).length):=Qf E.out.lt;have D2:IntKind.i64.wrap ((k:Int)+1)=(k:Int)+1:=wrap_i64 (by omega) (by omega);by_cases C9:p<n
 ·have B4:(p:Int)<(n:Int):=by omega
  have C0:(k:Int)<(n:Int):=by omega
  obtain⟨d,c,hd,M,B2⟩:=G.o k (by omega);rw[<-hp] at B2;have D:PM w wr.drew:=X.out.drew;have C:=Qf (Ad (O.o.below D nr) B6 (by omega) v E.out.lt c);unfold Ky at C;rw[<-hd] at C;have L:=HC.o _ D;cases F:trU tsZ v c with
  | none=>
   rw[F] at C;simp only at C;obtain⟨e1,e2,e3⟩:=B.o (.inr ⟨c,M,F⟩);obtain⟨⟨na,nc,ea,ec,H,I,_⟩,_⟩:=O.o.below D nr;obtain⟨xb',xo,rfl,_,_,_,x2,_⟩:=fu I (k:=v) E.out.lt;have R:=H.c2.1;obtain⟨j,hj⟩:=Qe ((nd (nsX 2) v).fin);rw[<-hj] at x2 e1 e2 e3;obtain⟨nn,J⟩:=Qe ((nsX 2).length);rw[<-J] at R;have B5:(v:Int)<(nn:Int):=by have:=E.out.lt; omega
   have U:IntKind.i64.wrap ((j:Int)-(k:Int))=((j-k:Nat):Int):=by rw[wrap_i64 (by omega) (by omega)]; omega
   obtain⟨q,hq⟩:=Qe (j-k);rw[<-hq] at U e1;have HE:=Qf e1;have N:=Qf D;clear H I hd M F B E X hj J hq hp e1 e2 e3 D G;go_wp2_with fail;refine wp_region_held_drew (S:=(fun W=>W.cell? ⟨bb,0,none⟩=some (.string ⟨b.toArray⟩)/\W.cell? ⟨xb,0,none⟩=some (.pointer (some ⟨ib,0,none⟩)))) (by kernel_rfl) L (fun hHeld=>?_);refine th 0 ?_;refine th 1 ?_;refine th 2 ?_;refine th 3 ?_;refine th 4 ?_;refine th 5 ?_;refine th 6 ?_;refine wpAnyH_ready (rs:=[7]) (by kernel_rfl) (by simp) ?_;refine AllReadyH.cons rfl (fun K hK=>?_) AllReadyH.nil;go_simp
   refine C.o.mono ?_;rintro e uz ⟨rfl,rfl⟩
   refine hK.out _ _ (L) (fun hHeld=>?_);clear hK K;refine th 8 ?_;refine wpAnyH_done (by kernel_rfl) ?_ _;go_wp2_with fail;go_ret2;exact⟨by rw[HE.o]; first | done | rfl,N.o⟩
  | some u=>
   rw[F] at C;simp only at C;have A7:Qg (LoSt y (k+1) u):=Qf (E.out.some M F (by rw[P.o]; omega));have D1:¬(u:Int)<0:=by omega
   have N:=Qf D;clear hd M F B E X hp D G;go_wp2_with fail;refine wp_region_held_drew (S:=(fun W=>W.cell? ⟨bb,0,none⟩=some (.string ⟨b.toArray⟩)/\W.cell? ⟨xb,0,none⟩=some (.pointer (some ⟨ib,0,none⟩)))) (by kernel_rfl) L (fun hHeld=>?_);refine th 0 ?_;refine th 1 ?_;refine th 2 ?_;refine th 3 ?_;refine th 4 ?_;refine th 5 ?_;refine th 6 ?_;refine wpAnyH_ready (rs:=[7]) (by kernel_rfl) (by simp) ?_;refine AllReadyH.cons rfl (fun K hK=>?_) AllReadyH.nil;go_simp
   refine C.o.mono ?_;rintro e uz ⟨rfl,rfl⟩
   refine hK.out _ _ (L) (fun hHeld=>?_);clear hK K;refine th 8 ?_;refine wpAnyH_done (by kernel_rfl) ?_ _;go_wp2_with fail;go_roundw
   case rel=>exact⟨k+1,u,rfl,by go_num,A7,N⟩
   case measure=>simp only[intOf]; omega
 ·obtain rfl:p=n:=by omega
  have B4:¬(p:Int)<(p:Int):=by omega
  obtain⟨e1,e2,e3⟩:=B.o (.inl (by rw[P.o]; omega));obtain⟨⟨na,nc,ea,ec,H,I,_⟩,_⟩:=O.o.below X.out nr;obtain⟨xb',xo,rfl,_,_,_,x2,_⟩:=fu I (k:=v) E.out.lt;have R:=H.c2.1;obtain⟨j,hj⟩:=Qe ((nd (nsX 2) v).fin);rw[<-hj] at x2 e1 e2 e3;obtain⟨nn,J⟩:=Qe ((nsX 2).length);rw[<-J] at R;have B5:(v:Int)<(nn:Int):=by have:=E.out.lt; omega
  have U:IntKind.i64.wrap ((j:Int)-(k:Int))=((j-k:Nat):Int):=by rw[wrap_i64 (by omega) (by omega)]; omega
  obtain⟨q,hq⟩:=Qe (j-k);rw[<-hq] at U e1;have HE:=Qf e1;clear H I B E hj J hq e1 e2 e3 G hp;go_wp2_with fail;go_ret2;exact⟨by rw[HE.o]; first | done | rfl,X.out⟩
section
attribute [local go_sem] Oper.semAt_some
def dF(a b:Qb):Nat->Nat->List Dop
 | 0,_=>[]
 | f+1,k=>if k<b.length then eH a b k::dF a b f (k+bS (eH a b k)) else[]
theorem iT{f:Nat}(h:b.length<=k):dF a b f k=[]:=by
 cases f with
 | zero=>rfl
 | succ f=>rw[dF,if_neg (by omega)]
theorem qP{a b:Qb}:∀(f g k:Nat),b.length<=k+f->b.length<=k+g->dF a b f k=dF a b g k
 | 0,g,k,A,B=>by rw[iT (by omega),iT (by omega)]
 | f+1,0,k,A,B=>by rw[iT (by omega),iT (by omega)]
 | f+1,g+1,k,A,B=>by
  rw[dF,dF];by_cases e:k<b.length
  ·rw[if_pos e,if_pos e]
   have:=(lV (a:=a) e).1;rw[qP f g _ (by omega) (by omega)]
  ·rw[if_neg e,if_neg e]
def jH(a b:Qb):List Dop:=dF a b b.length 0
theorem ry{a b:Qb}:∀(f k:Nat) (l:List Dop),uU a b f k l=(dF a b f k).foldl Ko l
 | 0,k,l=>rfl
 | f+1,k,l=>by
  rw[uU,dF];by_cases e:k<b.length
  ·rw[if_pos e,if_pos e,fE,ry f]
  ·rw[if_neg e,if_neg e]; rfl
theorem CZ(a b:Qb):iM a b=(jH a b).foldl Ko []:=ry _ _ _
structure Mh (a b:Qb) (pre:List Dop) (k:Nat):Prop where
 le:k<=b.length
 eq:pre++dF a b (b.length-k) k=jH a b
theorem Mh.start(a b:Qb):Mh a b [] 0:=⟨Nat.zero_le _,rfl⟩
theorem Mh.next(h:Mh a b pre k)(B:k<b.length):Mh a b (pre++[eH a b k]) (k+bS (eH a b k))/\(pre++[eH a b k]) <+: jH a b:=by
 have hs:=lV (a:=a) B;have C:dF a b (b.length-k) k=eH a b k::dF a b (b.length-(k+bS (eH a b k))) (k+bS (eH a b k)):=by
  obtain⟨f,D⟩:∃f,b.length-k=f+1:=⟨b.length-k-1,by omega⟩;rw[D,dF,if_pos B,qP f (b.length-(k+bS (eH a b k))) _ (by omega) (by omega)]
 have A:pre++[eH a b k]++dF a b (b.length-(k+bS (eH a b k))) (k+bS (eH a b k))=jH a b:=by
  rw[<-h.eq,C]; simp
 exact⟨⟨hs.2,A⟩,⟨_,A⟩⟩
theorem Mh.done(h:Mh a b pre k)(A:¬k<b.length):pre=jH a b:=by
 have:=h.eq
 rwa[iT (by omega),bG] at this
def okS(a b:Qb)(pre:List Dop)(x:Dop):Prop:=(pre++[x]) <+: jH a b
structure Oe (a b:Qb) (B ib bb xb fb:Nat) (W:World):Prop where
 ix:J5 a B ib W
 bc:W.cell? ⟨bb,0,none⟩=some (.string ⟨b.toArray⟩)
 xc:W.cell? ⟨xb,0,none⟩=some (.pointer (some ⟨ib,0,none⟩))
 fc:W.cell? ⟨fb,0,none⟩=some (.func (.func 190) #[] #[.pointer (some ⟨bb,0,none⟩),.pointer (some ⟨xb,0,none⟩)])
 lt:bb<B/\xb<B/\fb<B
theorem Oe.below(h:Oe a b B ib bb xb fb W)(A:Below B W W'):Oe a b B ib bb xb fb W':=
 ⟨h.ix.below A nr,(A.cell h.lt.1).trans h.bc,(A.cell h.lt.2.1).trans h.xc,(A.cell h.lt.2.2).trans h.fc,h.lt⟩
theorem Ff(hd:Oe a b B ib bb xb fb w)(hB:B<=w.heap.size)(ha:a.length<=1000)(D2:(b.length:Int)<=1000000)(m:Nat)(hm:1<=m):
  yX Fence.wide m Tryz.prog 193 #[.pointer (some ⟨bb,0,none⟩),.pointer (some ⟨fb,0,none⟩)] (fun k=>k<B) Dop.val (okS a b) (jH a b) w:=by
 intro l J Y hJ hY D0 W B8 h0;refine callsIn_of_wp Tryz.func193 rfl trivial ?_ rfl;simp only[Tryz.ntmps193,nU,az,aK,Nat.reduceAdd,Nat.reduceSub,jg,je,nV,jT,aY,bz];have HJ:=Qf hJ;have HY:=Qf hY;have C9:=Qf D0;have C7:Qg (Oe a b B ib bb xb fb W):=Qf (hd.below (B8.mono hB));have C:Qg (B<=W.heap.size):=Qf (aC hB B8.size);have H0:=Qf h0;obtain⟨n,hn⟩:=Qe b.length;have HN:Qg (n=b.length):=Qf hn;have F4:(⟨b.toArray⟩:ByteArray).size=n:=by rw[bH,hn]
 rw[<-hn] at D2;clear hJ hY D0 hd B8 h0 hn;gi_wp2;gi_loopw [4] (fun i wr=>∃(k:Nat) (pre:List Dop),i=.int .i64 (k:Int)/\k<=n/\Qg (J pre wr)/\Qg (Mh a b pre k)/\Qg (Oe a b B ib bb xb fb wr)/\Qg (B<=wr.heap.size)) (fun i _=>n-(intOf i).toNat)
 case atStart=>exact⟨0,[],rfl,by omega,H0,Qf (Mh.start a b),C7,C⟩
 clear H0 C7 C;obtain⟨k,pre,rfl,hk,N,HS,HD,C⟩:=hrel;have D1:=HD.out.bc;by_cases D4:k<n
 ·have D9:(k:Int)<(n:Int):=by omega
  obtain⟨C2,C1⟩:=HS.out.next (by rw[<-HN.o]; exact D4);have C3:=lV (a:=a) (b:=b) (k:=k) (by rw[<-HN.o]; exact D4);have D3:(bS (eH a b k):Int)+k<=n:=by have:=HN.o; omega
  obtain⟨q1,q2,hq⟩:∃q1 q2,iD a (b.drop k)=(q1,q2):=⟨_,_,rfl⟩;obtain⟨u1,A0⟩:=Qe (wr.alloc (.cells #[.int .i64 0,.int .i64 0,.string ⟨((b.drop k).take 1).toArray⟩] 246));have P:PM wr u1:=by rw[A0]; exact ba _ _
  have A4:BK wr.heap.size #[.int .i64 0,.int .i64 0,.string ⟨((b.drop k).take 1).toArray⟩] 246 u1:=by rw[A0]; exact BK.new _ _ _
  have X:=HD.out.below (P.mono C.o);have O:=Qf (Cy (X.ix.mono (aC C.o P.size)) X.bc X.xc ha (by rw[<-HN.o]; exact D2) k (by rw[<-HN.o]; exact hk));rw[hq] at O;simp only at O;have B9:=X.fc;have D8:=dw b k (k+1);rw[show k+1-k=1 by omega] at D8;have F5:IntKind.i64.wrap ((k:Int)+1)=((k+1:Nat):Int):=by rw[wrap_i64 (by omega) (by omega)]; omega
  have Z:eH a b k=if 4<=q2 then⟨q1,q2,[]⟩ else⟨0,0,(b.drop k).take 1⟩:=by unfold eH; rw[hq]
  generalize (b.drop k).take 1=bs at *
  have A6:=Qf A0;rw[A0] at O B9;have V:=Qf C2;have U:=Qf C1;have A7:=C3.1;have A8:=P.size;have F3:wr.heap.size<u1.heap.size:=A4.lt;by_cases h4:4<=q2
  ·rw[if_pos h4] at Z
   have D7:(4:Int)<=(q2:Int):=by omega
   rw[Z] at V U D3 A7;clear Z C3 C2 C1 X hq A0 HS;gi_wp2;refine⟨trivial,?_⟩;refine(callsIn_wide.2 O.o).mono ?_;rintro e u2 ⟨rfl,H⟩;rw[<-A6.o] at H;have L:=A4.below H;have E:=P.trans (H.mono A8);clear O B9 A6 D1;obtain⟨c0,c1,c2⟩:=BK.c3 L;obtain⟨fc0,fc1,fc2⟩:=BK.f3 (L);obtain⟨u3,A1⟩:=Qe (((u2.setCell ⟨wr.heap.size,0,none⟩ (.int .i64 (q1:Int))).setCell ⟨wr.heap.size,1,none⟩ (.int .i64 (q2:Int))).setCell ⟨wr.heap.size,2,none⟩ (.string ⟨#[]⟩));have C0:BK wr.heap.size #[.int .i64 (q1:Int),.int .i64 (q2:Int),.string ⟨#[]⟩] 246 u3:=by
    rw[A1];have e0:BK _ #[.int .i64 (q1:Int),.int .i64 0,.string ⟨bs.toArray⟩] _ _:=L.set 0 (.int .i64 (q1:Int));have e1:BK _ #[.int .i64 (q1:Int),.int .i64 (q2:Int),.string ⟨bs.toArray⟩] _ _:=e0.set 1 (.int .i64 (q2:Int));exact e1.set 2 (.string ⟨#[]⟩)
   have B6:PM wr u3:=by rw[A1]; exact((E.setCell nr _).setCell nr _).setCell nr _
   obtain⟨fn,tmps,assign,body,hy,hR⟩:=C9.o pre ⟨q1,q2,[]⟩ wr u3 U.o N.out B6;simp only[Dop.val] at hy;have G:=Qf C0;have F:=Qf B6;obtain⟨d0,d1,d2⟩:=BK.c3 C0;rw[A1] at hy d0 d1 d2;rw[A1] at hR;have B3:=Qf A1;clear L E H C0 B6 A1 A4 P;gi_wp2;refine hR.mono ?_;rintro e W3 ⟨B7,M,Q⟩;have D:=B7.to_below (m:=B) (fun _ h=>h);rw[<-B3.o] at D M;have S:BK wr.heap.size #[.int .i64 (q1:Int),.int .i64 (q2:Int),.string ⟨#[]⟩] 246 W3:=M _ _ nr G.o.lt G.o (fun c f e=>by injection e with _ h2 _; exact absurd h2 (by decide));have R:=HD.out.below ((F.o.mono C.o).trans D);have T:B<=W3.heap.size:=aC C.o (aC F.o.size D.size);clear hy hR d0 d1 d2 c0 c1 c2 fc0 fc1 fc2;rcases Q with⟨rfl,A3⟩ | ⟨rfl,B5⟩
   ·have K:=Qf (uQ ⟨q1,q2,[]⟩ W3)
    simp only[Dop.val] at K;obtain⟨d0,d1,d2⟩:=BK.c3 S;have B1:=Qf A3;have A9:=Qf R;have A2:=Qf T;generalize E1:bS ⟨q1,q2,[]⟩=z at *
    have E0:IntKind.i64.wrap ((k:Int)+(z:Int))=((k+z:Nat):Int):=by rw[wrap_i64 (by omega) (by omega)]; omega
    clear M D S A3 R T B3 G F HD C N;gi_wp2;refine⟨trivial,?_⟩;refine(callsIn_wide.2 K.o).mono ?_;rintro e u5 ⟨rfl,I⟩;have B2:=Qf (HJ.o _ _ _ B1.o I);have B0:=Qf (A9.o.below (I.mono A2.o));have B4:=Qf (aC A2.o I.size);clear I K d0 d1 d2;gi_wp2;go_roundw
    case rel=>exact⟨k+z,_,by go_num,by omega,B2,V,B0,B4⟩
    case measure=>simp only[intOf]; omega
   ·clear M D S R T B3 G F HD C N V U
    gi_wp2;refine bodyPost_ret (results_none rfl _ _ _) rfl ?_;exact⟨⟨_,rfl⟩,.inr B5⟩
  ·rw[if_neg h4] at Z
   have D7:¬(4:Int)<=(q2:Int):=by omega
   rw[Z] at V U D3 A7;clear Z C3 C2 C1 X hq A0 HS;gi_wp2;refine⟨trivial,?_⟩;refine(callsIn_wide.2 O.o).mono ?_;rintro e u2 ⟨rfl,H⟩;rw[<-A6.o] at H;have L:=A4.below H;have E:=P.trans (H.mono A8);clear O B9 A6 D1;obtain⟨fn,tmps,assign,body,hy,hR⟩:=C9.o pre ⟨0,0,bs⟩ wr u2 U.o N.out E;simp only[Dop.val] at hy;have G:=Qf L;have F:=Qf E;rw[show((0:Nat):Int)=0 from rfl] at hy;obtain⟨d0,d1,d2⟩:=BK.c3 L;clear L E H A4 P;gi_wp2;refine hR.mono ?_;rintro e W3 ⟨B7,M,Q⟩;have D:=B7.to_below (m:=B) (fun _ h=>h);have S:BK wr.heap.size #[.int .i64 0,.int .i64 0,.string ⟨bs.toArray⟩] 246 W3:=M _ _ nr G.o.lt G.o (fun c f e=>by injection e with _ h2 _; exact absurd h2 (by decide));have R:=HD.out.below ((F.o.mono C.o).trans D);have T:B<=W3.heap.size:=aC C.o (aC F.o.size D.size);clear hy hR d0 d1 d2;rcases Q with⟨rfl,A3⟩ | ⟨rfl,B5⟩
   ·have K:=Qf (uQ ⟨0,0,bs⟩ W3)
    simp only[Dop.val] at K;rw[show((0:Nat):Int)=0 from rfl] at K;obtain⟨d0,d1,d2⟩:=BK.c3 S;have B1:=Qf A3;have A9:=Qf R;have A2:=Qf T;generalize E1:bS ⟨0,0,bs⟩=z at *
    have E0:IntKind.i64.wrap ((k:Int)+(z:Int))=((k+z:Nat):Int):=by rw[wrap_i64 (by omega) (by omega)]; omega
    clear M D S A3 R T G F HD C N;gi_wp2;refine⟨trivial,?_⟩;refine(callsIn_wide.2 K.o).mono ?_;rintro e u5 ⟨rfl,I⟩;have B2:=Qf (HJ.o _ _ _ B1.o I);have B0:=Qf (A9.o.below (I.mono A2.o));have B4:=Qf (aC A2.o I.size);clear I K d0 d1 d2;gi_wp2;go_roundw
    case rel=>exact⟨k+z,_,by go_num,by omega,B2,V,B0,B4⟩
    case measure=>simp only[intOf]; omega
   ·clear M D S R T G F HD C N V U
    gi_wp2;refine bodyPost_ret (results_none rfl _ _ _) rfl ?_;exact⟨⟨_,rfl⟩,.inr B5⟩
 ·obtain rfl:k=n:=by omega
  have D9:¬(k:Int)<(k:Int):=by omega
  have HR:=Qf (HS.out.done (by rw[<-HN.o]; omega));clear HS HD;gi_wp2;go_end0;exact⟨⟨_,rfl⟩,.inl (by rw[<-HR.o]; exact N.out)⟩
end
