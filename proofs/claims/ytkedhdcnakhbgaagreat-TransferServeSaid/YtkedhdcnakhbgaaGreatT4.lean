/- Lemmas. -/
import Derived.Test.YtkedhdcnakhbgaaGreatP10
import Derived.Test.YtkedhdcnakhbgaaGreatG5
import Derived.Test.YtkedhdcnakhbgaaGreatG6
import Derived.Test.YtkedhdcnakhbgaaGreatT1
import Derived.Test.YtkedhdcnakhbgaaGreatW3
import Derived.Test.YtkedhdcnakhbgaaGreatP11
import Derived.Test.YtkedhdcnakhbgaaGreatN5
import Derived.Test.YtkedhdcnakhbgaaGreatW4
import Derived.Test.YtkedhdcnakhbgaaGreatG2
import Derived.Lib.MinMax
import Derived.Test.YtkedhdcnakhbgaaGreatT2
import Derived.Test.YtkedhdcnakhbgaaGreatT3
set_option linter.unusedSimpArgs false
set_option maxRecDepth 100000
set_option maxHeartbeats 16000000
namespace Go.Proofs.YtkedhdcnakhbgaaGreat
open Tryz
open Go.RowKit
set_option linter.unusedVariables false
variable {id:Int}{X:List Itm}{ms r:List Msg}{m:Msg}{f n sz t:Nat}{D L:Qb}{l:Qd}
theorem VS(F:Asc X){x:Itm}(H:x∈X):I7 X x.d=true:=by
 obtain⟨k,E,B⟩:=aV H;have C:At X x.d k:=⟨Zo,fun j D h=>by
  have A:=F j k D E h;rw[B] at A;exact A,fun j D h=>by
  rcases gB k j with A | A
  ·have G:=F k j E D A;rw[B] at G;have I:=iZ (a:=x.d) (b:=X[j].d);omega
  ·obtain rfl:j=k:=Zo;rw[B,fO]
   decide⟩
 have A:=C.eq;unfold I7 qw;rw[<-A,List.getElem?_eq_getElem E,B];simp
theorem VQ{X:List Itm}:∀(l E:List Dg),(∀d∈l,I7 X d=true/\d∉E)->l.Nodup->pkE X l E=0
 | [],_,_,_=>rfl
 | d::l,E,h,D=>by
  obtain⟨B,C⟩:=h d Zs;rw[pkE,if_neg (Zj B),if_neg C];obtain⟨n1,n2⟩:=List.nodup_cons.1 D;refine VQ l _ (fun x A=>⟨(h x (Zj A)).1,fun e=>?_⟩) n2;rcases aD.1 e with e | e
  ·exact(h x (Zj A)).2 e
  ·rw[aH.1 e] at A; exact n1 A
theorem Sq{l base:List Dg}(B:∀d∈l++base,I7 X d=true)(C:l.Nodup)(D:l.length<=1000):Cs X l base=0:=by
 unfold Cs bsE;rw[if_neg Zo,if_neg (by rw[VQ l [] (fun d A=>⟨B d (Zj A),Zs⟩) C]; simp),if_pos (P5.2 fun d A=>B d (Zj A))]
theorem S9{d:Int×Int}(C:d∈(dh X l).1)(B:Asc X):I7 X d=true:=by
 have A:=(((gW X l).2.2 d).1.1 C).2;obtain⟨x,D,rfl,_⟩:=oW A;exact VS B D
def shM(n f:Nat)(m:Msg):Msg:=⟨m.kind,m.id,m.off+f,n,m.ds,m.data⟩
def V5(id:Int)(D:Qb)(f t sz:Nat):List Msg:=(Rn id ((D.drop f).take (t-f)) sz).map (shM D.length f)
theorem Tz(h:m.why=0):Qc m=(O9 m,0):=by unfold Qc; rw[if_pos h]
theorem TN{n f:Nat}:∀(ms:List Msg) (C:Qb),(∀m∈ms,(shM n f m).why=0)->Rz n f ms C=(C++(ms.map (shM n f)).flatMap O9,0)
 | [],C,_=>by simp[Rz]
 | m::ms,C,h=>by
  have A:=Tz (h m Zs);unfold shM at A;rw[Rz,A,if_neg Zs,TN ms _ (fun x B=>h x (Zj B)),eX,bR,ay];rfl
theorem UW(hs:1<=sz)(h:m∈Rn id D sz):∃a,a<D.length/\m=part id D sz a:=by
 unfold Rn at h;obtain⟨i,A,rfl⟩:=bV.1 h;rw[List.mem_range,Nat.lt_div_iff_mul_lt Zo] at A;exact⟨i*sz,Zo,rfl⟩
theorem Vn(hs:1<=sz)(E:t<=D.length)(h:m∈V5 id D f t sz):∃a:Nat,f<=a/\a<t/\m=⟨2,id,(a:Int),D.length,[],(D.drop a).take (min sz (t-a))⟩:=by
 unfold V5 at h;obtain⟨m',A,rfl⟩:=bV.1 h;obtain⟨a,B,rfl⟩:=UW hs A;have C:a<t-f:=by
  rw[aA,ah] at B;omega
 refine⟨a+f,Zo,Zo,?_⟩;unfold shM part;simp only[List.drop_take,eY,List.take_take];rw[show min sz (t-f-a)=min sz (t-(a+f)) by omega,show f+a=a+f by omega];simp
theorem TM(A:0<=id)(B:id<=1099511627776)(hs:1<=sz)(E:sz<=65536)(F:t<=D.length)(I:D.length<=1048576):∀m∈V5 id D f t sz,m.why=0/\m.ds=[]:=fun m C=>by
 obtain⟨a,G,H,rfl⟩:=Vn hs F C;refine⟨VJ A B ?_,rfl⟩;unfold vM v2;simp only[aA,ah,aK];simp;omega
theorem WW{size:Int}(C:0<=id)(E:id<=1099511627776)(hs:1<=size)(J:size<=65536)(G:f<t)(K:t<=D.length)(F:D.length<=1048576):
  Uw id D f t size=((V5 id D f t size.toNat).flatMap O9,0)/\V5 id D f t size.toNat≠[]:=by
 have H:((D.drop f).take (t-f)).length=t-f:=by rw[aA,ah]; omega
 have A:ww id ((D.drop f).take (t-f)) size=(Rn id ((D.drop f).take (t-f)) size.toNat,0):=by
  unfold ww;rw[if_neg Zo,if_neg Zo]
 have L:=TM (f:=f) C E (sz:=size.toNat) Zo Zo K F;constructor
 ·unfold Uw;rw[A,if_neg Zs,TN _ _ (fun m I=>(L (shM D.length f m) (List.mem_map_of_mem I)).1)];rfl
 ·intro e;have B:=congrArg List.length e;unfold V5 Rn at B;simp only[fC,List.length_range,aK,H] at B;have M:0<(t-f+size.toNat-1)/size.toNat:=Nat.div_pos Zo Zo;omega
open Go.RowKit Go.Shelf
theorem UV(T:Qb):0<=Ux T/\Ux T<=1099511627776:=by unfold Ux; omega
theorem serve_two{mi:Int}(a:Qa)(xs:List Itm)(c:Nat)(L:Qb)(size:Int)(w:World)(f n nd:Nat)(ds l base:Qd)(T:Qb)(hp:jQ w a xs c)(hA:Asc xs)(F1:xs.length<=90)(gi:Int)(go gt:Nat)(E6:BG L [⟨1,mi,(f:Int),0,ds,[]⟩,⟨3,gi,(go:Int),(gt:Int),[],[]⟩] n)(f0 t0:Nat)(E3:(gi=Ux T/\(go:Int)+gt<=T.length/\go=f0/\go+gt=t0)\/(¬(gi=Ux T/\(go:Int)+gt<=T.length)/\0=f0/\T.length=t0))(H4:(go:Int)+gt<=1048576)(hn:n=L.length)(hL:(L.length:Int)<=1000000)(hf:f<=ds.length)(A0:∀d∈ds,OkD d)(G0:ds.length<=400)(H7:1<=size)(H8:size<=65536)
  (E7:M6 xs (ds.take f) (ds.drop f)=(l,0)) (D9:(dh xs (ds.drop f)).1=base) (hT:(T.length:Int)<=1048576)
  (E4:∀la lc ba bc W,Its W.heap.size W a xs->dE W.heap.size W la l->dE W.heap.size W ba base->Qh 49 #[.slice a xs.length c,.slice la l.length lc,.slice ba base.length bc] W (Xz (.tuple #[T,Yi 0]) W)) :
  Qh 21 #[.slice a xs.length c,L,Yi size] w (Xz (.tuple #[.string ⟨(Uw (Ux T) T f0 t0 size).1.toArray⟩,Yi (Uw (Ux T) T f0 t0 size).2]) w):=by
 obtain⟨D5,F6,M,V,S,D2⟩:=Yn (UX L w Zo) E6 (fun wa wc ca cc W (hW:PM w W) hw hc=>Pz a xs c wa (ds.take f) wc ca (ds.drop f) cc W (hp.below hW) hA F1 hw (fun d hd=>A0 d (dK hd)) (Zy aA) hc (fun d hd=>A0 d (List.mem_of_mem_drop hd)) (Zy ah)) (fun ca cc W (hW:PM w W) hc=>zH a xs c ca (ds.drop f) cc W (hp.below hW) hA hc (fun d hd=>A0 d (List.mem_of_mem_drop hd)) Zo (Zy ah)) E4 hp.its;have B0:=Qf (fun W=>by
  have h:=UO (Ux T) T f0 t0 size W Zo Zo hT;exact h)
 have D4:=Qf (fun W=>qV T W Zo);have G3:=bH T;rw[E7] at M;obtain⟨tn,F0⟩:=Qe T.length;rw[<-F0] at hT G3 E3;have E:wrap64 ((iY T).1.tmod 1099511627777)=Ux T:=by
  rw[Int.tmod_eq_emod_of_nonneg (LH T)];unfold Ux wrap64;omega
 have C3:(ds.take f).length=f:=Zy aA;obtain⟨nc,C6⟩:=Qe (ds.length-f);have C2:(ds.drop f).length=nc:=by rw[ah,C6]
 rw[C3,C2] at M;rw[C2] at V;obtain⟨G9,H0,F5⟩:=Yk G0 C3 C6;have H3:(f:Int)<=400:=Zo;generalize xs.length=nx at M V S ⊢;obtain⟨ll,C4⟩:=Qe l.length;obtain⟨bl,B9⟩:=Qe base.length;obtain⟨D3,C9,HN,F4⟩:=Yl C4 B9 hn D9;rw[<-C4,<-B9] at S;clear hp hA F1 E6 A0 E7 E4 F0 C3 C6 C2 C4 B9 hn D9;go_enter func21,ntmps21;go_wp2_with fail;have hx:=D5.o;refine hx.mono ?_;clear hx D5;rintro e u ⟨ms,n2,E5,E0,C0⟩;obtain⟨rfl,rfl⟩:=F6.o.one E5;rcases C0 with⟨hq,a1,c1,rfl,C5,E1⟩ | ⟨hq,rfl⟩
 ·obtain⟨b0,o0,da,cd,B8,Y,q0,q1,q2,q3,q4,q5,X⟩:=C5 0 Zs;obtain⟨b1,o1,_,_,A7,_,_,s1,s2,s3,_,_,_⟩:=C5 1 Zs;rw[B8] at A7;cases A7;obtain⟨E2,F7,F3,F2,A6,A3,C1⟩:=E1 0 Zs;rw[B8] at A6;cases A6;simp only[aS,dG,QI] at q0 q1 q2 q3 q4 q5 X A3 C1;simp only[bK,aS,Nat.one_mul] at s1 s2 s3;rw[q4] at A3;cases A3;subst B8;obtain⟨A1,k1,D7,E8⟩:=Js da ds.length cd f Zo;obtain⟨A2,k2,D8,E9⟩:=Xi da ds.length cd f nc hf C1 F5.o;obtain⟨D0,D1,A9⟩:=Yk (D7 _ _ _ X) (D8 _ _ _ rfl X) E0;simp only[az,aK,aZ];have H6:prog.follows .mixedOrders=true:=Zk;have D6:Qg (∀v,PM u v->v.cell? ⟨b0,o0+6+1,none⟩=some (Yi gi)):=Qf (fun v hv=>(hv.cell (p:=⟨b0,o0+6+1,none⟩) Y).trans s1);have B1:Qg (∀v,PM u v->v.cell? ⟨b0,o0+6+2,none⟩=some (Yi (go:Int))):=Qf (fun v hv=>(hv.cell (p:=⟨b0,o0+6+2,none⟩) Y).trans s2);have B2:Qg (∀v,PM u v->v.cell? ⟨b0,o0+6+3,none⟩=some (Yi (gt:Int))):=Qf (fun v hv=>(hv.cell (p:=⟨b0,o0+6+3,none⟩) Y).trans s3);clear hq C5 E1 E5 Y X C1 D7 D8 E0 s1 s2 s3;go_wp2;go_region;obtain⟨v,hv⟩:=Qe u.drew;rw[<-hv];have O:PM u v:=hv▸(bf _).drew;obtain⟨R,B6,J⟩:=Yk (A9.o.trans (O.mono A9.o.size)) O (D1.o.ahead O);have HS:=Qf (M.o A1 k1 A2 k2 v R.o (D0.o.ahead O) J.o);clear hv O D0 D1 A9 E8 E9 M q0 q1 q2 q3 q4 q5;go_wp2_with fail;refine HS.o.mono ?_;rintro e u2 ⟨la,lc,rfl,F,B⟩;simp only at F ⊢;rw[<-D3.o] at F ⊢;obtain⟨P,B3,A5⟩:=Yk (R.o.trans (B.mono R.o.size)) (B6.o.trans (B.mono B6.o.size)) (kr D3.o F);have U:=Qf (V.o A2 k2 u2 P.o (J.o.ahead B));clear F B HS R J V;go_wp2_with fail;refine U.o.mono ?_;rintro e u3 ⟨pa,pc,sa,sc,rfl,Z,G1,B⟩;rw[F4.o] at Z ⊢;rw[<-C9.o] at Z ⊢;obtain⟨Q,B4⟩:=Yj (P.o.trans (B.mono P.o.size)) (B3.o.trans (B.mono B3.o.size));have HP:=Qf (S.o la lc pa pc u3 (D2.o.ahead Q.o) (A5.o.ahead B) (kr C9.o Z));clear Z G1 B U P A5 S D2;go_wp2_with fail;refine HP.o.mono ?_;rintro e u4 ⟨rfl,B⟩;obtain⟨A8,B5,HO⟩:=Yk (Q.o.trans (B.mono Q.o.size)) (B4.o.trans (B.mono B4.o.size)) (D4.o u4);clear B HP Q D4;generalize (iY T).1=g1 at E HO;generalize (iY T).2=g2 at HO;go_wp2_with fail;refine HO.o.mono ?_;rintro e u5 ⟨rfl,B⟩;obtain⟨C8,N⟩:=Yj (A8.o.trans (B.mono A8.o.size)) (B5.o.trans (B.mono B5.o.size));clear B HO A8 B5 B4 B3 B6;have H5:∀W,(Instr.index 54 (.agg #[Yu g1,Yu g2]) (Yi 0)).run prog W=.ok (Yu g1) W:=fun W=>Zk
  have I0:IntKind.i64.wrap ((go:Int)+gt)=(go:Int)+gt:=ZV;obtain⟨v6,A4⟩:=Qe u5.drew;have k1:=D6.o u5 N.o;have k2:=B1.o u5 N.o;have k3:=B2.o u5 N.o;have C7:PM u v6:=A4▸N.o.drew;have m2:=B1.o v6 C7;have m3:=B2.o v6 C7;have C:Qg (PM w v6):=Qf (A4▸C8.o.drew);have H:Qg (PM w v6.drew):=Qf C.o.drew;obtain⟨U,K,B7⟩:=Yk (B0.o v6) (B0.o v6.drew) A4;clear D6 B1 B2 N B0 A4 C8 C7;rcases E3 with⟨G,D,rfl,rfl⟩ | ⟨G,rfl,rfl⟩
  ·have t1:(gi==Ux T)=true:=Zu G;have t2:decide ((go:Int)+gt<=(tn:Int))=true:=Zu D;rw[Int.natCast_add] at K;clear G D U C;go_wp2_with fail;rw[E];go_region;rw[<-B7.o];go_wp2;go_region;go_wp2_with fail;refine K.o.mono ?_;rintro e u7 ⟨rfl,B⟩;have I:=Qf (H.o.trans (B.mono H.o.size));clear B K H;go_wp2;go_ret2;exact⟨rfl,I.o⟩
  ·rw[Int.natCast_zero] at U;by_cases D:gi=Ux T
   ·have t1:(gi==Ux T)=true:=Zu D;have t2:decide ((go:Int)+gt<=(tn:Int))=false:=by simpa using fun h=>G ⟨D,h⟩
    clear G D K H m2 m3;go_wp2_with fail;rw[E];go_region;rw[<-B7.o];go_wp2_with fail;refine U.o.mono ?_;rintro e u7 ⟨rfl,B⟩;have I:=Qf (C.o.trans (B.mono C.o.size));clear B U C;go_wp2;go_ret2;exact⟨rfl,I.o⟩
   ·have t1:(gi==Ux T)=false:=Zu D;clear G D K H m2 m3;go_wp2_with fail;rw[E];go_region;rw[<-B7.o];go_wp2_with fail;refine U.o.mono ?_;rintro e u7 ⟨rfl,B⟩;have I:=Qf (C.o.trans (B.mono C.o.size));clear B U C;go_wp2;go_ret2;exact⟨rfl,I.o⟩
 ·exfalso;simp[okM,HN.o] at hq
def rngS(pid:Int)(len:Nat):List Msg->Nat×Nat
 | [g]=>if g.id=pid/\g.off+g.tot<=len then(g.off.toNat,(g.off+g.tot).toNat) else(0,len)
 | _=>(0,len)
def pakS(X:List Itm)(want com:Qd):Qb:=(zP X (M6 X want com).1 (dh X com).1).1
def servS(X:List Itm)(ms:List Msg)(ok:Bool)(size:Int):Qb×Int:=
 if size<1\/65536<size then([],2) else if ok=false then([],13) else
 match ms with
 | []=>([],13)
 | m::r=>
  if(M6 X (m.ds.take m.off.toNat) (m.ds.drop m.off.toNat)).2≠0 then([],(M6 X (m.ds.take m.off.toNat) (m.ds.drop m.off.toNat)).2) else
  ((V5 (Ux (pakS X (m.ds.take m.off.toNat) (m.ds.drop m.off.toNat))) (pakS X (m.ds.take m.off.toNat) (m.ds.drop m.off.toNat)) (rngS (Ux (pakS X (m.ds.take m.off.toNat) (m.ds.drop m.off.toNat))) (pakS X (m.ds.take m.off.toNat) (m.ds.drop m.off.toNat)).length r).1 (rngS (Ux (pakS X (m.ds.take m.off.toNat) (m.ds.drop m.off.toNat))) (pakS X (m.ds.take m.off.toNat) (m.ds.drop m.off.toNat)).length r).2 size.toNat).flatMap O9,0)
theorem pak_facts(M:Asc X)(O:X.length<=40)(A:∀x∈X,OkD x.d/\x.data.length<=1000){want com:Qd}(h:M6 X want com=(l,0)):
  zP X l (dh X com).1=(pakS X want com,0)/\0<(pakS X want com).length/\(pakS X want com).length<=65536/\l.length<=40/\(dh X com).1.length<=40/\(∀d∈l,OkD d)/\∀d∈(dh X com).1,OkD d:=by
 have F:l=(dh X want).1.filter fun d=>!decide (d∈(dh X com).1):=by
  unfold M6 at h;split at h
  ·rename_i C;exact absurd (congrArg Prod.snd h) C
  ·split at h
   ·cases congrArg Prod.snd h
   ·exact(congrArg Prod.fst h).symm
 have H:∀l,(dh X l).1.Nodup:=fun l=>(gW X l).1.imp (fun {a b} h e=>by
  subst e;rw[fO] at h
  omega)
 have E:∀l:Qd,l.Nodup->(∀d∈l,I7 X d=true)->l.length<=X.length:=fun l C K=>by
  have D:=C.length_le_of_subset (l₂:=X.map (·.d)) (fun d A=>by
   obtain⟨x,J,rfl⟩:=QE (K d A);exact List.mem_map_of_mem J)
  rwa[fC] at D
 have L:∀d∈(dh X com).1,I7 X d=true:=fun d A=>S9 A M
 have B:∀d∈l,I7 X d=true:=fun d A=>by
  rw[F] at A;exact S9 (QJ.1 A).1 M
 have G:l.Nodup:=F▸(H want).filter _;have I:∀d,I7 X d=true->OkD d:=fun d h=>by
  obtain⟨x,J,rfl⟩:=QE h;exact(A x J).1
 have k1:=E l G B;have k2:=E _ (H com) L;have C:=Sq (X:=X) (l:=l) (base:=(dh X com).1) (fun d A=>by
  rcases aD.1 A with A | A
  ·exact B d A
  ·exact L d A) G Zo
 have K:=Vp (fun x J=>(A x J).2) l (dh X com).1;have D:zP X l (dh X com).1=(BX (Ih X l (dh X com).1),0):=by unfold zP; rw[if_neg (Zj C)]
 have N:pakS X want com=BX (Ih X l (dh X com).1):=by unfold pakS; rw[h,D]
 rw[D] at K;simp only at K;rw[N];refine⟨D,?_,Zo,Zo,Zo,fun d A=>I d (B d A),fun d A=>I d (L d A)⟩;unfold BX;rw[af,bX];omega
theorem serve_size(a:Qa)(n c:Nat)(L:Qb)(size:Int)(w:World)(h:size<1\/65536<size):
  Qh 21 #[.slice a n c,L,Yi size] w (Xz (.tuple #[.string ⟨([]:Qb).toArray⟩,Yi 2]) w):=by
 by_cases B:size<1
 ·have d1:decide (size<1)=true:=Zu B;go_enter func21,ntmps21;go_wp2;go_ret2;exact⟨rfl,bf _⟩
 ·have C:65536<size:=h.resolve_left B;have d1:decide (size<1)=false:=Zu B;have d2:decide (65536<size)=true:=Zu C;go_enter func21,ntmps21;go_wp2;go_ret2;exact⟨rfl,bf _⟩
theorem serve_dec(a:Qa)(nx c:Nat)(L:Qb)(size:Int)(w:World)(E:BG L ms n)(I:okM ms n L.length=false)(O:(L.length:Int)<=1000000)(M:1<=size)(N:size<=65536):
  Qh 21 #[.slice a nx c,L,Yi size] w (Xz (.tuple #[.string ⟨([]:Qb).toArray⟩,Yi 13]) w):=by
 obtain⟨G,H,K⟩:=Yk (UX L w Zo) E I;clear E I;go_enter func21,ntmps21;go_wp2_with fail;refine G.o.mono ?_;rintro e u ⟨P,n2,D,C,B⟩;obtain⟨rfl,rfl⟩:=H.o.one D;rcases B with⟨F,_⟩ | ⟨F,rfl⟩
 ·rw[K.o] at F; cases F
 ·have J:=Qf C;clear C F D;go_wp2;go_ret2;exact⟨rfl,J.o⟩
theorem serve_err{mi:Int}{r:List Msg}(a:Qa)(xs:List Itm)(c:Nat)(L:Qb)(size:Int)(w:World)(f n:Nat)(ds l:Qd)(er:Int)(hp:jQ w a xs c)(hA:Asc xs)(A6:xs.length<=90)(A0:BG L (⟨1,mi,(f:Int),0,ds,[]⟩::r) n)(hk:okM (⟨1,mi,(f:Int),0,ds,[]⟩::r) n L.length=true)(hL:(L.length:Int)<=1000000)(hf:f<=ds.length)(K:∀d∈ds,OkD d)(C4:ds.length<=400)(C9:1<=size)(D0:size<=65536)
  (A3:M6 xs (ds.take f) (ds.drop f)=(l,er)) (B3:er≠0) :
  Qh 21 #[.slice a xs.length c,L,Yi size] w (Xz (.tuple #[.string ⟨([]:Qb).toArray⟩,Yi er]) w):=by
 obtain⟨B0,B1,B⟩:=Yk (UX L w Zo) A0 (fun wa wc ca cc W (hW:PM w W) hw hc=>Pz a xs c wa (ds.take f) wc ca (ds.drop f) cc W (hp.below hW) hA A6 hw (fun d hd=>K d (dK hd)) (Zy aA) hc (fun d hd=>K d (List.mem_of_mem_drop hd)) (Zy ah));rw[A3] at B;have U:(ds.take f).length=f:=Zy aA;obtain⟨nc,J⟩:=Qe (ds.length-f);have T:(ds.drop f).length=nc:=by rw[ah,J]
 rw[U,T] at B;obtain⟨A9,HK⟩:=Yj J hk;have C7:(f:Int)<=400:=Zo;have C5:(er !=0)=true:=Zu B3;generalize xs.length=nx at B ⊢;clear hp hA A6 A0 K A3 U J T hk;go_enter func21,ntmps21;go_wp2_with fail;refine B0.o.mono ?_;rintro e u ⟨ms,n2,Z,R,H⟩;obtain⟨rfl,rfl⟩:=B1.o.one Z;rcases H with⟨hq,a1,c1,rfl,V,S⟩ | ⟨hq,rfl⟩
 ·obtain⟨b0,o0,da,cd,Q,B4,q0,q1,q2,q3,q4,q5,E⟩:=V 0 Zs;obtain⟨B2,B7,B6,B5,F,A7,I⟩:=S 0 Zs;rw[Q] at F;cases F;simp only[aS,dG,QI] at q0 q1 q2 q3 q4 q5 E A7 I;rw[q4] at A7;cases A7;subst Q;obtain⟨A1,k1,O,A4⟩:=Js da ds.length cd f Zo;obtain⟨A2,k2,P,A5⟩:=Xi da ds.length cd f nc hf I A9.o;obtain⟨M,N,G⟩:=Yk (O _ _ _ E) (P _ _ _ rfl E) R;obtain⟨nm,X⟩:=Qe r.length;simp only[az,<-X];have C8:prog.follows .mixedOrders=true:=Zk;clear hq V S Z B4 E I O P R X;go_wp2;go_region;obtain⟨v,hv⟩:=Qe u.drew;rw[<-hv];have D:PM u v:=hv▸(bf _).drew;have C:=Qf (G.o.trans (D.mono G.o.size));have HS:=Qf (B.o A1 k1 A2 k2 v C.o (M.o.ahead D) (N.o.ahead D));clear hv D M N G A4 A5 B q0 q1 q2 q3 q4 q5;go_wp2_with fail;refine HS.o.mono ?_;rintro e u2 ⟨la,lc,rfl,Y,hb⟩;have A8:=Qf (C.o.trans (hb.mono C.o.size));clear Y hb HS C;simp only;go_wp2;go_ret2;exact⟨rfl,A8.o⟩
 ·rw[HK.o] at hq; cases hq
theorem scans_mem(h:BG L ms n)(A:m∈ms):∃s u,pg s=some (m,u)/\s.length<=L.length:=by
 induction h with
 | stop=>cases A
 | step B _ ih=>
  rcases List.mem_cons.1 A with rfl | A
  ·exact⟨_,_,B,nr⟩
  ·obtain⟨s,u,C,D⟩:=ih A;rw[ah] at D;exact⟨s,u,C,Zo⟩
theorem want_form(h:m.why=0)(B:m.kind=1):∃(f:Nat),m=⟨1,m.id,(f:Int),0,m.ds,[]⟩/\f<=m.ds.length:=by
 obtain⟨_,_,A⟩:=Sg h;obtain⟨k,i,o,t,ds,d⟩:=m;simp only at B A ⊢;subst B;unfold vM at A;rw[if_pos rfl,decide_eq_true_eq] at A;obtain⟨E,F,G,C,D⟩:=A;refine⟨o.toNat,?_,Zo⟩;rw[aU D,C,show((o.toNat:Nat):Int)=o by omega]
theorem gap_form(h:m.why=0)(B:m.kind=3):∃(o t:Nat),m=⟨3,m.id,(o:Int),(t:Int),[],[]⟩/\1<=t/\(o:Int)+t<=1048576:=by
 obtain⟨_,_,A⟩:=Sg h;obtain⟨k,i,o,t,ds,d⟩:=m;simp only at B A ⊢;subst B;unfold vM at A;rw[if_neg Zd,if_neg Zd,if_pos rfl,decide_eq_true_eq] at A;obtain⟨E,F,G,H,C,D⟩:=A;refine⟨o.toNat,t.toNat,?_,Zo,Zo⟩;rw[aU C,aU D,show((o.toNat:Nat):Int)=o by omega,show((t.toNat:Nat):Int)=t by omega]
theorem req_msg(h:BG L ms n)(E:m∈ms):m.why=0/\WG m.ds/\16*m.ds.length<=L.length:=by
 obtain⟨s,u,hs,G⟩:=scans_mem h E;obtain⟨B,C,D⟩:=frame_canon hs;refine⟨C,D,?_⟩;have F:=(Uq hs).2;have A:=congrArg List.length B;rw[aA,QP] at A;unfold yP at A;simp only[af,lF] at A;omega
theorem rng_ok{pid:Int}{len:Nat}(B:0<len)(C:r=[]\/∃gi,∃o t:Nat,r=[⟨3,gi,(o:Int),(t:Int),[],[]⟩]/\1<=t):(rngS pid len r).1<(rngS pid len r).2/\(rngS pid len r).2<=len:=by
 rcases C with rfl | ⟨gi,o,t,rfl,D⟩
 ·exact⟨B,nr⟩
 ·rw[show rngS pid len [⟨3,gi,(o:Int),(t:Int),[],[]⟩]=if gi=pid/\(o:Int)+(t:Int)<=(len:Int) then((o:Int).toNat,((o:Int)+(t:Int)).toNat) else(0,len) from rfl];by_cases A:gi=pid/\(o:Int)+(t:Int)<=(len:Int)
  ·rw[if_pos A];have E:=A.2;simp only;omega
  ·rw[if_neg A];exact⟨B,nr⟩
theorem req_form(h:BG L ms n)(A:okM ms n L.length=true):n=L.length/\∃(mi:Int) (f:Nat) (ds:Qd) (r:List Msg),ms=⟨1,mi,(f:Int),0,ds,[]⟩::r/\f<=ds.length/\WG ds/\16*ds.length<=L.length/\(r=[]\/∃gi,∃o t:Nat,r=[⟨3,gi,(o:Int),(t:Int),[],[]⟩]/\1<=t/\(o:Int)+t<=1048576):=by
 match ms,h,A with
 | [],_,A=>cases A
 | [a],h,A=>
  unfold okM at A;simp only[Bool.and_eq_true,decide_eq_true_eq] at A;obtain⟨w1,w2,w3⟩:=req_msg h (m:=a) Zs;obtain⟨f,e,B⟩:=want_form w1 A.2;exact⟨A.1,a.id,f,a.ds,[],by rw[<-e],B,w2,w3,.inl rfl⟩
 | [a,b],h,A=>
  unfold okM at A;simp only[Bool.and_eq_true,decide_eq_true_eq] at A;obtain⟨w1,w2,w3⟩:=req_msg h (m:=a) Zs;obtain⟨g1,_,_⟩:=req_msg h (m:=b) Zs;obtain⟨f,e,B⟩:=want_form w1 A.1.2;obtain⟨o,t,e2,C,D⟩:=gap_form g1 A.2;exact⟨A.1.1,a.id,f,a.ds,[b],by rw[<-e],B,w2,w3,.inr ⟨b.id,o,t,by rw[<-e2],C,D⟩⟩
 | _::_::_::_,_,A=>cases A
theorem serve_any(a:Qa)(xs:List Itm)(c:Nat)(L:Qb)(size:Int)(w:World)(P:jQ w a xs c)(J:Asc xs)(A1:xs.length<=40)(H:∀x∈xs,OkD x.d/\x.data.length<=1000)(hL:L.length<=6000)(E:BG L ms n):
  Qh 21 #[.slice a xs.length c,L,Yi size] w (Xz (.tuple #[.string ⟨(servS xs ms (okM ms n L.length) size).1.toArray⟩,Yi (servS xs ms (okM ms n L.length) size).2]) w):=by
 by_cases hs:size<1\/65536<size
 ·unfold servS;rw[if_pos hs];exact serve_size a _ c L size w hs
 have B:1<=size:=Zo;have C:size<=65536:=Zo;cases X:okM ms n L.length with
 | false=>
  unfold servS;rw[if_neg hs,if_pos rfl];exact serve_dec a _ c L size w E X Zo B C
 | true=>
  obtain⟨hn,mi,f,ds,r,rfl,U,Q,A8,hr⟩:=req_form E X;have G:∀d∈ds,OkD d:=fun d hd=>by
   have:=Q d hd;unfold OkD Ku;omega
  unfold servS;rw[if_neg hs,if_neg Zs];simp only[aj];obtain⟨S,I⟩:=Qe (M6 xs (ds.take f) (ds.drop f));obtain⟨l,er⟩:=S;by_cases R:er=0
  ·subst R;obtain⟨p1,p2,p3,p4,p5,p6,p7⟩:=pak_facts J A1 H I.symm;rw[<-I,if_neg Zs];obtain⟨T,hT⟩:=Qe (pakS xs (ds.take f) (ds.drop f));rw[<-hT] at p1 p2 p3 ⊢;have Z:Pt xs c:=⟨J,fun x hx=>(H x hx).1,fun x hx=>(H x hx).2,Zo,P.cap⟩;have K:∀la lc ba bc W,Its W.heap.size W a xs->dE W.heap.size W la l->dE W.heap.size W ba (dh xs (ds.drop f)).1->Qh 49 #[.slice a xs.length c,.slice la l.length lc,.slice ba (dh xs (ds.drop f)).1.length bc] W (Xz (.tuple #[T,Yi 0]) W):=fun la A0 ba bc W hi hl hb=>by
    have O:=PG Z hi hl hb p6 p7 (lc:=A0) (bc:=bc) Zo Zo;rw[p1] at O;exact O
   obtain⟨q0,q1⟩:=UV T;have N:=rng_ok (pid:=Ux T) p2 (hr.imp id fun⟨gi,o,t,e,h1,_⟩=>⟨gi,o,t,e,h1⟩);have F:=(WW (D:=T) (f:=(rngS (Ux T) T.length r).1) (t:=(rngS (Ux T) T.length r).2) q0 q1 B C N.1 N.2 Zo).1;rcases hr with rfl | ⟨gi,o,t,rfl,h1,O⟩
   ·have k:=SG a xs c L size w f n 0 ds l _ T P J Zo E hn Zo U G Zo B C I.symm rfl Zo K;unfold rngS at F ⊢;simp only at F ⊢;rw[F] at k;exact k
   ·have V:(gi=Ux T/\(o:Int)+t<=T.length/\o=(rngS (Ux T) T.length [⟨3,gi,(o:Int),(t:Int),[],[]⟩]).1/\o+t=(rngS (Ux T) T.length [⟨3,gi,(o:Int),(t:Int),[],[]⟩]).2)\/(¬(gi=Ux T/\(o:Int)+t<=T.length)/\0=(rngS (Ux T) T.length [⟨3,gi,(o:Int),(t:Int),[],[]⟩]).1/\T.length=(rngS (Ux T) T.length [⟨3,gi,(o:Int),(t:Int),[],[]⟩]).2):=by
     unfold rngS;simp only;by_cases M:gi=Ux T/\(o:Int)+t<=T.length
     ·rw[if_pos M];exact .inl ⟨M.1,M.2,Zs,Zp⟩
     ·rw[if_neg M];exact .inr ⟨M,rfl,rfl⟩
    have k:=serve_two a xs c L size w f n 0 ds l _ T P J Zo gi o t E _ _ V O hn Zo U G Zo B C I.symm rfl Zo K;rw[F] at k;exact k
  ·rw[<-I,if_pos R];have Y:okM (⟨1,mi,(f:Int),0,ds,[]⟩::r) n L.length=true:=X;exact serve_err a xs c L size w f n ds l er P J Zo E Y Zo U G Zo B C I.symm R
def pk17S(X:List Itm)(want com:Qd):Qb×Int:=if(M6 X want com).2≠0 then([],(M6 X want com).2) else(pakS X want com,0)
theorem rpack17_any(a:Qa)(X:List Itm)(c:Nat)(wa:Qa)(want:Qd)(wc:Nat)(ca:Qa)(com:Qd)(cc:Nat)(w:World)(hi:Its w.heap.size w a X)(V:X.length<=c)(Q:Asc X)(hl:X.length<=40)(Y:∀x∈X,OkD x.d/\x.data.length<=1000)(hw:dE w.heap.size w wa want)(hc:dE w.heap.size w ca com)(okw:∀d∈want,OkD d)(okc:∀d∈com,OkD d)(lw:(want.length:Int)<=400)(lc:(com.length:Int)<=400):
  Qh 53 #[.slice a X.length c,.slice wa want.length wc,.slice ca com.length cc] w (Xz (.tuple #[.string ⟨(pk17S X want com).1.toArray⟩,Yi (pk17S X want com).2]) w):=by
 have F:∀x∈X,(x.data.length:Int)<=1000000:=fun x hx=>Zh ((Y x hx).2)
 obtain⟨N,P⟩:=Yj (rsend_any a X c wa want wc ca com cc w hi Q F hl hw okw lw hc okc lc) (fun W (hW:PM w W)=>Ui a X c ca com cc W (hi.ahead hW) Q (hc.ahead hW) Zo Zo F);obtain⟨R,M⟩:=Qe (pk17S X want com);rw[<-M];unfold pk17S at M;obtain⟨S,hS⟩:=Qe (M6 X want com);rw[<-hS] at N M;obtain⟨l,er⟩:=S;simp only at M;obtain⟨E,O⟩:=Yj M (fun I:er=0=>pak_facts (l:=l) Q hl Y (by rw[<-hS,I]));have C:=Qf (fun(I:er=0) la A0 ba bc W (h1:Its W.heap.size W a X) (h2:dE W.heap.size W la l) (h3:dE W.heap.size W ba (dh X com).1) (h4:l.length<=A0)=>by
  obtain⟨p1,p2,p3,p4,p5,p6,p7⟩:=O.o I;have h5:=rpackw_any (xs:=X) (l:=l) (base:=(dh X com).1) (a:=a) (la:=la) (ba:=ba) (c:=c) (lc:=A0) (bc:=bc) (w:=W) ⟨Q,fun x hx=>(Y x hx).1,fun x hx=>(Y x hx).2,Zo,V⟩ h1 h2 h3 p6 p7 Zo h4 Zo;rw[p1] at h5;exact h5)
 have K:=Qf hi;generalize pakS X want com=T at C E M;generalize X.length=nx at N P C ⊢;generalize want.length=nw at N ⊢;generalize com.length=nc at N P ⊢;clear hi V Q hl Y hw hc okw okc lw lc F M hS O;go_enter func53,ntmps53;go_wp2_with fail;refine N.o.mono ?_;rintro e u1 ⟨la,A0,rfl,Z,U,H⟩;obtain⟨B,J⟩:=Yj H Z;clear N Z H;simp only at U ⊢;by_cases I:er=0
 ·subst I;have L:Qg (R=(T,0)):=Qf (E.o.trans (if_neg Zs));have D:=Qf (P.o u1 B.o);clear E P;go_wp2_with fail;refine D.o.mono ?_;rintro e u2 ⟨ba,bc,A1,A2,rfl,h1,h2,H⟩;have G:=Qf (B.o.trans (H.mono B.o.size));have D:=Qf (C.o Zv la A0 ba bc u2 (K.o.ahead G.o) (J.o.ahead H) h1 U);clear h1 h2 H C K J B;simp only;go_wp2_with fail;refine D.o.mono ?_;rintro e u3 ⟨rfl,H⟩;have A3:=Qf (G.o.trans (H.mono G.o.size));clear H D G;go_wp2;go_ret2;exact⟨Zw L.o,A3.o⟩
 ·have B3:(er !=0)=true:=Zu I;have L:Qg (R=([],er)):=Qf (E.o.trans (if_pos I));clear E P C K J I;go_wp2;go_ret2;exact⟨Zw L.o,B.o⟩
theorem rid_any(T:Qb)(w:World)(H:(T.length:Int)<=1000000000):
  Qh 54 #[T] w (Xz (Yi (Ux T)) w):=by
 have C:=Qf (Hu T w Zo);have B:wrap64 ((iY T).1.tmod 1099511627777)=Ux T:=by
  rw[Int.tmod_eq_emod_of_nonneg (LH T)];unfold Ux wrap64;omega
 obtain⟨pd,D⟩:=Qe (Ux T);rw[<-D] at B ⊢;generalize (iY T).1=g1 at B C;generalize (iY T).2=g2 at C;clear D;go_enter func54,ntmps54;go_wp2_with fail;refine C.o.mono ?_;rintro e u5 ⟨rfl,F⟩;have E:=Qf F;have G:∀W,(Instr.index 54 (.agg #[Yu g1,Yu g2]) (Yi 0)).run prog W=.ok (Yu g1) W:=fun W=>Zk
 clear F C;go_wp2_with fail;rw[B];go_ret;exact⟨rfl,E.o⟩
def pcM(id:Int)(D:Qb)(f t sz k:Nat):Msg:=⟨2,id,((f+k*sz:Nat):Int),D.length,[],(D.drop (f+k*sz)).take (min (f+k*sz+sz) t-(f+k*sz))⟩
theorem rep_list(hs:1<=sz)(A:f<t)(C:t<=D.length):∃n,V5 id D f t sz=(List.range n).map (pcM id D f t sz)/\∀k,k<n↔f+k*sz<t:=by
 have B:((D.drop f).take (t-f)).length=t-f:=by rw[aA,ah]; omega
 refine⟨(t-f+sz-1)/sz,?_,fun k=>?_⟩
 ·unfold V5 Rn;rw[B,List.map_map];refine rO fun k _=>?_
  unfold pcM;simp only[Function.comp,shM,part,List.drop_take,eY,List.take_take];rw[show min sz (t-f-k*sz)=min (f+k*sz+sz) t-(f+k*sz) by omega];congr 1;omega
 ·rw[Nat.lt_div_iff_mul_lt Zo];omega
theorem frame_pc(h:m.ds=[]):(O9 m).length<=72+m.data.length:=by
 rw[QP];unfold yP;have:=jo [m.kind,m.id,m.off,m.tot,m.ds.length];have A:=aG m.data.length;rw[af,af,af,lF,h];rw[h] at this;simp only[az,aK] at this ⊢;omega
theorem rserve_size(a:Qa)(n c:Nat)(L:Qb)(size:Int)(w:World)(h:size<1\/65536<size):
  Qh 22 #[.slice a n c,L,Yi size] w (Xz (.tuple #[.string ⟨([]:Qb).toArray⟩,Yi 2]) w):=by
 by_cases B:size<1
 ·have d1:decide (size<1)=true:=Zu B;go_enter func22,ntmps22;go_wp2;go_ret2;exact⟨rfl,bf _⟩
 ·have C:65536<size:=h.resolve_left B;have d1:decide (size<1)=false:=Zu B;have d2:decide (65536<size)=true:=Zu C;go_enter func22,ntmps22;go_wp2;go_ret2;exact⟨rfl,bf _⟩
theorem rserve_dec(a:Qa)(nx c:Nat)(L:Qb)(size:Int)(w:World)(I:BG L ms n)(M:okM ms n L.length=false)(Y:(L.length:Int)<=1000000)(V:1<=size)(W:size<=65536):
  Qh 22 #[.slice a nx c,L,Yi size] w (Xz (.tuple #[.string ⟨([]:Qb).toArray⟩,Yi 13]) w):=by
 obtain⟨R,G⟩:=Yj (refScan_any L w Zo) I;have Q:=bH L;have d1:decide (size<1)=false:=Zy decide_eq_false_iff_not;have d2:decide (65536<size)=false:=Zy decide_eq_false_iff_not;obtain⟨N,S⟩:=Qe L.length;rw[<-S] at Q M;have C:=Qf M;clear S I M;go_enter func22,ntmps22;go_wp2_with fail;refine R.o.mono ?_;rintro e u ⟨Z,n2,ma,mc,H,rfl,B,T,D,K,J⟩;obtain⟨rfl,rfl⟩:=G.o.one H;have F:=Qf T;clear H K J T R G;by_cases O:n=N
 case neg=>
  have P:((n:Int) !=(N:Int))=true:=Zt;generalize ms.length=nm;clear B D C O;go_wp2;go_ret2;exact⟨rfl,F.o⟩
 have P:((n:Int) !=(N:Int))=false:=Zt
 match ms,B,C,D with
 | [],B,C,D=>
  simp only[aK];clear B C D;go_wp2;go_ret2;exact⟨rfl,F.o⟩
 | [p],B,C,D=>
  obtain⟨b0,o0,_,_,rfl,_,q0,_⟩:=B 0 Zs;have E:(p.kind !=1)=true:=by simpa[okM,O] using C.o
  simp only[aS,dG,QI] at q0;simp only[az,aK];generalize p.kind=pk at q0 E;clear B C D;go_wp2;go_ret2;exact⟨rfl,F.o⟩
 | [p,q],B,C,D=>
  obtain⟨b0,o0,_,_,rfl,_,q0,_⟩:=B 0 Zs;obtain⟨b1,o1,_,_,e1,_,q1,_⟩:=B 1 Zs;cases e1;have h:p.kind=1->¬q.kind=3:=by simpa[okM,O] using C.o
  simp only[aS,dG,QI] at q0;simp only[bK,aS,Nat.one_mul] at q1;simp only[az,aK];generalize p.kind=pk at q0 h;generalize q.kind=qk at q1 h;clear B C D;by_cases E:pk=1
  ·subst E;have X:(qk !=3)=true:=by simpa using h rfl
   clear h;go_wp2;go_ret2;exact⟨rfl,F.o⟩
  ·have E:(pk !=1)=true:=Zu E;clear h;go_wp2;go_ret2;exact⟨rfl,F.o⟩
 | p::q::s::r,B,C,D=>
  have E:decide ((2:Int)<((p::q::s::r).length:Int))=true:=Zt;have U:decide (((p::q::s::r).length:Int)<1)=false:=Zt;generalize (p::q::s::r).length=nm at E U;clear B C D;go_wp2;go_ret2;exact⟨rfl,F.o⟩
def resS(X:List Itm)(want com:Qd)(r:List Msg)(size:Int):Qb×Int:=if(M6 X want com).2≠0 then([],(M6 X want com).2) else((V5 (Ux (pakS X want com)) (pakS X want com) (rngS (Ux (pakS X want com)) (pakS X want com).length r).1 (rngS (Ux (pakS X want com)) (pakS X want com).length r).2 size.toNat).flatMap O9,0)
theorem rserve_ok{mi:Int}(a:Qa)(X:List Itm)(c:Nat)(L:Qb)(size:Int)(w:World)(f n:Nat)(ds:Qd)(hi:Its w.heap.size w a X)(D4:X.length<=c)(hX:Asc X)(F2:X.length<=40)(F1:∀x∈X,OkD x.d/\x.data.length<=1000)(G0:BG L (⟨1,mi,(f:Int),0,ds,[]⟩::r) n)(hn:n=L.length)(hL:(L.length:Int)<=1000000)(hf:f<=ds.length)(E9:∀d∈ds,OkD d)(I3:ds.length<=400)(J1:1<=size)(J2:size<=65536)(hr:r=[]\/∃gi,∃o t:Nat,r=[⟨3,gi,(o:Int),(t:Int),[],[]⟩]/\1<=t/\(o:Int)+t<=1048576):
  Qh 22 #[.slice a X.length c,L,Yi size] w (Xz (.tuple #[.string ⟨(resS X (ds.take f) (ds.drop f) r size).1.toArray⟩,Yi (resS X (ds.take f) (ds.drop f) r size).2]) w):=by
 obtain⟨HS,D1⟩:=Yj (refScan_any L w Zo) G0;have H4:=bH L;have d1:decide (size<1)=false:=Zy decide_eq_false_iff_not;have d2:decide (65536<size)=false:=Zy decide_eq_false_iff_not;have H1:((n:Int) !=(L.length:Int))=false:=Zn hn;obtain⟨R,hR⟩:=Qe (resS X (ds.take f) (ds.drop f) r size);rw[<-hR];unfold resS at hR;have F9:(ds.take f).length=f:=Zy aA;obtain⟨nc,E8⟩:=Qe (ds.length-f);have F8:(ds.drop f).length=nc:=by rw[ah,E8]
 have O:=Qf (fun wa wc ca cc W (hW:PM w W) hw hc=>rpack17_any a X c wa (ds.take f) wc ca (ds.drop f) cc W (hi.ahead hW) D4 hX F2 F1 hw hc (fun d hd=>E9 d (dK hd)) (fun d hd=>E9 d (List.mem_of_mem_drop hd)) (Zy aA) (Zy ah));rw[F9,F8] at O;have F7:=Qf E8;have HF:∀l,M6 X (ds.take f) (ds.drop f)=(l,0)->0<(pakS X (ds.take f) (ds.drop f)).length/\(pakS X (ds.take f) (ds.drop f)).length<=65536:=fun l h=>by
  obtain⟨_,p2,p3,_⟩:=pak_facts hX F2 F1 h;exact⟨p2,p3⟩
 obtain⟨S,hS⟩:=Qe (M6 X (ds.take f) (ds.drop f));unfold pk17S at O;rw[<-hS] at hR O HF;obtain⟨l,er⟩:=S;have A6:=Qf (HF l);simp only at hR O;generalize pakS X (ds.take f) (ds.drop f)=T at hR O A6;obtain⟨A4,F6⟩:=Yj hR hf;have I5:(f:Int)<=400:=Zo;obtain⟨N,hN⟩:=Qe L.length;rw[<-hN] at H4 H1;generalize X.length=nx at O ⊢;clear hi D4 hX F2 F1 G0 hn hL E9 hR F9 E8 F8 hS hN HF;have I9:prog.follows .mixedOrders=true:=Zk;rcases hr with rfl | ⟨gi,go,gt,rfl,I6,I7⟩
 ·go_enter func22,ntmps22;go_wp2_with fail;refine HS.o.mono ?_;rintro e u ⟨D3,n2,ma,mc,C6,rfl,hm,P,hc,E2,C0⟩;obtain⟨rfl,rfl⟩:=D1.o.one C6;have HB:=Qf P;obtain⟨b0,o0,da,cd,e0,A9,q0,q1,q2,q3,q4,q5,Z⟩:=hm 0 Zs;obtain⟨b1,o1,D2,C9,e1,A3,A7⟩:=C0 0 Zs;rw[e0] at e1;cases e1;simp only[aS,dG,QI] at q0 q1 q2 q3 q4 q5 Z A3 A7;rw[q4] at A3;cases A3;subst e0;obtain⟨A1,k1,B8,G1⟩:=Js da ds.length cd f Zo;obtain⟨A2,k2,B9,G2⟩:=Xi da ds.length cd f nc F6.o A7 F7.o;obtain⟨B4,B5⟩:=Yj (B8 _ _ _ Z) (B9 _ _ _ rfl Z);have E:=Qf (fun W (hW:PM u W)=>O.o A1 k1 A2 k2 W (HB.o.trans (hW.mono HB.o.size)) (B4.o.ahead hW) (B5.o.ahead hW));simp only[az,aK,aZ];clear hm C0 C6 E2 P Z A7 B8 B9 HS D1 O B4 B5 hc;go_wp2_with fail;have q2:=cell_regrown q2;have q4:=cell_regrown q4;by_cases he:er=0
  ·subst he;rw[if_neg Zs] at E;have G:=Qf (A4.o.trans (if_neg Zs));obtain⟨t1,t2⟩:=A6.o rfl;have V:=Qf (fun d os=>Calls.regrown_of (w:=u) (d:=d) (os:=os) ((E.o _ (below_regrown u d os))));simp only at V;clear A4 A6 E;refine wp_region_quiet_below Zk Zk ?_
   repeat (any_goals (first | go_big_quiet_step (first | (with_reducible exact V.o _ _)) | quiet_step (first | (with_reducible exact V.o _ _))))
   refine wpQuiet_nil ?_;intro w5 M;have F:=aX M;have H:=Qf (HB.o.trans (F.mono HB.o.size));have E0:=bH T;obtain⟨nT,B0⟩:=Qe T.length;rw[<-B0] at G t1 t2 E0;have J:=Qf B0;have d3:decide ((1048576:Int)<(nT:Int))=false:=Zy decide_eq_false_iff_not;have D:=Qf (rid_any T w5 Zo);clear M F B0 V HB;go_wp2_with fail;refine D.o.mono ?_;rintro e u6 ⟨rfl,P⟩;have D0:=Qf (H.o.trans (P.mono H.o.size));obtain⟨C1,C8⟩:=UV T;have E:=Qf (And.intro C1 C8);obtain⟨pd,C5⟩:=Qe (Ux T);rw[<-C5] at G E ⊢;clear P D H C1 C8 C5;obtain⟨f0,t0,A5⟩:∃f0 t0,f0=0/\t0=nT:=⟨0,nT,rfl,rfl⟩;have B6:Qg (f0<t0/\t0<=nT/\R=((V5 pd T f0 t0 size.toNat).flatMap O9,0)):=Qf (by
    rw[A5.1,A5.2]; exact⟨t1,nr,G.o⟩)
   clear G;go_upto_region 13 with(fail)
   go_cut [13,14,120] from 96 (fun vf vt vc wx=>vf=Yi (f0:Int)/\vt=Yi (t0:Int)/\vc=.bool false/\Qg (PM w wx))
   case first=>
    obtain⟨rfl,rfl⟩:=A5;go_region;go_wp2_with fail;go_meet
    case rel=>exact⟨rfl,rfl,rfl,Qf D0.o.drew⟩
   case rest=>
    obtain⟨rfl,rfl,rfl,B3⟩:=hcut;obtain⟨g1,g2,g3⟩:=B6.o;obtain⟨sz,rfl⟩:∃sz:Nat,size=(sz:Int):=⟨size.toNat,Zo⟩;rw[aj] at g3;obtain⟨np,g4,g5⟩:=rep_list (id:=pd) (D:=T) (f:=f0) (t:=t0) (sz:=sz) Zo g1 (J.o▸g2);have HW:=Qf (TM (id:=pd) (D:=T) (f:=f0) (t:=t0) (sz:=sz) E.o.1 E.o.2 Zo Zo (J.o▸g2) (by rw[<-J.o]; omega));rw[g4] at g3;rw[g4] at HW;obtain⟨G3,G5⟩:=Yj g3 g5;obtain⟨wq,C7⟩:=Qe wc;rw[<-C7] at B3 ⊢;clear B6 A5 g3 g4 g5 C7;go_wp2;go_loopw [15,16] (fun o i wr=>∃j:Nat,j<=np/\o=.string ⟨(((List.range j).map (pcM pd T f0 t0 sz)).flatMap O9).toArray⟩/\i=Yi ((f0+j*sz:Nat):Int)/\Qg ((((List.range j).map (pcM pd T f0 t0 sz)).flatMap O9).length<=72*j+j*sz)/\Qg (PM w wr)) (fun _ i _=>t0-(intOf i).toNat)
    case atStart=>exact⟨0,Zo,rfl,Zs,Qf Zs,B3⟩
    case round=>
     obtain⟨j,hj,rfl,rfl,U,Q⟩:=hrel;obtain⟨ii,K⟩:=Qe (f0+j*sz);rw[<-K];have G8:=Qf K;by_cases A9:ii<t0
     ·have E3:(ii:Int)<(t0:Int):=Zo;have E5:j<np:=(G5.o j).2 Zo;have E6:j*sz<65536:=Zo;have E4:j<=j*sz:=Nat.le_mul_of_pos_right _ Zo;obtain⟨pc,A0⟩:=Qe ((T.drop ii).take (min (ii+sz) t0-ii));have F0:pc.length<=sz:=by rw[A0,aA]; omega
      have B1:pcM pd T f0 t0 sz j=⟨2,pd,(ii:Int),(nT:Int),[],pc⟩:=by unfold pcM; rw[<-K,A0,J.o]
      have B2:=HW.o _ (List.mem_map_of_mem (List.mem_range.2 E5));rw[B1] at B2;have C2:=Tz B2.1;have I:=Qf (QO ⟨2,pd,(ii:Int),(nT:Int),[],pc⟩ none 0 wr (dE.nil _ _ _) (fun d hd=>(by cases hd)) Zs Zp);rw[C2] at I;have A8:=frame_pc (m:=⟨2,pd,(ii:Int),(nT:Int),[],pc⟩) rfl;have Y:Qg (((List.range j).map (pcM pd T f0 t0 sz)).flatMap O9++O9 ⟨2,pd,(ii:Int),(nT:Int),[],pc⟩=((List.range (j+1)).map (pcM pd T f0 t0 sz)).flatMap O9):=Qf (by rw[List.range_succ,dJ,bg,List.map_singleton,B1]; simp);generalize O9 ⟨2,pd,(ii:Int),(nT:Int),[],pc⟩=FR at I A8 Y;simp only at A8;simp only[Msg.val,aK] at I;have C3:=U.out;generalize ((List.range j).map (pcM pd T f0 t0 sz)).flatMap O9=LS at U Y C3 ⊢;have H6:IntKind.i64.wrap ((ii:Int)+(sz:Int))=(ii:Int)+(sz:Int):=ZV;have H3:∀W,(Instr.slice 9 (.string ⟨T.toArray⟩) (some (Yi (ii:Int))) (some (Yi (min ((ii:Int)+(sz:Int)) (t0:Int)))) none).run prog W=.ok (.string ⟨pc.toArray⟩) W:=fun W=>by
       have h:=OI T (ii:Int) (min ((ii:Int)+(sz:Int)) (t0:Int)) Zo Zo (Zh J.o) W;rw[show(min ((ii:Int)+(sz:Int)) (t0:Int)).toNat=min (ii+sz) t0 by omega,aj,<-A0] at h;exact h
      have H2:=fun W=>Hl (A:=LS) (B:=FR) (C:=LS++FR) rfl Zo Zo W
      have B7:Qg ((((List.range (j+1)).map (pcM pd T f0 t0 sz)).flatMap O9).length<=72*(j+1)+(j+1)*sz):=Qf (by rw[<-Y.o,af,rM]; omega);have C4:((ii:Int)+(sz:Int))=((f0+(j+1)*sz:Nat):Int):=Zy rM;have D6:=Qf C4;clear A0 F0 B1 B2 C2 A8 C3 K C4 U E6 E4;go_wp2_with fail;refine I.o.mono ?_;rintro e u9 ⟨rfl,P⟩;have D5:=Qf (Q.out.trans (P.mono Q.out.size));clear P I Q;go_wp2;go_roundw
      case rel=>exact⟨j+1,Zo,Zx Y.o,Zx D6.o,B7,D5⟩
      case measure=>exact Yq
     ·have E3:¬(ii:Int)<(t0:Int):=Zo;obtain rfl:j=np:=by
       rcases gB j np with h | h
       ·have:=(G5.o j).1 h; omega
       ·omega
      have D7:=Qf (G3.o);clear K U G3 G5 HW;go_wp2;go_ret2;exact⟨Zw D7.o,Q.out⟩
  ·have H0:(er !=0)=true:=Zu he;rw[if_pos he] at E;obtain⟨G,V⟩:=Yj (A4.o.trans (if_pos he)) (fun d os=>Calls.regrown_of (w:=u) (d:=d) (os:=os) ((E.o _ (below_regrown u d os))));simp only at V;clear A4 A6 E he;refine wp_region_quiet_below Zk Zk ?_
   repeat (any_goals (first | go_big_quiet_step (first | (with_reducible exact V.o _ _)) | quiet_step (first | (with_reducible exact V.o _ _))))
   refine wpQuiet_nil ?_;intro w5 M;have F:=aX M;have H:=Qf (HB.o.trans (F.mono HB.o.size));clear M F V HB;go_wp2;go_ret2;exact⟨Zw G.o,H.o⟩
 ·go_enter func22,ntmps22;go_wp2_with fail;refine HS.o.mono ?_;rintro e u ⟨D3,n2,ma,mc,C6,rfl,hm,P,hc,E2,C0⟩;obtain⟨rfl,rfl⟩:=D1.o.one C6;have HB:=Qf P;obtain⟨b0,o0,da,cd,e0,A9,q0,q1,q2,q3,q4,q5,Z⟩:=hm 0 Zs;obtain⟨b1,o1,D2,C9,e1,A3,A7⟩:=C0 0 Zs;obtain⟨b9,o9,_,_,e9,_,s0,s1,s2,s3,_,_,_⟩:=hm 1 Zs;rw[e0] at e9;cases e9;simp only[bK,aS,Nat.one_mul] at s0 s1 s2 s3;rw[e0] at e1;cases e1;simp only[aS,dG,QI] at q0 q1 q2 q3 q4 q5 Z A3 A7;rw[q4] at A3;cases A3;subst e0;obtain⟨A1,k1,B8,G1⟩:=Js da ds.length cd f Zo;obtain⟨A2,k2,B9,G2⟩:=Xi da ds.length cd f nc F6.o A7 F7.o;obtain⟨B4,B5⟩:=Yj (B8 _ _ _ Z) (B9 _ _ _ rfl Z);have E:=Qf (fun W (hW:PM u W)=>O.o A1 k1 A2 k2 W (HB.o.trans (hW.mono HB.o.size)) (B4.o.ahead hW) (B5.o.ahead hW));simp only[az,aK,aZ];clear hm C0 C6 E2 P Z A7 B8 B9 HS D1 O B4 B5 hc;go_wp2_with fail;have q2:=cell_regrown q2;have q4:=cell_regrown q4;by_cases he:er=0
  ·subst he;rw[if_neg Zs] at E;have G:=Qf (A4.o.trans (if_neg Zs));obtain⟨t1,t2⟩:=A6.o rfl;have V:=Qf (fun d os=>Calls.regrown_of (w:=u) (d:=d) (os:=os) ((E.o _ (below_regrown u d os))));simp only at V;clear A4 A6 E;refine wp_region_quiet_below Zk Zk ?_
   repeat (any_goals (first | go_big_quiet_step (first | (with_reducible exact V.o _ _)) | quiet_step (first | (with_reducible exact V.o _ _))))
   refine wpQuiet_nil ?_;intro w5 M;have F:=aX M;have H:=Qf (HB.o.trans (F.mono HB.o.size));have s1:=(F.cell (p:=⟨b0,o0+6+1,none⟩) A9).trans s1;have s2:=(F.cell (p:=⟨b0,o0+6+2,none⟩) A9).trans s2;have s3:=(F.cell (p:=⟨b0,o0+6+3,none⟩) A9).trans s3;have E7:=aO A9 F.size;have E0:=bH T;obtain⟨nT,B0⟩:=Qe T.length;rw[<-B0] at G t1 t2 E0;have J:=Qf B0;have d3:decide ((1048576:Int)<(nT:Int))=false:=Zy decide_eq_false_iff_not;have D:=Qf (rid_any T w5 Zo);clear M F B0 V HB;go_wp2_with fail;refine D.o.mono ?_;rintro e u6 ⟨rfl,P⟩;have D0:=Qf (H.o.trans (P.mono H.o.size));obtain⟨C1,C8⟩:=UV T;have E:=Qf (And.intro C1 C8);obtain⟨pd,C5⟩:=Qe (Ux T);rw[<-C5] at G E ⊢;have s1:=(P.cell (p:=⟨b0,o0+6+1,none⟩) E7).trans s1;have s2:=(P.cell (p:=⟨b0,o0+6+2,none⟩) E7).trans s2;have s3:=(P.cell (p:=⟨b0,o0+6+3,none⟩) E7).trans s3;clear P D H C1 C8 C5;obtain⟨f0,t0,A5⟩:∃f0 t0,(gi=pd/\(go:Int)+gt<=nT/\go=f0/\go+gt=t0)\/(¬(gi=pd/\(go:Int)+gt<=nT)/\0=f0/\nT=t0):=by
    by_cases hc:gi=pd/\(go:Int)+gt<=nT
    ·exact⟨go,go+gt,.inl ⟨hc.1,hc.2,rfl,rfl⟩⟩
    ·exact⟨0,nT,.inr ⟨hc,rfl,rfl⟩⟩
   have B6:Qg (f0<t0/\t0<=nT/\R=((V5 pd T f0 t0 size.toNat).flatMap O9,0)):=Qf (by
    have h:=G.o;rw[show rngS pd nT [⟨3,gi,(go:Int),(gt:Int),[],[]⟩]=if gi=pd/\(go:Int)+gt<=nT then((go:Int).toNat,((go:Int)+gt).toNat) else(0,nT) from rfl] at h;rcases A5 with⟨h1,h2,rfl,rfl⟩ | ⟨h1,rfl,rfl⟩
    ·rw[if_pos ⟨h1,h2⟩] at h;simp only[aj] at h;rw[show((go:Int)+(gt:Int)).toNat=go+gt by omega] at h;exact⟨Zo,Zo,h⟩
    ·rw[if_neg h1] at h;exact⟨t1,nr,h⟩)
   clear G;go_upto_region 13 with(fail)
   go_cut [120] from 96 (fun vc wx=>((vc=.bool true/\go=f0/\go+gt=t0)\/(vc=.bool false/\0=f0/\nT=t0))/\u6.drew=wx)
   case first=>
    have H5:IntKind.i64.wrap ((go:Int)+gt)=(go:Int)+gt:=ZV;rcases A5 with⟨h1,h2,h3,h4⟩ | ⟨h1,h3,h4⟩
    ·have HX:=Qf (And.intro h3 h4);have k1:(gi==pd)=true:=Zu h1;have k2:decide ((go:Int)+gt<=(nT:Int))=true:=Zu h2;clear h1 h2 h3 h4;go_region;go_wp2_with fail;go_meet
     case rel=>exact⟨.inl ⟨rfl,HX.o⟩,rfl⟩
    ·have HX:=Qf (And.intro h3 h4);by_cases h2:gi=pd
     ·have k1:(gi==pd)=true:=Zu h2;have k2:decide ((go:Int)+gt<=(nT:Int))=false:=by simpa using fun h=>h1 ⟨h2,h⟩
      clear h1 h2 h3 h4;go_region;go_wp2_with fail;go_meet
      case rel=>exact⟨.inr ⟨rfl,HX.o⟩,rfl⟩
     ·have k1:(gi==pd)=false:=Zu h2;clear h1 h2 h3 h4;go_region;go_wp2_with fail;go_meet
      case rel=>exact⟨.inr ⟨rfl,HX.o⟩,rfl⟩
   case rest=>
    obtain⟨hv,rfl⟩:=hcut;go_upto_if 120 with(fail)
    go_cut [13,14] from 121 (fun vf vt wx=>vf=Yi (f0:Int)/\vt=Yi (t0:Int)/\Qg (PM w wx))
    case first=>
     have H5:IntKind.i64.wrap ((go:Int)+gt)=(go:Int)+gt:=ZV;rcases hv with⟨rfl,rfl,rfl⟩ | ⟨rfl,rfl,rfl⟩
     ·go_wp2;go_region;go_wp2_with fail;go_meet
      case rel=>exact⟨rfl,by rw[Int.natCast_add],Qf D0.o.drew.drew⟩
     ·go_wp2_with fail;go_meet
      case rel=>exact⟨rfl,rfl,Qf D0.o.drew⟩
    case rest=>
     obtain⟨rfl,rfl,B3⟩:=hcut;obtain⟨g1,g2,g3⟩:=B6.o;obtain⟨sz,rfl⟩:∃sz:Nat,size=(sz:Int):=⟨size.toNat,Zo⟩;rw[aj] at g3;obtain⟨np,g4,g5⟩:=rep_list (id:=pd) (D:=T) (f:=f0) (t:=t0) (sz:=sz) Zo g1 (J.o▸g2);have HW:=Qf (TM (id:=pd) (D:=T) (f:=f0) (t:=t0) (sz:=sz) E.o.1 E.o.2 Zo Zo (J.o▸g2) (by rw[<-J.o]; omega));rw[g4] at g3;rw[g4] at HW;obtain⟨G3,G5⟩:=Yj g3 g5;obtain⟨wq,C7⟩:=Qe wc;rw[<-C7] at B3 ⊢;clear B6 A5 g3 g4 g5 C7 s1 s2 s3 hv;go_wp2;go_loopw [15,16] (fun o i wr=>∃j:Nat,j<=np/\o=.string ⟨(((List.range j).map (pcM pd T f0 t0 sz)).flatMap O9).toArray⟩/\i=Yi ((f0+j*sz:Nat):Int)/\Qg ((((List.range j).map (pcM pd T f0 t0 sz)).flatMap O9).length<=72*j+j*sz)/\Qg (PM w wr)) (fun _ i _=>t0-(intOf i).toNat)
     case atStart=>exact⟨0,Zo,rfl,Zs,Qf Zs,B3⟩
     case round=>
      obtain⟨j,hj,rfl,rfl,U,Q⟩:=hrel;obtain⟨ii,K⟩:=Qe (f0+j*sz);rw[<-K];have G8:=Qf K;by_cases A9:ii<t0
      ·have E3:(ii:Int)<(t0:Int):=Zo;have E5:j<np:=(G5.o j).2 Zo;have E6:j*sz<65536:=Zo;have E4:j<=j*sz:=Nat.le_mul_of_pos_right _ Zo;obtain⟨pc,A0⟩:=Qe ((T.drop ii).take (min (ii+sz) t0-ii));have F0:pc.length<=sz:=by rw[A0,aA]; omega
       have B1:pcM pd T f0 t0 sz j=⟨2,pd,(ii:Int),(nT:Int),[],pc⟩:=by unfold pcM; rw[<-K,A0,J.o]
       have B2:=HW.o _ (List.mem_map_of_mem (List.mem_range.2 E5));rw[B1] at B2;have C2:=Tz B2.1;have I:=Qf (QO ⟨2,pd,(ii:Int),(nT:Int),[],pc⟩ none 0 wr (dE.nil _ _ _) (fun d hd=>(by cases hd)) Zs Zp);rw[C2] at I;have A8:=frame_pc (m:=⟨2,pd,(ii:Int),(nT:Int),[],pc⟩) rfl;have Y:Qg (((List.range j).map (pcM pd T f0 t0 sz)).flatMap O9++O9 ⟨2,pd,(ii:Int),(nT:Int),[],pc⟩=((List.range (j+1)).map (pcM pd T f0 t0 sz)).flatMap O9):=Qf (by rw[List.range_succ,dJ,bg,List.map_singleton,B1]; simp);generalize O9 ⟨2,pd,(ii:Int),(nT:Int),[],pc⟩=FR at I A8 Y;simp only at A8;simp only[Msg.val,aK] at I;have C3:=U.out;generalize ((List.range j).map (pcM pd T f0 t0 sz)).flatMap O9=LS at U Y C3 ⊢;have H6:IntKind.i64.wrap ((ii:Int)+(sz:Int))=(ii:Int)+(sz:Int):=ZV;have H3:∀W,(Instr.slice 9 (.string ⟨T.toArray⟩) (some (Yi (ii:Int))) (some (Yi (min ((ii:Int)+(sz:Int)) (t0:Int)))) none).run prog W=.ok (.string ⟨pc.toArray⟩) W:=fun W=>by
        have h:=OI T (ii:Int) (min ((ii:Int)+(sz:Int)) (t0:Int)) Zo Zo (Zh J.o) W;rw[show(min ((ii:Int)+(sz:Int)) (t0:Int)).toNat=min (ii+sz) t0 by omega,aj,<-A0] at h;exact h
       have H2:=fun W=>Hl (A:=LS) (B:=FR) (C:=LS++FR) rfl Zo Zo W
       have B7:Qg ((((List.range (j+1)).map (pcM pd T f0 t0 sz)).flatMap O9).length<=72*(j+1)+(j+1)*sz):=Qf (by rw[<-Y.o,af,rM]; omega);have C4:((ii:Int)+(sz:Int))=((f0+(j+1)*sz:Nat):Int):=Zy rM;have D6:=Qf C4;clear A0 F0 B1 B2 C2 A8 C3 K C4 U E6 E4;go_wp2_with fail;refine I.o.mono ?_;rintro e u9 ⟨rfl,P⟩;have D5:=Qf (Q.out.trans (P.mono Q.out.size));clear P I Q;go_wp2;go_roundw
       case rel=>exact⟨j+1,Zo,Zx Y.o,Zx D6.o,B7,D5⟩
       case measure=>exact Yq
      ·have E3:¬(ii:Int)<(t0:Int):=Zo;obtain rfl:j=np:=by
        rcases gB j np with h | h
        ·have:=(G5.o j).1 h; omega
        ·omega
       have D7:=Qf (G3.o);clear K U G3 G5 HW;go_wp2;go_ret2;exact⟨Zw D7.o,Q.out⟩
  ·have H0:(er !=0)=true:=Zu he;rw[if_pos he] at E;obtain⟨G,V⟩:=Yj (A4.o.trans (if_pos he)) (fun d os=>Calls.regrown_of (w:=u) (d:=d) (os:=os) ((E.o _ (below_regrown u d os))));simp only at V;clear A4 A6 E he;refine wp_region_quiet_below Zk Zk ?_
   repeat (any_goals (first | go_big_quiet_step (first | (with_reducible exact V.o _ _)) | quiet_step (first | (with_reducible exact V.o _ _))))
   refine wpQuiet_nil ?_;intro w5 M;have F:=aX M;have H:=Qf (HB.o.trans (F.mono HB.o.size));clear M F V HB;go_wp2;go_ret2;exact⟨Zw G.o,H.o⟩
theorem rserve_any(a:Qa)(X:List Itm)(c:Nat)(L:Qb)(size:Int)(w:World)(P:Its w.heap.size w a X)(E:X.length<=c)(K:Asc X)(I:X.length<=40)(H:∀x∈X,OkD x.d/\x.data.length<=1000)(S:L.length<=6000)(B:BG L ms n):
  Qh 22 #[.slice a X.length c,L,Yi size] w (Xz (.tuple #[.string ⟨(servS X ms (okM ms n L.length) size).1.toArray⟩,Yi (servS X ms (okM ms n L.length) size).2]) w):=by
 by_cases hs:size<1\/65536<size
 ·unfold servS;rw[if_pos hs];exact rserve_size a _ c L size w hs
 have C:1<=size:=Zo;have D:size<=65536:=Zo;cases J:okM ms n L.length with
 | false=>
  unfold servS;rw[if_neg hs,if_pos rfl];exact rserve_dec a _ c L size w B J Zo C D
 | true=>
  obtain⟨Q,mi,f,ds,r,rfl,O,F,N,R⟩:=req_form B J;have G:∀d∈ds,OkD d:=fun d M=>by
   have:=F d M;unfold OkD Ku;omega
  have h:=rserve_ok a X c L size w f n ds P E K I H B Q Zo O G Zo C D R;unfold servS;rw[if_neg hs,if_neg Zs];simp only[aj];unfold resS at h;exact h
theorem scans_tot:∀(k:Nat) (s:Qb),s.length<=k->∃l n,BG s l n
 | 0,s,h=>by
  refine⟨[],0,.stop ?_⟩;unfold pg;rw[if_pos Zo]
 | k+1,s,h=>by
  cases A:pg s with
  | none=>exact⟨[],0,.stop A⟩
  | some x=>
   obtain⟨m,u⟩:=x;have:=Uq A;obtain⟨l,n,B⟩:=scans_tot k (s.drop u) (Zy ah);exact⟨m::l,u+n,.step A B⟩
theorem came_none(w:World):PZ w none [] 0:=⟨fun i A=>(by simp at A),⟨nr,Q6 _⟩,fun x B=>(by cases B)⟩
theorem dcame_none(w:World):Va w none [] 0:=⟨dE.nil _ _ _,⟨nr,Q6 _⟩,fun x A=>(by cases A)⟩
theorem tserve_any(A0:T9)(a:Qa)(X:List Itm)(c:Nat)(L:Qb)(size:Int)(w:World)(h:PZ w a X c):
  Qh 4 #[.slice a X.length c,L,Yi size] w (Xz (.bool true) w):=by
 have G:=Qf (fun W=>Rt A0 W);have U:PW w ⟨[],X,[],[],[],0⟩ ⟨none,0,a,c,none,0,none,0,none,0⟩:=⟨came_none w,h,dcame_none w,dcame_none w,fun i hi=>(by simp at hi),nr,Q6 _⟩;have F:=Qf (Sa ⟨[],X,[],[],[],0⟩ ⟨none,0,a,c,none,0,none,0,none,0⟩ w U);simp only[Fet.arr,aK] at F;have O:=Qf h;have A1:=bH L;obtain⟨nx,K⟩:=Qe X.length;have T:=Qf K;rw[<-K] at F ⊢;obtain⟨nl,J⟩:=Qe L.length;rw[<-J] at A1;have Q:=Qf J;clear h U K J;go_enter func4,ntmps4;go_wp2_with fail;refine F.o.mono ?_;rintro e u1 ⟨⟨r,rfl,Y⟩,C⟩;have B:=Qf C;clear C F;cases r with
 | false=>
  clear Y;go_wp2_with fail;refine(G.o u1).mono ?_;rintro e ux ⟨rfl,C⟩;have P:=Qf (B.o.trans (C.mono B.o.size));clear C;go_wp2;go_ret;exact⟨rfl,P.o⟩
 | true=>
 have V:=Y Zv;by_cases A4:(6000:Int)<(nl:Int)
 ·clear Y V;go_wp2_with fail;refine(G.o u1).mono ?_;rintro e ux ⟨rfl,C⟩;have P:=Qf (B.o.trans (C.mono B.o.size));clear C;go_wp2;go_ret;exact⟨rfl,P.o⟩
 ·obtain⟨g1,g2⟩:=RG V.gy;obtain⟨g3,g4⟩:=PP V.ky;simp only at g1 g2 g3 g4;obtain⟨ms,n,M⟩:=scans_tot L.length L nr;have N:∀x∈X,OkD x.d/\x.data.length<=1000:=fun x Z=>⟨(O.o.dat x Z).1,Zh (g2 x Z)⟩
  have I:L.length<=6000:=Zh Q.o;obtain⟨D1,D2⟩:=Yj (serve_any a X c L size u1 ⟨O.o.its.ahead B.o,O.o.cap.1,Zo,fun x Z=>Zh (g2 x Z)⟩ g4 g1 N I M) (fun W (hW:PM w W)=>rserve_any a X c L size W (O.o.its.ahead hW) O.o.cap.1 g4 g1 N I M);rw[<-T.o] at D1 D2;generalize servS X ms (okM ms n L.length) size=R at D1 D2;obtain⟨S,er⟩:=R;simp only at D1 D2;clear Y V g1 g2 g3 g4 M N I O T Q;go_wp2_with fail;refine D1.o.mono ?_;rintro e u2 ⟨rfl,C⟩;have E:=Qf (B.o.trans (C.mono B.o.size));have D:=Qf (D2.o u2 E.o);clear C D1 D2 B;go_wp2_with fail;refine D.o.mono ?_;rintro e u3 ⟨rfl,C⟩;have H:=Qf (E.o.trans (C.mono E.o.size));have h1:(S==S)=true:=Zs;have h2:(er==er)=true:=Zs;clear C D E;go_wp2_with fail;refine(G.o u3).mono ?_;rintro e ux ⟨rfl,C⟩;have P:=Qf (H.o.trans (C.mono H.o.size));clear C H;go_wp2;go_ret;exact⟨rfl,P.o⟩
