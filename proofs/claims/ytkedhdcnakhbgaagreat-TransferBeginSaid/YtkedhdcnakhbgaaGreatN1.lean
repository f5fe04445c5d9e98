/- Joined texts: NePl, NeTk, NeTr, NeEn, NeVa, NePq, NeLi, NeTs, NeAs. -/
import Derived.Test.YtkedhdcnakhbgaaGreatK7
import Derived.Test.YtkedhdcnakhbgaaGreatK10
/- Negotiations: talks on paper. -/
set_option linter.unusedSimpArgs false
set_option maxRecDepth 100000
set_option maxHeartbeats 16000000
namespace Go.Proofs.YtkedhdcnakhbgaaGreat
open Go.RowKit Go.Shelf Go.Sort
set_option linter.unusedVariables false
variable {x y:Int}{d:Int×Int}{xs:List Itm}{k:Nat}{l:Qd}{W W' w:World}
def vI(xs:List Itm):Qd->Int
 | []=>0
 | d::l=>if(aF xs d).2≠0 then(aF xs d).2 else vI xs l
def M6(xs:List Itm)(want common:Qd):Qd×Int:=
 if vI xs (want++common)≠0 then([],vI xs (want++common)) else
 if ¬(∀d∈(dh xs want).2,d∈(dh xs common).2) then([],8) else((dh xs want).1.filter fun d=>!decide (d∈(dh xs common).1),0)
theorem Jk(P:Int×Int->Bool)(h:k<l.length):(l.take (k+1)).filter P=if P l[k]=true then(l.take k).filter P++[l[k]] else(l.take k).filter P:=by
 rw[ai h,vX];by_cases A:P l[k]=true
 ·rw[if_pos A]; simp[A]
 ·rw[if_neg A]; simp[A]
theorem H7{roots:Qd}(A:∀d∈roots,OkD d)(h:Rch xs roots d):OkD d:=by
 cases h with
 | root B C=>exact A _ B
 | link B C D E=>exact Ec C _ D
theorem oG(xs:List Itm):∀(f:Nat) (ws T M:Qd),(Cf xs f ws T M).1.length<=T.length+f/\(Cf xs f ws T M).2.length<=M.length+f
 | 0,ws,T,M=>by rw[Cf]; simp
 | f+1,[],T,M=>by rw[Cf]; simp
 | f+1,d::ws,T,M=>by
  rw[Cf];split
  ·have:=oG xs f ws T M; omega
  ·split
   ·have:=oG xs f ws T (mE M d); have:=pQ M d; omega
   ·have:=oG xs f (ws++gG (dW xs d).1) (mE T d) M; have:=pQ T d; omega
theorem Cg(xs:List Itm)(l:Qd):(dh xs l).1.length<=jC xs l/\(dh xs l).2.length<=jC xs l:=by
 have:=oG xs (jC xs l) l [] [];rw[Na] at this;simpa using this
theorem tL(G:xs.length<=40)(F:l.length<=45)(A:∀d∈l,OkD d):((dh xs l).1.length:Int)<=100000/\((dh xs l).2.length:Int)<=100000/\(∀d∈(dh xs l).1,OkD d)/\∀d∈(dh xs l).2,OkD d:=by
 obtain⟨C,D⟩:=Cg xs l;have E:jC xs l<=100000:=by unfold jC; omega
 refine⟨by omega,by omega,fun d B=>?_,fun d B=>?_⟩
 ·exact H7 A (((gW xs l).2.2 d).1.1 B).1
 ·exact H7 A (((gW xs l).2.2 d).2.1 B).1
theorem Fh{W C:Qd}:(∀d∈(dh xs W).2,(d∈(dh xs C).1++(dh xs C).2↔d∈(dh xs C).2))/\∀d∈(dh xs W).1,(d∈(dh xs C).1++(dh xs C).2↔d∈(dh xs C).1):=by
 refine⟨fun d B=>?_,fun d B=>?_⟩
 ·rw[aD]
  have A:=(((gW xs W).2.2 d).2.1 B).2;constructor
  ·rintro(h | h)
   ·exact absurd (((gW xs C).2.2 d).1.1 h).2 A
   ·exact h
  ·exact .inr
 ·rw[aD]
  have A:=(((gW xs W).2.2 d).1.1 B).2;constructor
  ·rintro(h | h)
   ·exact h
   ·exact absurd A (((gW xs C).2.2 d).2.1 h).2
  ·exact .inl
theorem Bb(xs:List Itm):∀{l:Qd} {d:Int×Int},vI xs l=0->vI xs (l++[d])=(aF xs d).2
 | [],d,_=>by
  rw[aY];by_cases h:(aF xs d).2=0
  ·simp[vI,h]
  ·simp[vI,h]
 | e::l,d,h=>by
  unfold vI at h;rw[bz];unfold vI;by_cases A:(aF xs e).2=0
  ·rw[if_neg (by simpa using A)] at h ⊢
   exact Bb xs h
  ·rw[if_pos A] at h; exact absurd h A
theorem EF(xs:List Itm):∀{l r:Qd} {d:Int×Int},vI xs l=0->(aF xs d).2≠0->vI xs (l++d::r)=(aF xs d).2
 | [],r,d,_,h=>by rw[aY]; unfold vI; rw[if_pos h]
 | e::l,r,d,h,B=>by
  unfold vI at h;rw[bz];unfold vI;by_cases A:(aF xs e).2=0
  ·rw[if_neg (by simpa using A)] at h ⊢
   exact EF xs h B
  ·rw[if_pos A] at h; exact absurd h A
theorem JF(xs:List Itm)(h:k<l.length)(B:vI xs (l.take k)=0):((aF xs l[k]).2=0->vI xs (l.take (k+1))=0)/\((aF xs l[k]).2≠0->vI xs l=(aF xs l[k]).2):=by
 refine⟨fun A=>?_,fun A=>?_⟩
 ·rw[ai h,Bb xs B,A]
 ·have D:l=l.take k++l[k]::l.drop (k+1):=by
   rw[<-aN h,aQ]
  have C:=EF xs (r:=l.drop (k+1)) B A;rw[<-D] at C;exact C
open Go.RowKit Go.Shelf
structure SlD where
 a:Qa
 ds:Qd
 c:Nat
def jU(L:List SlD):Qd:=L.flatMap (·.ds)
theorem BD{L:List SlD}(h:k<L.length):jU (L.take (k+1))=jU (L.take k)++L[k].ds:=by
 unfold jU;rw[ai h,bg];simp
theorem JZ(L:List SlD)(k:Nat):(jU (L.take k)).length<=(jU L).length:=by
 have h:jU L=jU (L.take k)++jU (L.drop k):=by
  unfold jU;rw[<-bg,aQ]
 rw[h,af];omega
structure Ov (B:Nat) (W:World) (bb:Nat) (L:List SlD):Prop where
 blk:bb<B
 cell:∀i (h:i<L.length),W.cell? ⟨bb,i,none⟩=some (.slice L[i].a L[i].ds.length L[i].c)
 dig:∀i (h:i<L.length),dE B W L[i].a L[i].ds
theorem Ov.ahead{bb:Nat}{L:List SlD}(h:Ov w.heap.size w bb L)(A:PM w W):Ov W.heap.size W bb L:=
 ⟨aO h.blk A.size,fun i B=>(A.cell (p:=⟨bb,i,none⟩) h.blk).trans (h.cell i B),fun i B=>(h.dig i B).ahead A⟩
theorem Ja(n:Nat)(w:World)(N:(n:Int)<=1000000000):
  Qh 144 #[.slice none 0 0,.int .i64 n] w fun e w'=>∃a cap,e=.returned (.slice a 0 cap)/\w'.ownsRow w.heap.size 54 2 (.slice a 0 cap) 0 []/\PM w w':=by
 by_cases K:n=0
 ·subst K
  go_enter Tryz.func144,Tryz.ntmps144;go_wp2_with fail;go_ret;exact⟨none,0,rfl,World.ownsRow_nil _ _ _ _,bf _⟩
 ·obtain⟨i0,J,E,I,B⟩:=info_parts ul
  obtain⟨G,cur,M,L,C,D⟩:∃(G:Nat) (cur:Array Value),(∀ty,(Builtin.append_ #[24,3] ty #[.slice none 0 0,.int .i64 n]).run Tryz.prog w=.ok (.slice (some ⟨w.heap.size,0,none⟩) n G) (w.drew.alloc (.cells cur 54)))/\n<=G/\G<=maxLen/\cur.size=G*2:=by
   refine⟨grownCap w (0+n) 0 54,([]:List Value).toArray++Builtin.zeroCells (Value.agg #[.int .u64 0,.int .u64 0]).cells n++Builtin.zeroCells (Value.agg #[.int .u64 0,.int .u64 0]).cells (grownCap w (0+n) 0 54-(0+n)),fun ty=>?_,?_,?_,?_⟩
   ·have:=Lib.run_append_grow_zeros (P:=Tryz.prog) w 24 3 ty 54 i0 _ .i64 .i64 Tryz.underlying24 Tryz.underlying3 J E none 0 0 [] (run_firstCells_none w.drew i0.size 0 0 0) n (by omega) (by omega) (by omega) (by omega) (by rw[B]; omega) (growslice_fits (by omega) (by rw[B]; omega))
    rw[aZ] at this ⊢;exact this
   ·have:=grownCap_ge w (0+n) 0 54; omega
   ·exact grownCap_le_maxLen w (0+n) 0 54 (by unfold maxLen; omega)
   ·have:=grownCap_ge w (0+n) 0 54
    generalize grownCap w (0+n) 0 54=G at this ⊢;rw[aZ] at this ⊢;simp only[Array.size_append,size_zeroCells];simp[Value.cells];omega
  have F:=Qf D;have H:=Qf C;unfold maxLen at C;clear E I B J D;go_enter Tryz.func144,Tryz.ntmps144;go_wp2_with (at_builtin; refine Lib.wpList_append_run _ rfl _ _ _ _ rfl _ _ rfl rfl _ _ (M _) ?_);go_ret;exact⟨_,_,rfl,World.ownsRow_made (w:=w.drew) (base:=w.heap.size) (size:=2) cur G nr H.o F.o,(bf w).drew.alloc nr _⟩
theorem Di(bb cc:Nat)(L:List SlD)(w:World)(hL:Ov w.heap.size w bb L)(hn:((jU L).length:Int)<=1000000)(hl:(L.length:Int)<=1000):
  Qh 91 #[.slice (some ⟨bb,0,none⟩) L.length cc] w (Oa w (jU L)):=by
 have HL:=Qf hL;have HG:=Qf (fun W=>Ja (jU L).length W (by omega));have Y:=Qf (fun k (h:k<L.length)=>BD h);have O:=Qf (JZ L);obtain⟨T,hT⟩:=Qe ((jU L).length);rw[<-hT] at HG hn;have K:=Qf hT;obtain⟨n,N⟩:=Qe L.length;have X:=Qf N;rw[<-N] at hl ⊢;clear hL hT N;go_enter Tryz.func91,Tryz.ntmps91;go_wp2_with fail;go_loop [3,11] (fun s i=>∃k t:Nat,k<=n/\i=.int .i64 k/\s=.int .i64 t/\t<=T/\Qg (t=(jU (L.take k)).length)) (fun _ i=>n-(intOf i).toNat)
 case atStart=>exact⟨0,0,by omega,rfl,rfl,by omega,Qf rfl⟩
 case round=>
  obtain⟨k,t,hk,rfl,rfl,ht,V⟩:=hrel;by_cases U:k<n
  ·have G:k<L.length:=by have:=X.o; omega
   have c0:=HL.o.cell k G;have C:t+L[k].ds.length<=T:=by
    have a1:=O.o (k+1);have a2:=Y.o k G;rw[a2,af,<-V.out,<-K.o] at a1;exact a1
   have E:Qg (t+L[k].ds.length=(jU (L.take (k+1))).length):=Qf (by rw[Y.o k G,af,<-V.out]);generalize L[k]=S at c0 C E;obtain⟨sa,sx,sc⟩:=S;simp only at c0 C E;generalize sx.length=m at c0 C E;go_wp2_with fail;go_round
   case rel=>exact⟨k+1,t+m,by omega,by go_num,by go_num,by omega,E⟩
   case measure=>simp[intOf]; omega
  ·obtain rfl:n=k:=by omega
   obtain rfl:T=t:=by rw[V.out,K.o,ag (by have:=X.o; omega)]
   clear V U hk ht;go_wp2_with fail;have hx:=HG.o w
   refine hx.mono ?_;clear hx HG
   rintro e w1 ⟨g,cap,rfl,H,hb⟩;have F:=Qf H;have J:=Qf hb;clear H hb;go_wp2_with fail;go_loopw [6,27] (fun v i wr=>∃(k:Nat),k<=n/\i=.int .i64 k/\Qg (wr.ownsRow w.heap.size 54 2 v (jU (L.take k)).length (aW (jU (L.take k))))/\Qg (PM w wr)) (fun _ i _=>n-(intOf i).toNat)
   case atStart=>exact⟨0,by omega,rfl,F,J⟩
   case round=>
    clear F J;obtain⟨k,hk,rfl,F,J⟩:=hrel;have A3:=J.o.size;by_cases U:k<n
    ·have G:k<L.length:=by have:=X.o; omega
     have M:=HL.o.ahead J.o;have c0:=M.cell k G;have C:(jU (L.take k)).length+L[k].ds.length<=T:=by
      have a1:=O.o (k+1);have a2:=Y.o k G;rw[a2,af,<-K.o] at a1;exact a1
     obtain⟨av,cv,rfl,Q⟩:=aB F.o;obtain⟨v',W',I,D,R,P⟩:=dM wr w.heap.size 24 _ _ F.o L[k].a L[k].ds L[k].c (M.dig k G) (by omega) A3;have A1:Qg (W'.ownsRow w.heap.size 54 2 v' (jU (L.take (k+1))).length (aW (jU (L.take (k+1))))):=Qf (by rw[Y.o k G]; exact D);have Z:Qg (PM w W'):=Qf (gM J.o F.o R nr);have B:=Qf I;clear I D R P M C;generalize L[k]=S at c0 B;obtain⟨sa,sx,sc⟩:=S;simp only at c0 B;go_wp2_with (at_builtin; refine Lib.wpList_append_run _ rfl _ _ _ _ rfl _ _ rfl rfl _ _ B.o ?_);go_roundw
     case rel=>exact⟨k+1,by omega,by go_num,A1,Z⟩
     case measure=>simp[intOf]; omega
    ·obtain⟨av,cv,rfl,Q⟩:=aB F.o
     have hf:jU (L.take k)=jU L:=by rw[ag (by have:=X.o; omega)]
     rw[hf] at F ⊢;clear hf;go_wp2_with fail;go_ret;exact⟨av,cv,rfl,F.o,J.o⟩
def mW(b:Nat)(l:Qd)(W:World):Prop:=
 ∃D:DataW Value,W.ownsMap Tryz.prog 54 Fj b (Maps.size D) D/\(∀d,OkD d->∀z,D.atKey (Ef d) z=Mo (if d∈l then some (.bool true) else none) z)/\Maps.size D<=l.length/\(Maps.size D=l.length↔l.Nodup)
section
variable {b:Nat} {l:Qd} {W:World}
theorem mW.made(W:World):mW W.heap.size [] (W.alloc (.map #[] 0)):=⟨.map [],World.ownsMap_made _ _ _ _,fun d _ z=>WideAt.atKey_none _ (fun p A=>by simp at A),by simp[Maps.size],by simp[Maps.size]⟩
theorem mW.lt(h:mW b l W):b<W.heap.size:=by obtain⟨D,A,_⟩:=h; exact A.lt
theorem mW.kept{row:Option Nat}(h:mW b l W)(E:W.grownBy W' row)(A:some b≠row):mW b l W':=by obtain⟨D,B,C⟩:=h; exact⟨D,B.kept E A,C⟩
theorem mW.alloc(h:mW b l W)(o:Obj):mW b l (W.alloc o):=by obtain⟨D,A,B⟩:=h; exact⟨D,A.alloc o,B⟩
theorem mW.below(h:mW b l W)(A:PM W W'):mW b l W':=h.kept (row:=none) ⟨A.os,A.tape,A.output,A.size,fun k B _=>A.block k B⟩ (by simp)
theorem mW.map(h:mW b l W):qI b l.length (fun d=>if d∈l then some (.bool true) else none) W:=by
 obtain⟨D,A,B,C,_⟩:=h;exact⟨D,A.mono C,B⟩
theorem mW.look(h:mW b l W)(B:OkD (x,y)):(Instr.lookup 105 (.map (some b)) (.agg #[.int .u64 x,.int .u64 y]) false).run Tryz.prog W=.ok (.bool (decide ((x,y)∈l))) W:=by
 rw[h.map.look Tryz.underlying105 (Dy W) B];by_cases e:(x,y)∈l <;> simp[e]
theorem mW.put(h:mW b l W)(G:OkD (x,y))(V:(l.length:Int)<=1000000000):
  ∃W',(Instr.mapUpdate 105 (.map (some b)) (.agg #[.int .u64 x,.int .u64 y]) (.bool true)).run Tryz.prog W=.ok () W'/\mW b (l++[(x,y)]) W'/\W.grownBy W' (some b)/\W'.heap.size=W.heap.size:=by
 obtain⟨D,H,L,T,M⟩:=h;obtain⟨W',E,R,F⟩:=H.store Ki Tryz.underlying105 (by unfold maxLen; omega) (fK G) (d:=.held (.bool true)) (ps:=[]) rfl;have K:=H.tidy Ki;have hs:=Maps.size_put (k:=Ef (x,y)) K (.held (.bool true):DataW Value);have Q:=Le (L _ G);have S:Maps.size (D.put (Ef (x,y)) (.held (.bool true):DataW Value))<=Maps.size D+1:=by rw[hs]; split <;> omega
 obtain⟨es,clock,I,O,_,B⟩:=R;have J:es.size=Maps.size (D.put (Ef (x,y)) (.held (.bool true):DataW Value)):=by rw[B]; simp[Maps.size,length_sorted]
 refine⟨W',E,⟨_,⟨es,clock,I,O,by rw[J]; exact nr,B⟩,fun d C z=>?_,?_,?_⟩,F.grown,?_⟩
 ·by_cases e:d=(x,y)
  ·subst e
   rw[Maps.atKey_put_same H.isMap (wU G)];simp[Mo]
  ·rw[Maps.atKey_put_other (fun h=>e (su C G h)),L _ C]
   simp[e]
 ·rw[af]; simp only[az,aK]; omega
 ·rw[hs,Q,af,List.nodup_append]
  simp only[az,aK];by_cases e:(x,y)∈l
  ·simp only[e,if_true,Option.isSome_some]
   constructor
   ·intro e2; omega
   ·rintro⟨_,_,e2⟩; exact absurd rfl (e2 _ e _ (by simp))
  ·simp only[e,if_false,Option.isSome_none,Bool.false_eq_true]
   constructor
   ·intro e2
    refine⟨M.1 (by omega),by simp,fun a P c N e3=>?_⟩;rw[aH] at N;subst N; subst e3; exact e P
   ·rintro⟨e2,_,_⟩
    have:=M.2 e2;omega
 ·obtain⟨es,clock,es',clock',U,rfl⟩:=F
  simp[ChangeMaps.setBlock]
theorem mW.eq{l':Qd}(h:mW b l W)(e:l=l'):mW b l' W:=by rw[<-e]; exact h
end
def GotS(w:World)(l:Qd)(e:Ending)(w':World):Prop:=∃b,e=.returned (.map (some b))/\mW b l w'/\w.heap.size<=b/\PM w w'
theorem FU{b:Nat}(h:PM w W)(B:W.grownBy W' (some b))(A:w.heap.size<=b):PM w W':=h.grown B h.size (fun k e=>by cases e; exact A)
theorem Mf{L:List SlD}{i:Nat}(h:i<L.length)(A:d∈L[i].ds):d∈jU L:=by
 unfold jU;exact List.mem_flatMap.2 ⟨L[i],ak h,A⟩
theorem G8(bb cc:Nat)(L:List SlD)(w:World)(hL:Ov w.heap.size w bb L)(R:∀d∈jU L,OkD d)(hn:((jU L).length:Int)<=1000000)(hl:(L.length:Int)<=1000):
  Qh 92 #[.slice (some ⟨bb,0,none⟩) L.length cc] w (GotS w (jU L)):=by
 have A6:=@run_makeMap Tryz.prog;have HL:=Qf hL;have Y:=Qf R;have HT:=Qf (fun k (h:k<L.length)=>BD h);have X:=Qf (JZ L);obtain⟨T,hT⟩:=Qe ((jU L).length);rw[<-hT] at hn;have Z:=Qf hT;obtain⟨n,J⟩:=Qe L.length;have HN:=Qf J;rw[<-J] at hl ⊢;clear hL hT J R;have M:Qg (mW w.heap.size [] (w.alloc (.map #[] 0))):=Qf (mW.made w);have K:Qg (PM w (w.alloc (.map #[] 0))):=Qf (ba w _);go_enter Tryz.func92,Tryz.ntmps92;go_wp2_with fail;go_loopw [11] (fun i wr=>∃k:Nat,k<=n/\i=.int .i64 k/\Qg (mW w.heap.size (jU (L.take k)) wr)/\Qg (PM w wr)) (fun i _=>n-(intOf i).toNat)
 case atStart=>exact⟨0,by omega,rfl,M,K⟩
 case round=>
  clear M K A6;obtain⟨k,hk,rfl,E,D⟩:=hrel;by_cases B8:k<n
  ·have A4:(k:Int)<(n:Int):=by omega
   have O:k<L.length:=by have:=HN.o; omega
   have P:=HL.o.ahead D.out;have c0:=P.cell k O;have V:=Qf (HL.o.dig k O);have B:Qg (∀d∈L[k].ds,OkD d):=Qf (fun d hd=>Y.o d (Mf O hd));have I:(jU (L.take k)).length+L[k].ds.length<=T:=by
    have a1:=X.o (k+1);have a2:=HT.o k O;rw[a2,af,<-Z.o] at a1;exact a1
   have H:=Qf (HT.o k O);have F:Qg (mW w.heap.size (jU (L.take k)++(L[k].ds).take 0) wr):=Qf (E.out.eq (by simp));generalize L[k]=S at c0 V B I H F;obtain⟨sa,ds,sc⟩:=S;simp only at c0 V B I H F;obtain⟨m,hm⟩:=Qe ds.length;have HM:=Qf hm;rw[<-hm] at c0 I;clear P E hm;go_wp2_with fail;go_loopw [17] (fun i wr=>∃j:Nat,j<=m/\i=.int .i64 j/\Qg (mW w.heap.size (jU (L.take k)++ds.take j) wr)/\Qg (PM w wr)) (fun i _=>m-(intOf i).toNat)
   case atStart=>exact⟨0,by omega,rfl,F,D⟩
   case round=>
    clear F D c0;obtain⟨j,hj,rfl,E,D⟩:=hrel;by_cases B3:j<m
    ·have A3:(j:Int)<(m:Int):=by omega
     have h2:j<ds.length:=by have:=HM.o; omega
     obtain⟨b0,of0,A2,B5,q0,q1⟩:=(V.o.ahead D.out) j h2;have B4:=V;subst A2;have G:=B.o _ (ak h2);have N:Qg (ds.take (j+1)=ds.take j++[ds[j]]):=Qf (ai h2);generalize ds[j]=d at q0 q1 G N;obtain⟨d1,d2⟩:=d;simp only at q0 q1;obtain⟨u1,C0,U,Q,A7⟩:=(E.out.alloc (.cells #[.int .u64 d1,.int .u64 d2] 54)).put G (by
      have:(jU (L.take k)++ds.take j).length<=T:=by rw[af,aA]; omega
      omega)
     have C:Qg (mW w.heap.size (jU (L.take k)++ds.take (j+1)) u1):=Qf (U.eq (by rw[N.o,ay]));have W:Qg (PM w u1):=Qf (FU (D.out.alloc D.out.size _) Q nr);clear U Q A7 E D;go_wp2_with fail;go_roundw
     case rel=>exact⟨j+1,by omega,by go_num,C,W⟩
     case measure=>simp[intOf] <;> omega
    ·have A3:¬(j:Int)<(m:Int):=by omega
     have C:Qg (mW w.heap.size (jU (L.take (k+1))) wr):=Qf (E.out.eq (by rw[H.o,ag (l:=ds) (i:=j) (by have:=HM.o; omega)]));clear E;go_wp2_with fail;go_roundw
     case rel=>exact⟨k+1,by omega,by go_num,C,D⟩
     case measure=>simp[intOf] <;> omega
  ·have A4:¬(k:Int)<(n:Int):=by omega
   have C:Qg (mW w.heap.size (jU L) wr):=Qf (E.out.eq (by rw[ag (by have:=HN.o; omega)]));clear E;go_wp2_with fail;go_ret;exact⟨w.heap.size,rfl,C.o,nr,D.out⟩
