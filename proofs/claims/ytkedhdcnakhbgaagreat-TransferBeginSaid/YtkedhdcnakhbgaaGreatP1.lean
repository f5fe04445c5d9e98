/- Joined texts: PkD, PkRw, PkC, PkE, PkF, PkG, PkB. -/
import Derived.Test.YtkedhdcnakhbgaaGreatK3
import Derived.Test.YtkedhdcnakhbgaaGreatK4
import Derived.Test.YtkedhdcnakhbgaaGreatK6
import Derived.Test.YtkedhdcnakhbgaaGreatK2
/- Deltas on paper: check,encoding,decoding,application. -/
set_option linter.unusedSimpArgs false
set_option maxRecDepth 100000
set_option maxHeartbeats 16000000
namespace Go.Proofs.YtkedhdcnakhbgaaGreat
open Go.RowKit
set_option linter.unusedVariables false
variable {er v:Int}{B B' b base j k n p u:Nat}{a:Qa}{l s x:Qb}{W w w0 wr:World}
structure Dop where
 off:Nat
 len:Nat
 data:Qb
def cZ(o:Dop):Bool:=decide (0<o.len)&&decide (o.data=[])
def wZ(o:Dop):Bool:=decide (o.len=0)&&decide (o.off=0)&&!decide (o.data=[])
def bS(o:Dop):Nat:=if 0<o.len then o.len else o.data.length
def vQ(n:Nat):List Dop->Nat->Int
 | [],_=>0
 | o::l,p=>if cZ o=false/\wZ o=false then 1 else if cZ o=true/\(n<o.len\/n<o.off+o.len) then 2 else if 65536<bS o+p then 4 else vQ n l (p+bS o)
def bW(l:List Dop)(n:Nat):Int:=if 65536<n then 2 else vQ n l 0
def mU(o:Dop):Qb:=Cw.enc o.len++(if cZ o=true then Cw.enc o.off else(putT o.data).1)
def AV(l:List Dop):Qb×Int:=if bW l 65536≠0 then([],bW l 65536) else(Cw.enc l.length++l.flatMap mU,0)
def oO(a:Qb)(o:Dop):Qb:=if cZ o=true then(a.drop o.off).take o.len else o.data
def gP(a:Qb)(l:List Dop):Qb×Int:=if bW l a.length≠0 then([],bW l a.length) else(l.flatMap (oO a),0)
def opS(s:Qb):Option (Dop×Nat):=
 if(Cw.getI s).2.2≠0 then none
 else if 0<(Cw.getI s).1 then
  (if(Cw.getI (s.drop (Cw.getI s).2.1.toNat)).2.2≠0 then none else some (⟨(Cw.getI (s.drop (Cw.getI s).2.1.toNat)).1.toNat,(Cw.getI s).1.toNat,[]⟩,(Cw.getI s).2.1.toNat+(Cw.getI (s.drop (Cw.getI s).2.1.toNat)).2.1.toNat))
 else
  (if(Cw.getT (s.drop (Cw.getI s).2.1.toNat)).2.2≠0 then none else some (⟨0,0,(Cw.getT (s.drop (Cw.getI s).2.1.toNat)).1⟩,(Cw.getI s).2.1.toNat+(Cw.getT (s.drop (Cw.getI s).2.1.toNat)).2.1.toNat))
def jy:Nat->Qb->List Dop->Option (List Dop×Qb)
 | 0,s,l=>some (l,s)
 | n+1,s,l=>match opS s with
  | none=>none
  | some (o,k)=>jy n (s.drop k) (l++[o])
def sK(s:Qb):List Dop×Int:=
 if(Cw.getI s).2.2≠0 then([],13) else match jy (Cw.getI s).1.toNat (s.drop (Cw.getI s).2.1.toNat) [] with
  | none=>([],13)
  | some (l,r)=>if r≠[]\/bW l 65536≠0 then([],13) else(l,0)
theorem qx{n k:Int}(h:Cw.getI l=(n,k,0)):l=Cw.enc n.toNat++l.drop k.toNat/\0<=n/\1<=k/\k<=l.length:=by
 obtain⟨A,B,C⟩:=Cw.getI_canon h;obtain⟨_,_,D,E,_⟩:=bM h;refine⟨?_,A,D,E⟩;rw[B,aj]
 conv=>lhs; rw[<-aQ (Cw.enc n.toNat).length l]
 rw[C]
theorem Ga{k:Int}(h:Cw.getT l=(x,k,0)):l=(Cw.enc x.length++x)++l.drop k.toNat/\1<=k/\k<=l.length/\x.length<=65536:=by
 obtain⟨A,B,C,D⟩:=lY h;refine⟨?_,A,B,C⟩
 conv=>lhs; rw[<-aQ k.toNat l]
 rw[D]
theorem zU{o:Dop}(h:opS s=some (o,k)):s=mU o++s.drop k/\1<=k/\k<=s.length/\o.data.length<=65536/\(0<o.len->o.data=[])/\(o.len=0->o.off=0)/\o.len<=1099511627776/\o.off<=1099511627776:=by
 unfold opS at h;obtain⟨n,u,er,D⟩:∃n u er,Cw.getI s=(n,u,er):=⟨_,_,_,rfl⟩;rw[D] at h;simp only at h;by_cases F:er=0
 ·subst F
  obtain⟨g1,g2,g3,g4⟩:=qx D;have g5:=(bM D).2.1;rw[if_neg (by simp)] at h;by_cases G:0<n
  ·rw[if_pos G] at h
   obtain⟨m,v,er2,A⟩:∃m v er2,Cw.getI (s.drop u.toNat)=(m,v,er2):=⟨_,_,_,rfl⟩;rw[A] at h;simp only at h;by_cases B:er2=0
   ·subst B
    obtain⟨k1,k2,k3,k4⟩:=qx A;have k5:=(bM A).2.1;rw[if_neg (by simp)] at h;cases h;rw[ah] at k4;refine⟨?_,by omega,by omega,by simp,fun _=>rfl,fun e=>?_,by simp only; omega,by simp only; omega⟩
    ·have C:cZ ⟨m.toNat,n.toNat,[]⟩=true:=by unfold cZ; simp; omega
     unfold mU;rw[if_pos C];simp only;rw[ay,<-eY,<-k1];exact g1
    ·simp only at e; omega
   ·rw[if_pos B] at h; cases h
  ·rw[if_neg G] at h
   obtain⟨x,v,er2,A⟩:∃x v er2,Cw.getT (s.drop u.toNat)=(x,v,er2):=⟨_,_,_,rfl⟩;rw[A] at h;simp only at h;by_cases B:er2=0
   ·subst B
    obtain⟨k1,k2,k3,k4⟩:=Ga A;rw[if_neg (by simp)] at h;cases h;rw[ah] at k3;refine⟨?_,by omega,by omega,k4,fun e=>by simp at e,fun _=>rfl,by simp,by simp⟩;have C:cZ ⟨0,0,x⟩=false:=by unfold cZ; simp
    unfold mU;rw[C,if_neg (by simp)];simp only;unfold putT;rw[if_pos k4];simp only;have E:n.toNat=0:=by omega
    rw[E] at g1;rw[ay,<-eY,<-k1];exact g1
   ·rw[if_pos B] at h; cases h
 ·rw[if_pos F] at h; cases h
structure vV (s0:Qb) (k:Nat) (l:List Dop) (s:Qb):Prop where
 len:l.length=k
 cat:s0=l.flatMap mU++s
 room:k+s.length<=s0.length
 small:∀o∈l,o.data.length<=65536/\(0<o.len->o.data=[])/\(o.len=0->o.off=0)/\o.len<=1099511627776/\o.off<=1099511627776
theorem vV.start(s:Qb):vV s 0 [] s:=⟨rfl,rfl,by omega,fun o h=>by simp at h⟩
theorem vV.next{s0:Qb}{l:List Dop}{o:Dop}(h:vV s0 k l s)(E:opS s=some (o,n)):vV s0 (k+1) (l++[o]) (s.drop n):=by
 obtain⟨B,F,G,C⟩:=zU E;have D:=h.len;have H:=h.room;refine⟨by simp[D],?_,?_,fun p A=>?_⟩
 ·rw[bg,ay]
  simp only[bR,List.flatMap_nil,bG];rw[<-B];exact h.cat
 ·rw[ah]; omega
 ·rcases aD.1 A with A | A
  ·exact h.small p A
  ·rw[aH.1 A]; exact C
theorem zR:∀(n k:Nat) {s0 s:Qb} {l l':List Dop} {r:Qb},vV s0 k l s->jy n s l=some (l',r)->vV s0 (k+n) l' r
 | 0,k,s0,s,l,l',r,h,e=>by cases e; exact h
 | n+1,k,s0,s,l,l',r,h,e=>by
  rw[jy] at e;cases A:opS s with
  | none=>rw[A] at e; cases e
  | some p=>
   obtain⟨o,m⟩:=p;rw[A] at e;have:=zR n (k+1) (h.next A) e
   rwa[aP,Nat.add_comm 1 n] at this
theorem JA{l:List Dop}(h:sK s=(l,0)):bW l 65536=0/\(AV l).1=s/\(l.length:Int)<=s.length/\∀o∈l,o.data.length<=65536/\o.len<=1099511627776/\o.off<=1099511627776:=by
 unfold sK at h;obtain⟨n,u,er,H⟩:∃n u er,Cw.getI s=(n,u,er):=⟨_,_,_,rfl⟩;rw[H] at h;simp only at h;by_cases G:er=0
 ·subst G
  rw[if_neg (by simp)] at h;cases E:jy n.toNat (s.drop u.toNat) [] with
  | none=>rw[E] at h; simp at h
  | some p=>
   obtain⟨l',r⟩:=p;rw[E] at h;simp only at h;by_cases D:r≠[]\/bW l' 65536≠0
   ·rw[if_pos D] at h; simp at h
   ·rw[if_neg D] at h
    cases h
    have F:r=[]:=by
     by_cases e:r=[]
     ·exact e
     ·exact absurd (.inl e) D
    have B:bW l 65536=0:=by
     by_cases e:bW l 65536=0
     ·exact e
     ·exact absurd (.inr e) D
    subst F;have A:=zR _ 0 (vV.start _) E;obtain⟨g1,g2,g3,g4⟩:=qx H;refine⟨B,?_,?_,fun o I=>?_⟩
    ·unfold AV
     rw[if_neg (by simp[B])];simp only;have C:=A.cat;rw[bG] at C;rw[<-C,A.len,aZ];exact g1.symm
    ·have C:=A.room
     have J:=A.len;rw[ah,aK] at C;omega
    ·obtain⟨a1,_,_,a2,a3⟩:=A.small o I
     exact⟨a1,a2,a3⟩
 ·rw[if_pos G] at h; simp at h
theorem FO{l:List Dop}(k:Nat):∀{s0:Qb},jy k s0 []=some (l,s)->k<n->opS s=none->jy n s0 []=none:=by
 have gen:∀(k n:Nat) (s0:Qb) (acc:List Dop),jy k s0 acc=some (l,s)->k<n->opS s=none->jy n s0 acc=none:=by
  intro k;induction k with
  | zero=>
   intro n s0 acc h D hs;cases h;obtain⟨m,rfl⟩:∃m,n=m+1:=⟨n-1,by omega⟩;rw[jy,hs]
  | succ k ih=>
   intro n s0 acc h D hs;obtain⟨m,rfl⟩:∃m,n=m+1:=⟨n-1,by omega⟩;rw[jy] at h ⊢;cases E:opS s0 with
   | none=>rfl
   | some p=>
    obtain⟨o,j⟩:=p;rw[E] at h;exact ih m _ _ h (by omega) hs
 intro s0 A B C;exact gen k n s0 [] A B C
theorem wP:∀(k:Nat) {s0 s:Qb} {acc l:List Dop} {o:Dop} {m:Nat},jy k s0 acc=some (l,s)->opS s=some (o,m)->jy (k+1) s0 acc=some (l++[o],s.drop m)
 | 0,s0,s,acc,l,o,m,h,A=>by
  cases h
  rw[jy,A];rfl
 | k+1,s0,s,acc,l,o,m,h,A=>by
  rw[jy] at h ⊢;cases B:opS s0 with
  | none=>rw[B] at h; cases h
  | some p=>
   obtain⟨o2,j⟩:=p;rw[B] at h;exact wP k h A
open Go.RowKit Go.Shelf
section
variable {α:Type} {f:α->List Value} {z:Nat}
def gcs(f:α->List Value)(l:List α):List Value:=l.flatMap f
structure Lay (f:α->List Value) (z:Nat):Prop where
 pos:0<z
 len:∀a,(f a).length=z
 one:∀a,∀v∈f a,v.oneCell'=true
theorem Gc(f:α->List Value)(a b:List α):gcs f (a++b)=gcs f a++gcs f b:=by simp[gcs]
theorem kE(f:α->List Value)(a:α)(b:List α):gcs f (a::b)=f a++gcs f b:=by simp[gcs]
theorem Nz(f:α->List Value)(a:α):gcs f [a]=f a:=by simp[gcs]
theorem xq(h:Lay f z):∀l:List α,(gcs f l).length=l.length*z
 | []=>by simp[gcs]
 | a::l=>by rw[kE,af,h.len,xq h l,az,rM]; omega
theorem uF(h:Lay f z):∀(l:List α) (i:Nat) (A:i<l.length) (j:Nat),j<z->(gcs f l)[i*z+j]? = (f l[i])[j]?
 | [],i,A,_,_=>by simp at A
 | a::l,0,_,j,B=>by
  rw[kE,dG,aZ,List.getElem?_append_left (by rw[h.len]; exact B)];rfl
 | a::l,i+1,A,j,B=>by
  rw[kE,List.getElem?_append_right (by rw[h.len,rM]; omega),h.len,show(i+1)*z+j-z=i*z+j by rw[rM]; omega,uF h l i (by simpa using A) j B];rfl
theorem yA(h:Lay f z):∀(l:List α) (i:Nat) (A:i<l.length) (j:Nat) (v:Value) (b:α),j<z->f b=(f l[i]).set j v->(gcs f l).set (i*z+j) v=gcs f (l.set i b)
 | [],i,A,_,_,_,_,_=>by simp at A
 | a::l,0,_,j,v,b,C,B=>by
  rw[kE,dG,aZ,List.set_append_left _ _ (by rw[h.len]; exact C),List.set_cons_zero,kE,B];rfl
 | a::l,i+1,A,j,v,b,C,B=>by
  rw[kE,List.set_append_right _ _ (by rw[h.len,rM]; omega),h.len,show(i+1)*z+j-z=i*z+j by rw[rM]; omega,List.set_cons_succ,kE,yA h l i (by simpa using A) j v b C (by simpa using B)]
def GIn(f:α->List Value)(z B:Nat)(W:World)(a:Qa)(l:List α):Prop:=
 ∀i (h:i<l.length),∃b off,a=some ⟨b,off,none⟩/\b<B/\∀j v,(f l[i])[j]? = some v->W.cell? ⟨b,off+i*z+j,none⟩=some v
theorem GIn.nil(B:Nat)(W:World)(a:Qa):GIn f z B W a []:=fun i h=>by simp at h
theorem GIn.below{W':World}{l:List α}(h:GIn f z B W a l)(D:Below B' W W')(H:B<=B'):GIn f z B W' a l:=by
 intro i F;obtain⟨b,off,C,A,E⟩:=h i F;exact⟨b,off,C,A,fun j v G=>(D.cell (p:=⟨b,off+i*z+j,none⟩) (by simp; omega)).trans (E j v G)⟩
theorem GIn.mono{l:List α}(h:GIn f z B W a l)(F:B<=B'):GIn f z B' W a l:=by
 intro i D;obtain⟨b,off,A,E,C⟩:=h i D;exact⟨b,off,A,by omega,C⟩
theorem GIn.ahead{l:List α}(h:GIn f z w.heap.size w a l)(A:PM w W):GIn f z W.heap.size W a l:=(h.below A nr).mono A.size
theorem jw{e:TypeId}{c:Nat}{l:List α}(C:Lay f z)(H:n=l.length)(h:W.ownsRow base e z (.slice a n c) n (gcs f l)):GIn f z W.heap.size W a l:=by
 subst H;intro i D;rcases h.2 with⟨B,I⟩ | ⟨g,cap,cur,B,_,F,_⟩
 ·omega
 ·cases B
  refine⟨g,0,rfl,(Array.getElem?_eq_some_iff.1 F).1,fun j v E=>?_⟩;have G:j<z:=by rw[<-C.len l[i]]; exact(List.getElem?_eq_some_iff.1 E).1
  have A:i*z+j<l.length*z:=by
   have:(i+1)*z<=l.length*z:=pK _ D;rw[rM] at this; omega
  rw[aZ,h.cellAt _ A,uF C l i D j G,E]
theorem jb{base:Nat}{t e:TypeId}{i0:TypeInfo}{zv:Value}{bytes:Nat}(E:Lay f z)(S:Tryz.prog.underlying t=some (.slice e))(Q:Tryz.prog.info? e=some i0)(F:i0.zero=some zv)(G:i0.size=z)(H:i0.bytes=bytes)(I:zv.cells.size=z)
  {W:World} {v:Value} {n:Nat} {l:List α} (U:n=l.length) (B:W.ownsRow base e z v n (gcs f l)) (x:α) (J:(n:Int)<=1000000) (D:bytes<=1000) (C:base<=W.heap.size) :
  ∃v' W',Qg ((Builtin.append_ #[t,t] t #[v,.slice (some ⟨W.heap.size,0,none⟩) 1 1]).run Tryz.prog (W.alloc (.cells (f x).toArray e))=.ok v' W')/\W'.ownsRow base e z v' (n+1) (gcs f (l++[x]))/\(W.alloc (.cells (f x).toArray e)).grownBy W' v.ownBlock/\(v'.ownBlock=v.ownBlock\/v'.ownBlock=some (W.heap.size+1)):=by
 have O:(n+1)*bytes<=140737488355328:=aC (Nat.mul_le_mul (show n+1<=1000001 by omega) D) (by decide);obtain⟨v',W',K,L,M,N⟩:=mD (P:=Tryz.prog) (W.alloc (.cells (f x).toArray e)) base t t e i0 zv z bytes S Q F G H I E.pos v n (gcs f l) (B.alloc _) (some ⟨W.heap.size,0,none⟩) 1 1 (f x) (by rw[E.len]; omega) (.inr ⟨_,rfl,fun j u T=>by
  have R:=BK.new W (f x).toArray e;rw[Go.WideShapes.add_plain,R.cell];simpa using T⟩) (E.one x) (by unfold maxLen; omega) O (by simp; omega)
 refine⟨v',W',Qf K,?_,M,by simpa using N⟩;rw[Gc,Nz];exact L
theorem xW{e:TypeId}{g cap i:Nat}{l:List α}(B:Lay f z)(h:W.ownsRow base e z (.slice (some ⟨g,0,none⟩) n cap) n (gcs f l))(E:n=l.length)(C:i<l.length)(D:j<z)(v:Value)(b:α)(A:f b=(f l[i]).set j v):
  (W.setCell ⟨g,i*z+j,none⟩ v).ownsRow base e z (.slice (some ⟨g,0,none⟩) n cap) n (gcs f (l.set i b)):=by
 rw[<-yA B l i C j v b D A];exact(h.stored (i*z+j) v).1
end
def jm(o:Dop):List Value:=[.int .i64 (o.off:Int),.int .i64 (o.len:Int),.string ⟨o.data.toArray⟩]
def Dop.val(o:Dop):Value:=.agg #[.int .i64 (o.off:Int),.int .i64 (o.len:Int),.string ⟨o.data.toArray⟩]
theorem F3:Lay jm 3:=⟨by decide,fun o=>rfl,fun o v A=>by
 simp only[jm,List.mem_cons,List.not_mem_nil,or_false] at A;rcases A with rfl | rfl | rfl <;> rfl⟩
theorem xX{l:List Dop}(h:GIn jm 3 B W a l)(E:k<l.length):∃b off,a=some ⟨b,off,none⟩/\b<B/\W.cell? ⟨b,off+k*3,none⟩=some (.int .i64 (l[k].off:Int))/\W.cell? ⟨b,off+k*3+1,none⟩=some (.int .i64 (l[k].len:Int))/\W.cell? ⟨b,off+k*3+2,none⟩=some (.string ⟨l[k].data.toArray⟩):=by
 obtain⟨b,off,C,D,A⟩:=h k E;exact⟨b,off,C,D,A 0 _ rfl,A 1 _ rfl,A 2 _ rfl⟩
theorem nilB(l:Qb):decide (l=[])=l.isEmpty:=by cases l <;> rfl
theorem LP(o:Dop):cZ o=(decide ((0:Int)<(o.len:Int))&&o.data.isEmpty):=by
 unfold cZ;rw[nilB];congr 1;rw[Bool.eq_iff_iff];simp only[decide_eq_true_eq];omega
theorem Nw(o:Dop):wZ o=(((o.len:Int)==0)&&((o.off:Int)==0)&&!o.data.isEmpty):=by
 unfold wZ;rw[nilB];congr 2 <;> (rw[Bool.eq_iff_iff]; simp)
theorem lW(o:Dop)(w:World):Qh 189 #[o.val] w fun e w'=>e=.returned (.bool (cZ o))/\PM w w':=by
 have C:=Qf (LP o);generalize cZ o=R at C;obtain⟨off,len,data⟩:=o;simp only[Dop.val] at C ⊢;generalize (off:Int)=fo;generalize (len:Int)=le at C;have D:Qg (PM w (w.alloc (.cells #[.int .i64 fo,.int .i64 le,.string ⟨data.toArray⟩] 246))):=Qf (ba w _);by_cases F:0<le
 ·have B:Qg (R=data.isEmpty):=Qf (by rw[C.o]; simp[F])
  clear C;cases E:data.isEmpty <;> (rw[E] at B; go_enter Tryz.func189,Tryz.ntmps189; go_wp2_with fail; go_ret; exact⟨by rw[B.o]; rfl,D.o⟩)
 ·have B:Qg (R=false):=Qf (by rw[C.o]; simp; intro h; omega)
  clear C;go_enter Tryz.func189,Tryz.ntmps189;go_wp2_with fail;go_ret;exact⟨by rw[B.o]; rfl,D.o⟩
theorem Ae(o:Dop)(w:World):Qh 222 #[o.val] w fun e w'=>e=.returned (.bool (wZ o))/\PM w w':=by
 have C:=Qf (Nw o);generalize wZ o=R at C;obtain⟨off,len,data⟩:=o;simp only[Dop.val] at C ⊢;generalize (off:Int)=fo at C;generalize (len:Int)=le at C;have D:Qg (PM w (w.alloc (.cells #[.int .i64 fo,.int .i64 le,.string ⟨data.toArray⟩] 246))):=Qf (ba w _);cases F:(le==0) with
 | false=>
  have B:Qg (R=false):=Qf (by rw[C.o,F]; rfl);clear C;go_enter Tryz.func222,Tryz.ntmps222;go_wp2_with fail;go_ret;exact⟨by rw[B.o]; rfl,D.o⟩
 | true=>
  cases E:(fo==0) with
  | false=>
   have B:Qg (R=false):=Qf (by rw[C.o,E]; simp);clear C;go_enter Tryz.func222,Tryz.ntmps222;go_wp2_with fail;go_ret;exact⟨by rw[B.o]; rfl,D.o⟩
  | true=>
   cases G:data.isEmpty with
   | false=>
    have B:Qg (R=true):=Qf (by rw[C.o,F,E,G]; rfl);clear C;go_enter Tryz.func222,Tryz.ntmps222;go_wp2_with fail;go_ret;exact⟨by rw[B.o]; rfl,D.o⟩
   | true=>
    have B:Qg (R=false):=Qf (by rw[C.o,F,E,G]; rfl);clear C;go_enter Tryz.func222,Tryz.ntmps222;go_wp2_with fail;go_ret;exact⟨by rw[B.o]; rfl,D.o⟩
theorem uQ(o:Dop)(w:World):Qh 194 #[o.val] w fun e w'=>e=.returned (.int .i64 (bS o:Int))/\PM w w':=by
 obtain⟨off,len,data⟩:=o;simp only[Dop.val];have hs:(bS ⟨off,len,data⟩:Int)=if(0:Int)<(len:Int) then(len:Int) else(data.length:Int):=by
  unfold bS;simp only;by_cases h:0<len
  ·rw[if_pos h,if_pos (by omega)]
  ·rw[if_neg h,if_neg (by omega)]
 obtain⟨S,D⟩:∃S:Int,S=(bS ⟨off,len,data⟩:Int):=⟨_,rfl⟩;rw[<-D];rw[<-D] at hs;have E:=bH data;generalize (data.length:Nat)=dl at E hs;have C:=Qf hs;clear hs D;generalize (off:Int)=fo;generalize (len:Int)=le at C;have B:Qg (PM w (w.alloc (.cells #[.int .i64 fo,.int .i64 le,.string ⟨data.toArray⟩] 246))):=Qf (ba w _);by_cases F:0<le
 ·go_enter Tryz.func194,Tryz.ntmps194
  go_wp2_with fail;go_ret;exact⟨by rw[C.o,if_pos F]; rfl,B.o⟩
 ·go_enter Tryz.func194,Tryz.ntmps194
  go_wp2_with fail;go_ret;exact⟨by rw[C.o,if_neg (by omega)]; rfl,B.o⟩
def Chk(n:Nat)(l:List Dop)(k p:Nat):Prop:=vQ n l 0=vQ n (l.drop k) p/\p<=65536
theorem Chk.start(n:Nat)(l:List Dop):Chk n l 0 0:=⟨rfl,by omega⟩
theorem Chk.at{l:List Dop}(h:Chk n l k p)(A:k<l.length):vQ n l 0=if cZ l[k]=false/\wZ l[k]=false then 1 else if cZ l[k]=true/\(n<l[k].len\/n<l[k].off+l[k].len) then 2 else if 65536<bS l[k]+p then 4 else vQ n (l.drop (k+1)) (p+bS l[k]):=by
 rw[h.1,aN A,vQ]
theorem Chk.fin{l:List Dop}(h:Chk n l k p)(A:l.length<=k):vQ n l 0=0:=by
 rw[h.1,dV A,vQ]
theorem qz(a:Qa)(l:List Dop)(c n:Nat)(w:World)(hl:GIn jm 3 w.heap.size w a l)(hn:(n:Int)<=9223372036854775807)(C2:(l.length:Int)<=9223372036854775807)(hs:∀o∈l,o.data.length<=1099511627776/\o.len<=1099511627776/\o.off<=1099511627776):
  Qh 187 #[.slice a l.length c,.int .i64 (n:Int)] w fun e w'=>e=.returned (.int .i64 (bW l n))/\PM w w':=by
 obtain⟨R,hR⟩:=Qe (bW l n);rw[<-hR];unfold bW at hR;have HR:=Qf hR;obtain⟨m,hm⟩:=Qe l.length;rw[<-hm] at C2 ⊢;have HN:=Qf hm;have HL:=Qf hl;have HS:=Qf hs;clear hR hm hl hs;by_cases L:65536<n
 ·have C0:(65536:Int)<(n:Int):=by omega
  have B8:¬(n:Int)<0:=by omega
  have B5:Qg (R=2):=Qf (by rw[HR.o,if_pos L]);have HB:=Qf (Below.refl w.heap.size w);clear HR L;go_enter Tryz.func187,Tryz.ntmps187;go_wp2_with fail;go_ret;exact⟨by rw[B5.o]; rfl,HB.o⟩
 have C0:¬(65536:Int)<(n:Int):=by omega
 have B8:¬(n:Int)<0:=by omega
 have U:Qg (R=vQ n l 0):=Qf (by rw[HR.o,if_neg L]);clear HR L;go_enter Tryz.func187,Tryz.ntmps187;go_wp2_with fail;go_loopw [16,5] (fun i s wr=>∃k p:Nat,k<=m/\i=.int .i64 (k:Int)/\s=.int .i64 (p:Int)/\Qg (PM w wr)/\Qg (Chk n l k p)) (fun i _ _=>m-(intOf i).toNat)
 case atStart=>exact⟨0,0,by omega,rfl,rfl,Qf (bf _),Qf (Chk.start n l)⟩
 case round=>
  obtain⟨k,p,hk,rfl,rfl,HB,HE⟩:=hrel;have hp:=HE.out.2;by_cases C3:k<m
  ·have h1:k<l.length:=by rw[<-HN.o]; exact C3
   have C1:(k:Int)<(m:Int):=by omega
   obtain⟨b0,of0,B7,B9,q0,q1,q2⟩:=xX (HL.o.ahead HB.o) h1;subst B7;have B:Qg (R=_):=Qf (U.o.trans (HE.out.at h1));have E:Qg (∀q,65536<bS l[k]+p\/(q=p+bS l[k]->R=vQ n (l.drop (k+1)) q->Chk n l (k+1) q)):=Qf (fun q=>by
    by_cases e:65536<bS l[k]+p
    ·exact .inl e
    ·exact .inr (fun h2 h3=>⟨by rw[<-U.o]; exact h3,by omega⟩))
   have A8:=HS.o _ (ak h1);generalize l[k]=o at q0 q1 q2 B E A8;have A9:bS o<=1099511627776:=by unfold bS; split <;> omega
   have S:=Qf (fun W=>lW o W);have A3:=Qf (fun W=>Ae o W);have P:=Qf (fun W=>uQ o W);obtain⟨cb,Y⟩:=Qe (cZ o);obtain⟨ib,Z⟩:=Qe (wZ o);obtain⟨z,hz⟩:=Qe (bS o);rw[<-Y] at S;rw[<-Z] at A3;rw[<-hz] at P A9;rw[<-Y,<-Z,<-hz] at B;rw[<-hz] at E;obtain⟨off,len,data⟩:=o;simp only[Dop.val] at *
   clear HE Y Z hz B9;obtain⟨u0,Q⟩:=Qe (wr.alloc (.cells #[.int .i64 (off:Int),.int .i64 (len:Int),.string ⟨data.toArray⟩] 246));have A7:PM wr u0:=by rw[Q]; exact ba _ _
   have V:=Qf (HB.o.trans (A7.mono HB.o.size));have A5:Qg (BK wr.heap.size #[.int .i64 (off:Int),.int .i64 (len:Int),.string ⟨data.toArray⟩] 246 u0):=Qf (by rw[Q]; exact BK.new _ _ _);have D:=Qf (S.o u0);rw[Q] at D;have A6:=Qf Q;have D2:(len:Int)<=1099511627776/\(off:Int)<=1099511627776:=by omega
   clear Q A7 HL HS A8;go_wp2_with fail
   refine D.o.mono ?_;rintro e u2 ⟨rfl,C⟩
   rw[<-A6.o] at C;have M:=Qf (V.o.trans (C.mono V.o.size));have O:=Qf (A5.o.below C);clear C D A6 V A5 q0 q1 q2
   -- THE ROUND
   cases cb with
   | true=>
    have D:=Qf (S.o u2);obtain⟨k0,k1,k2⟩:=BK.c3 O.o;go_wp2_with fail
    refine D.o.mono ?_;rintro e u3 ⟨rfl,C⟩
    have G:=Qf (M.o.trans (C.mono M.o.size));have J:=Qf (O.o.below C);clear C D M O k0 k1 k2;obtain⟨m0,m1,m2⟩:=BK.c3 J.o;have g0:¬(off:Int)<0:=by omega
    by_cases h3:n<len
    case pos=>
     have g1:(n:Int)<(len:Int):=by omega
     have F:Qg (R=2):=Qf (by rw[B.o,if_neg (by simp),if_pos ⟨by simp,.inl h3⟩]);clear B E;go_wp2_with fail;go_ret;exact⟨by rw[F.o]; rfl,G.o⟩
    have g1:¬(n:Int)<(len:Int):=by omega
    have g2:IntKind.i64.wrap ((n:Int)-(len:Int))=(n:Int)-(len:Int):=wrap_i64 (by omega) (by omega);by_cases h4:n<off+len
    case pos=>
     have g3:(n:Int)-(len:Int)<(off:Int):=by omega
     have F:Qg (R=2):=Qf (by rw[B.o,if_neg (by simp),if_pos ⟨by simp,.inr h4⟩]);clear B E;go_wp2_with fail;go_ret;exact⟨by rw[F.o]; rfl,G.o⟩
    have g3:¬(n:Int)-(len:Int)<(off:Int):=by omega
    have B:Qg (R=if 65536<z+p then 4 else vQ n (l.drop (k+1)) (p+z)):=Qf (by rw[B.o,if_neg (by simp),if_neg (fun e=>e.2.elim h3 h4)]);clear m0 m1 m2;have D:=Qf (P.o u3);obtain⟨k0,k1,k2⟩:=BK.c3 J.o;go_wp2_with fail
    refine D.o.mono ?_;rintro e u4 ⟨rfl,C⟩
    have I:=Qf (G.o.trans (C.mono G.o.size));have K:=Qf (J.o.below C);clear C D G J k0 k1 k2;by_cases H:65536<z+p
    case pos=>
     have A0:(65536:Int)-(p:Int)<(z:Int):=by omega
     have A1:IntKind.i64.wrap ((65536:Int)-(p:Int))=(65536:Int)-(p:Int):=wrap_i64 (by omega) (by omega);have F:Qg (R=4):=Qf (by rw[B.o,if_pos H]);clear B E;go_wp2_with fail;go_ret;exact⟨by rw[F.o]; rfl,I.o⟩
    have A0:¬(65536:Int)-(p:Int)<(z:Int):=by omega
    have A1:IntKind.i64.wrap ((65536:Int)-(p:Int))=(65536:Int)-(p:Int):=wrap_i64 (by omega) (by omega);have C5:IntKind.i64.wrap ((p:Int)+(z:Int))=((p+z:Nat):Int):=by rw[wrap_i64 (by omega) (by omega)]; omega
    have X:Qg (Chk n l (k+1) (p+z)):=Qf (((E.o (p+z)).resolve_left H) rfl (by rw[B.o,if_neg H]));clear H B E;have D:=Qf (P.o u4);obtain⟨k0,k1,k2⟩:=BK.c3 K.o;go_wp2_with fail
    refine D.o.mono ?_;rintro e u5 ⟨rfl,C⟩
    have N:=Qf (I.o.trans (C.mono I.o.size));have T:=Qf (K.o.below C);clear C D I K k0 k1 k2;go_wp2_with fail;go_roundw
    case rel=>exact⟨k+1,p+z,by omega,by go_num,by go_num,N,X⟩
    case measure=>simp[intOf] <;> omega
   | false=>
    have D:=Qf (A3.o u2);obtain⟨k0,k1,k2⟩:=BK.c3 O.o;go_wp2_with fail
    refine D.o.mono ?_;rintro e u3 ⟨rfl,C⟩
    have G:=Qf (M.o.trans (C.mono M.o.size));have J:=Qf (O.o.below C);clear C D M O k0 k1 k2;cases ib with
    | false=>
     have F:Qg (R=1):=Qf (by rw[B.o,if_pos ⟨by simp,by simp⟩]);clear B E;go_wp2_with fail;go_ret;exact⟨by rw[F.o]; rfl,G.o⟩
    | true=>
     have D:=Qf (S.o u3);obtain⟨k0,k1,k2⟩:=BK.c3 J.o;go_wp2_with fail
     refine D.o.mono ?_;rintro e u4 ⟨rfl,C⟩
     have I:=Qf (G.o.trans (C.mono G.o.size));have K:=Qf (J.o.below C);clear C D G J k0 k1 k2;have B:Qg (R=if 65536<z+p then 4 else vQ n (l.drop (k+1)) (p+z)):=Qf (by rw[B.o,if_neg (by simp),if_neg (by simp)]);have D:=Qf (P.o u4);obtain⟨k0,k1,k2⟩:=BK.c3 K.o;go_wp2_with fail
     refine D.o.mono ?_;rintro e u5 ⟨rfl,C⟩
     have N:=Qf (I.o.trans (C.mono I.o.size));have T:=Qf (K.o.below C);clear C D I K k0 k1 k2;by_cases H:65536<z+p
     case pos=>
      have A0:(65536:Int)-(p:Int)<(z:Int):=by omega
      have A1:IntKind.i64.wrap ((65536:Int)-(p:Int))=(65536:Int)-(p:Int):=wrap_i64 (by omega) (by omega);have F:Qg (R=4):=Qf (by rw[B.o,if_pos H]);clear B E;go_wp2_with fail;go_ret;exact⟨by rw[F.o]; rfl,N.o⟩
     have A0:¬(65536:Int)-(p:Int)<(z:Int):=by omega
     have A1:IntKind.i64.wrap ((65536:Int)-(p:Int))=(65536:Int)-(p:Int):=wrap_i64 (by omega) (by omega);have C5:IntKind.i64.wrap ((p:Int)+(z:Int))=((p+z:Nat):Int):=by rw[wrap_i64 (by omega) (by omega)]; omega
     have X:Qg (Chk n l (k+1) (p+z)):=Qf (((E.o (p+z)).resolve_left H) rfl (by rw[B.o,if_neg H]));clear H B E;have D:=Qf (P.o u5);obtain⟨k0,k1,k2⟩:=BK.c3 T.o;go_wp2_with fail
     refine D.o.mono ?_;rintro e u6 ⟨rfl,C⟩
     have B4:=Qf (N.o.trans (C.mono N.o.size));have D1:=Qf (T.o.below C);clear C D N T k0 k1 k2;go_wp2_with fail;go_roundw
     case rel=>exact⟨k+1,p+z,by omega,by go_num,by go_num,B4,X⟩
     case measure=>simp[intOf] <;> omega
  ·have C1:¬(k:Int)<(m:Int):=by omega
   have F:Qg (R=0):=Qf (by rw[U.o]; exact HE.out.fin (by rw[<-HN.o]; omega));clear HE U;go_wp2_with fail;go_ret;exact⟨by rw[F.o]; rfl,HB.o⟩
def GotOp(s:Qb)(w:World)(e:Ending)(w':World):Prop:=∃(o:Dop) (k:Nat) (b:Bool),e=.returned (.tuple #[o.val,.int .i64 (k:Int),.bool b])/\(b=true->opS s=some (o,k)/\k<=s.length)/\(b=false->opS s=none)/\PM w w'
theorem Nj{n u:Int}(h:Cw.getI s=(n,u,er))(A:er≠0):opS s=none:=by unfold opS; rw[h]; simp only; rw[if_pos A]
theorem KM{m:Int}(h:Cw.getI s=((n:Int),(u:Int),0))(B:0<n)(A:Cw.getI (s.drop u)=(m,v,er)):opS s=if er≠0 then none else some (⟨m.toNat,n,[]⟩,u+v.toNat):=by
 unfold opS; rw[h]; simp only[aj,A]; rw[if_neg (by simp),if_pos (by omega)]
theorem Nh(h:Cw.getI s=(0,(u:Int),0))(A:Cw.getT (s.drop u)=(x,v,er)):opS s=if er≠0 then none else some (⟨0,0,x⟩,u+v.toNat):=by
 unfold opS; rw[h]; simp only[aj,A]; rw[if_neg (by simp),if_neg (by omega)]
theorem A8(s:Qb)(w:World)(S:(s.length:Int)<=140737488355328):Qh 251 #[.string ⟨s.toArray⟩] w (GotOp s w):=by
 obtain⟨n,u,er,E⟩:∃n u er,Cw.getI s=(n,u,er):=⟨_,_,_,rfl⟩;have I:=Qf (fun X=>dQ (s:=⟨s.toArray⟩) (n:=n) (k:=u) (er:=er) (by simpa using E) X);obtain⟨O,P,Q,R⟩:=gH E;obtain⟨n0,rfl⟩:∃n0:Nat,n=(n0:Int):=⟨n.toNat,by omega⟩;obtain⟨u0,rfl⟩:∃u0:Nat,u=(u0:Int):=⟨u.toNat,by omega⟩;by_cases H:er=0
 case neg=>
  have M:(er !=0)=true:=by simpa using H
  have D:=Qf (Nj E H);clear E H;go_enter Tryz.func251,Tryz.ntmps251;go_wp2_with fail
  refine(I.o _).mono ?_;rintro e w' ⟨rfl,rfl⟩
  go_wp2_with fail;refine bodyPost_ret (v:=.tuple #[.agg #[.int .i64 0,.int .i64 0,.string ⟨#[]⟩],.int .i64 0,.bool false]) (by simp[results,Tryz.results251,go_sem]) rfl ?_;refine⟨⟨0,0,[]⟩,0,false,rfl,(fun h=>by cases h),fun _=>D.o,?_⟩
  repeat (first | exact bf _ | (refine Below.setCell ?_ (by simp) _) | (refine Below.alloc ?_ (by simp) _))
 case pos=>
 subst H;have K:u0<=s.length:=by omega
 have G:=fun W=>jY s u0 K W
 have F:(⟨s.toArray⟩:ByteArray).extract u0 s.length=⟨(s.drop u0).toArray⟩:=by rw[dw,ag (by simp)]
 by_cases J:0<n0
 ·have N:(0:Int)<(n0:Int):=by omega
  obtain⟨m,v,er2,B⟩:∃m v er2,Cw.getI (s.drop u0)=(m,v,er2):=⟨_,_,_,rfl⟩;have C:=Qf (fun X=>dQ (s:=⟨(s.drop u0).toArray⟩) (n:=m) (k:=v) (er:=er2) (by simpa using B) X);obtain⟨k1,k2,k3,k4⟩:=gH B;rw[ah] at k4;obtain⟨m0,rfl⟩:∃m0:Nat,m=(m0:Int):=⟨m.toNat,by omega⟩;obtain⟨v0,rfl⟩:∃v0:Nat,v=(v0:Int):=⟨v.toNat,by omega⟩;have L:IntKind.i64.wrap ((u0:Int)+(v0:Int))=((u0+v0:Nat):Int):=by rw[wrap_i64 (by omega) (by omega)]; omega
  have D:=Qf (KM E J B);simp only[aj] at D;generalize s.drop u0=s2 at G F C;clear E B J;go_enter Tryz.func251,Tryz.ntmps251;go_wp2_with fail
  refine(I.o _).mono ?_;rintro e w' ⟨rfl,rfl⟩
  go_wp2_with fail
  refine(C.o _).mono ?_;rintro e w' ⟨rfl,rfl⟩
  go_wp2_with fail;refine bodyPost_ret (v:=.tuple #[.agg #[.int .i64 (m0:Int),.int .i64 (n0:Int),.string ⟨#[]⟩],.int .i64 ((u0+v0:Nat):Int),.bool (er2==0)]) (by simp[results,Tryz.results251,go_sem]) rfl ?_;refine⟨⟨m0,n0,[]⟩,u0+v0,er2==0,rfl,fun h=>?_,fun h=>?_,?_⟩
  ·have e:er2=0:=by simpa using h
   exact⟨by rw[D.o,e,if_neg (by simp)],by omega⟩
  ·have e:er2≠0:=by simpa using h
   rw[D.o,if_pos e]
  ·repeat (first | exact bf _ | (refine Below.setCell ?_ (by simp) _) | (refine Below.alloc ?_ (by simp) _))
 ·obtain rfl:n0=0:=by omega
  obtain⟨x,v,er2,B⟩:∃x v er2,Cw.getT (s.drop u0)=(x,v,er2):=⟨_,_,_,rfl⟩;have C:Qg (∀X,Qh 126 #[.string ⟨(s.drop u0).toArray⟩] X fun e w'=>e=.returned (.tuple #[.string ⟨x.toArray⟩,.int .i64 v,.int .i64 er2])/\X=w'):=Qf (fun X=>by
   have:=kD ⟨(s.drop u0).toArray⟩ X (by rw[bH,ah]; omega);rw[show(⟨(s.drop u0).toArray⟩:ByteArray).data.toList=s.drop u0 by simp,B] at this;exact this)
  obtain⟨k3,k4,_⟩:=lZ B;rw[ah] at k4;obtain⟨v0,rfl⟩:∃v0:Nat,v=(v0:Int):=⟨v.toNat,by omega⟩;have L:IntKind.i64.wrap ((u0:Int)+(v0:Int))=((u0+v0:Nat):Int):=by rw[wrap_i64 (by omega) (by omega)]; omega
  have D:=Qf (Nh E B);simp only[aj] at D;generalize s.drop u0=s2 at G F C;clear E B J;go_enter Tryz.func251,Tryz.ntmps251;go_wp2_with fail
  refine(I.o _).mono ?_;rintro e w' ⟨rfl,rfl⟩
  go_wp2_with fail
  refine(C.o _).mono ?_;rintro e w' ⟨rfl,rfl⟩
  go_wp2_with fail;refine bodyPost_ret (v:=.tuple #[.agg #[.int .i64 0,.int .i64 0,.string ⟨x.toArray⟩],.int .i64 ((u0+v0:Nat):Int),.bool (er2==0)]) (by simp[results,Tryz.results251,go_sem]) rfl ?_;refine⟨⟨0,0,x⟩,u0+v0,er2==0,rfl,fun h=>?_,fun h=>?_,?_⟩
  ·have e:er2=0:=by simpa using h
   exact⟨by rw[D.o,e,if_neg (by simp)],by omega⟩
  ·have e:er2≠0:=by simpa using h
   rw[D.o,if_pos e]
  ·repeat (first | exact bf _ | (refine Below.setCell ?_ (by simp) _) | (refine Below.alloc ?_ (by simp) _))
def MM(w:World)(l:List Dop)(er:Int)(e:Ending)(w':World):Prop:=∃a c,e=.returned (.tuple #[.slice a l.length c,.int .i64 er])/\GIn jm 3 w'.heap.size w' a l/\PM w w'
theorem MM.no{w':World}(er:Int)(A:PM w w'):MM w [] er (.returned (.tuple #[.slice none 0 0,.int .i64 er])) w':=⟨none,0,rfl,GIn.nil _ _ _,A⟩
theorem OZ:(Tryz.prog.info? 246).map (fun i=>(i.zero,i.size,i.bytes))=some (some (.agg #[.int .i64 0,.int .i64 0,.string ⟨#[]⟩]),3,32):=by kernel_rfl
theorem BA{v:Value}{l:List Dop}(I:n=l.length)(D:W.ownsRow base 246 3 v n (gcs jm l))(x:Dop)(C:(n:Int)<=1000000)(B:base<=W.heap.size):
  ∃v' W',Qg ((Builtin.append_ #[206,206] 206 #[v,.slice (some ⟨W.heap.size,0,none⟩) 1 1]).run Tryz.prog (W.alloc (.cells (jm x).toArray 246))=.ok v' W')/\W'.ownsRow base 246 3 v' (n+1) (gcs jm (l++[x]))/\(W.alloc (.cells (jm x).toArray 246)).grownBy W' v.ownBlock/\(v'.ownBlock=v.ownBlock\/v'.ownBlock=some (W.heap.size+1)):=by
 obtain⟨i0,H,E,F,G⟩:=info_parts OZ;exact jb F3 Tryz.underlying206 H E F G rfl I D x C (by decide) B
structure Og (s:Qb) (u k p:Nat) (l:List Dop):Prop where
 le:p<=s.length
 at_:vV (s.drop u) k l (s.drop p)
 go:jy k (s.drop u) []=some (l,s.drop p)
theorem Og.start(h:u<=s.length):Og s u 0 u []:=⟨h,vV.start _,rfl⟩
theorem Og.next{l:List Dop}{o:Dop}(h:Og s u k p l)(A:opS (s.drop p)=some (o,j)):Og s u (k+1) (p+j) (l++[o]):=by
 have B:=(zU A).2.2.1;rw[ah] at B;have C:=h.le;refine⟨by omega,?_,?_⟩
 ·have:=h.at_.next A
  rwa[eY] at this
 ·have:=wP k h.go A
  rwa[eY] at this
theorem LJ{n u:Int}(h:Cw.getI s=(n,u,er))(A:er≠0):sK s=([],13):=by unfold sK; rw[h]; simp only; rw[if_pos A]
theorem Jz(h:Cw.getI s=((n:Int),(u:Int),0))(A:jy n (s.drop u) []=none):sK s=([],13):=by unfold sK; rw[h]; simp only[aj,A]; simp
theorem Jy(h:Cw.getI s=((n:Int),(u:Int),0)){l:List Dop}{r:Qb}(A:jy n (s.drop u) []=some (l,r)):sK s=if r≠[]\/bW l 65536≠0 then([],13) else(l,0):=by unfold sK; rw[h]; simp only[aj,A]; rw[if_neg (by simp)]
theorem Db(s:Qb)(w:World)(hl:(s.length:Int)<=1000000):Qh 247 #[.string ⟨s.toArray⟩] w (MM w (sK s).1 (sK s).2):=by
 obtain⟨n,u,er,hg⟩:∃n u er,Cw.getI s=(n,u,er):=⟨_,_,_,rfl⟩;have HG:=Qf (fun X=>dQ (s:=⟨s.toArray⟩) (n:=n) (k:=u) (er:=er) (by simpa using hg) X);obtain⟨h1,h2,h3,h4⟩:=gH hg;obtain⟨n0,rfl⟩:∃n0:Nat,n=(n0:Int):=⟨n.toNat,by omega⟩;obtain⟨u0,rfl⟩:∃u0:Nat,u=(u0:Int):=⟨u.toNat,by omega⟩;have T:=Qf (Below.refl w.heap.size w);by_cases he:er=0
 case neg=>
  have C8:(er !=0)=true:=by simpa using he
  rw[LJ hg he];clear hg he;go_enter Tryz.func247,Tryz.ntmps247;go_wp2_with fail
  refine(HG.o _).mono ?_;rintro e w' ⟨rfl,rfl⟩
  go_wp2_with fail;go_ret2;exact MM.no 13 T.o
 case pos=>
 subst he;have V:=Qf (Jz hg);have Z:=Qf (fun l r=>Jy (l:=l) (r:=r) hg);have B2:=Qf (Og.start (s:=s) (u:=u0) (by omega));obtain⟨R,hR⟩:=Qe (sK s);rw[<-hR] at V Z ⊢;obtain⟨m,hm⟩:=Qe s.length;have HM:=Qf hm;have E0:(⟨s.toArray⟩:ByteArray).size=m:=by rw[bH,hm]
 rw[<-hm] at hl h4;have Y:Qg (∀p,p<=m->(∀W,_)/\(⟨s.toArray⟩:ByteArray).extract p m=⟨(s.drop p).toArray⟩):=Qf (fun p hp=>⟨fun W=>jY s p (by rw[<-hm]; exact hp) W,by rw[dw,ag (by simp[hm])]⟩);clear hg hR hm;go_enter Tryz.func247,Tryz.ntmps247;go_wp2_with fail
 refine(HG.o _).mono ?_;rintro e w' ⟨rfl,rfl⟩
 go_wp2_with fail;go_loopw [5,7,20] (fun a v i wr=>∃(k p:Nat) (ls:List Dop),k<=n0/\a=.int .i64 (p:Int)/\i=.int .i64 (k:Int)/\Qg (Og s u0 k p ls)/\Qg (wr.ownsRow w.heap.size 246 3 v k (gcs jm ls))/\Qg (PM w wr)) (fun _ _ i _=>n0-(intOf i).toNat)
 case atStart=>exact⟨0,u0,[],by omega,rfl,rfl,B2,Qf (World.ownsRow_nil _ _ _ _),T⟩
 case round=>
  clear B2 T;obtain⟨k,p,ls,hk,rfl,rfl,U,P,J⟩:=hrel;obtain⟨va,vc,rfl,E1⟩:=aB P.out;have D0:p<=m:=by rw[HM.o]; exact U.out.le
  have B:(k:Int)<=1000000/\ls.length=k:=by
   have h5:=U.out.at_.room;have h6:=HM.o;rw[ah,ah] at h5;exact⟨by omega,U.out.at_.len⟩
  by_cases C7:k<n0
  ·have C6:(k:Int)<(n0:Int):=by omega
   obtain⟨A4,A2⟩:=Y.o p D0;have M:=Qf (A8 (s.drop p) wr (by rw[ah]; have:=HM.o; omega));have A1:(s.drop p).length+p=m:=by rw[ah]; have:=HM.o; omega
   have E:Qg (opS (s.drop p)=none->R=([],13)):=Qf (fun h=>V.o (FO k U.out.go C7 h));have K:=Qf (fun o j h=>U.out.next (o:=o) (j:=j) h);generalize s.drop p=s2 at A4 A2 M E K A1;have B0:=Qf A1;clear A1;go_wp2_with fail
   refine M.o.mono ?_;rintro e u1 ⟨o,j,b,rfl,ht,hf,S⟩
   have C:=Qf (J.out.trans (S.mono J.out.size));have L:=Qf (own_below P.out S);cases b with
   | false=>
    have HR:=Qf (E.o (hf rfl));have D:Qg (PM w (u1.alloc (.cells (jm o).toArray 246))):=Qf (C.o.alloc C.o.size _);obtain⟨off,len,data⟩:=o;simp only[Dop.val,jm] at D ⊢;clear ht hf S M J P L K E A4 A2;go_wp2_with fail;go_ret2;rw[HR.o];exact MM.no 13 D.o
   | true=>
    obtain⟨B6,C5⟩:=ht rfl;have C0:=Qf (K.o o j B6);have C9:(p:Int)+(j:Int)<=1000000:=by have:=B0.o; omega
    have E2:IntKind.i64.wrap ((p:Int)+(j:Int))=((p+j:Nat):Int):=by rw[wrap_i64 (by omega) (by omega)]; omega
    obtain⟨u2,O⟩:=Qe (u1.alloc (.cells (jm o).toArray 246));have A0:PM u1 u2:=by rw[O]; exact ba _ _
    have D:=Qf (C.o.trans (A0.mono C.o.size));have B5:u2.heap.size=u1.heap.size+1:=by rw[O]; simp
    obtain⟨v',W',F,I,B3,_⟩:=BA B.2.symm (own_below L.o A0) o B.1 D.o.size;have B9:Qg (PM w W'):=Qf ((D.o.alloc D.o.size _).grown B3 (by have:=D.o.size; simp; omega) (fun i hi=>by have:=(L.o.lt i hi).1; omega));rw[O] at F;rw[World.size_alloc] at F;have Q:=Qf F;have C2:=Qf I;obtain⟨off,len,data⟩:=o;simp only[Dop.val,jm] at Q ⊢;clear ht hf S B6 C5 M J P L K E A4 A2 F I B3 A0 B5 O C D B0 B C9;go_wp2_with (at_builtin; refine Lib.wpList_append_run _ rfl _ _ _ _ rfl _ _ rfl rfl _ _ Q.o ?_);go_roundw
    case rel=>exact⟨k+1,p+j,_,by omega,rfl,by go_num,C0,C2,B9⟩
    case measure=>simp[intOf] <;> omega
  ·obtain rfl:k=n0:=by omega
   have C6:¬(k:Int)<(k:Int):=by omega
   have HR:=Qf (Z.o _ _ U.out.go);obtain⟨x0,B7⟩:=Qe wr;rw[<-B7] at J P ⊢;have HC:=Qf (qz va ls vc 65536 x0 (jw F3 B.2.symm P.out) (by decide) (by omega) (fun o ho=>by obtain⟨a1,_,_,a2,a3⟩:=U.out.at_.small o ho; exact⟨by omega,a2,a3⟩));rw[B.2,show((65536:Nat):Int)=65536 from rfl] at HC;have B1:=Qf B.2;clear B7 V Z B;by_cases B4:p=m
   ·subst B4
    have G:Qg (R=if bW ls 65536≠0 then([],13) else(ls,0)):=Qf (by
     rw[HR.o,dV (by have:=HM.o; omega)];by_cases e:bW ls 65536=0 <;> simp[e])
    generalize bW ls 65536=ce at HC G;clear HR Y;go_wp2_with fail
    refine HC.o.mono ?_;rintro e u1 ⟨rfl,S⟩
    have C:=Qf (J.out.trans (S.mono J.out.size));have C1:=Qf (jw F3 B1.o.symm (own_below P.out S));clear S HC J P;by_cases N:ce=0
    ·subst N
     have H:Qg (R=(ls,0)):=Qf (by rw[G.o]; simp);clear G;go_wp2_with fail;go_ret2;rw[H.o];exact⟨va,vc,by rw[B1.o]; rfl,C1.o,C.o⟩
    ·have C8:(ce !=0)=true:=by simpa using N
     have H:Qg (R=([],13)):=Qf (by rw[G.o,if_pos N]);clear G N;go_wp2_with fail;go_ret2;rw[H.o];exact MM.no 13 C.o
   ·have D4:((p:Int) !=(m:Int))=true:=by simp; omega
    have H:Qg (R=([],13)):=Qf (by
     rw[HR.o,if_pos (.inl (fun e=>B4 (by
      have h5:=congrArg List.length e;rw[ah,aK] at h5;have:=HM.o
      omega)))])
    clear HR Y HC;go_wp2_with fail;go_ret2;rw[H.o];exact MM.no 13 J.out
structure BW (w w0:World) (b:Nat) (l:Qb) (wr:World):Prop where
 bld:Lib.IsBuilderF 118 5 w.heap.size b (Lib.byteCells l) wr
 bel:PM w wr
 kept:Kept b w0 wr
theorem xC{T e:TypeId}{bs:List Value}{X:World}(h:Lib.IsBuilderF T e B b bs W)(A:PM W X):Lib.IsBuilderF T e B b bs X:=by
 have key:∀p,Lib.BuilderAtF T e B b p bs W->Lib.BuilderAtF T e B b p bs X:=by
  rintro p ⟨F,v,C,D,E⟩;refine⟨F,v,(A.block b (Array.getElem?_eq_some_iff.1 C).1).trans C,D.kept (row:=none) ⟨A.os,A.tape,A.output,A.size,fun k G _=>A.block k G⟩ ?_,E⟩;cases H:v.ownBlock with
  | none=>exact .inl rfl
  | some k=>exact .inr (by simp)
 exact h.elim (fun x=>.inl (key _ x)) (fun x=>.inr (key _ x))
theorem BW.below{x:World}(h:BW w w0 b l wr)(A:PM wr x):BW w w0 b l x:=
 ⟨xC h.bld A,h.bel.trans (A.mono h.bel.size),wV h.kept A⟩
theorem BW.wrote{x:World}{l':Qb}(h:BW w w0 b l wr)(A:Lib.IsBuilderF 118 5 w.heap.size b (Lib.byteCells l') x)(B:Below w.heap.size wr x)(C:Kept b wr x):BW w w0 b l' x:=
 ⟨A,h.bel.trans B,h.kept.trans C⟩
theorem BW.block(h:BW w w0 b l wr){cs:Array Value}{t:TypeId}{fz:Nat×Nat}(B:w0.heap[k]? = some (.cells cs t fz))(A:k≠b)(C:t≠5):wr.heap[k]? = some (.cells cs t fz):=
 h.kept k _ B (fun e=>A (Option.some.inj e)) (fun c f e=>by cases e; exact C rfl)
theorem BW.anew(h:BW w w0 b l wr):BW w wr b l wr:=⟨h.bld,h.bel,Lib.OthersKept.refl _ _ _⟩
theorem oZ(A:B<=b)(h:w.heap[b]? = some (.cells #[.pointer none,.slice none 0 0] 118 (0,0))):Lib.IsBuilderF 118 5 B b (Lib.byteCells []) w:=
 .inl ⟨A,.slice none 0 0,h,World.ownsRowF_of (World.ownsRow_nil _ _ _ _),by simp[Value.ownBlock]⟩
theorem BW.start(B:PM w w0)(A:w.heap.size<=b)(h:w0.heap[b]? = some (.cells #[.pointer none,.slice none 0 0] 118 (0,0))):BW w w0 b [] w0:=⟨oZ A h,B,Lib.OthersKept.refl _ _ _⟩
theorem cz(h:BW w w0 b l wr)(s:Qb)(E:((l.length:Int))+s.length<=140737488355328):
  Qh 73 #[.pointer (some ⟨b,0,none⟩),.string ⟨s.toArray⟩] wr fun e w'=>e=.returned (.tuple #[.int .i64 s.length,.nilIface])/\Qg (BW w w0 b (l++s) w'):=by
 refine(jW w.heap.size b (Lib.byteCells l) ⟨s.toArray⟩ wr h.bld (by rw[Lib.byteCells_length,bH]; omega) h.bel.size).mono ?_;rintro e x ⟨rfl,B,C,D⟩;refine⟨by rw[bH],Qf (h.wrote (.inr ?_) C D)⟩;rw[byteCells_append];have:=B
 rwa[strCells_eq] at this
theorem vC(h:BW w w0 b l wr)(B:l≠[]):
  Qh 74 #[.pointer (some ⟨b,0,none⟩)] wr fun e w'=>e=.returned (.string ⟨l.toArray⟩)/\Qg (BW w w0 b l w'):=by
 refine(ic w.heap.size b l wr h.bld B).mono ?_;rintro e x ⟨rfl,C,D,E⟩;exact⟨rfl,Qf (h.wrote C D E)⟩
theorem Bo(h:w.heap[b]? = some (.cells #[.pointer none,.slice none 0 0] 118 (0,0))):
  Qh 74 #[.pointer (some ⟨b,0,none⟩)] w fun e w'=>e=.returned (.string ⟨#[]⟩)/\PM w w':=by
 have c1:w.drew.cell? ⟨b,1,none⟩=some (.slice none 0 0):=by
  have:w.drew.heap[b]? = some (.cells #[.pointer none,.slice none 0 0] 118 (0,0)):=h;rw[Lib.cell_of_heap this]; rfl
 have B:(Builtin.unsafeSliceData_ #[116] 182 #[.slice none 0 0]).run Tryz.prog w.drew=.ok (.pointer none) w.drew:=Lib.run_unsafeSliceData_nil _ _ _ _ _;have C:(Builtin.unsafeString_ #[182,3] 9 #[.pointer none,.int .i64 0]).run Tryz.prog w.drew=.ok (.string ⟨#[]⟩) w.drew:=Lib.run_unsafeString_none _ _ _ _ _;go_enter Tryz.func74,Tryz.ntmps74;go_wp2;go_region
 all_goals (go_wp2; go_ret; exact⟨rfl,Below.drew (bf w)⟩)
