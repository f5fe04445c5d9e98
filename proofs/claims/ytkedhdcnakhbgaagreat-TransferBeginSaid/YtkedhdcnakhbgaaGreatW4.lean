/- Joined texts: WireE, WireB, WireEn. -/
import Derived.Test.YtkedhdcnakhbgaaGreatP1
import Derived.Test.YtkedhdcnakhbgaaGreatK2
import Derived.Test.YtkedhdcnakhbgaaGreatW3
import Derived.Deep.RegionLaw
import Derived.Deep.DeepCutAuto
import Derived.Deep.CutBlock
import Derived.Deep.CutRange
/- wire.writer,wire.body. -/
set_option linter.unusedSimpArgs false
set_option maxRecDepth 100000
set_option maxHeartbeats 16000000
namespace Go.Proofs.YtkedhdcnakhbgaaGreat
open Go.RowKit Go.Shelf
set_option linter.unusedVariables false
theorem GX(B b x:Nat)(l:Qb)(n:Int)(k:Nat)(w:World)(h:Lib.IsBuilderF 118 5 B b (Lib.byteCells l) w)(Z:w.heap[x]? = some (.cells #[.pointer (some ⟨b,0,none⟩)] 115 (0,0)))(U:x≠b)(hk:k<=8)(hn:0<=n)(hl:(l.length:Int)<=70000000000000)(A2:B<=w.heap.size):
  Qh 129 #[.int .u64 n,.int .i64 k,.pointer (some ⟨x,0,none⟩)] w fun e w'=>e=.returned (.tuple #[])/\(Lib.IsBuilderF 118 5 B b (Lib.byteCells (l++be k n)) w'/\Below B w w'/\Kept b w w'):=by
 have Y:=Qf Z;have HI:=Qf h;clear Z h;go_enter Tryz.func129,Tryz.ntmps129;go_wp2_with fail;go_loopw [5] (fun i wr=>∃(j:Nat) (p:Qb),j<=k/\i=.int .i64 ((j:Int)-1)/\p.length+j=k/\Qg (p++be j n=be k n)/\Qg (Lib.IsBuilderF 118 5 B b (Lib.byteCells (l++p)) wr)/\Qg (Below B w wr)/\Qg (Kept b w wr)) (fun i _=>(intOf i+1).toNat)
 case atStart=>exact⟨k,[],by omega,rfl,by simp,Qf rfl,by rw[bG]; exact HI,Qf (bf _),Qf (Lib.OthersKept.refl _ _ _)⟩
 case round=>
  obtain⟨j,p,hj,rfl,hp,L,X,J,H⟩:=hrel;cases j with
  | zero=>
   go_wp2_with fail;go_end0;rw[<-L.out];simp only[be,bG];exact⟨trivial,X.out,J.out,H.out⟩
  | succ i=>
   have hi:((i+1:Nat):Int)-1=(i:Int):=by omega
   rw[hi];have A7:wr.cell? ⟨x,0,none⟩=some (.pointer (some ⟨b,0,none⟩)):=by
    rw[Lib.cell_of_heap (H.out x _ Y.o (fun e=>U (Option.some.inj e)) (fun c fz e=>by cases e))]; rfl
   obtain⟨z,V⟩:=Qe (n/2^(8*i));have A6:IntKind.i64.wrap (8*(i:Int))=8*(i:Int):=wrap_i64 (by omega) (by omega);have A5:n/2^(8*(i:Int)).toNat=z:=by
    rw[V];congr 2
   obtain⟨c,R⟩:=Qe (z%256);have A3:IntKind.u8.wrap z=c:=by rw[R]; simp[IntKind.wrap,IntKind.bits,IntKind.signed]
   have S:0<=c:=by omega
   have T:c<256:=by omega
   have M:Qg ((p++[UInt8.ofNat c.toNat])++be i n=be k n):=Qf (by rw[<-L.out,be,<-V,<-R,ay]; rfl);have A1:=J.out.size;have N:=Qf (fun W P Q=>sW B b (Lib.byteCells (l++p)) c W P (by rw[Lib.byteCells_length,af]; omega) Q);have G:Qg (Lib.IsBuilderF 118 5 B b (Lib.byteCells (l++p)) wr.drew):=X;have O:=Qf (N.o wr.drew G.o (by show B<=wr.heap.size; omega));clear R V L Y;go_wp2_with fail;go_region_law (first | (go_simp; (with_reducible refine O.o.mono ?_); rintro e w1 ⟨rfl,C,E,D⟩) | fail);have F:Qg (Lib.IsBuilderF 118 5 B b (Lib.byteCells (l++(p++[UInt8.ofNat c.toNat]))) w1):=Qf (by
    rw[<-ay,byteCells_append,Bh c S T];exact .inr C)
   have K:Qg (Below B w w1):=Qf (J.out.drew.trans E);have I:Qg (Kept b w w1):=Qf (H.out.drew.trans D);clear C E D;go_wp2_with fail;go_roundw
   case rel=>exact⟨i,p++[UInt8.ofNat c.toNat],by omega,rfl,by simp; omega,M,F,K,I⟩
   case measure=>simp[intOf]
def qF(ds:Qd):Qb:=ds.flatMap fun d=>be 8 d.1++be 8 d.2
def qE(ns:List Int):Qb:=ns.flatMap fun n=>Cw.enc n.toNat
def yP(m:Msg):Qb:=qE [m.kind,m.id,m.off,m.tot,m.ds.length]++(qF m.ds++(Cw.enc m.data.length++m.data))
theorem lF:∀(ds:Qd),(qF ds).length=16*ds.length
 | []=>rfl
 | d::ds=>by
  have:=lF ds;rw[qF,bR,af,af,bY,bY];rw[qF] at this;rw[this,az];omega
theorem jo:∀(ns:List Int),(qE ns).length<=10*ns.length
 | []=>by simp[qE]
 | n::ns=>by
  have:=jo ns;have A:=aG n.toNat;rw[qE,bR,af,az];rw[qE] at this;omega
theorem vZ(b:Nat)(w:World):Qh 72 #[.pointer (some ⟨b,0,none⟩)] w fun e w'=>e=.returned (.func (.func 129) #[] #[.pointer (some ⟨w.heap.size,0,none⟩)])/\w.alloc (.cells #[.pointer (some ⟨b,0,none⟩)] 115)=w':=by
 go_enter Tryz.func72,Tryz.ntmps72;go_wp2_with fail;go_ret;exact⟨rfl,rfl⟩
theorem BQ(T:Qb)(h:T.length<=65536)(w:World):Qh 128 #[.string ⟨T.toArray⟩] w fun e w'=>e=.returned (.tuple #[.string ⟨(Cw.enc T.length++T).toArray⟩,.int .i64 0])/\PM w w':=by
 have B:=nG ⟨T.toArray⟩ w (by rw[bH]; omega);have:putT T=(Cw.enc T.length++T,0):=if_pos h;simp only[this] at B;exact B
theorem Gv(ns:List Int)(k:Nat)(h:k<ns.length):qE (ns.take (k+1))=qE (ns.take k)++Cw.enc (ns[k]).toNat:=by
 rw[ai h,qE,bg];simp[qE]
theorem Gw(ds:Qd)(k:Nat)(h:k<ds.length):qF (ds.take (k+1))=qF (ds.take k)++(be 8 ds[k].1++be 8 ds[k].2):=by
 rw[ai h,qF,bg];simp[qF]
theorem lI{w w0 wr:World}{b x:Nat}{l:Qb}(h:BW w w0 b l wr)(n:Int)(k:Nat)(F:k<=8)(H:0<=n)(G:(l.length:Int)<=70000000000000)(I:wr.heap[x]? = some (.cells #[.pointer (some ⟨b,0,none⟩)] 115 (0,0)))(B:x≠b):
  Qh 129 #[.int .u64 n,.int .i64 k,.pointer (some ⟨x,0,none⟩)] wr fun e w'=>e=.returned (.tuple #[])/\Qg (BW w w0 b (l++be k n) w')/\Qg (Kept b wr w'):=by
 refine(GX w.heap.size b x l n k wr h.bld I B F H G h.bel.size).mono ?_;rintro e y ⟨rfl,D,E,C⟩;exact⟨rfl,Qf (h.wrote D E C),Qf C⟩
abbrev L8(w:World)(kind id off tot:Int)(a:Qa)(nd cd:Nat)(T:Qb):World:=
 (((w.alloc (.cells #[.int .i64 kind,.int .i64 id,.int .i64 off,.int .i64 tot,.slice a nd cd,.string ⟨T.toArray⟩] 73)).alloc (.cells #[.pointer none,.slice none 0 0] 118)).alloc
  (.cells #[.pointer (some ⟨w.heap.size+1,0,none⟩)] 115)).alloc (.cells #[.int .i64 kind,.int .i64 id,.int .i64 off,.int .i64 tot,.int .i64 nd] 3)
structure BodyW (w w0:World) (kind id off tot:Int) (a:Qa) (nd cd:Nat) (T:Qb):Prop where
 start:BW w w0 (w.heap.size+1) [] w0
 box:w0.heap[w.heap.size]? = some (.cells #[.int .i64 kind,.int .i64 id,.int .i64 off,.int .i64 tot,.slice a nd cd,.string ⟨T.toArray⟩] 73 (0,0))
 ptr:w0.heap[w.heap.size+1+1]? = some (.cells #[.pointer (some ⟨w.heap.size+1,0,none⟩)] 115 (0,0))
 arr:w0.heap[w.heap.size+1+1+1]? = some (.cells #[.int .i64 kind,.int .i64 id,.int .i64 off,.int .i64 tot,.int .i64 nd] 3 (0,0))
theorem L6(w:World)(kind id off tot:Int)(a:Qa)(nd cd:Nat)(T:Qb):BodyW w (L8 w kind id off tot a nd cd T) kind id off tot a nd cd T:=by
 have s1:∀o,(w.alloc o).heap.size=w.heap.size+1:=fun o=>by simp
 have s2:∀o o',((w.alloc o).alloc o').heap.size=w.heap.size+1+1:=fun o o'=>by simp
 have s3:∀o o' o'',(((w.alloc o).alloc o').alloc o'').heap.size=w.heap.size+1+1+1:=fun o o' o''=>by simp
 have A:(L8 w kind id off tot a nd cd T).heap[w.heap.size+1]? = some (.cells #[.pointer none,.slice none 0 0] 118 (0,0)):=by
  rw[Below.heap_alloc _ _ _ (by rw[s3]; omega),Below.heap_alloc _ _ _ (by rw[s2]; omega),<-s1 (.cells #[.int .i64 kind,.int .i64 id,.int .i64 off,.int .i64 tot,.slice a nd cd,.string ⟨T.toArray⟩] 73)];exact World.alloc_heap_new _ _
 refine⟨⟨oZ (by omega) A,(((ba w _).alloc (by rw[s1]; omega) _).alloc (by rw[s2]; omega) _).alloc (by rw[s3]; omega) _,Lib.OthersKept.refl _ _ _⟩,?_,?_,?_⟩
 ·rw[Below.heap_alloc _ _ _ (by rw[s3]; omega),Below.heap_alloc _ _ _ (by rw[s2]; omega),Below.heap_alloc _ _ _ (by rw[s1]; omega)]
  exact World.alloc_heap_new _ _
 ·rw[Below.heap_alloc _ _ _ (by rw[s3]; omega),<-s2 (.cells #[.int .i64 kind,.int .i64 id,.int .i64 off,.int .i64 tot,.slice a nd cd,.string ⟨T.toArray⟩] 73) (.cells #[.pointer none,.slice none 0 0] 118)]
  exact World.alloc_heap_new _ _
 ·rw[<-s3 (.cells #[.int .i64 kind,.int .i64 id,.int .i64 off,.int .i64 tot,.slice a nd cd,.string ⟨T.toArray⟩] 73) (.cells #[.pointer none,.slice none 0 0] 118) (.cells #[.pointer (some ⟨w.heap.size+1,0,none⟩)] 115)]
  exact World.alloc_heap_new _ _
theorem LZ(m:Msg)(a:Qa)(cd:Nat)(w:World)(hd:dE w.heap.size w a m.ds)(S:∀d∈m.ds,0<=d.1/\0<=d.2)(C8:0<=m.kind)(C9:m.kind<=1099511627776)(C6:0<=m.id)(C7:m.id<=1099511627776)(D2:0<=m.off)(D3:m.off<=1099511627776)(D4:0<=m.tot)(D5:m.tot<=1099511627776)
  (W:m.ds.length<=1000) (hT:m.data.length<=65536) :
  Qh 71 #[m.val a cd] w fun e w'=>e=.returned (.string ⟨(yP m).toArray⟩)/\PM w w':=by
 obtain⟨kind,id,off,tot,ds,T⟩:=m;simp only at hd S C8 C9 C6 C7 D2 D3 D4 D5 W hT ⊢;obtain⟨R,hR⟩:=Qe (yP ⟨kind,id,off,tot,ds,T⟩);obtain⟨ns,I⟩:∃ns:List Int,ns=[kind,id,off,tot,ds.length]:=⟨_,rfl⟩;obtain⟨nd,K⟩:=Qe ds.length;rw[<-hR];have HR:Qg (R=qE ns++(qF ds++(Cw.enc T.length++T))):=Qf (by rw[hR,I]; rfl);have C1:Qg (ns=[kind,id,off,tot,(nd:Int)]):=Qf (by rw[I,K]);have P:=Qf K;have E1:nd<=1000:=by omega
 show Qh 71 #[.agg #[.int .i64 kind,.int .i64 id,.int .i64 off,.int .i64 tot,.slice a ds.length cd,.string ⟨T.toArray⟩]] w _;rw[<-K];have HD:=Qf hd;have B7:=Qf S;have B4:ns.length=5:=by rw[I]; rfl
 have B9:Qg (∀n∈ns,0<=n/\n<=1099511627776):=Qf (by
  intro n X;rw[I] at X;simp only[List.mem_cons,List.not_mem_nil,or_false] at X;rcases X with rfl | rfl | rfl | rfl | rfl <;> omega)
 have Q:=Qf B4;clear hR I K hd S W B4;go_enter Tryz.func71,Tryz.ntmps71;go_wp2_with fail;refine(vZ _ _).mono ?_;rintro e w' ⟨rfl,rfl⟩;go_wp2_with fail;have C:=Qf (L6 w kind id off tot a nd cd T);go_loopw [27] (fun i wr=>∃k:Nat,k<=5/\i=.int .i64 k/\Qg (BW w (L8 w kind id off tot a nd cd T) (w.heap.size+1) (qE (ns.take k)) wr)) (fun i _=>5-(intOf i).toNat)
 case atStart=>exact⟨0,by omega,rfl,Qf C.o.start⟩
 case round=>
  obtain⟨k,hk,rfl,E⟩:=hrel;obtain⟨w0,Z⟩:=Qe (L8 w kind id off tot a nd cd T);have B8:=Qf Z;rw[<-Z] at E C;clear Z;have E8:=E.out.bel.size;by_cases D1:k<5
  ·have V:k<ns.length:=by rw[Q.o]; exact D1
   obtain⟨n,W⟩:=Qe (ns[k]);have B1:=B9.o n (by rw[W]; exact ak V);have D0:=jo (ns.take k);rw[aA] at D0;have C5:=aG n.toNat;have A7:=Qf (Gv ns k V);rw[<-W] at A7;have E0:wr.cell? ⟨w.heap.size+1+1+1,k,none⟩=some (.int .i64 n):=by
    rw[Lib.cell_of_heap (E.out.block C.o.arr (by omega) (by decide))];have h1:ns[k]? = some n:=by rw[W]; exact List.getElem?_eq_getElem V
    rw[C1.o] at h1;rcases(show k=0\/k=1\/k=2\/k=3\/k=4 by omega) with rfl | rfl | rfl | rfl | rfl <;> simp at h1 <;> subst h1 <;> rfl
   clear W;go_wp2_with fail;refine(oL n B1.1 B1.2 _).mono ?_;rintro e x1 ⟨rfl,H⟩;have A2:=Qf (E.out.below H);clear H;go_wp2_with fail;refine(cz A2.o _ (by omega)).mono ?_;rintro e x2 ⟨rfl,L⟩;rw[<-A7.o,B8.o] at L;go_wp2_with fail;go_roundw
   case rel=>exact⟨k+1,by omega,by go_num,L⟩
   case measure=>simp[intOf]; omega
  ·have A1:Qg (ns.take k=ns):=Qf (ag (by rw[Q.o]; omega))
   rw[A1.o] at E;have F:=E.out.block C.o.box (by omega) (by decide);have c4:wr.cell? ⟨w.heap.size,4,none⟩=some (.slice a nd cd):=by rw[Lib.cell_of_heap F]; rfl
   have M:=Qf (jo ns);rw[Q.o] at M;clear F A1;go_wp2_with fail;obtain⟨wq,rfl⟩:∃wq:World,wq=wr:=⟨_,rfl⟩;go_loopw [42] (fun i wr=>∃j:Nat,j<=nd/\i=.int .i64 j/\Qg (BW w w0 (w.heap.size+1) (qE ns++qF (ds.take j)) wr)) (fun i _=>nd-(intOf i).toNat)
   case atStart=>exact⟨0,by omega,rfl,by simpa[qF] using E⟩
   case round=>
    obtain⟨j,hj,rfl,B⟩:=hrel;have E7:=B.out.bel.size;have A9:=lF (ds.take j);have B0:(qF (ds.take j)).length<=16*nd:=by rw[A9,aA,P.o]; omega
    have E6:=M.o;have Y:=B.out.block C.o.ptr (by omega) (by decide);clear A9 c4;by_cases B3:j<nd
    ·have U:j<ds.length:=by rw[<-P.o]; exact B3
     obtain⟨b0,o0,rfl,F,e1,e2⟩:=(HD.o.below B.out.bel nr) j U;obtain⟨x,hx⟩:=Qe (ds[j].1);obtain⟨y,hy⟩:=Qe (ds[j].2);have N:=B7.o _ (ak U);rw[<-hx,<-hy] at N;obtain⟨D6,D7⟩:=N;rw[<-hx] at e1;rw[<-hy] at e2;have A8:=Qf (Gw ds j U);rw[<-hx,<-hy] at A8;clear hx hy;have HP:=Qf Y;clear Y;go_wp2_with fail;have O:=Qf (B.out.below ((bf wr).alloc nr (.cells #[.int .u64 x,.int .u64 y] 54)));have A6:Qg ((wr.alloc (.cells #[.int .u64 x,.int .u64 y] 54)).heap[w.heap.size+1+1]? = some (.cells #[.pointer (some ⟨w.heap.size+1,0,none⟩)] 115 (0,0))):=Qf (O.o.block C.o.ptr (by omega) (by decide));refine(lI (k:=8) O.o x (by omega) D6 (by simp; omega) A6.o (by omega)).mono ?_;rintro e x1 ⟨rfl,D,A4⟩;have B2:x1.heap[wr.heap.size]? = some (.cells #[.int .u64 x,.int .u64 y] 54 (0,0)):=A4.out wr.heap.size _ (World.alloc_heap_new wr _) (fun e=>by have:=Option.some.inj e; have:=yQ B.out.bld; omega) (fun c f e=>by cases e);have d1:x1.cell? ⟨wr.heap.size,1,none⟩=some (.int .u64 y):=by rw[Lib.cell_of_heap B2]; rfl
     have A5:=Qf (D.o.block C.o.ptr (by omega) (by decide));have E2:=D.o.bel.size;clear B2 O A6 A4 e1 e2;go_wp2_with fail;refine(lI (k:=8) D.o y (by omega) D7 (by simp[bY]; omega) A5.o (by omega)).mono ?_;rintro e x2 ⟨rfl,G,C0⟩;have J:Qg (BW w w0 (w.heap.size+1) (qE ns++qF (ds.take (j+1))) x2):=Qf (by
      rw[A8.o];have:=G.out;simpa only[ay] using this)
     clear G C0 D d1 A5;go_wp2_with fail;go_roundw
     case rel=>exact⟨j+1,by omega,by go_num,J⟩
     case measure=>simp[intOf]; omega
    ·have A3:Qg (ds.take j=ds):=Qf (ag (by rw[<-P.o]; omega))
     rw[A3.o] at B B0;have F:=B.out.block C.o.box (by omega) (by decide);have c5:wr.cell? ⟨w.heap.size,5,none⟩=some (.string ⟨T.toArray⟩):=by rw[Lib.cell_of_heap F]; rfl
     have C5:=aG T.length;clear F A3 Y;go_wp2_with fail;refine(BQ T hT _).mono ?_;rintro e x1 ⟨rfl,H⟩;have D:=Qf (B.out.below H);clear H;go_wp2_with fail;refine(cz D.o _ (by simp; omega)).mono ?_;rintro e x2 ⟨rfl,G⟩;have J:Qg (BW w w0 (w.heap.size+1) R x2):=Qf (by
      rw[HR.o];have:=G.out;simpa only[ay] using this)
     clear G D;go_wp2_with fail;refine(ic w.heap.size (w.heap.size+1) R x2 J.o.bld ?_).mono ?_
     ·intro h0
      have h1:=HR.o;rw[h0] at h1;have h2:=congrArg List.length h1;have:=bJ.2 (xu T.length);simp only[af,aK] at h2;omega
     rintro e x3 ⟨rfl,_,C3,_⟩;go_wp2_with fail;go_ret;exact⟨rfl,J.o.bel.trans C3⟩
theorem MW(n:Int):0<=IntKind.u64.wrap n:=by rw[wrap_u64]; omega
theorem AB:∀(l:Qb) (n:Int),0<=n->0<=l.foldl BM n
 | [],_,h=>h
 | c::l,n,_=>AB l _ (MW _)
theorem LH(l:Qb):0<=(iY l).1:=by
 unfold iY;split
 ·decide
 ·exact AB l _ (by decide)
def O9(m:Msg):Qb:=be 4 (yP m).length++(be 8 (iY (yP m)).1++yP m)
def Msg.why(m:Msg):Int:=whyM m.kind m.id m.off m.tot m.ds.length m.data.length
def encS(m:Msg):Qb×Int:=if m.why=0 then(O9 m,0) else([],m.why)
theorem zk{kind off tot:Int}{nd n:Nat}(h:vM kind off tot nd n=true):1<=kind/\kind<=4/\0<=off/\off<=1099511627776/\0<=tot/\tot<=1099511627776/\nd<=1000/\n<=65536:=by
 unfold vM v2 at h;split at h
 ·simp at h; omega
 ·split at h
  ·simp at h; omega
  ·split at h
   ·simp at h; omega
   ·split at h
    ·simp at h; omega
    ·cases h
theorem Bn(m:Msg)(A:m.ds.length<=1000)(B:m.data.length<=65536):(yP m).length<=100000:=by
 unfold yP;have:=jo [m.kind,m.id,m.off,m.tot,m.ds.length];have C:=aG m.data.length;rw[af,af,af,lF];simp only[az,aK] at this;omega
theorem Aa(k:Int)(w:World):Qh 69 #[.int .i64 k] w fun e w'=>e=.returned (.bool (decide (1<=k/\k<=4)))/\w=w':=by
 by_cases C:1<=k
 ·by_cases D:k<=4
  ·have B:decide (1<=k/\k<=4)=true:=by simp; omega
   rw[B];have d1:decide (1<=k)=true:=by simpa using C
   have d2:decide (k<=4)=true:=by simpa using D
   go_enter Tryz.func69,Tryz.ntmps69;go_wp2_with fail;go_ret;exact⟨rfl,rfl⟩
  ·have B:decide (1<=k/\k<=4)=false:=by simp; omega
   rw[B];have d1:decide (1<=k)=true:=by simpa using C
   have d2:decide (k<=4)=false:=by simpa using D
   go_enter Tryz.func69,Tryz.ntmps69;go_wp2_with fail;go_ret;exact⟨rfl,rfl⟩
 ·have B:decide (1<=k/\k<=4)=false:=by simp; omega
  rw[B];have d1:decide (1<=k)=false:=by simpa using C
  go_enter Tryz.func69,Tryz.ntmps69;go_wp2_with fail;go_ret;exact⟨rfl,rfl⟩
theorem MV(m:Msg)(a:Qa)(cd:Nat)(w:World)(hd:dE w.heap.size w a m.ds)(A4:∀d∈m.ds,0<=d.1/\0<=d.2)(hn:(m.ds.length:Int)<=140737488355328)(hT:(m.data.length:Int)<=140737488355328):
  Qh 33 #[m.val a cd] w fun e w'=>e=.returned (.tuple #[.string ⟨(encS m).1.toArray⟩,.int .i64 (encS m).2])/\PM w w':=by
 obtain⟨R,E,hR⟩:∃R E,encS m=(R,E):=⟨_,_,rfl⟩;rw[hR];have hV:=fun W (F:0<=m.id) (h1:m.id<=1099511627776) (h2:1<=m.kind) (h3:m.kind<=4)=>vY m.kind m.id m.off m.tot a m.ds.length cd m.data W hT hn F h1 h2 h3
 have L:Qg (m.why=0->0<=m.id->m.id<=1099511627776->∀W,PM w W->Qh 71 #[m.val a cd] W fun e w'=>e=.returned (.string ⟨(yP m).toArray⟩)/\PM W w'):=Qf (by
  intro F h1 h2 W hW;have hv:vM m.kind m.off m.tot m.ds.length m.data.length=true:=by
   unfold Msg.why whyM at F;split at F
   ·cases F
   ·split at F
    ·cases F
    ·split at F
     ·cases F
     ·rename_i h; simpa using h
  have K:=zk hv;exact LZ m a cd W ((hd.below hW nr).mono hW.size) A4 (by omega) (by omega) h1 h2 (by omega) (by omega) (by omega) (by omega) (by omega) (by omega))
 obtain⟨bs,O⟩:=Qe (yP m);have I:m.why=0->bs.length<=100000:=by
  intro F;rw[O];have hv:vM m.kind m.off m.tot m.ds.length m.data.length=true:=by
   unfold Msg.why whyM at F;split at F
   ·cases F
   ·split at F
    ·cases F
    ·split at F
     ·cases F
     ·rename_i h; simpa using h
  have K:=zk hv;exact Bn m (by omega) (by omega)
 rw[<-O] at L;have C:encS m=if m.why=0 then(be 4 bs.length++(be 8 (iY bs).1++bs),0) else([],m.why):=by rw[O]; rfl
 have B:m.why=if m.kind<1\/4<m.kind then 9 else if m.id<0\/1099511627776<m.id then 2 else if vM m.kind m.off m.tot m.ds.length m.data.length=false then 1 else 0:=rfl
 rw[hR] at C;obtain⟨kind,id,off,tot,ds,T⟩:=m;obtain⟨y,hy⟩:=Qe (Msg.why ⟨kind,id,off,tot,ds,T⟩);rw[<-hy] at L I C B;simp only at hn hT hV L B ⊢;obtain⟨nd,A6⟩:=Qe ds.length;change Qh 33 #[.agg #[.int .i64 kind,.int .i64 id,.int .i64 off,.int .i64 tot,.slice a ds.length cd,.string ⟨T.toArray⟩]] w _;have H:Qg (y=0->0<=id->id<=1099511627776->∀W,PM w W->Qh 71 #[.agg #[.int .i64 kind,.int .i64 id,.int .i64 off,.int .i64 tot,.slice a ds.length cd,.string ⟨T.toArray⟩]] W fun e w'=>e=.returned (.string ⟨bs.toArray⟩)/\PM W w'):=L;rw[<-A6] at H hV B hn ⊢;have HV:=Qf hV;generalize B9:vM kind off tot nd T.length=vv at HV B;have U:=Qf (fun W=>qV bs W);have V:=LH bs;generalize iY bs=dg at U C V;obtain⟨d1,d2⟩:=dg;simp only at U C V;clear hR O hy A6 hd A4 hV L B9;by_cases hk:kind<1\/4<kind
 ·rw[if_pos hk] at B
  subst B;have J:Qg (R=[]/\E=9):=Qf (by simpa using C);have N:decide (1<=kind/\kind<=4)=false:=by simp; omega
  have G:=Qf (fun W=>Aa kind W);rw[N] at G;clear C N I H;go_enter Tryz.func33,Tryz.ntmps33;go_wp2_with fail;refine(G.o _).mono ?_;rintro e w' ⟨rfl,rfl⟩;go_wp2_with fail;go_ret2;rw[J.o.1,J.o.2];exact⟨rfl,ba w _⟩
 ·rw[if_neg hk] at B
  have N:decide (1<=kind/\kind<=4)=true:=by simp; omega
  have G:=Qf (fun W=>Aa kind W);rw[N] at G;clear N;by_cases hi:id<0\/1099511627776<id
  ·rw[if_pos hi] at B
   subst B;have J:Qg (R=[]/\E=2):=Qf (by simpa using C);clear C I H hk;go_enter Tryz.func33,Tryz.ntmps33;go_wp2_with fail;refine(G.o _).mono ?_;rintro e w' ⟨rfl,rfl⟩;go_wp2_with fail
   all_goals first
    | (exfalso; omega)
    | (go_ret2; rw[J.o.1,J.o.2]; exact⟨rfl,ba w _⟩)
  ·rw[if_neg hi] at B
   have i1:decide (id<0)=false:=by simp; omega
   have i2:decide (1099511627776<id)=false:=by simp; omega
   have A1:=Qf (fun W=>HV.o W (by omega) (by omega) (by omega) (by omega));clear HV;cases vv with
   | false=>
    rw[if_pos rfl] at B;subst B;have J:Qg (R=[]/\E=1):=Qf (by simpa using C);clear C I H hk hi;go_enter Tryz.func33,Tryz.ntmps33;go_wp2_with fail;refine(G.o _).mono ?_;rintro e w' ⟨rfl,rfl⟩;go_wp2_with fail;refine(A1.o _).mono ?_;rintro e w' ⟨rfl,K⟩;have X:=Qf K;clear K;go_wp2_with fail;go_ret2;rw[J.o.1,J.o.2];exact⟨rfl,(ba w _).trans (X.o.mono (by simp))⟩
   | true=>
    rw[if_neg (by simp)] at B;subst B;rw[if_pos rfl] at C;have C3:=I rfl;have A0:=Qf (H.o rfl (by omega) (by omega));have J:Qg (R=be 4 bs.length++(be 8 d1++bs)/\E=0):=Qf (by simpa using C);have C8:IntKind.u64.wrap (bs.length:Int)=(bs.length:Int):=by rw[wrap_u64]; omega
    have C7:∀W,(Instr.index 54 (.agg #[.int .u64 d1,.int .u64 d2]) (.int .i64 0)).run Tryz.prog W=.ok (.int .u64 d1) W:=fun W=>by kernel_rfl
    clear C I H hk hi;go_enter Tryz.func33,Tryz.ntmps33;go_wp2_with fail;refine(G.o _).mono ?_;rintro e w' ⟨rfl,rfl⟩;go_wp2_with fail;refine(A1.o _).mono ?_;rintro e x1 ⟨rfl,K⟩;have X:Qg (PM w x1):=Qf ((ba w _).trans (K.mono (by simp)));have C9:=K.size;have D:=K.block w.heap.size (by simp);have M:=World.alloc_heap_new w (.cells #[.int .i64 kind,.int .i64 id,.int .i64 off,.int .i64 tot,.slice a nd cd,.string ⟨T.toArray⟩] 73);rw[M] at D;have c0:x1.cell? ⟨w.heap.size,0,none⟩=some (.int .i64 kind):=by rw[Lib.cell_of_heap D]; rfl
    have c1:x1.cell? ⟨w.heap.size,1,none⟩=some (.int .i64 id):=by rw[Lib.cell_of_heap D]; rfl
    have c2:x1.cell? ⟨w.heap.size,2,none⟩=some (.int .i64 off):=by rw[Lib.cell_of_heap D]; rfl
    have c3:x1.cell? ⟨w.heap.size,3,none⟩=some (.int .i64 tot):=by rw[Lib.cell_of_heap D]; rfl
    have c4:x1.cell? ⟨w.heap.size,4,none⟩=some (.slice a nd cd):=by rw[Lib.cell_of_heap D]; rfl
    have c5:x1.cell? ⟨w.heap.size,5,none⟩=some (.string ⟨T.toArray⟩):=by rw[Lib.cell_of_heap D]; rfl
    clear K D M;go_wp2_with fail;refine(A0.o _ X.o).mono ?_;rintro e x2 ⟨rfl,K⟩;have Y:Qg (PM w x2):=Qf (X.o.trans (K.mono X.o.size));have A7:=Y.o.size;clear K X c0 c1 c2 c3 c4 c5;go_wp2_with fail;refine(vZ _ _).mono ?_;rintro e x3 ⟨rfl,rfl⟩;obtain⟨w0,P⟩:=Qe ((x2.alloc (.cells #[.pointer none,.slice none 0 0] 118)).alloc (.cells #[.pointer (some ⟨x2.heap.size,0,none⟩)] 115));have B1:Qg (BW w w0 x2.heap.size [] w0):=Qf (by
     rw[P];refine⟨oZ A7 ?_,(Y.o.alloc A7 _).alloc (by simp; omega) _,Lib.OthersKept.refl _ _ _⟩;rw[Below.heap_alloc _ _ _ (by simp)];exact World.alloc_heap_new _ _)
    have HP:Qg (w0.heap[x2.heap.size+1]? = some (.cells #[.pointer (some ⟨x2.heap.size,0,none⟩)] 115 (0,0))):=Qf (by
     rw[P];have:=World.alloc_heap_new (x2.alloc (.cells #[.pointer none,.slice none 0 0] 118)) (.cells #[.pointer (some ⟨x2.heap.size,0,none⟩)] 115)
     rwa[World.size_alloc] at this)
    rw[World.size_alloc,<-P];clear P;go_wp2_with fail;refine(lI (k:=4) B1.o bs.length (by omega) (by omega) (by simp) HP.o (by omega)).mono ?_;rintro e x3 ⟨rfl,Q,_⟩;rw[aY] at Q;go_wp2_with fail;refine(U.o _ (by omega)).mono ?_;rintro e x4 ⟨rfl,A3⟩;have Z:=Qf (Q.out.below A3);have B2:=Qf (Z.o.block HP.o (by omega) (by decide));clear A3 Q;go_wp2_with fail;refine(lI (k:=8) Z.o d1 (by omega) V (by simp[bY]) B2.o (by omega)).mono ?_;rintro e x5 ⟨rfl,B0,_⟩;go_wp2_with fail;refine(cz B0.out bs (by simp[bY]; omega)).mono ?_;rintro e x6 ⟨rfl,S⟩;rw[ay,<-J.o.1] at S;go_wp2_with fail;refine(ic w.heap.size x2.heap.size R x6 S.out.bld ?_).mono ?_
    ·rw[J.o.1]
     intro F;have h2:=congrArg List.length F;simp[bY] at h2
    rintro e x7 ⟨rfl,_,B6,_⟩;go_wp2_with fail;go_ret2;rw[J.o.2];exact⟨rfl,S.out.bel.trans B6⟩
