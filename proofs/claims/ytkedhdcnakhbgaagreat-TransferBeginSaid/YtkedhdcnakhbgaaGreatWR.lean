/- Joined texts: WireFr, WireRE, WireREn. -/
import Derived.Test.YtkedhdcnakhbgaaGreatK1
import Derived.Test.YtkedhdcnakhbgaaGreatW4
import Derived.Test.YtkedhdcnakhbgaaGreatK5
import Derived.Test.YtkedhdcnakhbgaaGreatK6
import Derived.Deep.RegionWith
/- Plain laws of frames: what was framed is read again; what is read was framed. -/
set_option linter.unusedSimpArgs false
set_option maxRecDepth 100000
set_option maxHeartbeats 16000000
namespace Go.Proofs.YtkedhdcnakhbgaaGreat
def DOkW(ds:Qd):Prop:=∀d∈ds,(0<=d.1/\d.1<18446744073709551616)/\(0<=d.2/\d.2<18446744073709551616)
theorem why_zero{m:Msg}(A:m.why=0):0<=m.id/\m.id<=1099511627776/\vM m.kind m.off m.tot m.ds.length m.data.length=true:=by
 unfold Msg.why whyM at A;split at A
 ·cases A
 ·split at A
  ·cases A
  ·split at A
   ·cases A
   ·rename_i C B; exact⟨by omega,by omega,by simpa using B⟩
theorem fold_dig1_lt:∀(l:Qb) (n:Int),n<18446744073709551616->l.foldl BM n<18446744073709551616
 | [],_,h=>h
 | c::l,n,_=>fold_dig1_lt l _ (by unfold BM; rw[wrap_u64]; omega)
theorem digS_lt(l:Qb):(iY l).1<18446744073709551616:=by
 unfold iY;split
 ·decide
 ·exact fold_dig1_lt l _ (by decide)
open Go.RowKit
set_option linter.unusedVariables false
theorem bytes_any(f:Nat):∀(x:Int) (w:World),f<=8->0<=x->x<18446744073709551616->
  Qh 88 #[.int .u64 x,.int .i64 f] w fun e w'=>e=.returned (.string ⟨(be f x).toArray⟩)/\PM w w':=by
 induction f with
 | zero=>
  intro x w _ O _;go_enter Tryz.func88,Tryz.ntmps88;go_wp2_with fail;go_ret;exact⟨rfl,bf _⟩
 | succ f ih=>
  intro x w Y O X;obtain⟨y,E⟩:=Qe (x/256);obtain⟨c,B⟩:=Qe (x%256);obtain⟨L,C⟩:=Qe (be f y);have IH:Qg (∀w:World,Qh 88 #[.int .u64 y,.int .i64 f] w fun e w'=>e=.returned (.string ⟨L.toArray⟩)/\PM w w'):=Qf (fun w=>by rw[C]; exact ih y w (by omega) (by omega) (by omega));have Q:L.length<=10:=by rw[C,bY]; omega
  have N:Qg (be (f+1) x=L++[UInt8.ofNat c.toNat]):=Qf (by rw[JR,C,E,B]);have U:=EE;have J:=yK;have I:=fun W=>run_string_add_lists (P:=Tryz.prog) W L [UInt8.ofNat c.toNat] (by omega) (by simp)
  have Z:x/2^8=y:=by rw[E]; rfl
  have V:x/256=y:=E.symm;have hr:IntKind.u8.wrap x=c:=by rw[B]; simp[IntKind.wrap,IntKind.bits,IntKind.signed]
  have R:0<=c:=by omega
  have S:c<256:=by omega
  have F:(((f+1:Nat):Int)==0)=false:=by simp; omega
  have G:((f+1:Nat):Int)-1=(f:Int):=by omega
  have K:IntKind.i64.wrap (f:Int)=(f:Int):=wrap_i64 (by omega) (by omega);clear ih C;obtain⟨n,M⟩:∃n:Int,n=((f+1:Nat):Int):=⟨_,rfl⟩;rw[<-M] at F G ⊢;clear M E B;go_enter Tryz.func88,Tryz.ntmps88;go_wp2_with fail;go_region_with (go_at_call 88; (with_reducible refine(IH.o _).mono ?_); rintro e w' ⟨rfl,D⟩; have T:=fun H B=>Df w' w.heap.size c ((D.cell (p:=⟨w.heap.size,0,none⟩) H).trans B))
  all_goals
   go_wp2;go_ret;refine⟨Cc rfl N.o.symm,?_⟩
   first
    | exact(((ba w _).drew).trans (D.mono (by simp)))
    | exact((bf w).drew.trans D).alloc (D.size) _
theorem number_any(n:Int)(E:0<=n)(F:n<=1099511627776)(w:World):Qh 87 #[.int .i64 n] w fun e w'=>e=.returned (.string ⟨(Cw.enc n.toNat).toArray⟩)/\PM w w':=by
 have D:Qg (∀W,Qh 142 #[.int .i64 n] W fun e w'=>e=.returned (.tuple #[.string ⟨(Cw.enc n.toNat).toArray⟩,.int .i64 0])/\PM W w'):=Qf (fun W=>by
  have h:=xM n W;have:GM n=(Cw.enc n.toNat,0):=by unfold GM; rw[if_pos ((Cw.inR_iff n).2 ⟨E,F⟩)]
  rw[this] at h;exact h)
 go_enter Tryz.func87,Tryz.ntmps87;go_wp2_with fail;refine(D.o _).mono ?_;rintro e x ⟨rfl,B⟩;have C:=Qf B;clear B;go_wp2_with fail;go_ret;exact⟨rfl,C.o⟩
theorem refEncode_any(m:Msg)(a:Qa)(cd:Nat)(w:World)(hd:dE w.heap.size w a m.ds)(A8:DOkW m.ds)(hn:(m.ds.length:Int)<=140737488355328)(hT:(m.data.length:Int)<=140737488355328):
  Qh 45 #[m.val a cd] w fun e w'=>e=.returned (.tuple #[.string ⟨(encS m).1.toArray⟩,.int .i64 (encS m).2])/\PM w w':=by
 obtain⟨R,E,L⟩:∃R E,encS m=(R,E):=⟨_,_,rfl⟩;rw[L];have hV:=fun W=>wcheck_any m.kind m.id m.off m.tot a m.ds.length cd m.data W hT hn
 by_cases hw:m.why=0
 ·obtain⟨h0,h1,hv⟩:=why_zero hw
  have M:=zk hv;obtain⟨bs,A7⟩:=Qe (yP m);have H7:bs.length<=100000:=by rw[A7]; exact Bn m (by omega) (by omega)
  have G:Qg (R=be 4 bs.length++(be 8 (iY bs).1++bs)/\E=0):=Qf (by
   unfold encS at L;rw[if_pos hw,Prod.mk.injEq] at L;rw[A7];exact⟨L.1.symm,L.2.symm⟩)
  have O:Qg (∀W,Qh 86 #[.agg #[.int .i64 m.kind,.int .i64 m.id,.int .i64 m.off,.int .i64 m.tot,.slice a m.ds.length cd,.string ⟨m.data.toArray⟩]] W fun e w'=>e=.returned (.int .i64 0)/\PM W w'):=Qf (fun W=>by
   have:=hV W
   rwa[show whyM m.kind m.id m.off m.tot m.ds.length m.data.length=0 from hw] at this)
  change Qh 45 #[.agg #[.int .i64 m.kind,.int .i64 m.id,.int .i64 m.off,.int .i64 m.tot,.slice a m.ds.length cd,.string ⟨m.data.toArray⟩]] w _;obtain⟨kind,id,off,tot,ds,T⟩:=m;simp only at hn hT hd A8 h0 h1 M O ⊢;obtain⟨nd,A9⟩:=Qe ds.length;have E6:=Qf A9;rw[<-A9] at hn O M ⊢;obtain⟨k1,k2,o1,o2,t1,t2,n1,d1⟩:=M;have HD:=Qf hd;have D9:=Qf A8;obtain⟨E0,S⟩:=Qe (Cw.enc kind.toNat);obtain⟨E1,V⟩:=Qe (Cw.enc id.toNat);obtain⟨E2,Z⟩:=Qe (Cw.enc off.toNat);obtain⟨E3,A0⟩:=Qe (Cw.enc tot.toNat);obtain⟨E4,A1⟩:=Qe (Cw.enc nd);have l0:E0.length<=10:=by rw[S]; exact aG _
  have l1:E1.length<=10:=by rw[V]; exact aG _
  have l2:E2.length<=10:=by rw[Z]; exact aG _
  have l3:E3.length<=10:=by rw[A0]; exact aG _
  have l4:E4.length<=10:=by rw[A1]; exact aG _
  have C1:=Qf (fun W=>number_any kind (by omega) (by omega) W);have C2:=Qf (fun W=>number_any id (by omega) (by omega) W);have C3:=Qf (fun W=>number_any off (by omega) (by omega) W);have C4:=Qf (fun W=>number_any tot (by omega) (by omega) W);have N:=Qf (fun W=>number_any (nd:Int) (by omega) (by omega) W);rw[aj] at N;rw[<-S] at C1;rw[<-V] at C2;rw[<-Z] at C3;rw[<-A0] at C4;rw[<-A1] at N;obtain⟨P1,A2⟩:=Qe (E0++E1);obtain⟨P2,A3⟩:=Qe (P1++E2);obtain⟨P3,A4⟩:=Qe (P2++E3);obtain⟨P4,A5⟩:=Qe (P3++E4);have p1:P1.length<=20:=by rw[A2,af]; omega
  have p2:P2.length<=30:=by rw[A3,af]; omega
  have p3:P3.length<=40:=by rw[A4,af]; omega
  have p4:P4.length<=50:=by rw[A5,af]; omega
  have s1:=Hl A2 (by omega) (by omega);have s2:=Hl A3 (by omega) (by omega);have s3:=Hl A4 (by omega) (by omega);have s4:=Hl A5 (by omega) (by omega);have B7:Qg (bs=P4++(qF ds++(Cw.enc T.length++T))):=Qf (by
   rw[A7,A5,A4,A3,A2,S,V,Z,A0,A1];simp[yP,qE,A9])
  clear A7 A9 hd A8 hV L hw hv S V Z A0 A1 A2 A3 A4 A5;go_enter Tryz.func45,Tryz.ntmps45;go_wp2_with fail;refine(O.o _).mono ?_;rintro e x1 ⟨rfl,M⟩;have HB:Qg (PM w x1):=Qf ((ba w _).trans (M.mono (by simp)));have B:=M.block w.heap.size (by simp);rw[World.alloc_heap_new w _] at B;have D2:w.heap.size<x1.heap.size:=by have:=M.size; simp at this; omega
  have B0:=Qf B;have c0:x1.cell? ⟨w.heap.size,0,none⟩=some (.int .i64 kind):=by rw[Lib.cell_of_heap B]; rfl
  have c1:x1.cell? ⟨w.heap.size,1,none⟩=some (.int .i64 id):=by rw[Lib.cell_of_heap B]; rfl
  have c2:x1.cell? ⟨w.heap.size,2,none⟩=some (.int .i64 off):=by rw[Lib.cell_of_heap B]; rfl
  have c3:x1.cell? ⟨w.heap.size,3,none⟩=some (.int .i64 tot):=by rw[Lib.cell_of_heap B]; rfl
  have c4:x1.cell? ⟨w.heap.size,4,none⟩=some (.slice a nd cd):=by rw[Lib.cell_of_heap B]; rfl
  clear M B O;go_wp2_with fail;have f0:=cell_regrown c0;have f1:=cell_regrown c1;have f2:=cell_regrown c2;have f3:=cell_regrown c3;have f4:=cell_regrown c4;have C:=Qf (fun d os=>Calls.regrown_of (w:=x1) (d:=d) (os:=os) (C1.o _));have D:=Qf (fun d os=>Calls.regrown_of (w:=x1) (d:=d) (os:=os) (C2.o _));have B4:=Qf (fun d os=>Calls.regrown_of (w:=x1) (d:=d) (os:=os) (C3.o _));have B5:=Qf (fun d os=>Calls.regrown_of (w:=x1) (d:=d) (os:=os) (C4.o _));have B6:=Qf (fun d os=>Calls.regrown_of (w:=x1) (d:=d) (os:=os) (N.o _));refine wp_region_quiet_below (by kernel_rfl) (by kernel_rfl) ?_
  repeat (any_goals (first | go_big_quiet_step (first | (with_reducible exact C.o _ _) | (with_reducible exact D.o _ _) | (with_reducible exact B4.o _ _) | (with_reducible exact B5.o _ _) | (with_reducible exact B6.o _ _)) | quiet_step (first | (with_reducible exact C.o _ _) | (with_reducible exact D.o _ _) | (with_reducible exact B4.o _ _) | (with_reducible exact B5.o _ _) | (with_reducible exact B6.o _ _))))
  refine wpQuiet_nil ?_;intro w2 D1;have G0:=Qf (HB.o.trans ((aX D1).mono HB.o.size));have J:=Qf (((aX D1).block w.heap.size D2).trans B0.o);clear D1 C D B4 B5 B6 f0 f1 f2 f3 f4 c0 c1 c2 c3 c4 C1 C2 C3 C4 N s1 s2 s3 s4 B0 HB;go_wp2_with fail;go_loopw [5,6] (fun s i wr=>∃(j:Nat) (l:Qb),j<=nd/\i=.int .i64 j/\s=.string ⟨l.toArray⟩/\l.length<=50+16*j/\Qg (l=P4++qF (ds.take j))/\Qg (PM w wr)/\w.heap.size<wr.heap.size/\Qg (wr.heap[w.heap.size]? = some (.cells #[.int .i64 kind,.int .i64 id,.int .i64 off,.int .i64 tot,.slice a nd cd,.string ⟨T.toArray⟩] 73 (0,0)))) (fun _ i _=>nd-(intOf i).toNat)
  case atStart=>exact⟨0,P4,by omega,rfl,rfl,by omega,Qf (by simp[qF]),G0,(Array.getElem?_eq_some_iff.1 J.o).1,J⟩
  case round=>
   obtain⟨j,l,hj,rfl,rfl,hl,HL,I,F3,C7⟩:=hrel;have c4:wr.cell? ⟨w.heap.size,4,none⟩=some (.slice a nd cd):=by rw[Lib.cell_of_heap C7.out]; rfl
   by_cases F1:j<nd
   ·have D0:j<ds.length:=by rw[<-E6.o]; exact F1
    obtain⟨b0,o0,rfl,H6,e1,e2⟩:=(HD.o.below I.out nr) j D0;obtain⟨x,hx⟩:=Qe (ds[j].1);obtain⟨y,hy⟩:=Qe (ds[j].2);have B2:=D9.o _ (ak D0);rw[<-hx,<-hy] at B2;obtain⟨⟨G8,D2⟩,⟨H0,H1⟩⟩:=B2;rw[<-hx] at e1;rw[<-hy] at e2;have K:=Qf (Gw ds j D0);rw[<-hx,<-hy] at K;clear hx hy;have B8:Qg (∀W,Qh 88 #[.int .u64 x,.int .i64 8] W fun e w'=>e=.returned (.string ⟨(be 8 x).toArray⟩)/\PM W w'):=Qf (fun W=>bytes_any 8 x W (by omega) G8 D2);have B9:Qg (∀W,Qh 88 #[.int .u64 y,.int .i64 8] W fun e w'=>e=.returned (.string ⟨(be 8 y).toArray⟩)/\PM W w'):=Qf (fun W=>bytes_any 8 y W (by omega) H0 H1);have lx:=bY 8 x;have ly:=bY 8 y;generalize be 8 x=X at B8 K lx;generalize be 8 y=Y at B9 K ly;obtain⟨Q1,F⟩:=Qe (l++X);obtain⟨Q2,A6⟩:=Qe (Q1++Y);have q1:Q1.length<=58+16*j:=by rw[F,af]; omega
    have q2:Q2.length<=50+16*(j+1):=by rw[A6,af]; omega
    have s1:=Hl F (by omega) (by omega);have s2:=Hl A6 (by omega) (by omega);have G4:Qg (Q2=P4++qF (ds.take (j+1))):=Qf (by rw[A6,F,HL.out,K.o]; simp);clear F A6 K lx ly HL;go_wp2_with fail;have f4:=cell_regrown c4;have f1:=cell_regrown e1;have f2:=cell_regrown e2;have C:=Qf (fun d os=>Calls.regrown_of (w:=wr) (d:=d) (os:=os) (B8.o _));have D:=Qf (fun d os=>Calls.regrown_of (w:=wr) (d:=d) (os:=os) (B9.o _));refine wp_region_quiet_below (by kernel_rfl) (by kernel_rfl) ?_
    repeat (any_goals (first | go_big_quiet_step (first | (with_reducible exact C.o _ _) | (with_reducible exact D.o _ _)) | quiet_step (first | (with_reducible exact C.o _ _) | (with_reducible exact D.o _ _))))
    refine wpQuiet_nil ?_;intro w3 H;have G1:=Qf (I.out.trans ((aX H).mono I.out.size));have G5:=Qf (((aX H).block w.heap.size F3).trans C7.out);have F2:=aO F3 (aX H).size;clear H C D f1 f2 f4 c4 e1 e2 B8 B9 s1 s2;go_wp2_with fail;go_roundw
    case rel=>exact⟨j+1,Q2,by omega,by go_num,rfl,q2,G4,G1,F2,G5⟩
    case measure=>simp[intOf]; omega
   ·have D8:Qg (ds.take j=ds):=Qf (ag (by rw[<-E6.o]; omega))
    rw[D8.o] at HL;have c5:wr.cell? ⟨w.heap.size,5,none⟩=some (.string ⟨T.toArray⟩):=by rw[Lib.cell_of_heap C7.out]; rfl
    have C6:Qg (∀W,Qh 89 #[.string ⟨T.toArray⟩] W fun e w'=>e=.returned (.tuple #[.string ⟨(Cw.enc T.length++T).toArray⟩,.int .i64 0])/\PM W w'):=Qf (fun W=>by
     have h1:=vL ⟨T.toArray⟩ W (by rw[bH]; omega);have:putT T=(Cw.enc T.length++T,0):=if_pos d1;simp only[this] at h1;exact h1)
    have H8:=aG T.length;obtain⟨U,hU⟩:=Qe (Cw.enc T.length++T);have H5:U.length<=70000:=by rw[hU,af]; omega
    rw[<-hU] at C6 B7;have B1:bs=l++U:=by rw[B7.o,HL.out]; simp
    have s1:=Hl B1 (by omega) (by omega);have C5:=Qf (fun W=>Hu bs W (by omega));have C8:=LH bs;have C9:=digS_lt bs;generalize iY bs=dg at C5 G C8 C9;obtain⟨g1,g2⟩:=dg;simp only at C5 G C8 C9;have D4:Qg (∀W,Qh 88 #[.int .u64 (bs.length:Int),.int .i64 4] W fun e w'=>e=.returned (.string ⟨(be 4 bs.length).toArray⟩)/\PM W w'):=Qf (fun W=>bytes_any 4 bs.length W (by omega) (by omega) (by omega));have D5:Qg (∀W,Qh 88 #[.int .u64 g1,.int .i64 8] W fun e w'=>e=.returned (.string ⟨(be 8 g1).toArray⟩)/\PM W w'):=Qf (fun W=>bytes_any 8 g1 W (by omega) C8 C9);have lx:=bY 4 bs.length;have ly:=bY 8 g1;generalize be 4 (bs.length:Int)=X at D4 G lx;generalize be 8 g1=Y at D5 G ly;obtain⟨Q1,F⟩:=Qe (X++Y);have q1:Q1.length<=12:=by rw[F,af]; omega
    have E7:R=Q1++bs:=by rw[G.o.1,F]; simp
    have s2:=Hl F (by omega) (by omega);have s3:=Hl E7 (by omega) (by omega);have H9:IntKind.u64.wrap (bs.length:Int)=(bs.length:Int):=by rw[wrap_u64]; omega
    have G3:=Qf G.o.2;clear hU B1 F E7 G lx ly D8 HL B7 HD D9;go_wp2_with fail;refine(C6.o _).mono ?_;rintro e x2 ⟨rfl,E9⟩;have D6:=Qf (I.out.trans (E9.mono I.out.size));clear E9 c4 c5 C6;go_wp2_with fail;refine(C5.o _).mono ?_;rintro e x3 ⟨rfl,F0⟩;have D7:=Qf (D6.o.trans (F0.mono D6.o.size));have G9:=D7.o.size;clear F0;go_wp2_with fail;have e1:(x3.alloc (.cells #[.int .u64 g1,.int .u64 g2] 54)).cell? ⟨x3.heap.size,0,none⟩=some (.int .u64 g1):=by simp
    have C0:=Qf (D7.o.alloc G9 (.cells #[.int .u64 g1,.int .u64 g2] 54));generalize x3.alloc (.cells #[.int .u64 g1,.int .u64 g2] 54)=x4 at e1 C0 ⊢;have f1:=cell_regrown e1;have C:=Qf (fun d os=>Calls.regrown_of (w:=x4) (d:=d) (os:=os) (D4.o _));have D:=Qf (fun d os=>Calls.regrown_of (w:=x4) (d:=d) (os:=os) (D5.o _));refine wp_region_quiet_below (by kernel_rfl) (by kernel_rfl) ?_
    repeat (any_goals (first | go_big_quiet_step (first | (with_reducible exact C.o _ _) | (with_reducible exact D.o _ _)) | quiet_step (first | (with_reducible exact C.o _ _) | (with_reducible exact D.o _ _))))
    refine wpQuiet_nil ?_;intro w3 H;have G2:=Qf (C0.o.trans ((aX H).mono C0.o.size));clear H C D f1;go_wp2_with fail;go_ret2;rw[G3.o];exact⟨rfl,G2.o⟩
 ·have E8:R=[]/\E=m.why:=by
   unfold encS at L;rw[if_neg hw,Prod.mk.injEq] at L;exact⟨L.1.symm,L.2.symm⟩
  have O:Qg (∀W,Qh 86 #[.agg #[.int .i64 m.kind,.int .i64 m.id,.int .i64 m.off,.int .i64 m.tot,.slice a m.ds.length cd,.string ⟨m.data.toArray⟩]] W fun e w'=>e=.returned (.int .i64 m.why)/\PM W w'):=Qf hV;change Qh 45 #[.agg #[.int .i64 m.kind,.int .i64 m.id,.int .i64 m.off,.int .i64 m.tot,.slice a m.ds.length cd,.string ⟨m.data.toArray⟩]] w _;generalize m.why=y at hw E8 O;obtain⟨rfl,rfl⟩:=E8;have he:(E !=0)=true:=by simpa using hw
  generalize m.ds.length=nd at O hn ⊢;clear hw hV L hd A8;obtain⟨kind,id,off,tot,ds,T⟩:=m;simp only at O hT ⊢;go_enter Tryz.func45,Tryz.ntmps45;go_wp2_with fail;refine(O.o _).mono ?_;rintro e x ⟨rfl,M⟩;have HB:=Qf M;clear M;go_wp2_with fail;go_ret2;exact⟨rfl,(ba w _).trans (HB.o.mono (by simp))⟩
