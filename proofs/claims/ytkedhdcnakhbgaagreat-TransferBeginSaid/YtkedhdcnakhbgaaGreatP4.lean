/- Joined texts: PkCp, PkNr, PkFi, PkUn, PkTr. -/
import Derived.Test.YtkedhdcnakhbgaaGreatP3
import Derived.Test.YtkedhdcnakhbgaaGreatK4
import Derived.Test.YtkedhdcnakhbgaaGreatK8
import Derived.Test.YtkedhdcnakhbgaaGreatK9
/- Packs: the reader's compute. -/
set_option linter.unusedSimpArgs false
set_option maxRecDepth 100000
set_option maxHeartbeats 16000000
namespace Go.Proofs.YtkedhdcnakhbgaaGreat
open Go.RowKit Go.Shelf
set_option linter.unusedVariables false
variable {x:Itm}{P Q xs:List Itm}{l:List Pe}{B b c k:Nat}{dat:Nat->Qb×Int}{a pa:Qa}{R:Rdr}{W W' w:World}
theorem AZ(s:Qb)(i n:Nat)(h:i+n<=s.length):((s.drop i).take n).length=n:=by rw[aA,ah]; omega
theorem Bv{a A:Qb}{l:List Dop}(h:gP a l=(A,0)):(A.length:Int)<=65536:=by
 by_cases B:bW l a.length=0
 ·have C:=Ju B
  rw[Bz B] at h;have e1:=congrArg Prod.fst h;simp only at e1;have:=C.siz l.length;rw[rC,e1] at this;omega
 ·rw[xD B] at h
  have e1:=congrArg Prod.snd h;exact absurd e1 B
theorem zu{t:Qb}{d:Int×Int}(h:t.length<=b):(iK.rightS t d).1.length<=b:=by
 unfold iK.rightS;split
 ·simp
 ·split
  ·simp
  ·exact h
theorem sN(A:R.Ok)(d:Int×Int):((De R.xs d).1.length:Int)<=140737488355328:=by
 unfold De;cases B:R.xs.find? (fun x=>decide (x.d=d)) with
 | none=>simp
 | some x=>exact A.xd x (List.mem_of_find?_eq_some B)
theorem Dc{R:Rdr}(A:R.Ok):∀(n i:Nat),i<n->i<R.l.length->((R.dat i).1.length:Int)<=140737488355328
 | 0,i,h,_=>by omega
 | n+1,i,h,E=>by
  have J:((wu R.xs R.l R.dat i R.l[i].base).1.length:Int)<=140737488355328:=by
   unfold wu;cases L:rE R.l R.l[i].base with
   | none=>exact sN A _
   | some j=>
    simp only;by_cases F:j<i
    ·rw[if_pos F]; exact Dc A n j (by omega) (by omega)
    ·rw[if_neg F]; exact sN A _
  obtain⟨k0,B⟩:=A.ents.at_ _ (ak E);have C:=(iB B).1;have G:=C.tl;have K:R.dat i=iK R.s (wu R.xs R.l R.dat i R.l[i].base) R.l[i]:=JB E;rw[K];generalize wu R.xs R.l R.dat i R.l[i].base=sr at *
  generalize R.l[i]=x at *
  have H:((R.s.drop x.off).take x.len).length<=65536:=by rw[aA]; omega
  unfold iK;split
  ·split
   ·exact J
   ·split
    ·simp
    ·split
     ·simp
     ·rename_i D
      have I:gP sr.1 (sK ((R.s.drop x.off).take x.len)).1=((gP sr.1 (sK ((R.s.drop x.off).take x.len)).1).1,0):=by
       simp only[ne_eq,Decidable.not_not] at D;rw[<-D]
      have:=Bv I;have:=zu (t:=(gP sr.1 (sK ((R.s.drop x.off).take x.len)).1).1) (d:=x.d) (b:=65536) (by omega);omega
  ·have:=zu (d:=x.d) H
   omega
theorem M4(A:R.Ok)(i:Nat)(C:i<=R.l.length)(d:Int×Int):((wu R.xs R.l R.dat i d).1.length:Int)<=140737488355328:=by
 unfold wu;cases D:rE R.l d with
 | none=>exact sN A _
 | some j=>
  simp only;by_cases B:j<i
  ·rw[if_pos B]; exact Dc A (j+1) j (by omega) (by omega)
  ·rw[if_neg B]; exact sN A _
theorem NR(R:Rdr)(hR:R.Ok)(i:Nat)(V:i<R.l.length)(F2:∀j,j<i->PL R j):Px R i:=by
 intro K w h;have K2:(i:Int)<=1000:=by have:=hR.ll; omega
 have K0:=h.lt;have F3:=Nat.le_of_lt V;have B9:=Qf (Ha R hR i V F2);obtain⟨k0,I1⟩:=hR.ents.at_ _ (ak V);have B6:=(iB I1).1;have K5:=hR.sl;have D7:R.l[i].off+R.l[i].len<=R.s.length:=by have:=B6.hi; rw[aA] at this; omega
 have I7:=B6.tl;have I5:=B6.kind;have F1:R.dat i=iK R.s (wu R.xs R.l R.dat i R.l[i].base) R.l[i]:=JB V;obtain⟨bl,ofl,J5,K4,q0,q1,q2,q3,q4,q5,q6⟩:=rX h.ents V;obtain⟨T,er,G1⟩:∃T er,R.dat i=(T,er):=⟨_,_,rfl⟩;have C5:=Qf (G1.symm.trans F1);rw[G1];generalize R.l[i]=x at *
 obtain⟨⟨d1,d2⟩,kd,⟨b1,b2⟩,off,len⟩:=x;simp only at q0 q1 q2 q3 q4 q5 q6 D7 I7 I5 B9 C5;unfold vF iX;simp only;clear G1 F1 I1 B6 F2
 -- the worlds
 obtain⟨wa,E0⟩:=Qe (w.alloc (.cells #[.string ⟨#[]⟩,.int .i64 0] 270));have C2:PM w wa:=by rw[E0]; exact ba _ _
 have J0:wa.heap.size=w.heap.size+1:=by rw[E0]; simp
 obtain⟨wb,E1⟩:=Qe (wa.alloc (.cells #[.int .u64 d1,.int .u64 d2,.int .i64 kd,.int .u64 b1,.int .u64 b2,.int .i64 (off:Int),.int .i64 (len:Int)] 222));have E7:PM wa wb:=by rw[E1]; exact ba _ _
 have H1:=Qf ((show BK w.heap.size #[.string ⟨#[]⟩,.int .i64 0] 270 wa by rw[E0]; exact BK.new _ _ _).below E7);have F7:Qg (BK (w.heap.size+1) #[.int .u64 d1,.int .u64 d2,.int .i64 kd,.int .u64 b1,.int .u64 b2,.int .i64 (off:Int),.int .i64 (len:Int)] 222 wb):=Qf (by rw[E1,<-J0]; exact BK.new _ _ _);have F5:=Qf (C2.trans (E7.mono C2.size));have F9:=Qf ((h.below C2).below E7);have F0:=(h.below C2).box;obtain⟨x0,x1,x2,x3,x4⟩:=BK.c5 F0;have hp:∀j v,w.cell? ⟨bl,ofl+j,none⟩=some v->wa.cell? ⟨bl,ofl+j,none⟩=some v:=fun j v hv=>(C2.cell (p:=⟨bl,ofl+j,none⟩) (by simp; omega)).trans hv
 have r0:=hp (i*7) _ q0;have r1:=hp (i*7+1) _ (by rw[<-aP]; exact q1);have r2:=hp (i*7+2) _ (by rw[<-aP]; exact q2);have r3:=hp (i*7+3) _ (by rw[<-aP]; exact q3);have r4:=hp (i*7+4) _ (by rw[<-aP]; exact q4);have r5:=hp (i*7+5) _ (by rw[<-aP]; exact q5);have r6:=hp (i*7+6) _ (by rw[<-aP]; exact q6);simp only[<-aP] at r0 r1 r2 r3 r4 r5 r6;rw[J5] at x1;obtain⟨nl,G7⟩:=Qe R.l.length;have K1:i<nl:=by rw[G7]; exact V
 rw[<-G7] at x1;rw[E0] at x0 x1 x2 x3 x4 r0 r1 r2 r3 r4 r5 r6 E1;have H4:=Qf E1;clear E0 E1 C2 E7 J0 F0 hp q0 q1 q2 q3 q4 q5 q6 G7 h V;obtain⟨pe,B6⟩:=Qe (off+len);have K7:IntKind.i64.wrap ((off:Int)+(len:Int))=(pe:Int):=by rw[wrap_i64 (by omega) (by omega)]; omega
 have G9:=fun W=>DD R.s off pe (by omega) (by omega) W
 have I2:(⟨R.s.toArray⟩:ByteArray).extract off pe=⟨((R.s.drop off).take len).toArray⟩:=by rw[dw,B6,jR]
 rw[show pe-off=len by omega] at G9;have H9:=AZ R.s off len D7;obtain⟨D0,G0⟩:=Qe ((R.s.drop off).take len);have K6:=bH R.s;rw[<-G0] at G9 I2 H9;have E2:=Qf G0;clear G0 B6;go_enter Tryz.func231,Tryz.ntmps231;go_wp2_with fail;rw[<-H4.o];clear H4 x0 x1 x2 x3 x4 r0 r1 r2 r3 r4 r5 r6;have H8:=F9.o.box;obtain⟨x0,x1,x2,x3,x4⟩:=BK.c5 H8;obtain⟨e0,e1,e2,e3,e4,e5,e6⟩:=BK.c7 F7.o;obtain⟨wc,H0⟩:=Qe wb.drew;have C8:PM wb wc:=by rw[H0]; exact(bf _).drew
 have B2:=Qf (H1.o.below C8);have A8:=Qf (F7.o.below C8);have B1:=Qf (F9.o.below C8);have Z:Qg (w.grownBy wc (some (R.ib+1))):=Qf (aJ (F5.o.trans (C8.mono F5.o.size)));have H5:=Qf H0;clear C8 H0 H8 H1 F7 F9 F5;go_region;rw[<-H5.o];clear H5 x0 x1 x2 x3 x4 e0 e1 e2 e3 e4 e5 e6 G9 I2;obtain⟨e0,e1,e2,e3,e4,e5,e6⟩:=BK.c7 A8.o;rcases I5 with rfl | rfl
 ·have N:Qg ((T,er)=iK.rightS D0 (d1,d2)):=Qf (by rw[C5.o,E2.o]; unfold iK; rw[if_neg (by simp)])
  obtain⟨D,H6⟩:=Qe D0;rw[<-H6] at N H9 ⊢;have J4:(D.length:Int)<=65536:=by omega
  clear H6 B9 C5 E2;have A3:=Qf (mf D wc (by omega));have A4:=Qf (fun W=>qV D W (by omega));obtain⟨o,oe,B5⟩:∃o oe,bI D=(o,oe):=⟨_,_,rfl⟩;have A5:Qg ((T,er)=if oe≠0 then([],13) else if iY D≠(d1,d2) then([],15) else(D,0)):=Qf (by have h:=N.o; unfold iK.rightS at h; rw[B5] at h; exact h);rw[B5] at A3;simp only at A3;clear B5 N;go_wp2_with fail
  refine A3.o.mono ?_;rintro e u ⟨ea,ec,pa,pc,rfl,G8,U⟩
  have hr:=B2.o.below U;have he:=A8.o.below U;have V:=B1.o.below U;have hg:=bu Z.o (aJ (b:=R.ib+1) U);have J1:=(bu Z.o (aJ (b:=R.ib+1) U)).size;obtain⟨kind,data,ents,⟨t1,t2⟩,pars,author,time,msg⟩:=o;simp only[Ob.val];generalize ents.length=ne;generalize pars.length=np;clear A3 G8 U B2 A8 B1 Z;by_cases A7:oe=0
  case neg=>
   have J:(oe !=0)=true:=by simpa using A7
   have N:Qg ((T,er)=(([]:Qb),(13:Int))):=Qf (by rw[A5.o,if_pos A7]);have G:=N.o;simp only[Prod.mk.injEq] at G;obtain⟨H,I⟩:=G;subst H;subst I;clear N;have B7:=hr.alloc (.cells #[.int .i64 kind,.string ⟨data.toArray⟩,.slice ea ne ec,.int .u64 t1,.int .u64 t2,.slice pa np pc,.string ⟨author.toArray⟩,.int .i64 time,.string ⟨msg.toArray⟩] 59);have G6:=V.alloc (.cells #[.int .i64 kind,.string ⟨data.toArray⟩,.slice ea ne ec,.int .u64 t1,.int .u64 t2,.slice pa np pc,.string ⟨author.toArray⟩,.int .i64 time,.string ⟨msg.toArray⟩] 59);have G4:w.grownBy (u.alloc (.cells #[.int .i64 kind,.string ⟨data.toArray⟩,.slice ea ne ec,.int .u64 t1,.int .u64 t2,.slice pa np pc,.string ⟨author.toArray⟩,.int .i64 time,.string ⟨msg.toArray⟩] 59)) (some (R.ib+1)):=bu hg (World.grownBy_alloc _ _ _);obtain⟨r0,r1⟩:=BK.c2 B7;obtain⟨fr0,fr1⟩:=BK.f2 (B7);clear A5 A7;go_wp2_with fail;obtain⟨W9,B⟩:=Qe (putF (u.alloc (.cells #[.int .i64 kind,.string ⟨data.toArray⟩,.slice ea ne ec,.int .u64 t1,.int .u64 t2,.slice pa np pc,.string ⟨author.toArray⟩,.int .i64 time,.string ⟨msg.toArray⟩] 59)) w.heap.size [] 13);have F:=bZ B7 [] 13;have E:=Rdr.In.putF G6 (n:=w.heap.size) (by omega) [] 13;have C:=bL G4 nr [] 13;rw[<-B] at F E C;unfold putF at B;rw[<-B];clear B;obtain⟨z0,z1⟩:=BK.c2 F;refine bodyPost_ret (v:=.agg #[.string ⟨([]).toArray⟩,.int .i64 13]) (by simp[results,Tryz.results231,go_sem,z0,z1]) rfl ?_;exact⟨rfl,⟨_,E,(fun _ _=>rfl)⟩,C⟩
  case pos=>
  subst A7;have M:Qg ((T,er)=if iY D≠(d1,d2) then([],15) else(D,0)):=Qf (by rw[A5.o,if_neg (by simp)]);obtain⟨u2,B8⟩:=Qe (u.alloc (.cells #[.int .i64 kind,.string ⟨data.toArray⟩,.slice ea ne ec,.int .u64 t1,.int .u64 t2,.slice pa np pc,.string ⟨author.toArray⟩,.int .i64 time,.string ⟨msg.toArray⟩] 59));have X:PM u u2:=by rw[B8]; exact ba _ _
  have D5:=hr.below X;have D3:=he.below X;have D4:=V.below X;have A1:=bu hg (aJ (b:=R.ib+1) X);have A6:=Qf B8;obtain⟨D1,D2,A0⟩:∃D1 D2,iY D=(D1,D2):=⟨_,_,rfl⟩;rw[A0] at A4 M;simp only at A4;have Q:=fun W=>nI D1 D2 d1 d2 W
  have P:=Qf (fun d os=>Calls.regrown_of (w:=u2) (d:=d) (os:=os) (A4.o _));obtain⟨x0,x1,x2,x3,x4,x5,x6⟩:=BK.c7 D3;have f0:=cell_regrown x0;have f1:=cell_regrown x1;clear B8 X hr he V hg A5 A4 A0 D3;by_cases J:(D1,D2)=(d1,d2)
  case neg=>
   have U:(D1==d1&&D2==d2)=false:=by
    cases h:(D1==d1&&D2==d2) with
    | false=>rfl
    | true=>exact absurd (by simp only[Bool.and_eq_true,beq_iff_eq] at h; rw[h.1,h.2]) J
   have N:Qg ((T,er)=(([]:Qb),(15:Int))):=Qf (by rw[M.o,if_pos J]);have G:=N.o;simp only[Prod.mk.injEq] at G;obtain⟨H,I⟩:=G;subst H;subst I;clear N;rw[U] at Q;simp only[Bool.not_false] at Q;clear M J U;go_upto_region 16 with(fail)
   rw[<-A6.o];refine wp_region_quiet_below (by kernel_rfl) (by kernel_rfl) ?_
   repeat (any_goals (first | go_big_quiet_step (first | (with_reducible exact P.o _ _)) | quiet_step (first | (with_reducible exact P.o _ _))))
   refine wpQuiet_nil ?_;intro w4 Y;have L:=aX Y;have O:=D5.below L;have B4:=D4.below L;have B3:=bu A1 (aJ (b:=R.ib+1) L);clear Y A6 x0 x1 x2 x3 x4 x5 x6 f0 f1 P Q;obtain⟨r0,r1⟩:=BK.c2 O;obtain⟨fr0,fr1⟩:=BK.f2 (O);go_wp2_with fail;obtain⟨W9,B⟩:=Qe (putF w4 w.heap.size [] 15);have F:=bZ O [] 15;have E:=Rdr.In.putF B4 (n:=w.heap.size) (by omega) [] 15;have C:=bL B3 nr [] 15;rw[<-B] at F E C;unfold putF at B;rw[<-B];clear B;obtain⟨z0,z1⟩:=BK.c2 F;refine bodyPost_ret (v:=.agg #[.string ⟨([]).toArray⟩,.int .i64 15]) (by simp[results,Tryz.results231,go_sem,z0,z1]) rfl ?_;exact⟨rfl,⟨_,E,(fun _ _=>rfl)⟩,C⟩
  case pos=>
  have U:(D1==d1&&D2==d2)=true:=by
   simp only[Prod.mk.injEq] at J;simp[J.1,J.2]
  have N:Qg ((T,er)=(D,(0:Int))):=Qf (by rw[M.o,if_neg (by simp[J])]);have G:=N.o;simp only[Prod.mk.injEq] at G;obtain⟨H,I⟩:=G;subst H;subst I;clear N;rw[U] at Q;simp only[Bool.not_true] at Q;clear M J U;go_upto_region 16 with(fail)
  rw[<-A6.o];refine wp_region_quiet_below (by kernel_rfl) (by kernel_rfl) ?_
  repeat (any_goals (first | go_big_quiet_step (first | (with_reducible exact P.o _ _)) | quiet_step (first | (with_reducible exact P.o _ _))))
  refine wpQuiet_nil ?_;intro w4 Y;have L:=aX Y;have O:=D5.below L;have B4:=D4.below L;have B3:=bu A1 (aJ (b:=R.ib+1) L);clear Y A6 x0 x1 x2 x3 x4 x5 x6 f0 f1 P Q;obtain⟨r0,r1⟩:=BK.c2 O;obtain⟨fr0,fr1⟩:=BK.f2 (O);go_wp2_with fail;obtain⟨W9,B⟩:=Qe (putF w4 w.heap.size T 0);have F:=bZ O T 0;have E:=Rdr.In.putF B4 (n:=w.heap.size) (by omega) T 0;have C:=bL B3 nr T 0;rw[<-B] at F E C;unfold putF at B;rw[<-B];clear B;obtain⟨z0,z1⟩:=BK.c2 F;refine bodyPost_ret (v:=.agg #[.string ⟨(T).toArray⟩,.int .i64 0]) (by simp[results,Tryz.results231,go_sem,z0,z1]) rfl ?_;exact⟨rfl,⟨_,E,(fun _ _=>rfl)⟩,C⟩
 ·obtain⟨S,se,G2⟩:∃S se,wu R.xs R.l R.dat i (b1,b2)=(S,se):=⟨_,_,rfl⟩
  have D9:=M4 hR i F3 (b1,b2);have HS:=Qf (B9.o K wc B1.o);unfold vF iX at HS;rw[G2] at HS D9;simp only at HS D9;have E3:Qg ((T,er)=if se≠0 then(S,se) else if(sK D0).2≠0 then([],13) else if(gP S (sK D0).1).2≠0 then([],13) else iK.rightS (gP S (sK D0).1).1 (d1,d2)):=Qf (by rw[C5.o,E2.o]; unfold iK; rw[G2]; rw[if_pos rfl]);clear G2 B9 C5 E2;go_wp2_with fail
  refine HS.o.mono ?_;rintro e u ⟨rfl,⟨K',I4,I6⟩,hg⟩
  have C0:Qg (∀m:Int,(i:Int)<=m->K' m=K m):=Qf I6;have J1:=Z.o.size;have J8:=hg.size;obtain⟨v,hv⟩:=Qe (u.alloc (.cells #[.string ⟨S.toArray⟩,.int .i64 se] 270));have C7:PM u v:=by rw[hv]; exact ba _ _
  have hr:=(B2.o.grow1 hg (by omega)).below C7;have he:=(A8.o.grow1 hg (by omega)).below C7;have V:=I4.below C7;have A1:w.grownBy v (some (R.ib+1)):=bu (bu Z.o hg) (aJ C7);have D8:BK u.heap.size #[.string ⟨S.toArray⟩,.int .i64 se] 270 v:=by rw[hv]; exact BK.new _ _ _
  obtain⟨sb,B0⟩:=Qe u.heap.size;rw[<-B0] at D8;clear C7 I6 hg I4 HS B2 A8 B1 Z e0 e1 e2 e3 e4 e5 e6;obtain⟨s0,s1⟩:=BK.c2 D8;rw[hv,B0] at s0 s1;have HV:=Qf hv;have H3:=Qf B0;by_cases E8:se=0
  case neg=>
   have J:(se !=0)=true:=by simpa using E8
   have N:Qg ((T,er)=(S,se)):=Qf (by rw[E3.o,if_pos E8]);have G:=N.o;simp only[Prod.mk.injEq] at G;obtain⟨H,I⟩:=G;subst H;subst I;clear N;rw[hv] at hr V A1;clear E3 E8 hv B0 HV H3 D8 he D9 F3;obtain⟨r0,r1⟩:=BK.c2 hr;obtain⟨fr0,fr1⟩:=BK.f2 (hr);go_wp2_with fail;obtain⟨W9,B⟩:=Qe (putF (u.alloc (.cells #[.string ⟨T.toArray⟩,.int .i64 er] 270)) w.heap.size T er);have F:=bZ hr T er;have E:=Rdr.In.putF V (n:=w.heap.size) (by omega) T er;have C:=bL A1 nr T er;rw[<-B] at F E C;unfold putF at B;rw[<-B];clear B;obtain⟨z0,z1⟩:=BK.c2 F;refine bodyPost_ret (v:=.agg #[.string ⟨(T).toArray⟩,.int .i64 er]) (by simp[results,Tryz.results231,go_sem,z0,z1]) rfl ?_;exact⟨rfl,⟨_,E,C0.o⟩,C⟩
  case pos=>
  subst E8;obtain⟨l,de,A0⟩:∃l de,sK D0=(l,de):=⟨_,_,rfl⟩;have C4:=Qf (Db D0 v (by omega));unfold MM at C4;rw[A0] at C4;simp only at C4;have E4:Qg ((T,er)=if de≠0 then([],13) else if(gP S l).2≠0 then([],13) else iK.rightS (gP S l).1 (d1,d2)):=Qf (by rw[E3.o,if_neg (by simp),A0]);have F8:Qg (de=0->(l.length:Int)<=D0.length/\∀o∈l,o.data.length<=1099511627776/\o.len<=1099511627776/\o.off<=1099511627776):=Qf (fun h=>by
   subst h;obtain⟨_,_,h3,h4⟩:=JA A0;exact⟨h3,fun o ho=>⟨by have:=(h4 o ho).1; omega,(h4 o ho).2⟩⟩)
  clear A0 E3 hv B0;go_wp2_with fail;rw[<-HV.o];clear s0 s1 HV
  refine C4.o.mono ?_;rintro e u3 ⟨da,dc,rfl,I3,C1⟩
  have D6:=hr.below C1;have I0:=he.below C1;have G5:=V.below C1;have I9:=D8.below C1;have G3:=bu A1 (aJ (b:=R.ib+1) C1);clear C4 hr he V D8 A1 C1;by_cases C9:de=0
  case neg=>
   have J:(de !=0)=true:=by simpa using C9
   have N:Qg ((T,er)=(([]:Qb),(13:Int))):=Qf (by rw[E4.o,if_pos C9]);have G:=N.o;simp only[Prod.mk.injEq] at G;obtain⟨H,I⟩:=G;subst H;subst I;clear N;obtain⟨r0,r1⟩:=BK.c2 D6;obtain⟨fr0,fr1⟩:=BK.f2 (D6);clear E4 F8 C9;go_wp2_with fail;obtain⟨W9,B⟩:=Qe (putF u3 w.heap.size [] 13);have F:=bZ D6 [] 13;have E:=Rdr.In.putF G5 (n:=w.heap.size) (by omega) [] 13;have C:=bL G3 nr [] 13;rw[<-B] at F E C;unfold putF at B;rw[<-B];clear B;obtain⟨z0,z1⟩:=BK.c2 F;refine bodyPost_ret (v:=.agg #[.string ⟨([]).toArray⟩,.int .i64 13]) (by simp[results,Tryz.results231,go_sem,z0,z1]) rfl ?_;exact⟨rfl,⟨_,E,C0.o⟩,C⟩
  case pos=>
  obtain⟨K3,I8⟩:=F8.o C9;subst C9;obtain⟨D,ae,E6⟩:∃A ae,gP S l=(A,ae):=⟨_,_,rfl⟩;have HA:=Qf (Gq S da l dc u3 I3 (by omega) (by omega) I8);rw[E6] at HA;simp only at HA;have E5:Qg ((T,er)=if ae≠0 then([],13) else iK.rightS D (d1,d2)):=Qf (by rw[E4.o,if_neg (by simp),E6]);have F6:Qg (ae=0->(D.length:Int)<=65536):=Qf (fun h=>by subst h; exact Bv E6);obtain⟨s0,s1⟩:=BK.c2 I9;rw[H3.o] at s0 s1;generalize l.length=ln at *
  clear E6 E4 F8 I8 I3;go_wp2_with fail
  refine HA.o.mono ?_;rintro e u4 ⟨rfl,L⟩
  have hr:=D6.below L;have he:=I0.below L;have V:=G5.below L;have hg:=bu G3 (aJ (b:=R.ib+1) L);clear HA D6 I0 G5 I9 G3 L s0 s1;by_cases C6:ae=0
  case neg=>
   have J:(ae !=0)=true:=by simpa using C6
   have N:Qg ((T,er)=(([]:Qb),(13:Int))):=Qf (by rw[E5.o,if_pos C6]);have G:=N.o;simp only[Prod.mk.injEq] at G;obtain⟨H,I⟩:=G;subst H;subst I;clear N;obtain⟨r0,r1⟩:=BK.c2 hr;obtain⟨fr0,fr1⟩:=BK.f2 (hr);clear E5 F6 C6;go_wp2_with fail;obtain⟨W9,B⟩:=Qe (putF u4 w.heap.size [] 13);have F:=bZ hr [] 13;have E:=Rdr.In.putF V (n:=w.heap.size) (by omega) [] 13;have C:=bL hg nr [] 13;rw[<-B] at F E C;unfold putF at B;rw[<-B];clear B;obtain⟨z0,z1⟩:=BK.c2 F;refine bodyPost_ret (v:=.agg #[.string ⟨([]).toArray⟩,.int .i64 13]) (by simp[results,Tryz.results231,go_sem,z0,z1]) rfl ?_;exact⟨rfl,⟨_,E,C0.o⟩,C⟩
  case pos=>
  have J4:=F6.o C6;subst C6;have N:Qg ((T,er)=iK.rightS D (d1,d2)):=Qf (by rw[E5.o,if_neg (by simp)]);have B2:=Qf hr;have A8:=Qf he;have B1:=Qf V;have Z:=Qf hg;clear E5 F6 hr he V hg;have A3:=Qf (mf D u4 (by omega));have A4:=Qf (fun W=>qV D W (by omega));obtain⟨o,oe,B5⟩:∃o oe,bI D=(o,oe):=⟨_,_,rfl⟩;have A5:Qg ((T,er)=if oe≠0 then([],13) else if iY D≠(d1,d2) then([],15) else(D,0)):=Qf (by have h:=N.o; unfold iK.rightS at h; rw[B5] at h; exact h);rw[B5] at A3;simp only at A3;clear B5 N;go_wp2_with fail
  refine A3.o.mono ?_;rintro e u ⟨ea,ec,pa,pc,rfl,G8,U⟩
  have hr:=B2.o.below U;have he:=A8.o.below U;have V:=B1.o.below U;have hg:=bu Z.o (aJ (b:=R.ib+1) U);have J1:=(bu Z.o (aJ (b:=R.ib+1) U)).size;obtain⟨kind,data,ents,⟨t1,t2⟩,pars,author,time,msg⟩:=o;simp only[Ob.val];generalize ents.length=ne;generalize pars.length=np;clear A3 G8 U B2 A8 B1 Z;by_cases A7:oe=0
  case neg=>
   have J:(oe !=0)=true:=by simpa using A7
   have N:Qg ((T,er)=(([]:Qb),(13:Int))):=Qf (by rw[A5.o,if_pos A7]);have G:=N.o;simp only[Prod.mk.injEq] at G;obtain⟨H,I⟩:=G;subst H;subst I;clear N;have B7:=hr.alloc (.cells #[.int .i64 kind,.string ⟨data.toArray⟩,.slice ea ne ec,.int .u64 t1,.int .u64 t2,.slice pa np pc,.string ⟨author.toArray⟩,.int .i64 time,.string ⟨msg.toArray⟩] 59);have G6:=V.alloc (.cells #[.int .i64 kind,.string ⟨data.toArray⟩,.slice ea ne ec,.int .u64 t1,.int .u64 t2,.slice pa np pc,.string ⟨author.toArray⟩,.int .i64 time,.string ⟨msg.toArray⟩] 59);have G4:w.grownBy (u.alloc (.cells #[.int .i64 kind,.string ⟨data.toArray⟩,.slice ea ne ec,.int .u64 t1,.int .u64 t2,.slice pa np pc,.string ⟨author.toArray⟩,.int .i64 time,.string ⟨msg.toArray⟩] 59)) (some (R.ib+1)):=bu hg (World.grownBy_alloc _ _ _);obtain⟨r0,r1⟩:=BK.c2 B7;obtain⟨fr0,fr1⟩:=BK.f2 (B7);clear A5 A7;go_wp2_with fail;obtain⟨W9,B⟩:=Qe (putF (u.alloc (.cells #[.int .i64 kind,.string ⟨data.toArray⟩,.slice ea ne ec,.int .u64 t1,.int .u64 t2,.slice pa np pc,.string ⟨author.toArray⟩,.int .i64 time,.string ⟨msg.toArray⟩] 59)) w.heap.size [] 13);have F:=bZ B7 [] 13;have E:=Rdr.In.putF G6 (n:=w.heap.size) (by omega) [] 13;have C:=bL G4 nr [] 13;rw[<-B] at F E C;unfold putF at B;rw[<-B];clear B;obtain⟨z0,z1⟩:=BK.c2 F;refine bodyPost_ret (v:=.agg #[.string ⟨([]).toArray⟩,.int .i64 13]) (by simp[results,Tryz.results231,go_sem,z0,z1]) rfl ?_;exact⟨rfl,⟨_,E,C0.o⟩,C⟩
  case pos=>
  subst A7;have M:Qg ((T,er)=if iY D≠(d1,d2) then([],15) else(D,0)):=Qf (by rw[A5.o,if_neg (by simp)]);obtain⟨u2,B8⟩:=Qe (u.alloc (.cells #[.int .i64 kind,.string ⟨data.toArray⟩,.slice ea ne ec,.int .u64 t1,.int .u64 t2,.slice pa np pc,.string ⟨author.toArray⟩,.int .i64 time,.string ⟨msg.toArray⟩] 59));have X:PM u u2:=by rw[B8]; exact ba _ _
  have D5:=hr.below X;have D3:=he.below X;have D4:=V.below X;have A1:=bu hg (aJ (b:=R.ib+1) X);have A6:=Qf B8;obtain⟨D1,D2,A0⟩:∃D1 D2,iY D=(D1,D2):=⟨_,_,rfl⟩;rw[A0] at A4 M;simp only at A4;have Q:=fun W=>nI D1 D2 d1 d2 W
  have P:=Qf (fun d os=>Calls.regrown_of (w:=u2) (d:=d) (os:=os) (A4.o _));obtain⟨x0,x1,x2,x3,x4,x5,x6⟩:=BK.c7 D3;have f0:=cell_regrown x0;have f1:=cell_regrown x1;clear B8 X hr he V hg A5 A4 A0 D3;by_cases J:(D1,D2)=(d1,d2)
  case neg=>
   have U:(D1==d1&&D2==d2)=false:=by
    cases h:(D1==d1&&D2==d2) with
    | false=>rfl
    | true=>exact absurd (by simp only[Bool.and_eq_true,beq_iff_eq] at h; rw[h.1,h.2]) J
   have N:Qg ((T,er)=(([]:Qb),(15:Int))):=Qf (by rw[M.o,if_pos J]);have G:=N.o;simp only[Prod.mk.injEq] at G;obtain⟨H,I⟩:=G;subst H;subst I;clear N;rw[U] at Q;simp only[Bool.not_false] at Q;clear M J U;go_upto_region 16 with(fail)
   rw[<-A6.o];refine wp_region_quiet_below (by kernel_rfl) (by kernel_rfl) ?_
   repeat (any_goals (first | go_big_quiet_step (first | (with_reducible exact P.o _ _)) | quiet_step (first | (with_reducible exact P.o _ _))))
   refine wpQuiet_nil ?_;intro w4 Y;have L:=aX Y;have O:=D5.below L;have B4:=D4.below L;have B3:=bu A1 (aJ (b:=R.ib+1) L);clear Y A6 x0 x1 x2 x3 x4 x5 x6 f0 f1 P Q;obtain⟨r0,r1⟩:=BK.c2 O;obtain⟨fr0,fr1⟩:=BK.f2 (O);go_wp2_with fail;obtain⟨W9,B⟩:=Qe (putF w4 w.heap.size [] 15);have F:=bZ O [] 15;have E:=Rdr.In.putF B4 (n:=w.heap.size) (by omega) [] 15;have C:=bL B3 nr [] 15;rw[<-B] at F E C;unfold putF at B;rw[<-B];clear B;obtain⟨z0,z1⟩:=BK.c2 F;refine bodyPost_ret (v:=.agg #[.string ⟨([]).toArray⟩,.int .i64 15]) (by simp[results,Tryz.results231,go_sem,z0,z1]) rfl ?_;exact⟨rfl,⟨_,E,C0.o⟩,C⟩
  case pos=>
  have U:(D1==d1&&D2==d2)=true:=by
   simp only[Prod.mk.injEq] at J;simp[J.1,J.2]
  have N:Qg ((T,er)=(D,(0:Int))):=Qf (by rw[M.o,if_neg (by simp[J])]);have G:=N.o;simp only[Prod.mk.injEq] at G;obtain⟨H,I⟩:=G;subst H;subst I;clear N;rw[U] at Q;simp only[Bool.not_true] at Q;clear M J U;go_upto_region 16 with(fail)
  rw[<-A6.o];refine wp_region_quiet_below (by kernel_rfl) (by kernel_rfl) ?_
  repeat (any_goals (first | go_big_quiet_step (first | (with_reducible exact P.o _ _)) | quiet_step (first | (with_reducible exact P.o _ _))))
  refine wpQuiet_nil ?_;intro w4 Y;have L:=aX Y;have O:=D5.below L;have B4:=D4.below L;have B3:=bu A1 (aJ (b:=R.ib+1) L);clear Y A6 x0 x1 x2 x3 x4 x5 x6 f0 f1 P Q;obtain⟨r0,r1⟩:=BK.c2 O;obtain⟨fr0,fr1⟩:=BK.f2 (O);go_wp2_with fail;obtain⟨W9,B⟩:=Qe (putF w4 w.heap.size T 0);have F:=bZ O T 0;have E:=Rdr.In.putF B4 (n:=w.heap.size) (by omega) T 0;have C:=bL B3 nr T 0;rw[<-B] at F E C;unfold putF at B;rw[<-B];clear B;obtain⟨z0,z1⟩:=BK.c2 F;refine bodyPost_ret (v:=.agg #[.string ⟨(T).toArray⟩,.int .i64 0]) (by simp[results,Tryz.results231,go_sem,z0,z1]) rfl ?_;exact⟨rfl,⟨_,E,C0.o⟩,C⟩
theorem Jb{R:Rdr}(A:R.Ok):∀(n i:Nat),i<n->i<R.l.length->PL R i
 | 0,i,h,_=>by omega
 | n+1,i,h,B=>O6 R A i B (NR R A i B (fun j C=>Jb A n j (by omega) (by omega)))
theorem IY{x:Pe}(d:Int×Int)(C:x.d∉l.map (·.d)):rE (l++[x]) d=if d=x.d then some l.length else rE l d:=by
 unfold rE;rw[List.findIdx?_append];by_cases e:d=x.d
 ·rw[if_pos e]
  have A:l.findIdx? (fun e=>decide (e.d=d))=none:=by
   rw[List.findIdx?_eq_none_iff];intro y D;simp only[decide_eq_false_iff_not];intro h;exact C (by rw[<-e,<-h]; exact List.mem_map_of_mem D)
  rw[A];simp[e,List.findIdx?_cons]
 ·rw[if_neg e]
  have B:[x].findIdx? (fun e=>decide (e.d=d))=none:=by simp[List.findIdx?_cons,Ne.symm e]
  rw[B];cases l.findIdx? (fun e=>decide (e.d=d)) <;> rfl
structure Ps (xs:List Itm) (pc:Nat):Prop where
 asc:Asc xs
 val:∀x∈xs,(bI x.data).2=0
 dig:∀x∈xs,OkD x.d
 xl:(xs.length:Int)<=100000000
 xd:∀x∈xs,(x.data.length:Int)<=140737488355328
 pc:xs.length<=pc
def N9(w:World)(s:Qb)(xs:List Itm)(e:Ending)(w':World):Prop:=∃R:Rdr,R.s=s/\R.xs=xs/\R.l=(bi s).1/\e=.returned (.tuple #[.pointer (some ⟨R.ib+1+1,0,none⟩),.int .i64 (bi s).2])/\R.Ok/\R.In (fun _=>none) w'/\PM w w'/\w.heap.size<=R.ib
theorem KQ(s:Qb)(xs:List Itm)(pa:Qa)(pc:Nat)(w:World)(hl:(s.length:Int)<=70368744177664)(J:Its w.heap.size w pa xs)(hp:Ps xs pc):Qh 201 #[.string ⟨s.toArray⟩,.slice pa xs.length pc] w (N9 w s xs):=by
 have I:=Qf J;have M:=Qf hp;have HL:=Qf hl;have R:=Qf (CW s w hl);unfold J9 at R;have K:kN (s.take (s.length-16)) (bi s).1/\(bi s).1.length<=1000:=by
  by_cases h:(bi s).2=0
  ·obtain⟨g1,g2,_⟩:=uM (s:=s) (l:=(bi s).1) (by rw[<-h])
   exact⟨g1,g2⟩
  ·rw[AQ h]; exact⟨kN.nil _,by simp⟩
 have C:=Qf K;unfold N9;generalize bi s=E at R C ⊢;obtain⟨l,er⟩:=E;simp only at R C ⊢;have C5:=C.o.2;obtain⟨n,hn⟩:=Qe l.length;have Y:=Qf hn;rw[<-hn] at C5;simp only[<-hn] at R;obtain⟨nx,O⟩:=Qe xs.length;have Z:=Qf O;rw[<-O];have C7:=@run_makeMap Tryz.prog;clear J hp K hn hl O;go_enter Tryz.func201,Tryz.ntmps201;go_wp2_with fail
 refine R.o.mono ?_;rintro e u ⟨a,c,rfl,A5,hb⟩
 obtain⟨q,Q⟩:=Qe u.heap.size;obtain⟨v,F⟩:=Qe (((u.alloc (.map #[] 0)).alloc (.map #[] 0)).alloc (.cells #[.string ⟨s.toArray⟩,.slice a n c,.slice pa nx pc,.map (some q),.map (some (q+1))] 268));have A7:fT vH q 0 (fun _=>none) (u.alloc (.map #[] 0)):=by rw[Q]; exact fT.made _ _
 have A8:fT Oq (q+1) 0 (fun _=>none) ((u.alloc (.map #[] 0)).alloc (.map #[] 0)):=by have:=fT.made Oq (u.alloc (.map #[] 0)); rw[Q]; simpa using this
 have X:Qg (fT vH q 0 (fun d=>(rE (l.take 0) d).map fun i=>.int .i64 (i:Int)) v):=Qf (by rw[F]; exact((A7.alloc _).alloc _).eq (fun d=>rfl));have W:Qg (fT Oq (q+1) 0 (fun _=>none) v):=Qf (by rw[F]; exact A8.alloc _);have A1:Qg (BK (q+1+1) #[.string ⟨s.toArray⟩,.slice a n c,.slice pa nx pc,.map (some q),.map (some (q+1))] 268 v):=Qf (by
  have:=BK.new ((u.alloc (.map #[] 0)).alloc (.map #[] 0)) #[.string ⟨s.toArray⟩,.slice a n c,.slice pa nx pc,.map (some q),.map (some (q+1))] 268;rw[F];have e1:((u.alloc (.map #[] 0)).alloc (.map #[] 0)).heap.size=q+1+1:=by rw[Q]; simp
  rw[e1] at this;exact this)
 have D:PM u v:=by rw[F]; exact((ba _ _).alloc (by simp) _).alloc (by simp; omega) _
 have T:=Qf (hb.trans (D.mono hb.size));have V:Qg (GIn tX 7 q v a l):=Qf (by rw[Q]; exact A5.below D nr);have HQ:Qg (w.heap.size<=q):=Qf (by rw[Q]; exact hb.size);clear A7 A8 D hb A5 R;go_wp2_with fail;rw[<-Q,<-F];clear Q F C7;go_loopw [25] (fun i wr=>∃k:Nat,k<=n/\i=.int .i64 (k:Int)/\Qg (fT vH q k (fun d=>(rE (l.take k) d).map fun i=>.int .i64 (i:Int)) wr)/\Qg (fT Oq (q+1) 0 (fun _=>none) wr)/\Qg (BK (q+1+1) #[.string ⟨s.toArray⟩,.slice a n c,.slice pa nx pc,.map (some q),.map (some (q+1))] 268 wr)/\Qg (GIn tX 7 q wr a l)/\Qg (PM w wr)) (fun i _=>n-(intOf i).toNat)
 case atStart=>exact⟨0,by omega,rfl,X,W,A1,V,T⟩
 case round=>
  clear X W A1 V T;obtain⟨k,hk,rfl,HM,HK,S,U,HB⟩:=hrel;by_cases C6:k<n
  ·have C3:(k:Int)<(n:Int):=by omega
   have H:k<l.length:=by rw[<-Y.o]; exact C6
   obtain⟨bl,ofl,rfl,D2,q0,q1,q2,q3,q4,q5,q6⟩:=rX U.out H;obtain⟨k0,A2⟩:=C.o.1.at_ _ (ak H);have P:=(iB A2).1.dok;have N:Qg (∀d,rE (l.take (k+1)) d=if d=l[k].d then some k else rE (l.take k) d):=Qf (fun d=>by
    rw[ai H,IY]
    ·rw[aA,mM (by omega)]
    ·have B1:=C.o.1.nd
     rw[<-aQ k l,dJ,List.nodup_append] at B1;intro hm;exact B1.2.2 _ hm _ (List.mem_map_of_mem (List.mem_of_getElem (i:=0) (h:=by simp; omega) rfl)) (by simp))
   have D5:=S.out.lt;generalize l[k]=x at *
   obtain⟨⟨d1,d2⟩,kd,⟨b1,b2⟩,off,len⟩:=x;simp only at q0 q1 q2 q3 q4 q5 q6 P N;obtain⟨v,F⟩:=Qe (wr.alloc (.cells #[.int .u64 d1,.int .u64 d2,.int .i64 kd,.int .u64 b1,.int .u64 b2,.int .i64 (off:Int),.int .i64 (len:Int)] 222));have D:PM wr v:=by rw[F]; exact ba _ _
   have A9:=(HM.out.below D).below ((bf _).drew);have B2:=S.out.below D;have A3:BK wr.heap.size #[.int .u64 d1,.int .u64 d2,.int .i64 kd,.int .u64 b1,.int .u64 b2,.int .i64 (off:Int),.int .i64 (len:Int)] 222 v:=by rw[F]; exact BK.new _ _ _
   obtain⟨v2,L,B0,A4,C8⟩:=A9.put Tryz.underlying265 (a:=(d1,d2)) P (by omega) (.int .i64 (k:Int));have A0:(Instr.mapUpdate 265 (.map (some q)) (.agg #[.int .u64 d1,.int .u64 d2]) (.int .i64 (k:Int))).run Tryz.prog v.drew=.ok () v2:=L;have B:wr.grownBy v2 (some q):=bu (aJ D) (bu (aJ ((bf _).drew)) A4);have G:Qg (fT vH q (k+1) (fun d=>(rE (l.take (k+1)) d).map fun i=>.int .i64 (i:Int)) v2):=Qf (B0.eq (fun d=>by rw[N.o d]; split <;> rfl));have C0:=Qf (HK.out.kept B (by simp));have C2:=Qf (S.out.grow1 B (by omega));have A6:Below q wr v2:=⟨B.os,B.tape,B.output,B.size,fun j hj=>B.block j (by omega) (fun e=>by cases e; omega)⟩;have B9:=Qf (U.out.below A6 nr);have B8:=Qf (bE HB.out B HQ.o);obtain⟨x0,x1,x2,x3,x4⟩:=BK.c5 B2;obtain⟨e0,e1,e2,e3,e4,e5,e6⟩:=BK.c7 A3;have HV:=Qf F;clear F D A9 B2 A3 L B0 A4 C8 B A6 HM HK S U HB N P A2 H;go_wp2_with fail;rw[<-HV.o];clear q0 q1 q2 q3 q4 q5 q6 HV;go_region;clear x0 x1 x2 x3 x4 e0 e1 e2 e3 e4 e5 e6 A0;go_wp2_with fail;go_roundw
   case rel=>exact⟨k+1,by omega,by go_num,G,C0,C2,B9,B8⟩
   case measure=>simp[intOf] <;> omega
  ·obtain rfl:k=n:=by omega
   have C3:¬(k:Int)<(k:Int):=by omega
   have G:Qg (fT vH q k (fun d=>(rE l d).map fun i=>.int .i64 (i:Int)) wr):=Qf (by have:=HM.out; rw[Y.o,rC] at this; rw[Y.o]; exact this);have HR:Qg (Rdr.Ok ⟨q,s,l,a,c,xs,pa,pc⟩/\Rdr.In ⟨q,s,l,a,c,xs,pa,pc⟩ (fun _=>none) wr):=Qf (by
    have hx:=S.out;rw[Y.o,Z.o] at hx;refine⟨⟨M.o.asc,M.o.val,M.o.dig,M.o.xl,M.o.xd,M.o.pc,HL.o,C.o.1,C.o.2⟩,hx,U.out,(I.o.below HB.out nr).mono HQ.o,⟨k,G.o⟩,HK.out.mono (Nat.zero_le _),fun i v h=>by cases h⟩)
   clear HM HK S U G Y Z M HL C I;go_wp2_with fail;go_ret2;exact⟨⟨q,s,l,a,c,xs,pa,pc⟩,rfl,rfl,rfl,rfl,HR.o.1,HR.o.2,HB.out,HQ.o⟩
def Lr(s:Qb)(xs:List Itm)(d:Int×Int):Qb×Int:=
 if(bi s).2≠0 then([],(bi s).2) else match rE (bi s).1 d with
  | some i=>NK s xs (bi s).1 i
  | none=>([],8)
def Fb(dat:Nat->Qb×Int)(l:List Pe):Nat->Nat->List Itm->List Itm×Int
 | 0,_,p=>(p,0)
 | f+1,k,p=>match l[k]? with
  | none=>(p,0)
  | some e=>if(dat k).2≠0 then([],(dat k).2) else if(rJ p ⟨e.d,(dat k).1⟩).2≠0 then([],(rJ p ⟨e.d,(dat k).1⟩).2) else Fb dat l f (k+1) (rJ p ⟨e.d,(dat k).1⟩).1
def tu(s:Qb)(xs:List Itm):List Itm×Int:=
 if(bi s).2≠0 then([],(bi s).2) else Fb (NK s xs (bi s).1) (bi s).1 (bi s).1.length 0 xs
theorem GY(A:k<l.length)(p:List Itm):Fb dat l (l.length-k) k p=if(dat k).2≠0 then([],(dat k).2) else if(rJ p ⟨l[k].d,(dat k).1⟩).2≠0 then([],(rJ p ⟨l[k].d,(dat k).1⟩).2) else Fb dat l (l.length-(k+1)) (k+1) (rJ p ⟨l[k].d,(dat k).1⟩).1:=by
 rw[show l.length-k=(l.length-(k+1))+1 by omega,Fb,List.getElem?_eq_getElem A]
theorem cell_grown{j:Nat}(C:W.grownBy W' (some c))(B:b<W.heap.size)(A:b≠c):W'.cell? ⟨b,j,none⟩=W.cell? ⟨b,j,none⟩:=by
 have h:=C.block b B (fun e=>by cases e; exact A rfl);unfold World.cell?;simp only[h]
theorem IM(h:Its W.heap.size W a xs)(B:W.grownBy W' (some c))(D:0<xs.length->∀ad,a=some ad->ad.block≠c):Its W'.heap.size W' a xs:=by
 intro i H;obtain⟨b,off,rfl,A,E,F,G⟩:=h i H;have C:=D (by omega) _ rfl;have hs:=B.size;exact⟨b,off,rfl,by omega,(cell_grown B A C).trans E,(cell_grown B A C).trans F,(cell_grown B A C).trans G⟩
structure UnP (R:Rdr) (pa:Qa) (k:Nat) (a:Qa) (c:Nat) (P:List Itm) (W:World):Prop where
 its:Its W.heap.size W a P
 cap:P.length<=c
 asc:Asc P
 len:P.length<=R.xs.length+k
 dat:∀x∈P,(x.data.length:Int)<=140737488355328
 or_:(a=pa/\P=R.xs)\/∀ad,a=some ad->R.ib+1<ad.block
theorem UnP.apart(h:UnP R pa k a c P W)(G:Its B w pa R.xs)(H:B<=R.ib):0<P.length->∀ad,a=some ad->ad.block≠R.ib+1:=by
 intro E ad A;rcases h.or_ with⟨rfl,rfl⟩ | D
 ·obtain⟨b,off,C,F,_⟩:=G 0 E
  rw[A] at C;cases C;simp only;omega
 ·have:=D ad A
  omega
theorem UnP.grown(h:UnP R pa k a c P W)(D:Its B w pa R.xs)(A:B<=R.ib)(C:W.grownBy W' (some (R.ib+1))):UnP R pa k a c P W':=
 ⟨IM h.its C (h.apart D A),h.cap,h.asc,h.len,h.dat,h.or_⟩
theorem UnP.pool(h:UnP R pa k a c P W)(A:(R.xs.length:Int)<=1000000)(B:k<=1000):jQ W a P c:=⟨h.its,h.cap,by have:=h.len; omega,h.dat⟩
theorem J2(h:rJ P x=(Q,0)):Ag P x=(Q,0):=by
 unfold rJ at h;by_cases A:vg x=0
 ·rw[if_neg (by simp[A])] at h; exact h
 ·rw[if_pos A] at h
  have:=congrArg Prod.snd h;exact absurd this A
theorem Mg(h:(rJ P x).2≠0):(rJ P x).1=[]:=by
 unfold rJ at h ⊢;by_cases C:vg x=0
 ·rw[if_neg (by simp[C])] at h ⊢
  unfold Ag at h ⊢;split
  ·split
   ·split
    ·rename_i A B D; rw[A] at h; simp[B,D] at h
    ·rfl
   ·rename_i A B; rw[A] at h; simp[B] at h
  ·rename_i A; rw[A] at h; simp at h
 ·rw[if_pos C]
theorem UnP.next(h:UnP R pa k a c P W)(K:R.ib+1<W.heap.size){a':Qa}{c':Nat}(F:iF W a P Q a' c' W')(H:(x.data.length:Int)<=140737488355328)(G:rJ P x=(Q,0)):UnP R pa (k+1) a' c' Q W':=by
 obtain⟨C,D,A,J⟩:=F;obtain⟨g1,g2,g3⟩:=IU h.asc (J2 G);refine⟨C,D,g1,by have:=h.len; omega,fun y I=>?_,?_⟩
 ·rcases(g2 y).1 I with E | rfl
  ·exact h.dat y E
  ·exact H
 ·rcases A with⟨rfl,rfl⟩ | A
  ·exact h.or_
  ·exact .inr (fun ad B=>by have:=A ad B; omega)
theorem Nc(s:Qb)(xs:List Itm)(pa:Qa)(pc:Nat)(w:World)(hl:(s.length:Int)<=70368744177664)(J:Its w.heap.size w pa xs)(hp:Ps xs pc)(D6:(xs.length:Int)<=1000000):Qh 160 #[.string ⟨s.toArray⟩,.slice pa xs.length pc] w (J7 w pa xs (tu s xs)):=by
 have A1:=Qf J;have G:=Qf hp;have HN:=Qf (KQ s xs pa pc w hl J hp);unfold N9 at HN;obtain⟨U,C⟩:=Qe (tu s xs);rw[<-C];unfold tu at C;obtain⟨l,er,hE⟩:∃l er,bi s=(l,er):=⟨_,_,rfl⟩;rw[hE] at C HN;simp only at HN C;have N:=Qf C;have E3:=Qf D6;obtain⟨nx,B5⟩:=Qe xs.length;have D9:=Qf B5;rw[<-B5] at HN ⊢;clear C hE J hp hl D6 B5;unfold J7;go_enter Tryz.func160,Tryz.ntmps160;go_wp2_with fail
 refine HN.o.mono ?_;rintro e u ⟨R,rfl,rfl,rfl,rfl,B6,B3,hb,D3⟩
 by_cases B1:er=0
 case neg=>
  have D4:(er !=0)=true:=by simpa using B1
  have D5:=N.o;rw[if_pos B1] at D5;subst D5;clear N HN;go_wp2_with fail;go_ret2;exact⟨none,0,rfl,iF.none _ _ hb⟩
 case pos=>
 subst B1;have C9:Qg (U=Fb R.dat R.l (R.l.length-0) 0 R.xs):=Qf (by rw[N.o,if_neg (by simp)]; rfl);have D1:=B3.box;have E9:=B6.ll;obtain⟨n,hn⟩:=Qe R.l.length;have C5:=Qf hn;obtain⟨x0,x1,x2,x3,x4⟩:=BK.c5 D1;rw[<-hn] at x1 E9;have C4:=Qf B3;have C7:=Qf B6;have HB:=Qf hb;have A6:=Qf D3;have D0:Qg (UnP R pa 0 pa pc R.xs u):=Qf ⟨A1.o.ahead hb,G.o.pc,G.o.asc,by omega,G.o.xd,.inl ⟨rfl,rfl⟩⟩;clear hn D1 B3 B6 hb D3 N HN G;go_wp2_with fail;clear x0 x1 x2 x3 x4;go_loopw [8,27] (fun p i wr=>∃(k:Nat) (a:Qa) (c:Nat) (P:List Itm) (K:Int->Option Value),k<=n/\p=.slice a P.length c/\i=.int .i64 (k:Int)/\Qg (U=Fb R.dat R.l (R.l.length-k) k P)/\Qg (UnP R pa k a c P wr)/\Qg (R.In K wr)/\Qg (PM w wr)) (fun _ i _=>n-(intOf i).toNat)
 case atStart=>exact⟨0,pa,pc,R.xs,fun _=>none,by omega,by rw[D9.o],rfl,C9,D0,C4,HB⟩
 case round=>
  clear C9 D0 C4 HB;obtain⟨k,a,c,P,K,hk,rfl,rfl,N,G,HI,HB⟩:=hrel;obtain⟨np,B4⟩:=Qe P.length;have C6:=Qf B4;rw[<-B4];clear B4;by_cases F0:k<n
  ·have E7:(k:Int)<(n:Int):=by omega
   have L:k<R.l.length:=by rw[<-C5.o]; exact F0
   obtain⟨bl,ofl,E5,F4,q0,q1,q2,q3,q4,q5,q6⟩:=rX HI.out.ents L;obtain⟨D,de,B0⟩:∃D de,R.dat k=(D,de):=⟨_,_,rfl⟩;have Y:=Dc C7.o (k+1) k (by omega) L;have A0:=N.o.trans (GY L P);rw[B0] at A0 Y;simp only at A0 Y;have H:=Qf A0;have F8:=HI.out.lt;obtain⟨v,M⟩:=Qe (wr.alloc (.cells (tX R.l[k]).toArray 222));have A9:PM wr v:=by rw[M]; exact ba _ _
   have A8:BK wr.heap.size (tX R.l[k]).toArray 222 v:=by rw[M]; exact BK.new _ _ _
   have C1:=Qf A9;have HG:=Qf (Jb C7.o (k+1) k (by omega) L K v (HI.out.below A9));unfold vF iX at HG;rw[B0] at HG;simp only at HG;have I:=fun W a2=>N7 a2 P c R.l[k].d.1 R.l[k].d.2 D W
   generalize R.l[k]=x at *
   obtain⟨⟨d1,d2⟩,kd,⟨b1,b2⟩,off,len⟩:=x;simp only[tX] at q0 q1 q2 q3 q4 q5 q6 M H I A8;have C0:=Qf A8;have F:=Qf I;have HV:=Qf M;clear M A9 A8 I A0 B0 L;rw[E5];go_wp2_with fail;rw[<-HV.o];clear q0 q1 q2 q3 q4 q5 q6 HV
   refine HG.o.mono ?_;rintro e u2 ⟨rfl,⟨K',A2,E8⟩,hg⟩
   have D2:wr.grownBy u2 (some (R.ib+1)):=bu (aJ C1.o) hg;obtain⟨v,M⟩:=Qe (u2.alloc (.cells #[.string ⟨D.toArray⟩,.int .i64 de] 270));have E:PM u2 v:=by rw[M]; exact ba _ _
   have hf:BK u2.heap.size #[.string ⟨D.toArray⟩,.int .i64 de] 270 v:=by rw[M]; exact BK.new _ _ _
   have he:=(C0.o.grow1 hg (by omega)).below E;have B2:=bu D2 (aJ (b:=R.ib+1) E);have T:=Qf (G.o.grown A1.o A6.o B2);have A5:=Qf (A2.below E);have S:=Qf (bE HB.o B2 (by have:=A6.o; omega));have F9:=A5.o.lt;obtain⟨f0,f1⟩:=BK.c2 hf;obtain⟨e0,e1,e2,e3,e4,e5,e6⟩:=BK.c7 he;have HV:=Qf M;rw[M] at f0 f1 e0 e1 e2 e3 e4 e5 e6;clear E hf he B2 D2 hg A2 E8 HG C0 C1 G HI HB;by_cases X:de=0
   case neg=>
    have D4:(de !=0)=true:=by simpa using X
    have C:=H.o;rw[if_pos X] at C;subst C;clear H F X N;go_wp2_with fail;go_region;clear f0 f1 e0 e1 e2 e3 e4 e5 e6;go_wp2_with fail;go_ret2;exact⟨none,0,rfl,iF.none _ _ (by rw[<-HV.o]; exact S.o.drew)⟩
   case pos=>
   subst X;have B:Qg (U=if(rJ P ⟨(d1,d2),D⟩).2≠0 then([],(rJ P ⟨(d1,d2),D⟩).2) else Fb R.dat R.l (R.l.length-(k+1)) (k+1) (rJ P ⟨(d1,d2),D⟩).1):=Qf (by rw[H.o,if_neg (by simp)]);have HA:=Qf (F.o v a (T.o.pool E3.o (by omega)) T.o.asc Y);unfold J7 at HA;rw[<-C6.o] at HA;have O:Qg ((rJ P ⟨(d1,d2),D⟩).2≠0->(rJ P ⟨(d1,d2),D⟩).1=[]):=Qf Mg;obtain⟨Q,ae,B7⟩:∃Q ae,rJ P ⟨(d1,d2),D⟩=(Q,ae):=⟨_,_,rfl⟩;have C8:=Qf B7;rw[B7] at HA B O;simp only at HA B O;clear B7 H F N;go_wp2_with fail;rw[<-HV.o];clear M HV f0 f1 e0 e1 e2 e3 e4 e5 e6
   refine HA.o.mono ?_;rintro e3 u3 ⟨a3,c3,rfl,Z⟩
   have B9:=Qf (S.o.trans (Z.2.2.2.mono S.o.size));by_cases V:ae=0
   case neg=>
    have D4:(ae !=0)=true:=by simpa using V
    have C:=B.o;rw[if_pos V] at C;subst C;clear B HA O V;go_wp2_with fail;go_ret2;exact⟨none,0,rfl,iF.none _ _ B9.o⟩
   case pos=>
   subst V;have E2:Qg (U=Fb R.dat R.l (R.l.length-(k+1)) (k+1) Q):=Qf (by rw[B.o,if_neg (by simp)]);have E0:=Qf (T.o.next (by omega) Z Y C8.o);have D8:=Qf (A5.o.below Z.2.2.2);clear B HA O T A5 S Z C8;go_wp2_with fail;go_roundw
   case rel=>exact⟨k+1,a3,c3,Q,K',by omega,rfl,by go_num,E2,E0,D8,B9⟩
   case measure=>simp[intOf] <;> omega
  ·obtain rfl:k=n:=by omega
   have E7:¬(k:Int)<(k:Int):=by omega
   have C:U=(P,0):=by rw[N.o,C5.o,Nat.sub_self,Fb]
   subst C;rw[C6.o];have E1:Qg (iF w pa R.xs P a c wr):=Qf ⟨G.o.its,G.o.cap,G.o.or_.elim (fun h=>.inl h) (fun h=>.inr (fun ad E4=>by have:=h ad E4; have:=A6.o; omega)),HB.o⟩;clear N G HI HB;go_wp2_with fail;go_ret2;exact⟨a,c,rfl,E1.o⟩
theorem GK(h:rJ P x=(Q,0)):vg x=0/\Ag P x=(Q,0):=by
 refine⟨?_,J2 h⟩;unfold rJ at h;by_cases A:vg x=0
 ·exact A
 ·rw[if_pos A] at h
  exact absurd (congrArg Prod.snd h) A
theorem Kt:∀(n k:Nat) (p Q:List Itm),n=l.length-k->k<=l.length->Asc p->(∀y∈p,vg y=0)->Fb dat l n k p=(Q,0)->
  Asc Q/\(∀y∈Q,vg y=0)/\(∀y∈p,y∈Q)/\(∀i (h:i<l.length),k<=i->(dat i).2=0/\(⟨l[i].d,(dat i).1⟩:Itm)∈Q)/\(∀y∈Q,y∈p\/∃e∈l,y.d=e.d)/\Q.length<=p.length+n:=by
 intro n;induction n with
 | zero=>
  intro k p Q L K H F h;unfold Fb at h;cases h;exact⟨H,F,fun y A=>A,fun i I G=>by omega,fun y A=>.inl A,by omega⟩
 | succ n ih=>
  intro k p Q L K H F h;have C:k<l.length:=by omega
  rw[Fb,List.getElem?_eq_getElem C] at h;simp only at h;by_cases D:(dat k).2=0
  ·rw[if_neg (by simpa using D)] at h
   by_cases E:(rJ p ⟨l[k].d,(dat k).1⟩).2=0
   ·rw[if_neg (by simpa using E)] at h
    obtain⟨c1,c2⟩:=GK (P:=p) (Q:=(rJ p ⟨l[k].d,(dat k).1⟩).1) (x:=⟨l[k].d,(dat k).1⟩) (Prod.ext rfl E);obtain⟨g1,g2,g3⟩:=IU H c2;obtain⟨r1,r2,r3,r4,r5,r6⟩:=ih (k+1) _ Q (by omega) (by omega) g1 (fun y A=>by
     rcases(g2 y).1 A with B | rfl
     ·exact F y B
     ·exact c1) h
    refine⟨r1,r2,fun y A=>r3 y ((g2 y).2 (.inl A)),fun i I G=>?_,fun y A=>?_,by omega⟩
    ·rcases gB k i with B | B
     ·exact r4 i I (by omega)
     ·obtain rfl:i=k:=by omega
      exact⟨D,r3 _ ((g2 _).2 (.inr rfl))⟩
    ·rcases r5 y A with B | B
     ·rcases(g2 y).1 B with J | rfl
      ·exact .inl J
      ·exact .inr ⟨l[k],ak C,rfl⟩
     ·exact .inr B
   ·rw[if_pos (by simpa using E)] at h
    exact absurd (congrArg Prod.snd h) E
  ·rw[if_pos (by simpa using D)] at h
   exact absurd (congrArg Prod.snd h) D
theorem JK(h:vg x=0):x.data≠[]:=by
 intro e;obtain⟨d,t⟩:=x;simp only at e;subst e;unfold vg at h;have A:(bI []).2≠0:=by decide +kernel
 rw[if_pos A] at h;cases h
structure Pq (s:Qb) (xs Q:List Itm):Prop where
 ent:(bi s).2=0
 chk:mV Q=0
 asc:Asc Q
 fnd:∀e∈(bi s).1,(Lr s xs e.d).2=0/\(Lr s xs e.d).1≠[]/\e.d∈Q.map (·.d)
 all:∀y∈Q,y.d∈xs.map (·.d)++(bi s).1.map (·.d)
 keep:OU Q (xs.map (·.d))=xs
 len:Q.length<=xs.length+(bi s).1.length
theorem OD{s:Qb}(E:Asc xs)(I:∀x∈xs,vg x=0)(h:tu s xs=(Q,0)):Pq s xs Q:=by
 unfold tu at h;by_cases A:(bi s).2=0
 ·rw[if_neg (by simpa using A)] at h
  obtain⟨e1,e2,e3⟩:=uM (s:=s) (l:=(bi s).1) (Prod.ext rfl A);obtain⟨r1,r2,r3,r4,r5,r6⟩:=Kt _ 0 xs Q (by omega) (by omega) E I h;refine⟨A,?_,r1,fun e D=>?_,fun y B=>?_,?_,r6⟩
  ·unfold mV
   exact EI r2 r1 (fun q K=>by cases K)
  ·obtain⟨i,F,rfl⟩:=aV D
   obtain⟨g1,g2⟩:=r4 i F (by omega);have J:Lr s xs (bi s).1[i].d=NK s xs (bi s).1 i:=by
    unfold Lr;rw[if_neg (by simpa using A),Ny e1.nd F]
   rw[J];exact⟨g1,JK (r2 _ g2),bV.2 ⟨_,g2,rfl⟩⟩
  ·rw[aD]
   rcases r5 y B with H | ⟨e,D,C⟩
   ·exact .inl (bV.2 ⟨y,H,rfl⟩)
   ·exact .inr (bV.2 ⟨e,D,C.symm⟩)
  ·refine NY (Gz r1 _) E (fun x=>?_)
   unfold OU;rw[List.mem_filter];constructor
   ·rintro⟨g1,g2⟩
    simp only[decide_eq_true_eq,bV] at g2;obtain⟨y,B,C⟩:=g2;rw[<-Md r1 (r3 y B) g1 C];exact B
   ·intro G
    exact⟨r3 x G,by simp only[decide_eq_true_eq,bV]; exact⟨x,G,rfl⟩⟩
 ·rw[if_pos (by simpa using A)] at h
  exact absurd (congrArg Prod.snd h) A
