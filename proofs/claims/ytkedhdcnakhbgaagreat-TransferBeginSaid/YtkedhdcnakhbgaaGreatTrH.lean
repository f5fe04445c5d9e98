/- transfer.Serve at a request of one message. -/
import Derived.Test.YtkedhdcnakhbgaaGreatTrG
import Derived.Test.YtkedhdcnakhbgaaGreatN2
set_option linter.unusedSimpArgs false
set_option maxRecDepth 100000
set_option maxHeartbeats 16000000
namespace Go.Proofs.YtkedhdcnakhbgaaGreat
open Go.RowKit Go.Shelf
set_option linter.unusedVariables false
theorem dsl_lo(a:Qa)(n c f m:Nat)(h:f<=n)(J:n<=c)(H:m=n-f):∃(A1:Qa) (c1:Nat),(∀B W (ds:Qd),ds.length=n->dE B W a ds->dE B W A1 (ds.drop f))/\∀W,(Instr.slice 24 (.slice a n c) (some (.int .i64 f)) none none).run Tryz.prog W=.ok (.slice A1 m c1) W:=by
 refine⟨if c=f then a else a.map (·.add (f*2)),c-f,fun B W ps K I=>?_,fun W=>?_⟩
 ·split
  ·rw[dV (by omega)]; exact dE.nil _ _ _
  ·intro i G
   have C:f+i<ps.length:=by simp at G; omega
   obtain⟨b,off,rfl,D,E,F⟩:=I (f+i) C;refine⟨b,off+f*2,by simp[Go.WideShapes.add_plain],D,?_⟩;rw[eF];rw[show off+f*2+i*2=off+(f+i)*2 by omega];exact⟨E,F⟩
 ·rw[run_slice_l (P:=Tryz.prog) W 24 a n c (by kernel_rfl) .i64 f (by omega) (by omega),DJ]
  subst H;simp[sliced,Result.andThen]
def pidS(T:Qb):Int:=(iY T).1%1099511627777
theorem serve_one(a:Qa)(xs:List Itm)(c:Nat)(L:Qb)(size:Int)(w:World)(f n nd:Nat)(ds l base:Qd)(T:Qb)(hp:jQ w a xs c)(hA:Asc xs)(D2:xs.length<=40)(C7:BG L [⟨1,0,(f:Int),0,ds,[]⟩] n)(hn:n=L.length)(hL:(L.length:Int)<=1000000)(hf:f<=ds.length)(O:∀d∈ds,OkD d)(E2:ds.length<=45)(G0:1<=size)(G1:size<=65536)
  (C8:M6 xs (ds.take f) (ds.drop f)=(l,0)) (C0:(dh xs (ds.drop f)).1=base) (hT:(T.length:Int)<=1048576)
  (C5:∀la lc ba bc W,Its W.heap.size W a xs->dE W.heap.size W la l->dE W.heap.size W ba base->Qh 49 #[.slice a xs.length c,.slice la l.length lc,.slice ba base.length bc] W fun e w'=>e=.returned (.tuple #[.string ⟨T.toArray⟩,.int .i64 0])/\PM W w') :
  Qh 21 #[.slice a xs.length c,.string ⟨L.toArray⟩,.int .i64 size] w fun e w'=>e=.returned (.tuple #[.string ⟨(repS (pidS T) T 0 T.length size).1.toArray⟩,.int .i64 (repS (pidS T) T 0 T.length size).2])/\PM w w':=by
 have B5:=Qf (parse_any L w (by omega));have D8:=Qf C7;have E:=Qf (fun wa wc ca cc W (hW:PM w W) hw hc=>Pz a xs c wa (ds.take f) wc ca (ds.drop f) cc W (hp.below hW) hA D2 hw (fun d hd=>O d (dK hd)) (by rw[aA]; omega) hc (fun d hd=>O d (List.mem_of_mem_drop hd)) (by rw[ah]; omega));have J:=Qf (fun ca cc W (hW:PM w W) hc=>zH a xs c ca (ds.drop f) cc W (hp.below hW) hA hc (fun d hd=>O d (List.mem_of_mem_drop hd)) (by omega) (by rw[ah]; omega));have I:=Qf C5;have B2:=Qf hp.its;have X:=Qf (fun W=>by
  have h:=reply_any (pidS T) T 0 T.length size W (by omega) (by omega) hT;rw[Int.natCast_zero] at h;exact h)
 have B4:=Qf (fun W=>qV T W (by omega));have E7:=bH T;rw[C8] at E;obtain⟨tn,D1⟩:=Qe T.length;rw[<-D1] at hT E7 X ⊢;have R:wrap64 ((iY T).1.tmod 1099511627777)=pidS T:=by
  rw[Int.tmod_eq_emod_of_nonneg (LH T)];unfold pidS wrap64;omega
 have A4:(ds.take f).length=f:=by rw[aA]; omega
 obtain⟨nc,A6⟩:=Qe (ds.length-f);have A3:(ds.drop f).length=nc:=by rw[ah,A6]
 rw[A4,A3] at E;rw[A3] at J;have F4:=Qf E2;have F5:=Qf A4;have D7:=Qf A6;have F8:(f:Int)<=45:=by omega
 generalize xs.length=nx at E J I ⊢;obtain⟨ll,A5⟩:=Qe l.length;obtain⟨bl,Y⟩:=Qe base.length;have B3:=Qf A5;have A9:=Qf Y;have HN:=Qf hn;have D6:=Qf C0;rw[<-A5,<-Y] at I;clear hp hA D2 C7 O C8 C5 D1 A4 A6 A3 A5 Y hn C0;go_enter Tryz.func21,Tryz.ntmps21;go_wp2_with fail;have hx:=B5.o
 refine hx.mono ?_;clear hx B5
 rintro e u ⟨ms,n2,C6,C1,Z⟩;obtain⟨rfl,rfl⟩:=D8.o.one C6;rcases Z with⟨hq,a1,c1,rfl,C4,C2⟩ | ⟨hq,rfl⟩
 ·obtain⟨b0,o0,da,cd,B9,E4,q0,q1,q2,q3,q4,q5,M⟩:=C4 0 (by simp)
  obtain⟨b0',o0',da',cd',Q,q4',A0⟩:=C2 0 (by simp);rw[B9] at Q;cases Q;simp only[aS,dG,Nat.add_zero] at q0 q1 q2 q3 q4 q5 M q4' A0;rw[q4] at q4';cases q4';subst B9;obtain⟨A1,k1,B7,C9⟩:=Js da ds.length cd f (by omega);obtain⟨A2,k2,B8,D0⟩:=dsl_lo da ds.length cd f nc hf A0 D7.o;have B0:=Qf (B7 _ _ _ M);have B1:=Qf (B8 _ _ _ rfl M);have V:=Qf C1;simp only[az,aK,aZ];have F9:Tryz.prog.follows .mixedOrders=true:=by kernel_rfl
  clear hq C4 C2 C6 E4 M A0 B7 B8 C1;go_wp2_with fail;go_region;obtain⟨v,hv⟩:=Qe u.drew;rw[<-hv];have K:PM u v:=by rw[hv]; exact(bf _).drew
  have H:=Qf (V.o.trans (K.mono V.o.size));have D:=Qf (B1.o.ahead K);have HS:=Qf (E.o A1 k1 A2 k2 v H.o (B0.o.ahead K) D.o);clear hv K B0 B1 V C9 D0 E q0 q1 q2 q3 q4 q5;go_wp2_with fail
  refine HS.o.mono ?_;rintro e u2 ⟨la,lc,rfl,C,B⟩
  simp only at C ⊢;rw[<-B3.o] at C ⊢;have F:=Qf (H.o.trans (B.mono H.o.size));have P:=Qf (kr B3.o C);have HR:=Qf (J.o A2 k2 u2 F.o (D.o.ahead B));clear C B HS H D J;go_wp2_with fail
  refine HR.o.mono ?_;rintro e u3 ⟨pa,pc,sa,sc,rfl,N,E5,B⟩
  rw[D6.o] at N ⊢;rw[<-A9.o] at N ⊢;have G:=Qf (F.o.trans (B.mono F.o.size));have HP:=Qf (I.o la lc pa pc u3 (B2.o.ahead G.o) (P.o.ahead B) (kr A9.o N));clear N E5 B HR F P I B2;go_wp2_with fail
  refine HP.o.mono ?_;rintro e u4 ⟨rfl,B⟩
  have S:=Qf (G.o.trans (B.mono G.o.size));have HO:=Qf (B4.o u4);clear B HP G B4;generalize (iY T).1=g1 at R HO;generalize (iY T).2=g2 at HO;go_wp2_with fail
  refine HO.o.mono ?_;rintro e u5 ⟨rfl,B⟩
  have A8:=Qf (S.o.trans (B.mono S.o.size));clear B HO S;have E3:∀W,(Instr.index 54 (.agg #[.int .u64 g1,.int .u64 g2]) (.int .i64 0)).run Tryz.prog W=.ok (.int .u64 g1) W:=fun W=>by kernel_rfl
  go_wp2_with fail;go_region;obtain⟨v6,A7⟩:=Qe u5.drew;rw[<-A7];have U:Qg (PM w v6):=Qf (by rw[A7]; exact A8.o.drew);have HR:=Qf (X.o v6);clear A7 A8 X E3;go_wp2_with fail;rw[R]
  refine HR.o.mono ?_;rintro e u7 ⟨rfl,B⟩
  have D5:=Qf (U.o.trans (B.mono U.o.size));clear B HR U;go_wp2_with fail;go_ret2;exact⟨rfl,D5.o⟩
 ·exfalso
  simp[okM,HN.o] at hq
