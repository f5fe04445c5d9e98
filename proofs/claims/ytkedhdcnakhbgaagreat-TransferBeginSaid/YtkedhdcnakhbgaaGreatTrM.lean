/- cordwoodlaw17.fine. -/
import Derived.Test.YtkedhdcnakhbgaaGreatTrN
import Derived.Test.YtkedhdcnakhbgaaGreatK12
set_option linter.unusedSimpArgs false
set_option maxRecDepth 100000
set_option maxHeartbeats 16000000
namespace Go.Proofs.YtkedhdcnakhbgaaGreat
open Go.RowKit Go.Shelf
set_option linter.unusedVariables false
structure FineX (x:Fet):Prop where
 pg:Cr x.xs=false
 ck:mV x.xs=0
 lw:x.want.length<=6
 lc:x.com.length<=6
 lt:x.ts.length<=4
 tl:∀t∈x.ts,t.length<=6000
theorem pgrS{xs:List Itm}(h:Cr xs=false):xs.length<=40/\∀x∈xs,x.data.length<=500:=by
 simp only[Cr,Bool.or_eq_false_iff,decide_eq_false_iff_not,List.any_eq_false] at h;exact⟨by omega,fun x A=>by have:=h.2 x A; simp at this; omega⟩
theorem fine17_any(x:Fet)(A:FetA)(w:World)(h:FetCame w x A):
  Qh 10 #[.agg (x.arr A)] w fun e w'=>(∃r,e=.returned (.bool r)/\(r=true->FineX x))/\PM w w':=by
 obtain⟨xs,ys,want,com,ts,sz⟩:=x;obtain⟨X,K,ya,yc,wa,wc,ca,cc,ta,tc⟩:=A;obtain⟨U,V,h3,h4,h5,h6⟩:=h;simp only at U V h3 h4 h5 h6;have kc1:=U.cap;have kc2:=V.cap;have kc3:=h3.cap;have kc4:=h4.cap;unfold maxLen at kc1 kc2 kc3 kc4 h6;have B3:∀x∈xs,(x.data.length:Int)<=9223372036854775807:=fun x T=>by have:=(U.dat x T).2; unfold maxLen at this; omega
 have B4:∀x∈ys,(x.data.length:Int)<=9223372036854775807:=fun x T=>by have:=(V.dat x T).2; unfold maxLen at this; omega
 have Y:=Qf (fun W (Q:PM w W)=>Ol X xs K W (U.its.ahead Q) (by omega) B3);have Z:=Qf (fun W (Q:PM w W)=>Ol ya ys yc W (V.its.ahead Q) (by omega) B4);have O:=Qf (fun(R:Cr xs=false) W (Q:PM w W)=>M7 X xs K W (U.its.ahead Q) (by have:=(pgrS R).1; omega) (fun x T=>by have:=(pgrS R).2 x T; omega));have P:=Qf (fun(R:Cr ys=false) W (Q:PM w W)=>M7 ya ys yc W (V.its.ahead Q) (by have:=(pgrS R).1; omega) (fun x T=>by have:=(pgrS R).2 x T; omega));have I:=Qf (fun(R:Cr xs=false) (hk:mV xs=0) W (Q:PM w W)=>Oi X xs K W (U.its.ahead Q) (checkP_zero hk).2 (by have:=(pgrS R).1; omega) (fun x T=>by have:=(pgrS R).2 x T; omega));have J:=Qf (fun(R:Cr ys=false) (hk:mV ys=0) W (Q:PM w W)=>Oi ya ys yc W (V.its.ahead Q) (checkP_zero hk).2 (by have:=(pgrS R).1; omega) (fun x T=>by have:=(pgrS R).2 x T; omega));have B0:=Qf h5;have C:=Qf (fun a b c d e (f:∀t∈ts,t.length<=6000)=>FineX.mk (x:=⟨xs,ys,want,com,ts,sz⟩) a b c d e f);generalize FineX ⟨xs,ys,want,com,ts,sz⟩=FX at C ⊢;obtain⟨G,hG⟩:∃G:Ending->World->Prop,G=fun e w'=>(∃r,e=.returned (.bool r)/\(r=true->FX))/\PM w w':=⟨_,rfl⟩
 rw[<-hG];have B:Qg (∀u,PM w u->G (.returned (.bool false)) u):=Qf (fun u hu=>by rw[hG]; exact⟨⟨false,rfl,fun h=>(by cases h)⟩,hu⟩);have C2:Qg (FX->∀u,PM w u->G (.returned (.bool true)) u):=Qf (fun hf u hu=>by rw[hG]; exact⟨⟨true,rfl,fun _=>hf⟩,hu⟩);clear hG;simp only[Fet.arr];obtain⟨nt,A5⟩:=Qe ts.length;have A9:=Qf A5;rw[<-A5] at C h6 ⊢;simp only at C;clear A5 U V h3 h4 h5 B3 B4;generalize Cr xs=g1 at Y O I C;generalize Cr ys=g2 at Z P J;generalize mV xs=e1 at O I C;generalize mV ys=e2 at P J;generalize PK xs=y1 at I;generalize PK ys=y2 at J;generalize xs.length=nx at kc1 Y O I ⊢;generalize ys.length=ny at kc2 Z P J ⊢;generalize want.length=nw at kc3 C ⊢;generalize com.length=nc at kc4 C ⊢;obtain⟨w0,S⟩:=Qe (w.alloc (.cells #[.slice X nx K,.slice ya ny yc,.slice wa nw wc,.slice ca nc cc,.slice ta nt tc,.int .i64 sz] 27));have F:Qg (PM w w0):=Qf (by rw[S]; exact ba _ _);have A1:Qg (BK w.heap.size #[.slice X nx K,.slice ya ny yc,.slice wa nw wc,.slice ca nc cc,.slice ta nt tc,.int .i64 sz] 27 w0):=Qf (by rw[S]; exact BK.new _ _ _);have D:=Qf (Y.o w0 F.o);rw[S] at D;have B2:=Qf S;clear S Y;go_enter Tryz.func10,Tryz.ntmps10;go_wp2_with fail
 refine D.o.mono ?_;rintro e u0 ⟨rfl,he⟩
 rw[<-B2.o] at he;subst he;clear D B2;cases g1 with
 | true=>
  go_wp2_with fail;exact B.o _ F.o
 | false=>
  obtain⟨k0,k1,k2,k3,k4,k5⟩:=BK.c6 A1.o;have D:=Qf (Z.o w0 F.o);clear Z;go_wp2_with fail
  refine D.o.mono ?_;rintro e u0 ⟨rfl,rfl⟩
  clear D;cases g2 with
  | true=>
   go_wp2_with fail;exact B.o _ F.o
  | false=>
   have D:=Qf (O.o (by trivial) w0 F.o);clear O;go_wp2_with fail
   refine D.o.mono ?_;rintro e w1 ⟨rfl,E⟩
   have L:=Qf (F.o.trans (E.mono F.o.size));have A2:=Qf (A1.o.below E);clear E D F A1 k0 k1 k2 k3 k4 k5;obtain⟨k0,k1,k2,k3,k4,k5⟩:=BK.c6 A2.o;by_cases hz:e1=0
   case neg=>
    have C7:(e1==0)=false:=by simpa using hz
    go_wp2_with fail;exact B.o _ L.o
   subst hz;have D:=Qf (P.o (by trivial) w1 L.o);clear P;go_wp2_with fail
   refine D.o.mono ?_;rintro e w2 ⟨rfl,E⟩
   have M:=Qf (L.o.trans (E.mono L.o.size));have A3:=Qf (A2.o.below E);clear E D L A2 k0 k1 k2 k3 k4 k5;obtain⟨k0,k1,k2,k3,k4,k5⟩:=BK.c6 A3.o;by_cases hz:e2=0
   case neg=>
    have C7:(e2==0)=false:=by simpa using hz
    go_wp2_with fail;exact B.o _ M.o
   subst hz;have D:=Qf (I.o (by trivial) (by trivial) w2 M.o);clear I;go_wp2_with fail
   refine D.o.mono ?_;rintro e w3 ⟨rfl,E⟩
   have N:=Qf (M.o.trans (E.mono M.o.size));have A4:=Qf (A3.o.below E);clear E D M A3 k0 k1 k2 k3 k4 k5;obtain⟨k0,k1,k2,k3,k4,k5⟩:=BK.c6 A4.o;cases y1 with
   | true=>
    go_wp2_with fail;exact B.o _ N.o
   | false=>
    have D:=Qf (J.o (by trivial) (by trivial) w3 N.o);clear J;go_wp2_with fail
    refine D.o.mono ?_;rintro e w4 ⟨rfl,E⟩
    have H:=Qf (N.o.trans (E.mono N.o.size));have A8:=Qf (A4.o.below E);clear E D N A4 k0 k1 k2 k3 k4 k5;obtain⟨k0,k1,k2,k3,k4,k5⟩:=BK.c6 A8.o;cases y2 with
    | true=>
     go_wp2_with fail;exact B.o _ H.o
    | false=>
     by_cases D3:(6:Int)<(nw:Int)
     case pos=>
      go_wp2_with fail;exact B.o _ H.o
     by_cases D4:(6:Int)<(nc:Int)
     case pos=>
      go_wp2_with fail;exact B.o _ H.o
     by_cases D5:(4:Int)<(nt:Int)
     case pos=>
      go_wp2_with fail;exact B.o _ H.o
     have B1:Qg (Txs w4.heap.size w4 ta ts):=Qf (fun i hi=>by
        obtain⟨b,off,e,E,K⟩:=B0.o i hi;exact⟨b,off,e,aO E H.o.size,(H.o.cell (p:=⟨b,off+i,none⟩) E).trans K⟩)
     have A7:=Qf (fun f=>C.o (by trivial) (by trivial) (by omega) (by omega) (by omega) f);clear B0 C A8;go_wp2_with fail;go_loop [56] (fun i=>∃k:Nat,k<=nt/\i=.int .i64 k/\Qg (∀j (h:j<ts.length),j<k->ts[j].length<=6000)) (fun i=>nt-(intOf i).toNat)
     case atStart=>exact⟨0,by omega,rfl,Qf (fun j U V=>by omega)⟩
     case round=>
      obtain⟨k,hk,rfl,HA⟩:=hrel;by_cases D6:k<nt
      ·have U:k<ts.length:=by have:=A9.o; omega
       obtain⟨b0,o0,rfl,C9,q0⟩:=B1.o k U;have A0:Qg (ts[k].length<=6000->∀j (h:j<ts.length),j<k+1->ts[j].length<=6000):=Qf (fun V j h h3=>by
        by_cases he:j=k
        ·subst he; exact V
        ·exact HA.out j h (by omega))
       generalize ts[k]=t at q0 A0;have B5:(k:Int)<(nt:Int):=by omega
       by_cases D7:(6000:Int)<(t.length:Int)
       ·clear A0 HA
        go_wp2_with fail;exact B.o _ H.o
       ·have C1:=Qf (A0.o (by omega))
        clear A0 HA;go_wp2_with fail;go_round
        case rel=>exact⟨k+1,by omega,by go_num,C1⟩
        case measure=>simp[intOf]; omega
      ·have B5:¬(k:Int)<(nt:Int):=by omega
       have HF:=Qf (A7.o (fun t ht=>by
        obtain⟨j,hj,rfl⟩:=aV ht;exact HA.out j hj (by have:=A9.o; omega)))
       clear HA A7;go_wp2_with fail;exact C2.o HF.o _ H.o
