/- cordwoodlaw17.fine. -/
import Derived.Test.YtkedhdcnakhbgaaGreatTrN
import Derived.Test.YtkedhdcnakhbgaaGreatK12
set_option linter.unusedSimpArgs false
set_option maxRecDepth 100000
set_option maxHeartbeats 16000000
open Go.Lib (hid)
namespace Go.Proofs.YtkedhdcnakhbgaaGreat
open Go.RowKit Go.Shelf
set_option linter.unusedVariables false
structure FineX (x:Fet):Prop where
 pg:Cr x.xs=false
 ck:mV x.xs=0
 lw:x.want.length<=6
 lc:x.com.length<=6
 lt:x.ts.length<=4
 tl:∀t∈x.ts,t.length<=6000
theorem pgrS{xs:List Itm}(h:Cr xs=false):xs.length<=40/\∀x∈xs,x.data.length<=500:=by
 simp only[Cr,Bool.or_eq_false_iff,decide_eq_false_iff_not,List.any_eq_false] at h;exact⟨by omega,fun x A=>by have:=h.2 x A; simp at this; omega⟩
theorem fine17_any(x:Fet)(A:FetA)(w:World)(h:FetCame w x A):
  Calls Tryz.prog 10 #[.agg (x.arr A)] w fun e w'=>(∃r,e=.returned (.bool r)/\(r=true->FineX x))/\PM w w':=by
 obtain⟨xs,ys,want,com,ts,sz⟩:=x;obtain⟨X,K,ya,yc,wa,wc,ca,cc,ta,tc⟩:=A;obtain⟨U,V,h3,h4,h5,h6⟩:=h;simp only at U V h3 h4 h5 h6;have kc1:=U.cap;have kc2:=V.cap;have kc3:=h3.cap;have kc4:=h4.cap;unfold maxLen at kc1 kc2 kc3 kc4 h6;have B3:∀x∈xs,(x.data.length:Int)<=9223372036854775807:=fun x T=>by have:=(U.dat x T).2; unfold maxLen at this; omega
 have B4:∀x∈ys,(x.data.length:Int)<=9223372036854775807:=fun x T=>by have:=(V.dat x T).2; unfold maxLen at this; omega
 have Y:=hid (fun W (Q:PM w W)=>Ol X xs K W (U.its.ahead Q) (by omega) B3);have Z:=hid (fun W (Q:PM w W)=>Ol ya ys yc W (V.its.ahead Q) (by omega) B4);have O:=hid (fun(R:Cr xs=false) W (Q:PM w W)=>M7 X xs K W (U.its.ahead Q) (by have:=(pgrS R).1; omega) (fun x T=>by have:=(pgrS R).2 x T; omega));have P:=hid (fun(R:Cr ys=false) W (Q:PM w W)=>M7 ya ys yc W (V.its.ahead Q) (by have:=(pgrS R).1; omega) (fun x T=>by have:=(pgrS R).2 x T; omega));have I:=hid (fun(R:Cr xs=false) (hk:mV xs=0) W (Q:PM w W)=>Oi X xs K W (U.its.ahead Q) (checkP_zero hk).2 (by have:=(pgrS R).1; omega) (fun x T=>by have:=(pgrS R).2 x T; omega));have J:=hid (fun(R:Cr ys=false) (hk:mV ys=0) W (Q:PM w W)=>Oi ya ys yc W (V.its.ahead Q) (checkP_zero hk).2 (by have:=(pgrS R).1; omega) (fun x T=>by have:=(pgrS R).2 x T; omega));have B0:=hid h5;have C:=hid (fun a b c d e (f:∀t∈ts,t.length<=6000)=>FineX.mk (x:=⟨xs,ys,want,com,ts,sz⟩) a b c d e f);generalize FineX ⟨xs,ys,want,com,ts,sz⟩=FX at C ⊢;obtain⟨G,hG⟩:∃G:Ending->World->Prop,G=fun e w'=>(∃r,e=.returned (.bool r)/\(r=true->FX))/\PM w w':=⟨_,rfl⟩
 rw[<-hG];have B:Hid (∀u,PM w u->G (.returned (.bool false)) u):=hid (fun u hu=>by rw[hG]; exact⟨⟨false,rfl,fun h=>(by cases h)⟩,hu⟩);have C2:Hid (FX->∀u,PM w u->G (.returned (.bool true)) u):=hid (fun hf u hu=>by rw[hG]; exact⟨⟨true,rfl,fun _=>hf⟩,hu⟩);clear hG;simp only[Fet.arr];obtain⟨nt,A5⟩:=Qe ts.length;have A9:=hid A5;rw[<-A5] at C h6 ⊢;simp only at C;clear A5 U V h3 h4 h5 B3 B4;generalize Cr xs=g1 at Y O I C;generalize Cr ys=g2 at Z P J;generalize mV xs=e1 at O I C;generalize mV ys=e2 at P J;generalize PK xs=y1 at I;generalize PK ys=y2 at J;generalize xs.length=nx at kc1 Y O I ⊢;generalize ys.length=ny at kc2 Z P J ⊢;generalize want.length=nw at kc3 C ⊢;generalize com.length=nc at kc4 C ⊢;obtain⟨w0,S⟩:=Qe (w.alloc (.cells #[.slice X nx K,.slice ya ny yc,.slice wa nw wc,.slice ca nc cc,.slice ta nt tc,.int .i64 sz] 27));have F:Hid (PM w w0):=hid (by rw[S]; exact ba _ _);have A1:Hid (BK w.heap.size #[.slice X nx K,.slice ya ny yc,.slice wa nw wc,.slice ca nc cc,.slice ta nt tc,.int .i64 sz] 27 w0):=hid (by rw[S]; exact BK.new _ _ _);have D:=hid (Y.out w0 F.out);rw[S] at D;have B2:=hid S;clear S Y;go_enter Tryz.func10,Tryz.ntmps10;go_wp2_with fail
 refine D.out.mono ?_;rintro e u0 ⟨rfl,he⟩
 rw[<-B2.out] at he;subst he;clear D B2;cases g1 with
 | true=>
  go_wp2_with fail;exact B.out _ F.out
 | false=>
  obtain⟨k0,k1,k2,k3,k4,k5⟩:=BK.c6 (show BK _ #[.slice X nx K,.slice ya ny yc,.slice wa nw wc,.slice ca nc cc,.slice ta nt tc,.int .i64 sz] _ _ from A1.out);have D:=hid (Z.out w0 F.out);clear Z;go_wp2_with fail
  refine D.out.mono ?_;rintro e u0 ⟨rfl,rfl⟩
  clear D;cases g2 with
  | true=>
   go_wp2_with fail;exact B.out _ F.out
  | false=>
   have D:=hid (O.out (by trivial) w0 F.out);clear O;go_wp2_with fail
   refine D.out.mono ?_;rintro e w1 ⟨rfl,E⟩
   have L:=hid (F.out.trans (E.mono F.out.size));have A2:=hid (A1.out.below E);clear E D F A1 k0 k1 k2 k3 k4 k5;obtain⟨k0,k1,k2,k3,k4,k5⟩:=BK.c6 (show BK _ #[.slice X nx K,.slice ya ny yc,.slice wa nw wc,.slice ca nc cc,.slice ta nt tc,.int .i64 sz] _ _ from A2.out);by_cases hz:e1=0
   case neg=>
    have C7:(e1==0)=false:=by simpa using hz
    go_wp2_with fail;exact B.out _ L.out
   subst hz;have D:=hid (P.out (by trivial) w1 L.out);clear P;go_wp2_with fail
   refine D.out.mono ?_;rintro e w2 ⟨rfl,E⟩
   have M:=hid (L.out.trans (E.mono L.out.size));have A3:=hid (A2.out.below E);clear E D L A2 k0 k1 k2 k3 k4 k5;obtain⟨k0,k1,k2,k3,k4,k5⟩:=BK.c6 (show BK _ #[.slice X nx K,.slice ya ny yc,.slice wa nw wc,.slice ca nc cc,.slice ta nt tc,.int .i64 sz] _ _ from A3.out);by_cases hz:e2=0
   case neg=>
    have C7:(e2==0)=false:=by simpa using hz
    go_wp2_with fail;exact B.out _ M.out
   subst hz;have D:=hid (I.out (by trivial) (by trivial) w2 M.out);clear I;go_wp2_with fail
   refine D.out.mono ?_;rintro e w3 ⟨rfl,E⟩
   have N:=hid (M.out.trans (E.mono M.out.size));have A4:=hid (A3.out.below E);clear E D M A3 k0 k1 k2 k3 k4 k5;obtain⟨k0,k1,k2,k3,k4,k5⟩:=BK.c6 (show BK _ #[.slice X nx K,.slice ya ny yc,.slice wa nw wc,.slice ca nc cc,.slice ta nt tc,.int .i64 sz] _ _ from A4.out);cases y1 with
   | true=>
    go_wp2_with fail;exact B.out _ N.out
   | false=>
    have D:=hid (J.out (by trivial) (by trivial) w3 N.out);clear J;go_wp2_with fail
    refine D.out.mono ?_;rintro e w4 ⟨rfl,E⟩
    have H:=hid (N.out.trans (E.mono N.out.size));have A8:=hid (A4.out.below E);clear E D N A4 k0 k1 k2 k3 k4 k5;obtain⟨k0,k1,k2,k3,k4,k5⟩:=BK.c6 (show BK _ #[.slice X nx K,.slice ya ny yc,.slice wa nw wc,.slice ca nc cc,.slice ta nt tc,.int .i64 sz] _ _ from A8.out);cases y2 with
    | true=>
     go_wp2_with fail;exact B.out _ H.out
    | false=>
     by_cases D3:(6:Int)<(nw:Int)
     case pos=>
      go_wp2_with fail;exact B.out _ H.out
     by_cases D4:(6:Int)<(nc:Int)
     case pos=>
      go_wp2_with fail;exact B.out _ H.out
     by_cases D5:(4:Int)<(nt:Int)
     case pos=>
      go_wp2_with fail;exact B.out _ H.out
     have B1:Hid (Txs w4.heap.size w4 ta ts):=hid (fun i hi=>by
        obtain⟨b,off,e,E,K⟩:=B0.out i hi;exact⟨b,off,e,aO E H.out.size,(H.out.cell (p:=⟨b,off+i,none⟩) E).trans K⟩)
     have A7:=hid (fun f=>C.out (by trivial) (by trivial) (by omega) (by omega) (by omega) f);clear B0 C A8;go_wp2_with fail;go_loop [56] (fun i=>∃k:Nat,k<=nt/\i=.int .i64 k/\Hid (∀j (h:j<ts.length),j<k->ts[j].length<=6000)) (fun i=>nt-(intOf i).toNat)
     case atStart=>exact⟨0,by omega,rfl,hid (fun j U V=>by omega)⟩
     case round=>
      obtain⟨k,hk,rfl,HA⟩:=hrel;by_cases D6:k<nt
      ·have U:k<ts.length:=by have:=A9.out; omega
       obtain⟨b0,o0,rfl,C9,q0⟩:=B1.out k U;have A0:Hid (ts[k].length<=6000->∀j (h:j<ts.length),j<k+1->ts[j].length<=6000):=hid (fun V j h h3=>by
        by_cases he:j=k
        ·subst he; exact V
        ·exact HA.out j h (by omega))
       generalize ts[k]=t at q0 A0;have B5:(k:Int)<(nt:Int):=by omega
       by_cases D7:(6000:Int)<(t.length:Int)
       ·clear A0 HA
        go_wp2_with fail;exact B.out _ H.out
       ·have C1:=hid (A0.out (by omega))
        clear A0 HA;go_wp2_with fail;go_round
        case rel=>exact⟨k+1,by omega,by go_num,C1⟩
        case measure=>simp[intOf]; omega
      ·have B5:¬(k:Int)<(nt:Int):=by omega
       have HF:=hid (A7.out (fun t ht=>by
        obtain⟨j,hj,rfl⟩:=aV ht;exact HA.out j hj (by have:=A9.out; omega)))
       clear HA A7;go_wp2_with fail;exact C2.out HF.out _ H.out
