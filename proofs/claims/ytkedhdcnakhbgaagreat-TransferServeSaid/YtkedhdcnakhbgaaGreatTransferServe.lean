/- TransferServe: Serve returns the reply of the reference for any valid pool without cycles, any request and any size (within the statement's bounds). No condition. -/
import Derived.Test.YtkedhdcnakhbgaaGreatRows
import Derived.Test.YtkedhdcnakhbgaaGreatTransferServeW
import Derived.ProofKit
import Derived.OpenShut
import Derived.ShutString
set_option linter.unusedSimpArgs false
set_option maxRecDepth 100000
set_option maxHeartbeats 16000000
namespace Go.Proofs.YtkedhdcnakhbgaaGreat.transferServe
open Go.ChangeShapes Go.WideShapes Go.ChangeAt Go.RowKit
open Go.ChangeMaps (open_string shut_string)
set_option linter.unusedVariables false
theorem own:ownKnob Tryz.prog.godebug=none:=Zk
theorem UZ:laidOutB Tryz.prog=true:=Zk
theorem Xa(os:Os)(started:os.Started)(H:Type)(enc:TypeId×Value->H):
  ReturnsInHanded {} Tryz.checked os 4 .any (Rows.transferServeSpec.pre6 enc Tryz.prog Tryz.f4 Rows.transferServeRow.domain false) (Rows.transferServeSpec.post enc Tryz.prog Tryz.f4 false true false false):=by
 refine returnsInHanded_of_change (C:=Tryz.checked) own started Zk Tryz.func4
  (ChangeSpec.witness6 (enc:=enc) (C:=Tryz.checked) false ⟨#[],#[(),.string ByteArray.empty,Yi 0],[]⟩ 8 Zk Zk Zk Zk) ?_
 intro W V T ds gs X D N O _;have B:∀(j:Nat) t v,Tryz.f4.params[j]? = some t->T[j]? = some v->Value.okWide Tryz.prog W .any V t v:=D;have G:=N;obtain⟨p,q,E,P,rfl,R,S⟩:=N;have M:DataW.TrodAll enc Tryz.prog W 0 (fun _=>true) true Tryz.f4.params.toList T.toList ds p:=E;rw[Tryz.params4] at M B;obtain⟨v0,A4,d0,A1,p0,q0,I,rfl,rfl,J,r0⟩:=trodAll_cons M;obtain⟨v1,A5,d1,A2,p1,q1,rfl,rfl,rfl,K,r1⟩:=trodAll_cons r0;obtain⟨v2,A6,d2,A3,p2,q2,rfl,rfl,rfl,L,r2⟩:=trodAll_cons r1;obtain⟨rfl,rfl,rfl⟩:=trodAll_nil r2;obtain rfl:T=#[v0,v1,v2]:=by cases T; simp_all
 obtain⟨rfl,rfl⟩:=trodVars_none P;have k0:=J;have Y:∀x∈p0,x.block<W.heap.size:=by obtain⟨m,F⟩:=k0; exact DataW.trod_lt m _ _ _ F
 obtain⟨a0,z0,c0,rfl,w0⟩:=Tc (B 0 23 v0 rfl rfl) J;have k1:=K;have Z:∀x∈p1,x.block<W.heap.size:=by obtain⟨m,F⟩:=k1; exact DataW.trod_lt m _ _ _ F
 obtain⟨a1,rfl,rfl,rfl,w1⟩:=open_string Tryz.underlying9 (B 1 9 v1 rfl rfl) K;have k2:=L;have A0:∀x∈p2,x.block<W.heap.size:=by obtain⟨m,F⟩:=k2; exact DataW.trod_lt m _ _ _ F
 obtain⟨a2,rfl,rfl,rfl,w2⟩:=open_int Tryz.underlying3 (B 2 3 v2 rfl rfl) L;clear E D;refine(walk a0 z0 c0 a1 w1 a2 w2 W w0).mono fun e W' ⟨Q,U⟩=>?_
 subst Q;exact⟨_,rfl,_,_,_,[],_,[],G,trodAll_mk1 (shut_bool Tryz.underlying4 _),(trodAll_cons_mk (Below.trod UZ Zk (of_decide_eq_true Zk) k0 U Y) (trodAll_cons_mk (Below.trod UZ Zk (of_decide_eq_true Zk) k1 U Z) (trodAll_cons_mk (Below.trod UZ Zk (of_decide_eq_true Zk) k2 U A0) trodAll_mk0))),rfl,U.frame _,fun h=>by cases h⟩
theorem over:Rows.transferServeRow.holds Tryz.pinned (OpenSpec.ofChange Rows.transferServeSpec):=
 OpenClaim.holds_of_wide 4 Tryz.f4 rfl rfl rfl rfl rfl rfl rfl ⟨rfl,rfl,rfl,rfl,rfl⟩ rfl rfl rfl rfl rfl Zk Tryz.func4 Zk
  (of_decide_eq_true Zk) (by unfold Func.isWrapper; first | (rw[if_pos Zl]; kernel_rfl) | (rw[if_neg Zl]; exact⟨rfl,rfl⟩))
  (fun os B H C _=>Xa os B H C)
theorem proved:Rows.TransferServeSaid:=over
