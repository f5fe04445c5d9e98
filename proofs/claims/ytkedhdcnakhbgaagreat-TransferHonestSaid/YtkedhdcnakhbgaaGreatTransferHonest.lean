/- TransferHonest: if the server's pool and Have agree on Common, and the server's pool has all of Want, one request and its reply make the session done, in whatever order its parts arrive and however often; the result has no objects but those of both pools (within the statement's bounds). No condition. -/
import Derived.Test.YtkedhdcnakhbgaaGreatRows
import Derived.Test.YtkedhdcnakhbgaaGreatTransferHonestW
import Derived.ProofKit
import Derived.OpenShut
import Derived.ShutString
set_option linter.unusedSimpArgs false
set_option maxRecDepth 100000
set_option maxHeartbeats 16000000
namespace Go.Proofs.YtkedhdcnakhbgaaGreat.transferHonest
open Go.ChangeShapes Go.WideShapes Go.ChangeAt Go.RowKit
open Go.ChangeMaps (open_string shut_string)
set_option linter.unusedVariables false
theorem own:ownKnob Tryz.prog.godebug=none:=Zk
theorem UZ:laidOutB Tryz.prog=true:=Zk
theorem Xa(os:Os)(started:os.Started)(H:Type)(enc:TypeId×Value->H):
  ReturnsInHanded {} Tryz.checked os 7 .any (Rows.transferHonestSpec.pre6 enc Tryz.prog Tryz.f7 Rows.transferHonestRow.domain false) (Rows.transferHonestSpec.post enc Tryz.prog Tryz.f7 false true false false):=by
 refine returnsInHanded_of_change (C:=Tryz.checked) own started Zk Tryz.func7
  (ChangeSpec.witness6 (enc:=enc) (C:=Tryz.checked) false ⟨#[],#[.agg #[(),(),(),(),(),Yi 0],()],[]⟩ 8 Zk Zk Zk Zk) ?_
 intro W U S ds gs V D M N _;have B:∀(j:Nat) t v,Tryz.f7.params[j]? = some t->S[j]? = some v->Value.okWide Tryz.prog W .any U t v:=D;have F:=M;obtain⟨p,q,E,O,rfl,Q,R⟩:=M;have L:DataW.TrodAll enc Tryz.prog W 0 (fun _=>true) true Tryz.f7.params.toList S.toList ds p:=E;rw[Tryz.params7] at L B;obtain⟨v0,A1,d0,Z,p0,q0,G,rfl,rfl,J,r0⟩:=trodAll_cons L;obtain⟨v1,A2,d1,A0,p1,q1,rfl,rfl,rfl,K,r1⟩:=trodAll_cons r0;obtain⟨rfl,rfl,rfl⟩:=trodAll_nil r1;obtain rfl:S=#[v0,v1]:=by cases S; simp_all
 obtain⟨rfl,rfl⟩:=trodVars_none O;have k0:=J;have X:∀x∈p0,x.block<W.heap.size:=by obtain⟨m,I⟩:=k0; exact DataW.trod_lt m _ _ _ I
 obtain⟨x0,a0,rfl,w0⟩:=Um (B 0 27 v0 rfl rfl) J;have k1:=K;have Y:∀x∈p1,x.block<W.heap.size:=by obtain⟨m,I⟩:=k1; exact DataW.trod_lt m _ _ _ I
 obtain⟨a1,z1,c1,rfl,w1⟩:=open_u16s (B 1 65 v1 rfl rfl) K;clear E D;refine(walk x0 a0 a1 z1 c1 W w0 w1).mono fun e W' ⟨P,T⟩=>?_
 subst P;exact⟨_,rfl,_,_,_,[],_,[],F,trodAll_mk1 (shut_bool Tryz.underlying4 _),(trodAll_cons_mk (Below.trod UZ Zk (of_decide_eq_true Zk) k0 T X) (trodAll_cons_mk (Below.trod UZ Zk (of_decide_eq_true Zk) k1 T Y) trodAll_mk0)),rfl,T.frame _,fun h=>by cases h⟩
theorem over:Rows.transferHonestRow.holds Tryz.pinned (OpenSpec.ofChange Rows.transferHonestSpec):=
 OpenClaim.holds_of_wide 7 Tryz.f7 rfl rfl rfl rfl rfl rfl rfl ⟨rfl,rfl,rfl,rfl,rfl⟩ rfl rfl rfl rfl rfl Zk Tryz.func7 Zk
  (of_decide_eq_true Zk) (by unfold Func.isWrapper; first | (rw[if_pos Zl]; kernel_rfl) | (rw[if_neg Zl]; exact⟨rfl,rfl⟩))
  (fun os B H C _=>Xa os B H C)
theorem proved:Rows.TransferHonestSaid:=over
