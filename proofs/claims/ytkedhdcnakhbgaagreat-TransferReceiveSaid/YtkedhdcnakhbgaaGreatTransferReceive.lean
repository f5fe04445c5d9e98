/- TransferReceive: a session that Begin makes, and what Receive makes of it for any streams, one after another, is what the reference implementation makes of it, with the same number of messages and the same error (valid pools without cycles, any digests, within the statement's bounds). No condition. -/
import Derived.Test.YtkedhdcnakhbgaaGreatRows
import Derived.Test.YtkedhdcnakhbgaaGreatTransferReceiveW
import Derived.ProofKit
import Derived.OpenShut
import Derived.ShutString
set_option linter.unusedSimpArgs false
set_option maxRecDepth 100000
set_option maxHeartbeats 16000000
namespace Go.Proofs.YtkedhdcnakhbgaaGreat.transferReceive
open Go.ChangeShapes Go.WideShapes Go.ChangeAt Go.RowKit
open Go.ChangeMaps (open_string shut_string)
set_option linter.unusedVariables false
theorem own:ownKnob Tryz.prog.godebug=none:=Zk
theorem UZ:laidOutB Tryz.prog=true:=Zk
theorem Xa(os:Os)(started:os.Started)(H:Type)(enc:TypeId×Value->H):
  ReturnsInHanded {} Tryz.checked os 5 .any (Rows.transferReceiveSpec.pre6 enc Tryz.prog Tryz.f5 Rows.transferReceiveRow.domain false) (Rows.transferReceiveSpec.post enc Tryz.prog Tryz.f5 false true false false):=by
 refine returnsInHanded_of_change (C:=Tryz.checked) own started Zk Tryz.func5
  (ChangeSpec.witness6 (enc:=enc) (C:=Tryz.checked) false ⟨#[],#[.agg #[(),(),(),(),(),Yi 0]],[]⟩ 8 Zk Zk Zk Zk) ?_
 intro W S R ds gs U B K L _;have D:∀(j:Nat) t v,Tryz.f5.params[j]? = some t->R[j]? = some v->Value.okWide Tryz.prog W .any S t v:=B;have F:=K;obtain⟨p,q,E,M,rfl,O,Q⟩:=K;have J:DataW.TrodAll enc Tryz.prog W 0 (fun _=>true) true Tryz.f5.params.toList R.toList ds p:=E;rw[Tryz.params5] at J D;obtain⟨v0,Y,d0,X,p0,q0,G,rfl,rfl,I,r0⟩:=trodAll_cons J;obtain⟨rfl,rfl,rfl⟩:=trodAll_nil r0;obtain rfl:R=#[v0]:=by cases R; simp_all
 obtain⟨rfl,rfl⟩:=trodVars_none M;have k0:=I;have V:∀x∈p0,x.block<(W:Nat):=by obtain⟨m,P⟩:=k0; exact DataW.trod_lt m _ _ _ P
 obtain⟨x0,a0,rfl,w0⟩:=Um (D 0 27 v0 rfl rfl) I;clear E B;refine(walk x0 a0 W w0).mono fun e W' ⟨N,T⟩=>?_
 subst N;exact⟨_,rfl,_,_,_,[],_,[],F,trodAll_mk1 (shut_bool Tryz.underlying4 _),(trodAll_cons_mk (Below.trod UZ Zk (of_decide_eq_true Zk) k0 T V) trodAll_mk0),rfl,T.frame _,fun h=>by cases h⟩
theorem over:Rows.transferReceiveRow.holds Tryz.pinned (OpenSpec.ofChange Rows.transferReceiveSpec):=
 OpenClaim.holds_of_wide 5 Tryz.f5 rfl rfl rfl rfl rfl rfl rfl ⟨rfl,rfl,rfl,rfl,rfl⟩ rfl rfl rfl rfl rfl Zk Tryz.func5 Zk
  (of_decide_eq_true Zk) (by unfold Func.isWrapper; first | (rw[if_pos Zl]; kernel_rfl) | (rw[if_neg Zl]; exact⟨rfl,rfl⟩))
  (fun os B H C _=>Xa os B H C)
theorem proved:Rows.TransferReceiveSaid:=over
